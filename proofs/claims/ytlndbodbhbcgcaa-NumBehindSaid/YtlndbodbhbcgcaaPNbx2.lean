/- Contracts of Go functions: called with what reads as these lists and numbers, a function returns what its plain Lean function says, and leaves what was there. Written by a program of this session. -/
import Derived.Test.YtlndbodbhbcgcaaPNbx0
import Derived.Test.YtlndbodbhbcgcaaPNbx1
namespace Go.Proofs.Ytlndbodbhbcgcaa.PNb
open Go.RowKit Go.Proofs.YtlndbodbhbcgcaaW.PrintWords Go.Proofs.YtlndbodbhbcgcaaW.PrintLast Go.Proofs.YtlndbodbhbcgcaaW.PrintMore
attribute [local go_sem] max2_int min2_int max_two min_two max_three min_three max_four min_four   -- for this text's walks alone
set_option linter.unusedVariables false
set_option linter.unusedSimpArgs false

/-! ### manteletlaw01_NumBehind: function 10 -/
def manteletlaw01_NumBehind.f (k : Nat) (l0 : List Int) (a1 : Int) : Option (Bool) := (manteletlaw01_shown.f k).bind fun t125 => ((num_Put.f k l0 a1).bind fun t126 => ((num_Put.f k l0 (IntKind.u64.wrap (a1 + 1))).bind fun t129 => (if t125 = true then (if (strOfNums l0).toList = (strOfNums l0).toList then (if (t126.length : Int) > (l0.length : Int) then (if 0 ≤ (l0.length : Int) then (if (l0.length : Int) ≤ (t126.length : Int) then (if (strOfNums (t126.take ((l0.length : Int) : Int).toNat)).toList = (strOfNums l0).toList then ((num_Put.f k ([] : List Int) a1).bind fun t140 => (if (strOfNums (t126.drop ((l0.length : Int) : Int).toNat)).toList = (strOfNums t140).toList then (if (l0.length : Int) ≤ (t129.length : Int) then ((num_Put.f k ([] : List Int) (IntKind.u64.wrap (a1 + 1))).bind fun t147 => (some ((strOfNums (t129.drop ((l0.length : Int) : Int).toNat)).toList == (strOfNums t147).toList))) else (none)) else (none))) else (none)) else (none)) else (none)) else (none)) else (none)) else (none))))
theorem manteletlaw01_NumBehind.mono : ∀ a0 a1 k, LeO (manteletlaw01_NumBehind.f k a0 a1) (manteletlaw01_NumBehind.f (k + 1) a0 a1) := by
  intro a0 a1 k
  unfold manteletlaw01_NumBehind.f
  repeat' first
      | (with_reducible exact manteletlaw01_shown.mono _)
      | (with_reducible exact num_Put.mono _ _ _)
      | (with_reducible exact LeO.refl _)
      | (with_reducible exact LeO.none _)
      | (with_reducible refine LeO.ite ?_ ?_)
      | (with_reducible refine LeO.bind ?_ (fun _ => ?_))
      | exact manteletlaw01_shown.mono _
      | exact num_Put.mono _ _ _
      | exact LeO.none _
      | refine LeO.ite ?_ ?_
      | refine LeO.bind ?_ (fun _ => ?_)
def manteletlaw01_NumBehind.T5 : Bool × List (List Nat × List Nat) := (true, [([], []), ([0], [0]), ([1], [1]), ([2, 1], [1, 2]), ([1], [1]), ([3, 4, 1], [1, 3, 4]), ([1, 5], [1, 5]), ([6, 1], [6]), ([7], [7]), ([8, 7], [7, 8]), ([7], [7]), ([10, 7], [7, 10]), ([9, 11, 7], [7, 9, 11]), ([7, 12], [7, 12]), ([13, 7], [13]), ([14], [14]), ([14], [14]), ([16, 14], [14, 16]), ([15, 17, 14], [14, 15, 17]), ([18, 14], [14, 18]), ([14], [14]), ([19, 20, 14], [14, 19, 20]), ([14, 21], [14, 21]), ([22, 14], [22]), ([23], [23]), ([23], [23]), ([25, 23], [23, 25]), ([24, 26, 23], [23, 24, 26]), ([27, 23], [23, 27]), ([23], [23]), ([29, 23, 23], [23, 29]), ([30, 23], [23, 30]), ([28, 31, 23], [23, 28, 31]), ([23, 32], [23, 32]), ([33, 30], [33]), ([34], [34]), ([34], [34]), ([36, 34], [34, 36]), ([35, 37, 34], [34, 35, 37]), ([38, 34], [34, 38]), ([34], [34]), ([40, 34], [34, 40]), ([41, 34, 34], [34, 41]), ([42, 34], [34, 42]), ([39, 43, 34], [34, 39, 43]), ([34, 44], [34, 44]), ([45, 42, 0, 1, 2, 3, 4, 5, 6, 7, 8, 9, 10, 11, 12, 13, 14, 15, 16, 17, 18, 19, 20, 21, 22, 23, 24, 25, 26, 27, 28, 29, 30, 31, 32, 33, 34, 35, 36, 37, 38, 39, 40, 41, 42, 43, 44, 45], [45])])
def manteletlaw01_NumBehind.B5 : List Nat := [0, 1, 3, 7, 3, 31, 63, 127, 255, 511, 255, 1279, 4095, 8191, 16383, 32767, 32767, 98303, 262143, 524287, 32767, 2097151, 4194303, 8388607, 16777215, 16777215, 50331647, 134217727, 268435455, 16777215, 553648127, 1627389951, 4294967295, 8589934591, 17179869183, 34359738367, 34359738367, 103079215103, 274877906943, 549755813887, 34359738367, 1133871366143, 3332894621695, 7730941132799, 17592186044415, 35184372088831, 70368744177663]
theorem manteletlaw01_NumBehind.tab5 : rtab .any (opsOf Try.f10 5) = manteletlaw01_NumBehind.T5 := by kernel_rfl
theorem manteletlaw01_NumBehind.bits5 : waitsOk manteletlaw01_NumBehind.T5.2 manteletlaw01_NumBehind.B5 = true := by kernel_rfl
set_option maxHeartbeats 8000000 in
set_option maxRecDepth 100000 in
theorem manteletlaw01_NumBehind.calls (k : Nat) (A0 : Option Addr) (c0 : Nat) (l0 : List Int) (a1 : Int) (r : Bool) (w : World) (hr0 : Kd.C (Kd.int .u8) w A0 l0.length l0) (hc0 : l0.length ≤ c0) (h : manteletlaw01_NumBehind.f k l0 a1 = some r) :
    Calls Try.prog 10 #[.slice A0 l0.length c0, .int .u64 a1] w fun e w' => e = .returned (.bool r) ∧ Below w.heap.size w w' := by
  have HR0 := Aside0.mk hr0
  have HC0 := Aside0.mk hc0
  clear hr0 hc0
  have HB := Aside0.mk (Below.refl w.heap.size w)
  have H : ((manteletlaw01_shown.f k).bind fun t125 => ((num_Put.f k l0 a1).bind fun t126 => ((num_Put.f k l0 (IntKind.u64.wrap (a1 + 1))).bind fun t129 => (if t125 = true then (if (strOfNums l0).toList = (strOfNums l0).toList then (if (t126.length : Int) > (l0.length : Int) then (if 0 ≤ (l0.length : Int) then (if (l0.length : Int) ≤ (t126.length : Int) then (if (strOfNums (t126.take ((l0.length : Int) : Int).toNat)).toList = (strOfNums l0).toList then ((num_Put.f k ([] : List Int) a1).bind fun t140 => (if (strOfNums (t126.drop ((l0.length : Int) : Int).toNat)).toList = (strOfNums t140).toList then (if (l0.length : Int) ≤ (t129.length : Int) then ((num_Put.f k ([] : List Int) (IntKind.u64.wrap (a1 + 1))).bind fun t147 => (some ((strOfNums (t129.drop ((l0.length : Int) : Int).toNat)).toList == (strOfNums t147).toList))) else (none)) else (none))) else (none)) else (none)) else (none)) else (none)) else (none)) else (none))))) = some r := h
  clear h
  replace H := Option.bind_eq_some_iff.mp H
  obtain ⟨t125, A30, H⟩ := H
  replace H : ((num_Put.f k l0 a1).bind fun t126 => ((num_Put.f k l0 (IntKind.u64.wrap (a1 + 1))).bind fun t129 => (if t125 = true then (if (strOfNums l0).toList = (strOfNums l0).toList then (if (t126.length : Int) > (l0.length : Int) then (if 0 ≤ (l0.length : Int) then (if (l0.length : Int) ≤ (t126.length : Int) then (if (strOfNums (t126.take ((l0.length : Int) : Int).toNat)).toList = (strOfNums l0).toList then ((num_Put.f k ([] : List Int) a1).bind fun t140 => (if (strOfNums (t126.drop ((l0.length : Int) : Int).toNat)).toList = (strOfNums t140).toList then (if (l0.length : Int) ≤ (t129.length : Int) then ((num_Put.f k ([] : List Int) (IntKind.u64.wrap (a1 + 1))).bind fun t147 => (some ((strOfNums (t129.drop ((l0.length : Int) : Int).toNat)).toList == (strOfNums t147).toList))) else (none)) else (none))) else (none)) else (none)) else (none)) else (none)) else (none)) else (none)))) = some r := H
  have A3 := Aside0.mk A30
  clear A30
  replace H := Option.bind_eq_some_iff.mp H
  obtain ⟨t126, A40, H⟩ := H
  replace H : ((num_Put.f k l0 (IntKind.u64.wrap (a1 + 1))).bind fun t129 => (if t125 = true then (if (strOfNums l0).toList = (strOfNums l0).toList then (if (t126.length : Int) > (l0.length : Int) then (if 0 ≤ (l0.length : Int) then (if (l0.length : Int) ≤ (t126.length : Int) then (if (strOfNums (t126.take ((l0.length : Int) : Int).toNat)).toList = (strOfNums l0).toList then ((num_Put.f k ([] : List Int) a1).bind fun t140 => (if (strOfNums (t126.drop ((l0.length : Int) : Int).toNat)).toList = (strOfNums t140).toList then (if (l0.length : Int) ≤ (t129.length : Int) then ((num_Put.f k ([] : List Int) (IntKind.u64.wrap (a1 + 1))).bind fun t147 => (some ((strOfNums (t129.drop ((l0.length : Int) : Int).toNat)).toList == (strOfNums t147).toList))) else (none)) else (none))) else (none)) else (none)) else (none)) else (none)) else (none)) else (none))) = some r := H
  have A4 := Aside0.mk A40
  clear A40
  replace H := Option.bind_eq_some_iff.mp H
  obtain ⟨t129, A50, H⟩ := H
  replace H : (if t125 = true then (if (strOfNums l0).toList = (strOfNums l0).toList then (if (t126.length : Int) > (l0.length : Int) then (if 0 ≤ (l0.length : Int) then (if (l0.length : Int) ≤ (t126.length : Int) then (if (strOfNums (t126.take ((l0.length : Int) : Int).toNat)).toList = (strOfNums l0).toList then ((num_Put.f k ([] : List Int) a1).bind fun t140 => (if (strOfNums (t126.drop ((l0.length : Int) : Int).toNat)).toList = (strOfNums t140).toList then (if (l0.length : Int) ≤ (t129.length : Int) then ((num_Put.f k ([] : List Int) (IntKind.u64.wrap (a1 + 1))).bind fun t147 => (some ((strOfNums (t129.drop ((l0.length : Int) : Int).toNat)).toList == (strOfNums t147).toList))) else (none)) else (none))) else (none)) else (none)) else (none)) else (none)) else (none)) else (none)) = some r := H
  have A5 := Aside0.mk A50
  clear A50
  by_cases c6 : t125 = true
  · subst c6
    have H1 : (if (strOfNums l0).toList = (strOfNums l0).toList then (if (t126.length : Int) > (l0.length : Int) then (if 0 ≤ (l0.length : Int) then (if (l0.length : Int) ≤ (t126.length : Int) then (if (strOfNums (t126.take ((l0.length : Int) : Int).toNat)).toList = (strOfNums l0).toList then ((num_Put.f k ([] : List Int) a1).bind fun t140 => (if (strOfNums (t126.drop ((l0.length : Int) : Int).toNat)).toList = (strOfNums t140).toList then (if (l0.length : Int) ≤ (t129.length : Int) then ((num_Put.f k ([] : List Int) (IntKind.u64.wrap (a1 + 1))).bind fun t147 => (some ((strOfNums (t129.drop ((l0.length : Int) : Int).toNat)).toList == (strOfNums t147).toList))) else (none)) else (none))) else (none)) else (none)) else (none)) else (none)) else (none)) = some r := by rw [if_pos rfl] at H; exact H
    clear H
    have H := H1
    clear H1
    by_cases c7 : (strOfNums l0).toList = (strOfNums l0).toList
    · rw [if_pos c7] at H
      have c7b0 : ((strOfNums l0).toList == (strOfNums l0).toList) = true := beq_iff_eq.mpr c7
      have c7b1 : ((strOfNums l0).toList != (strOfNums l0).toList) = false := bne_eq_false_iff_eq.mpr c7
      clear c7
      by_cases c8 : (t126.length : Int) > (l0.length : Int)
      · rw [if_pos c8] at H
        have c8b0 : decide ((l0.length : Int) < (t126.length : Int)) = true := decide_eq_true c8
        have c8b1 : decide (l0.length < t126.length) = true := decide_eq_true (Int.ofNat_lt.mp c8)
        clear c8
        by_cases c9 : 0 ≤ (l0.length : Int)
        · rw [if_pos c9] at H
          have c9b0 := eq_true c9
          have c9b1 : decide (0 ≤ (l0.length : Int)) = true := decide_eq_true c9
          clear c9
          by_cases c10 : (l0.length : Int) ≤ (t126.length : Int)
          · rw [if_pos c10] at H
            have c10b0 := eq_true c10
            have c10b1 : decide ((l0.length : Int) ≤ (t126.length : Int)) = true := decide_eq_true c10
            clear c10
            obtain ⟨y132, hy132⟩ : ∃ y_ : List Int, y_ = (t126.take ((l0.length : Int) : Int).toNat) := ⟨_, rfl⟩
            replace H : (if (strOfNums y132).toList = (strOfNums l0).toList then ((num_Put.f k ([] : List Int) a1).bind fun t140 => (if (strOfNums (t126.drop ((l0.length : Int) : Int).toNat)).toList = (strOfNums t140).toList then (if (l0.length : Int) ≤ (t129.length : Int) then ((num_Put.f k ([] : List Int) (IntKind.u64.wrap (a1 + 1))).bind fun t147 => (some ((strOfNums (t129.drop ((l0.length : Int) : Int).toNat)).toList == (strOfNums t147).toList))) else (none)) else (none))) else (none)) = some r := by first | (rw [hy132]; with_reducible exact H) | (have H2_ := (Option.bind_some _ _).symm.trans H; rw [hy132]; with_reducible exact H2_) | (have H2_ := (Option.bind_some _ _).symm.trans H; with_reducible exact H2_) | with_reducible exact H | (rw [hy132]; exact H) | exact H
            have Ny132 := Aside0.mk hy132
            clear hy132
            by_cases c11 : (strOfNums y132).toList = (strOfNums l0).toList
            · rw [if_pos c11] at H
              have c11b0 : ((strOfNums y132).toList == (strOfNums l0).toList) = true := beq_iff_eq.mpr c11
              have c11b1 : ((strOfNums y132).toList != (strOfNums l0).toList) = false := bne_eq_false_iff_eq.mpr c11
              clear c11
              have c12b0 := eq_true (of_decide_eq_true (by first | (with_reducible assumption) | assumption) : 0 ≤ (l0.length : Int))
              have c13b0 := eq_true (of_decide_eq_true (by first | (with_reducible assumption) | assumption) : (l0.length : Int) ≤ (t126.length : Int))
              obtain ⟨y136, hy136⟩ : ∃ y_ : List Int, y_ = (t126.drop ((l0.length : Int) : Int).toNat) := ⟨_, rfl⟩
              replace H : ((num_Put.f k ([] : List Int) a1).bind fun t140 => (if (strOfNums y136).toList = (strOfNums t140).toList then (if (l0.length : Int) ≤ (t129.length : Int) then ((num_Put.f k ([] : List Int) (IntKind.u64.wrap (a1 + 1))).bind fun t147 => (some ((strOfNums (t129.drop ((l0.length : Int) : Int).toNat)).toList == (strOfNums t147).toList))) else (none)) else (none))) = some r := by first | (rw [hy136]; with_reducible exact H) | (have H2_ := (Option.bind_some _ _).symm.trans H; rw [hy136]; with_reducible exact H2_) | (have H2_ := (Option.bind_some _ _).symm.trans H; with_reducible exact H2_) | with_reducible exact H | (rw [hy136]; exact H) | exact H
              have Ny136 := Aside0.mk hy136
              clear hy136
              replace H := Option.bind_eq_some_iff.mp H
              obtain ⟨t140, A140, H⟩ := H
              replace H : (if (strOfNums y136).toList = (strOfNums t140).toList then (if (l0.length : Int) ≤ (t129.length : Int) then ((num_Put.f k ([] : List Int) (IntKind.u64.wrap (a1 + 1))).bind fun t147 => (some ((strOfNums (t129.drop ((l0.length : Int) : Int).toNat)).toList == (strOfNums t147).toList))) else (none)) else (none)) = some r := H
              have A14 := Aside0.mk A140
              clear A140
              by_cases c15 : (strOfNums y136).toList = (strOfNums t140).toList
              · rw [if_pos c15] at H
                have c15b0 : ((strOfNums y136).toList == (strOfNums t140).toList) = true := beq_iff_eq.mpr c15
                have c15b1 : ((strOfNums y136).toList != (strOfNums t140).toList) = false := bne_eq_false_iff_eq.mpr c15
                clear c15
                have c16b0 := eq_true (of_decide_eq_true (by first | (with_reducible assumption) | assumption) : 0 ≤ (l0.length : Int))
                by_cases c17 : (l0.length : Int) ≤ (t129.length : Int)
                · rw [if_pos c17] at H
                  have c17b0 := eq_true c17
                  have c17b1 : decide ((l0.length : Int) ≤ (t129.length : Int)) = true := decide_eq_true c17
                  clear c17
                  obtain ⟨y143, hy143⟩ : ∃ y_ : List Int, y_ = (t129.drop ((l0.length : Int) : Int).toNat) := ⟨_, rfl⟩
                  replace H : ((num_Put.f k ([] : List Int) (IntKind.u64.wrap (a1 + 1))).bind fun t147 => (some ((strOfNums y143).toList == (strOfNums t147).toList))) = some r := by first | (rw [hy143]; with_reducible exact H) | (have H2_ := (Option.bind_some _ _).symm.trans H; rw [hy143]; with_reducible exact H2_) | (have H2_ := (Option.bind_some _ _).symm.trans H; with_reducible exact H2_) | with_reducible exact H | (rw [hy143]; exact H) | exact H
                  have Ny143 := Aside0.mk hy143
                  clear hy143
                  replace H := Option.bind_eq_some_iff.mp H
                  obtain ⟨t147, A180, H⟩ := H
                  replace H : (some ((strOfNums y143).toList == (strOfNums t147).toList)) = some r := H
                  have A18 := Aside0.mk A180
                  clear A180
                  obtain rfl := Option.some.inj H
                  go_enter Try.func10, Try.ntmps10
                  try go_wp2_with (first | ((with_reducible refine gate_callee (f := 18) rfl ?_); refine goesL_ (some 9) rfl rfl Try.func18 (by kernel_rfl) rfl #[] rfl (by (try simp only [List.map_toArray, List.map_cons, List.map_nil]); first | done | rfl | (simp only [List.length_drop, List.length_take]; rfl)) ?_; (with_reducible refine (manteletlaw01_shown.calls k  true _ A3.out).mono ?_); rintro e w19 ⟨rfl, hb⟩; refine ⟨_, rfl, ?_⟩; have n0_ := Aside0.mk (below_step (by repeat (first | (with_reducible first | exact HB.out | apply below_alloc | apply pw_below_drewN | apply below_drew1) | exact HB.out)) hb); clear HB; have HB := n0_; clear n0_; (try clear hb); (try clear hb2); (try clear hk); (try clear hi); have hcv20 := Kd.C_string (P := Try.prog) (A := A0) (c := c0) Try.underlying31 Try.underlying5 Try.underlying9 (Kd.C_below HR0.out HB.out)) | ((with_reducible refine gate_callee (f := 19) rfl ?_); refine goesL_ (some 14) rfl rfl Try.func19 (by kernel_rfl) rfl #[.slice A0 l0.length c0, .int .u64 a1] rfl (by (try simp only [List.map_toArray, List.map_cons, List.map_nil]); first | done | rfl | (simp only [List.length_drop, List.length_take]; rfl)) ?_; (with_reducible refine (num_Put.calls k _ _ l0 a1 t126 _ ?side1 ?side2 A4.out).mono ?_); (case side1 => repeat (first | exact (Kd.C_below HR0.out HB.out) | (with_reducible refine Kd.C_alloc ?_ _) | (with_reducible refine Kd.C_drewN ?_ _) | (with_reducible refine Kd.C_drew ?_))); (case side2 => exact HC0.out); rintro e w21 ⟨v127, rfl, ho0, hb⟩; refine ⟨_, rfl, ?_⟩; have n0_ := Aside0.mk (Kd.R_lower ho0 (below_size (by repeat (first | (with_reducible first | exact HB.out | apply below_alloc | apply pw_below_drewN | apply below_drew1) | exact HB.out)))); have n1_ := Aside0.mk (below_step (by repeat (first | (with_reducible first | exact HB.out | apply below_alloc | apply pw_below_drewN | apply below_drew1) | exact HB.out)) hb); clear HB; have HO128 := n0_; have HB := n1_; clear n0_ n1_; (try clear hb); (try clear hb2); (try clear hk); (try clear hi); (try clear ho0)) | ((with_reducible refine gate_callee (f := 19) rfl ?_); refine goesL_ (some 18) rfl rfl Try.func19 (by kernel_rfl) rfl #[.slice A0 l0.length c0, .int .u64 (IntKind.u64.wrap (a1 + 1))] rfl (by (try simp only [List.map_toArray, List.map_cons, List.map_nil]); first | done | rfl | (simp only [List.length_drop, List.length_take]; rfl)) ?_; (with_reducible refine (num_Put.calls k _ _ l0 (IntKind.u64.wrap (a1 + 1)) t129 _ ?side1 ?side2 A5.out).mono ?_); (case side1 => repeat (first | exact (Kd.C_below HR0.out HB.out) | (with_reducible refine Kd.C_alloc ?_ _) | (with_reducible refine Kd.C_drewN ?_ _) | (with_reducible refine Kd.C_drew ?_))); (case side2 => exact HC0.out); rintro e w22 ⟨v130, rfl, ho0, hb⟩; refine ⟨_, rfl, ?_⟩; have n0_ := Aside0.mk (Kd.R_elder' (by (with_reducible repeat (first | apply Kd.R_alloc | apply Kd.R_drewN | apply Kd.R_drew)); exact HO128.out) (Kd.R_base ho0) hb); have n1_ := Aside0.mk (Kd.R_lower (Kd.R_new' ho0 (Kd.R_lt (by (with_reducible repeat (first | apply Kd.R_alloc | apply Kd.R_drewN | apply Kd.R_drew)); exact HO128.out))) (below_size (by repeat (first | (with_reducible first | exact HB.out | apply below_alloc | apply pw_below_drewN | apply below_drew1) | exact HB.out)))); have n2_ := Aside0.mk (below_step (by repeat (first | (with_reducible first | exact HB.out | apply below_alloc | apply pw_below_drewN | apply below_drew1) | exact HB.out)) hb); clear HO128; clear HB; have HO128 := n0_; have HO131 := n1_; have HB := n2_; clear n0_ n1_ n2_; (try clear hb); (try clear hb2); (try clear hk); (try clear hi); (try clear ho0)))
                  have n0_ := Aside0.mk (Kd.R_drew HO128.out)
                  have n1_ := Aside0.mk (Kd.R_drew HO131.out)
                  have n2_ := Aside0.mk (below_drew1 HB.out)
                  clear HO128
                  clear HO131
                  clear HB
                  have HO128 := n0_
                  have HO131 := n1_
                  have HB := n2_
                  clear n0_ n1_ n2_
                  obtain ⟨Ao25, co25, eo25⟩ := Kd.R_slice HO128.out
                  (first | subst eo25 | (injection eo25 with f1_ f2_ f3_; have f4_ := f1_.symm; have f5_ := f3_.symm; clear f1_ f2_ f3_; subst f4_; subst f5_))
                  have q26 : ((l0.length : Int) : Int) ≤ ((t126.length : Int) : Int) := of_decide_eq_true (by first | (with_reducible assumption) | assumption)
                  obtain ⟨i026, hi026, _, hsz26, _⟩ := info_parts info5
                  have hroom26 : t126.length ≤ co25 := (Kd.R_reads' HO128.out).2.1
                  have hC26 : Kd.C (Kd.int .u8) _ Ao25 t126.length t126 := (Kd.R_reads' HO128.out).2.2
                  have hcut26 := cut_to (P := Try.prog) 31 5 .i64 Try.underlying31 hi026 Ao25 t126.length co25 (l0.length : Int) (of_decide_eq_true (by first | (with_reducible assumption) | assumption)) q26 hroom26
                  have hr26 := Kd.C_take (m := ((l0.length : Int) : Int).toNat) hC26 (by omega)
                  have hy26 : y132.length = ((l0.length : Int) : Int).toNat := (by rw [Ny132.out, List.length_take]; omega)
                  rw [← Ny132.out] at hr26
                  rw [← hy26] at hcut26
                  have HR135 := Aside0.mk hr26
                  have HC135 := Aside0.mk (show y132.length ≤ co25 from by omega)
                  clear hr26 hC26 hroom26 hi026 hsz26
                  have KY26 := Aside0.mk hy26
                  clear hy26
                  have KL26 := Aside0.mk (show ((l0.length : Int) : Int).toNat ≤ t126.length from by omega)
                  replace q26 := eq_true q26
                  have q28 : ((l0.length : Int) : Int) ≤ ((t126.length : Int) : Int) := of_decide_eq_true (by first | (with_reducible assumption) | assumption)
                  obtain ⟨i028, hi028, _, hsz28, _⟩ := info_parts info5
                  have hroom28 : t126.length ≤ co25 := (Kd.R_reads' HO128.out).2.1
                  have hC28 : Kd.C (Kd.int .u8) _ Ao25 t126.length t126 := (Kd.R_reads' HO128.out).2.2
                  have q028 : (0 : Int) ≤ ((l0.length : Int) : Int) := of_decide_eq_true (by first | (with_reducible assumption) | assumption)
                  have hcut28 := cut_from (P := Try.prog) 31 5 .i64 Try.underlying31 hi028 1 hsz28 Ao25 t126.length co25 (l0.length : Int) q028 q28
                  have hr28 := Kd.C_drop (m := ((l0.length : Int) : Int).toNat) (c := co25) hC28 (by omega) hroom28
                  obtain ⟨A28, hA28⟩ : ∃ A1, A1 = (if co25 = ((l0.length : Int) : Int).toNat then Ao25 else (Ao25 : Option Addr).map (·.add (((l0.length : Int) : Int).toNat * 1))) := ⟨_, rfl⟩
                  obtain ⟨c28, hc28⟩ : ∃ c1, c1 = co25 - ((l0.length : Int) : Int).toNat := ⟨_, rfl⟩
                  have hy28 : y136.length = t126.length - ((l0.length : Int) : Int).toNat := (by rw [Ny136.out, List.length_drop] <;> omega)
                  rw [show (t126).drop ((l0.length : Int) : Int).toNat = y136 from Ny136.out.symm] at hr28
                  replace hr28 : Kd.C (Kd.int .u8) _ A28 y136.length y136 := (by rw [hA28]; exact hr28)
                  rw [← hy28, ← hA28, ← hc28] at hcut28
                  have HR139 := Aside0.mk hr28
                  have HC139 := Aside0.mk (show y136.length ≤ c28 from by rw [hy28, hc28]; exact Nat.sub_le_sub_right hroom28 _)
                  clear hr28 hC28 hroom28 hi028 hsz28 hc28
                  have KY28 := Aside0.mk hy28
                  have KA28 := Aside0.mk hA28
                  clear hy28 hA28
                  have KL28 := Aside0.mk (show ((l0.length : Int) : Int).toNat ≤ t126.length from by omega)
                  replace q28 := eq_true q28
                  obtain ⟨Ao30, co30, eo30⟩ := Kd.R_slice HO131.out
                  (first | subst eo30 | (injection eo30 with f1_ f2_ f3_; have f4_ := f1_.symm; have f5_ := f3_.symm; clear f1_ f2_ f3_; subst f4_; subst f5_))
                  have q29 : ((l0.length : Int) : Int) ≤ ((t129.length : Int) : Int) := of_decide_eq_true (by first | (with_reducible assumption) | assumption)
                  obtain ⟨i029, hi029, _, hsz29, _⟩ := info_parts info5
                  have hroom29 : t129.length ≤ co30 := (Kd.R_reads' HO131.out).2.1
                  have hC29 : Kd.C (Kd.int .u8) _ Ao30 t129.length t129 := (Kd.R_reads' HO131.out).2.2
                  have q029 : (0 : Int) ≤ ((l0.length : Int) : Int) := of_decide_eq_true (by first | (with_reducible assumption) | assumption)
                  have hcut29 := cut_from (P := Try.prog) 31 5 .i64 Try.underlying31 hi029 1 hsz29 Ao30 t129.length co30 (l0.length : Int) q029 q29
                  have hr29 := Kd.C_drop (m := ((l0.length : Int) : Int).toNat) (c := co30) hC29 (by omega) hroom29
                  obtain ⟨A29, hA29⟩ : ∃ A1, A1 = (if co30 = ((l0.length : Int) : Int).toNat then Ao30 else (Ao30 : Option Addr).map (·.add (((l0.length : Int) : Int).toNat * 1))) := ⟨_, rfl⟩
                  obtain ⟨c29, hc29⟩ : ∃ c1, c1 = co30 - ((l0.length : Int) : Int).toNat := ⟨_, rfl⟩
                  have hy29 : y143.length = t129.length - ((l0.length : Int) : Int).toNat := (by rw [Ny143.out, List.length_drop] <;> omega)
                  rw [show (t129).drop ((l0.length : Int) : Int).toNat = y143 from Ny143.out.symm] at hr29
                  replace hr29 : Kd.C (Kd.int .u8) _ A29 y143.length y143 := (by rw [hA29]; exact hr29)
                  rw [← hy29, ← hA29, ← hc29] at hcut29
                  have HR146 := Aside0.mk hr29
                  have HC146 := Aside0.mk (show y143.length ≤ c29 from by rw [hy29, hc29]; exact Nat.sub_le_sub_right hroom29 _)
                  clear hr29 hC29 hroom29 hi029 hsz29 hc29
                  have KY29 := Aside0.mk hy29
                  have KA29 := Aside0.mk hA29
                  clear hy29 hA29
                  have KL29 := Aside0.mk (show ((l0.length : Int) : Int).toNat ≤ t129.length from by omega)
                  replace q29 := eq_true q29
                  refine start_ (n := 47) (S := fun w' => True) (ds := []) #[false, false, false, false, false, false, false, false, false, false, false, false, false, false, false, false, false, false, false, false, false, false, false, false, false, false, false, false, false, false, false, false, false, false, false, false, false, false, false, false, false, false, false, false, false, false, false] (by kernel_rfl) rfl rfl trivial (fun hHeld => ?_); refine with_tabW manteletlaw01_NumBehind.tab5 manteletlaw01_NumBehind.bits5 (fun HT_ HW_ => ?_)
                  generalize w22.drew = w23 at HO128 HO131 HB HR135 HR139 HR146 hHeld ⊢
                  refine pure_ (i := 0) (N := some 19) (v := ?_) (a' := ?_) #[true, false, false, false, false, false, false, false, false, false, false, false, false, false, false, false, false, false, false, false, false, false, false, false, false, false, false, false, false, false, false, false, false, false, false, false, false, false, false, false, false, false, false, false, false, false, false] rfl rfl (any_of HT_.out (by kernel_rfl)) (fun _ _ _ h => h) (Or.inl ⟨by rfl, ?_⟩) ?_ ?_
                  rotate_left
                  · intro w'
                    go_simp
                    with_reducible rfl
                  rotate_left
                  · simp only [Act.put, List.setIfInBounds_toArray, List.set_cons_zero, List.set_cons_succ, i64_w, i32_w]
                    rfl
                  refine pure_ (i := 1) (N := some 20) (v := ?_) (a' := ?_) #[true, true, false, false, false, false, false, false, false, false, false, false, false, false, false, false, false, false, false, false, false, false, false, false, false, false, false, false, false, false, false, false, false, false, false, false, false, false, false, false, false, false, false, false, false, false, false] rfl rfl (any_of HT_.out (by kernel_rfl)) (fun _ _ _ h => h) (Or.inl ⟨by rfl, ?_⟩) ?_ ?_
                  rotate_left
                  · intro w'
                    go_simp
                    with_reducible rfl
                  rotate_left
                  · simp only [Act.put, List.setIfInBounds_toArray, List.set_cons_zero, List.set_cons_succ, i64_w, i32_w]
                    rfl
                  refine pure_ (i := 2) (N := some 21) (v := ?_) (a' := ?_) #[true, true, true, false, false, false, false, false, false, false, false, false, false, false, false, false, false, false, false, false, false, false, false, false, false, false, false, false, false, false, false, false, false, false, false, false, false, false, false, false, false, false, false, false, false, false, false] rfl rfl (any_of HT_.out (by kernel_rfl)) (fun _ _ _ h => h) (Or.inl ⟨by rfl, ?_⟩) ?_ ?_
                  rotate_left
                  · intro w'
                    go_simp
                    with_reducible rfl
                  rotate_left
                  · simp only [Act.put, List.setIfInBounds_toArray, List.set_cons_zero, List.set_cons_succ, i64_w, i32_w]
                    rfl
                  refine pure_ (i := 4) (N := some 23) (v := ?_) (a' := ?_) #[true, true, true, false, true, false, false, false, false, false, false, false, false, false, false, false, false, false, false, false, false, false, false, false, false, false, false, false, false, false, false, false, false, false, false, false, false, false, false, false, false, false, false, false, false, false, false] rfl rfl (any_of HT_.out (by kernel_rfl)) (fun _ _ _ h => h) (Or.inl ⟨by rfl, ?_⟩) ?_ ?_
                  rotate_left
                  · intro w'
                    go_simp
                    with_reducible rfl
                  rotate_left
                  · simp only [Act.put, List.setIfInBounds_toArray, List.set_cons_zero, List.set_cons_succ, i64_w, i32_w]
                    rfl
                  refine one_ (i := 3) (N := some 22) #[true, true, true, true, true, false, false, false, false, false, false, false, false, false, false, false, false, false, false, false, false, false, false, false, false, false, false, false, false, false, false, false, false, false, false, false, false, false, false, false, false, false, false, false, false, false, false] rfl rfl (one_of HT_.out (by kernel_rfl)) (by decide) (fun K hK => ?_)
                  (have hcv24 := Kd.C_string (P := Try.prog) (A := A0) (c := c0) Try.underlying31 Try.underlying5 Try.underlying9 (Kd.C_below HR0.out HB.out))
                  refine value_ (w1 := ?_) (v := ?_) (by rfl) rfl ?_ ?_
                  rotate_left 2
                  · go_simp
                    constructor
                    · rfl
                    · rfl
                  clear hcv24
                  refine hK.out _ _ trivial (fun hHeld => ?_)
                  clear hK K
                  refine norm_ (a' := ?_) ?_ ?_
                  rotate_left
                  · show Act.put _ (some 22) _ = _
                    simp only [Act.put, List.setIfInBounds_toArray, List.set_cons_zero, List.set_cons_succ, i64_w, i32_w]
                    rfl
                  refine pure_ (i := 5) (N := some 24) (v := ?_) (a' := ?_) #[true, true, true, true, true, true, false, false, false, false, false, false, false, false, false, false, false, false, false, false, false, false, false, false, false, false, false, false, false, false, false, false, false, false, false, false, false, false, false, false, false, false, false, false, false, false, false] rfl rfl (any_of HT_.out (by kernel_rfl)) (fun _ _ _ h => h) (Or.inl ⟨by rfl, ?_⟩) ?_ ?_
                  rotate_left
                  · intro w'
                    go_simp
                    with_reducible rfl
                  rotate_left
                  · simp only [Act.put, List.setIfInBounds_toArray, List.set_cons_zero, List.set_cons_succ, i64_w, i32_w]
                    rfl
                  refine pure_ (i := 6) (N := some 25) (v := ?_) (a' := ?_) #[true, true, true, true, true, true, true, false, false, false, false, false, false, false, false, false, false, false, false, false, false, false, false, false, false, false, false, false, false, false, false, false, false, false, false, false, false, false, false, false, false, false, false, false, false, false, false] rfl rfl (any_of HT_.out (by kernel_rfl)) (fun _ _ _ h => h) (Or.inl ⟨by rfl, ?_⟩) ?_ ?_
                  rotate_left
                  · intro w'
                    go_simp
                    with_reducible rfl
                  rotate_left
                  · simp only [Act.put, List.setIfInBounds_toArray, List.set_cons_zero, List.set_cons_succ, i64_w, i32_w]
                    rfl
                  refine pure_ (i := 7) (N := some 26) (v := ?_) (a' := ?_) #[true, true, true, true, true, true, true, true, false, false, false, false, false, false, false, false, false, false, false, false, false, false, false, false, false, false, false, false, false, false, false, false, false, false, false, false, false, false, false, false, false, false, false, false, false, false, false] rfl rfl (any_of HT_.out (by kernel_rfl)) (fun _ _ _ h => h) (Or.inl ⟨by rfl, ?_⟩) ?_ ?_
                  rotate_left
                  · intro w'
                    go_simp
                    with_reducible rfl
                  rotate_left
                  · simp only [Act.put, List.setIfInBounds_toArray, List.set_cons_zero, List.set_cons_succ, i64_w, i32_w]
                    rfl
                  refine pure_ (i := 8) (N := some 27) (v := ?_) (a' := ?_) #[true, true, true, true, true, true, true, true, true, false, false, false, false, false, false, false, false, false, false, false, false, false, false, false, false, false, false, false, false, false, false, false, false, false, false, false, false, false, false, false, false, false, false, false, false, false, false] rfl rfl (any_of HT_.out (by kernel_rfl)) (fun _ _ _ h => h) (Or.inl ⟨by rfl, ?_⟩) ?_ ?_
                  rotate_left
                  · intro w'
                    go_simp
                    with_reducible rfl
                  rotate_left
                  · simp only [Act.put, List.setIfInBounds_toArray, List.set_cons_zero, List.set_cons_succ, i64_w, i32_w]
                    rfl
                  refine pure_ (i := 9) (N := some 28) (v := ?_) (a' := ?_) #[true, true, true, true, true, true, true, true, true, true, false, false, false, false, false, false, false, false, false, false, false, false, false, false, false, false, false, false, false, false, false, false, false, false, false, false, false, false, false, false, false, false, false, false, false, false, false] rfl rfl (any_of HT_.out (by kernel_rfl)) (fun _ _ _ h => h) (Or.inl ⟨by rfl, ?_⟩) ?_ ?_
                  rotate_left
                  · intro w'
                    go_simp
                    with_reducible rfl
                  rotate_left
                  · simp only [Act.put, List.setIfInBounds_toArray, List.set_cons_zero, List.set_cons_succ, i64_w, i32_w]
                    rfl
                  refine pure_ (i := 10) (N := some 29) (v := ?_) (a' := ?_) #[true, true, true, true, true, true, true, true, true, true, true, false, false, false, false, false, false, false, false, false, false, false, false, false, false, false, false, false, false, false, false, false, false, false, false, false, false, false, false, false, false, false, false, false, false, false, false] rfl rfl (any_of HT_.out (by kernel_rfl)) (fun _ _ _ h => h) (Or.inl ⟨by rfl, ?_⟩) ?_ ?_
                  rotate_left
                  · intro w'
                    go_simp
                    with_reducible rfl
                  rotate_left
                  · simp only [Act.put, List.setIfInBounds_toArray, List.set_cons_zero, List.set_cons_succ, i64_w, i32_w]
                    rfl
                  refine pure_ (i := 11) (N := some 30) (v := ?_) (a' := ?_) #[true, true, true, true, true, true, true, true, true, true, true, true, false, false, false, false, false, false, false, false, false, false, false, false, false, false, false, false, false, false, false, false, false, false, false, false, false, false, false, false, false, false, false, false, false, false, false] rfl rfl (any_of HT_.out (by kernel_rfl)) (fun _ _ _ h => h) (Or.inl ⟨by rfl, ?_⟩) ?_ ?_
                  rotate_left
                  · intro w'
                    go_simp
                    with_reducible rfl
                  rotate_left
                  · simp only [Act.put, List.setIfInBounds_toArray, List.set_cons_zero, List.set_cons_succ, i64_w, i32_w]
                    rfl
                  refine pure_ (i := 12) (N := some 31) (v := ?_) (a' := ?_) #[true, true, true, true, true, true, true, true, true, true, true, true, true, false, false, false, false, false, false, false, false, false, false, false, false, false, false, false, false, false, false, false, false, false, false, false, false, false, false, false, false, false, false, false, false, false, false] rfl rfl (any_of HT_.out (by kernel_rfl)) (fun _ _ _ h => h) (Or.inl ⟨by rfl, ?_⟩) ?_ ?_
                  rotate_left
                  · intro w'
                    go_simp
                    with_reducible rfl
                  rotate_left
                  · simp only [Act.put, List.setIfInBounds_toArray, List.set_cons_zero, List.set_cons_succ, i64_w, i32_w]
                    rfl
                  refine pure_ (i := 13) (N := some 32) (v := ?_) (a' := ?_) #[true, true, true, true, true, true, true, true, true, true, true, true, true, true, false, false, false, false, false, false, false, false, false, false, false, false, false, false, false, false, false, false, false, false, false, false, false, false, false, false, false, false, false, false, false, false, false] rfl rfl (any_of HT_.out (by kernel_rfl)) (fun _ _ _ h => h) (Or.inl ⟨by rfl, ?_⟩) ?_ ?_
                  rotate_left
                  · intro w'
                    go_simp
                    with_reducible rfl
                  rotate_left
                  · simp only [Act.put, List.setIfInBounds_toArray, List.set_cons_zero, List.set_cons_succ, i64_w, i32_w]
                    rfl
                  refine pure_ (i := 14) (N := some 33) (v := ?_) (a' := ?_) #[true, true, true, true, true, true, true, true, true, true, true, true, true, true, true, false, false, false, false, false, false, false, false, false, false, false, false, false, false, false, false, false, false, false, false, false, false, false, false, false, false, false, false, false, false, false, false] rfl rfl (any_of HT_.out (by kernel_rfl)) (fun _ _ _ h => h) (Or.inl ⟨by rfl, ?_⟩) ?_ ?_
                  rotate_left
                  · intro w'
                    go_simp
                    with_reducible rfl
                  rotate_left
                  · simp only [Act.put, List.setIfInBounds_toArray, List.set_cons_zero, List.set_cons_succ, i64_w, i32_w]
                    rfl
                  refine pure_ (i := 15) (N := some 34) (v := ?_) (a' := ?_) #[true, true, true, true, true, true, true, true, true, true, true, true, true, true, true, true, false, false, false, false, false, false, false, false, false, false, false, false, false, false, false, false, false, false, false, false, false, false, false, false, false, false, false, false, false, false, false] rfl rfl (any_of HT_.out (by kernel_rfl)) (fun _ _ _ h => h) (Or.inl ⟨by rfl, ?_⟩) ?_ ?_
                  rotate_left
                  · intro w'
                    go_simp
                    with_reducible rfl
                  rotate_left
                  · simp only [Act.put, List.setIfInBounds_toArray, List.set_cons_zero, List.set_cons_succ, i64_w, i32_w]
                    rfl
                  refine pure_ (i := 16) (N := some 35) (v := ?_) (a' := ?_) #[true, true, true, true, true, true, true, true, true, true, true, true, true, true, true, true, true, false, false, false, false, false, false, false, false, false, false, false, false, false, false, false, false, false, false, false, false, false, false, false, false, false, false, false, false, false, false] rfl rfl (any_of HT_.out (by kernel_rfl)) (fun _ _ _ h => h) (Or.inl ⟨by rfl, ?_⟩) ?_ ?_
                  rotate_left
                  · intro w'
                    go_simp
                    with_reducible rfl
                  rotate_left
                  · simp only [Act.put, List.setIfInBounds_toArray, List.set_cons_zero, List.set_cons_succ, i64_w, i32_w]
                    rfl
                  refine pure_ (i := 17) (N := some 36) (v := ?_) (a' := ?_) #[true, true, true, true, true, true, true, true, true, true, true, true, true, true, true, true, true, true, false, false, false, false, false, false, false, false, false, false, false, false, false, false, false, false, false, false, false, false, false, false, false, false, false, false, false, false, false] rfl rfl (any_of HT_.out (by kernel_rfl)) (fun _ _ _ h => h) (Or.inl ⟨by rfl, ?_⟩) ?_ ?_
                  rotate_left
                  · intro w'
                    go_simp
                    with_reducible rfl
                  rotate_left
                  · simp only [Act.put, List.setIfInBounds_toArray, List.set_cons_zero, List.set_cons_succ, i64_w, i32_w]
                    rfl
                  refine pure_ (i := 18) (N := some 37) (v := ?_) (a' := ?_) #[true, true, true, true, true, true, true, true, true, true, true, true, true, true, true, true, true, true, true, false, false, false, false, false, false, false, false, false, false, false, false, false, false, false, false, false, false, false, false, false, false, false, false, false, false, false, false] rfl rfl (any_of HT_.out (by kernel_rfl)) (fun _ _ _ h => h) (Or.inl ⟨by rfl, ?_⟩) ?_ ?_
                  rotate_left
                  · intro w'
                    go_simp
                    with_reducible rfl
                  rotate_left
                  · simp only [Act.put, List.setIfInBounds_toArray, List.set_cons_zero, List.set_cons_succ, i64_w, i32_w]
                    rfl
                  refine pure_ (i := 20) (N := some 39) (v := ?_) (a' := ?_) #[true, true, true, true, true, true, true, true, true, true, true, true, true, true, true, true, true, true, true, false, true, false, false, false, false, false, false, false, false, false, false, false, false, false, false, false, false, false, false, false, false, false, false, false, false, false, false] rfl rfl (any_of HT_.out (by kernel_rfl)) (fun _ _ _ h => h) (Or.inl ⟨by rfl, ?_⟩) ?_ ?_
                  rotate_left
                  · intro w'
                    go_simp
                    with_reducible rfl
                  rotate_left
                  · simp only [Act.put, List.setIfInBounds_toArray, List.set_cons_zero, List.set_cons_succ, i64_w, i32_w]
                    rfl
                  refine one_ (i := 19) (N := some 38) #[true, true, true, true, true, true, true, true, true, true, true, true, true, true, true, true, true, true, true, true, true, false, false, false, false, false, false, false, false, false, false, false, false, false, false, false, false, false, false, false, false, false, false, false, false, false, false] rfl rfl (one_of HT_.out (by kernel_rfl)) (by decide) (fun K hK => ?_)
                  (have hcv27 := Kd.C_string (P := Try.prog) (A := Ao25) (c := co25) Try.underlying31 Try.underlying5 Try.underlying9 (by repeat (first | (with_reducible exact HR135.out) | (with_reducible refine Kd.C_alloc ?_ _) | (with_reducible refine Kd.C_drewN ?_ _) | (with_reducible refine Kd.C_drew ?_) | exact HR135.out)))
                  refine value_ (w1 := ?_) (v := ?_) (by rfl) rfl ?_ ?_
                  rotate_left 2
                  · go_simp
                    constructor
                    · rfl
                    · rfl
                  clear hcv27
                  refine hK.out _ _ trivial (fun hHeld => ?_)
                  clear hK K
                  refine norm_ (a' := ?_) ?_ ?_
                  rotate_left
                  · show Act.put _ (some 38) _ = _
                    simp only [Act.put, List.setIfInBounds_toArray, List.set_cons_zero, List.set_cons_succ, i64_w, i32_w]
                    rfl
                  refine pure_ (i := 21) (N := some 40) (v := ?_) (a' := ?_) #[true, true, true, true, true, true, true, true, true, true, true, true, true, true, true, true, true, true, true, true, true, true, false, false, false, false, false, false, false, false, false, false, false, false, false, false, false, false, false, false, false, false, false, false, false, false, false] rfl rfl (any_of HT_.out (by kernel_rfl)) (fun _ _ _ h => h) (Or.inl ⟨by rfl, ?_⟩) ?_ ?_
                  rotate_left
                  · intro w'
                    go_simp
                    with_reducible rfl
                  rotate_left
                  · simp only [Act.put, List.setIfInBounds_toArray, List.set_cons_zero, List.set_cons_succ, i64_w, i32_w]
                    rfl
                  refine pure_ (i := 22) (N := some 41) (v := ?_) (a' := ?_) #[true, true, true, true, true, true, true, true, true, true, true, true, true, true, true, true, true, true, true, true, true, true, true, false, false, false, false, false, false, false, false, false, false, false, false, false, false, false, false, false, false, false, false, false, false, false, false] rfl rfl (any_of HT_.out (by kernel_rfl)) (fun _ _ _ h => h) (Or.inl ⟨by rfl, ?_⟩) ?_ ?_
                  rotate_left
                  · intro w'
                    go_simp
                    with_reducible rfl
                  rotate_left
                  · simp only [Act.put, List.setIfInBounds_toArray, List.set_cons_zero, List.set_cons_succ, i64_w, i32_w]
                    rfl
                  refine pure_ (i := 23) (N := some 42) (v := ?_) (a' := ?_) #[true, true, true, true, true, true, true, true, true, true, true, true, true, true, true, true, true, true, true, true, true, true, true, true, false, false, false, false, false, false, false, false, false, false, false, false, false, false, false, false, false, false, false, false, false, false, false] rfl rfl (any_of HT_.out (by kernel_rfl)) (fun _ _ _ h => h) (Or.inl ⟨by rfl, ?_⟩) ?_ ?_
                  rotate_left
                  · intro w'
                    go_simp
                    with_reducible rfl
                  rotate_left
                  · simp only [Act.put, List.setIfInBounds_toArray, List.set_cons_zero, List.set_cons_succ, i64_w, i32_w]
                    rfl
                  refine pure_ (i := 24) (N := some 43) (v := ?_) (a' := ?_) #[true, true, true, true, true, true, true, true, true, true, true, true, true, true, true, true, true, true, true, true, true, true, true, true, true, false, false, false, false, false, false, false, false, false, false, false, false, false, false, false, false, false, false, false, false, false, false] rfl rfl (any_of HT_.out (by kernel_rfl)) (fun _ _ _ h => h) (Or.inl ⟨by rfl, ?_⟩) ?_ ?_
                  rotate_left
                  · intro w'
                    go_simp
                    with_reducible rfl
                  rotate_left
                  · simp only [Act.put, List.setIfInBounds_toArray, List.set_cons_zero, List.set_cons_succ, i64_w, i32_w]
                    rfl
                  refine pure_ (i := 25) (N := some 44) (v := ?_) (a' := ?_) #[true, true, true, true, true, true, true, true, true, true, true, true, true, true, true, true, true, true, true, true, true, true, true, true, true, true, false, false, false, false, false, false, false, false, false, false, false, false, false, false, false, false, false, false, false, false, false] rfl rfl (any_of HT_.out (by kernel_rfl)) (fun _ _ _ h => h) (Or.inl ⟨by rfl, ?_⟩) ?_ ?_
                  rotate_left
                  · intro w'
                    go_simp
                    with_reducible rfl
                  rotate_left
                  · simp only [Act.put, List.setIfInBounds_toArray, List.set_cons_zero, List.set_cons_succ, i64_w, i32_w]
                    rfl
                  refine pure_ (i := 26) (N := some 45) (v := ?_) (a' := ?_) #[true, true, true, true, true, true, true, true, true, true, true, true, true, true, true, true, true, true, true, true, true, true, true, true, true, true, true, false, false, false, false, false, false, false, false, false, false, false, false, false, false, false, false, false, false, false, false] rfl rfl (any_of HT_.out (by kernel_rfl)) (fun _ _ _ h => h) (Or.inl ⟨by rfl, ?_⟩) ?_ ?_
                  rotate_left
                  · intro w'
                    go_simp
                    with_reducible rfl
                  rotate_left
                  · simp only [Act.put, List.setIfInBounds_toArray, List.set_cons_zero, List.set_cons_succ, i64_w, i32_w]
                    rfl
                  refine pure_ (i := 27) (N := some 46) (v := ?_) (a' := ?_) #[true, true, true, true, true, true, true, true, true, true, true, true, true, true, true, true, true, true, true, true, true, true, true, true, true, true, true, true, false, false, false, false, false, false, false, false, false, false, false, false, false, false, false, false, false, false, false] rfl rfl (any_of HT_.out (by kernel_rfl)) (fun _ _ _ h => h) (Or.inl ⟨by rfl, ?_⟩) ?_ ?_
                  rotate_left
                  · intro w'
                    go_simp
                    with_reducible rfl
                  rotate_left
                  · simp only [Act.put, List.setIfInBounds_toArray, List.set_cons_zero, List.set_cons_succ, i64_w, i32_w]
                    rfl
                  refine pure_ (i := 29) (N := some 48) (v := ?_) (a' := ?_) #[true, true, true, true, true, true, true, true, true, true, true, true, true, true, true, true, true, true, true, true, true, true, true, true, true, true, true, true, false, true, false, false, false, false, false, false, false, false, false, false, false, false, false, false, false, false, false] rfl rfl (any_of HT_.out (by kernel_rfl)) (fun _ _ _ h => h) (Or.inl ⟨by rfl, ?_⟩) ?_ ?_
                  rotate_left
                  · intro w'
                    go_simp
                    with_reducible rfl
                  rotate_left
                  · simp only [Act.put, List.setIfInBounds_toArray, List.set_cons_zero, List.set_cons_succ, i64_w, i32_w]
                    rfl
                  refine join_ (σ := Value × Value) 3 #[true, true, true, true, true, true, true, true, true, true, true, true, true, true, true, true, true, true, true, true, true, true, true, true, true, true, true, true, true, true, true, true, true, true, true, true, true, true, true, true, true, true, true, true, false, false, false] (fun s_ => [(47, .string (strOfNums y136)), (49, s_.1), (50, .string (strOfNums t140)), (58, .string (strOfNums y143)), (61, s_.2), (62, .string (strOfNums t147)), (51, .bool true), (52, .bool true), (53, .bool true), (54, .slice Ao30 t129.length co30), (55, .slice A0 l0.length c0), (56, .int .i64 (l0.length : Int)), (57, .slice A29 y143.length c29), (59, .int .u64 a1), (60, .int .u64 (IntKind.u64.wrap (a1 + 1)))]) (fun s_ w' => (Kd.R (Kd.int .u8) 5 w' w.heap.size (fun k_ => some k_ ≠ (.slice Ao30 t129.length co30 : Value).ownBlock ∧ some k_ ≠ (s_.1 : Value).ownBlock ∧ some k_ ≠ (s_.2 : Value).ownBlock) (.slice Ao25 t126.length co25) t126) ∧ (Kd.R (Kd.int .u8) 5 w' w.heap.size (fun k_ => some k_ ≠ (.slice Ao25 t126.length co25 : Value).ownBlock ∧ some k_ ≠ (s_.1 : Value).ownBlock ∧ some k_ ≠ (s_.2 : Value).ownBlock) (.slice Ao30 t129.length co30) t129) ∧ (Kd.R (Kd.int .u8) 5 w' w.heap.size (fun k_ => some k_ ≠ (.slice Ao25 t126.length co25 : Value).ownBlock ∧ some k_ ≠ (.slice Ao30 t129.length co30 : Value).ownBlock ∧ some k_ ≠ (s_.2 : Value).ownBlock) s_.1 t140) ∧ (Kd.R (Kd.int .u8) 5 w' w.heap.size (fun k_ => some k_ ≠ (.slice Ao25 t126.length co25 : Value).ownBlock ∧ some k_ ≠ (.slice Ao30 t129.length co30 : Value).ownBlock ∧ some k_ ≠ (s_.1 : Value).ownBlock) s_.2 t147) ∧ (Kd.C (Kd.int .u8) w' Ao25 y132.length y132) ∧ (Kd.C (Kd.int .u8) w' A28 y136.length y136) ∧ (Kd.C (Kd.int .u8) w' A29 y143.length y143) ∧ (Below w.heap.size w w')) ?_ ?_
                  rotate_left
                  · intro hJ28_30_31_39_42_43
                    refine join_ (σ := Value × Value) 4 #[true, true, true, true, true, true, true, true, true, true, true, true, true, true, true, true, true, true, true, true, true, true, true, true, true, true, true, true, true, true, true, true, true, true, true, true, true, true, true, true, true, true, true, false, false, false, false] (fun s_ => [(47, .string (strOfNums y136)), (49, s_.1), (50, .string (strOfNums t140)), (58, .string (strOfNums y143)), (61, s_.2), (51, .bool true), (52, .bool true), (53, .bool true), (54, .slice Ao30 t129.length co30), (55, .slice A0 l0.length c0), (56, .int .i64 (l0.length : Int)), (57, .slice A29 y143.length c29), (59, .int .u64 a1), (60, .int .u64 (IntKind.u64.wrap (a1 + 1)))]) (fun s_ w' => (Kd.R (Kd.int .u8) 5 w' w.heap.size (fun k_ => some k_ ≠ (.slice Ao30 t129.length co30 : Value).ownBlock ∧ some k_ ≠ (s_.1 : Value).ownBlock ∧ some k_ ≠ (s_.2 : Value).ownBlock) (.slice Ao25 t126.length co25) t126) ∧ (Kd.R (Kd.int .u8) 5 w' w.heap.size (fun k_ => some k_ ≠ (.slice Ao25 t126.length co25 : Value).ownBlock ∧ some k_ ≠ (s_.1 : Value).ownBlock ∧ some k_ ≠ (s_.2 : Value).ownBlock) (.slice Ao30 t129.length co30) t129) ∧ (Kd.R (Kd.int .u8) 5 w' w.heap.size (fun k_ => some k_ ≠ (.slice Ao25 t126.length co25 : Value).ownBlock ∧ some k_ ≠ (.slice Ao30 t129.length co30 : Value).ownBlock ∧ some k_ ≠ (s_.2 : Value).ownBlock) s_.1 t140) ∧ (Kd.R (Kd.int .u8) 5 w' w.heap.size (fun k_ => some k_ ≠ (.slice Ao25 t126.length co25 : Value).ownBlock ∧ some k_ ≠ (.slice Ao30 t129.length co30 : Value).ownBlock ∧ some k_ ≠ (s_.1 : Value).ownBlock) s_.2 t147) ∧ (Kd.C (Kd.int .u8) w' Ao25 y132.length y132) ∧ (Kd.C (Kd.int .u8) w' A28 y136.length y136) ∧ (Kd.C (Kd.int .u8) w' A29 y143.length y143) ∧ (Below w.heap.size w w')) ?_ ?_
                    rotate_left
                    · intro hJ28_30_31_39_42
                      refine join_ (σ := Value × Value) 4 #[true, true, true, true, true, true, true, true, true, true, true, true, true, true, true, true, true, true, true, true, true, true, true, true, true, true, true, true, true, true, true, true, true, true, true, true, true, true, true, false, true, true, true, true, false, false, false] (fun s_ => [(47, .string (strOfNums y136)), (49, s_.1), (50, .string (strOfNums t140)), (61, s_.2), (62, .string (strOfNums t147)), (51, .bool true), (52, .bool true), (53, .bool true), (54, .slice Ao30 t129.length co30), (55, .slice A0 l0.length c0), (56, .int .i64 (l0.length : Int)), (57, .slice A29 y143.length c29), (59, .int .u64 a1), (60, .int .u64 (IntKind.u64.wrap (a1 + 1)))]) (fun s_ w' => (Kd.R (Kd.int .u8) 5 w' w.heap.size (fun k_ => some k_ ≠ (.slice Ao30 t129.length co30 : Value).ownBlock ∧ some k_ ≠ (s_.1 : Value).ownBlock ∧ some k_ ≠ (s_.2 : Value).ownBlock) (.slice Ao25 t126.length co25) t126) ∧ (Kd.R (Kd.int .u8) 5 w' w.heap.size (fun k_ => some k_ ≠ (.slice Ao25 t126.length co25 : Value).ownBlock ∧ some k_ ≠ (s_.1 : Value).ownBlock ∧ some k_ ≠ (s_.2 : Value).ownBlock) (.slice Ao30 t129.length co30) t129) ∧ (Kd.R (Kd.int .u8) 5 w' w.heap.size (fun k_ => some k_ ≠ (.slice Ao25 t126.length co25 : Value).ownBlock ∧ some k_ ≠ (.slice Ao30 t129.length co30 : Value).ownBlock ∧ some k_ ≠ (s_.2 : Value).ownBlock) s_.1 t140) ∧ (Kd.R (Kd.int .u8) 5 w' w.heap.size (fun k_ => some k_ ≠ (.slice Ao25 t126.length co25 : Value).ownBlock ∧ some k_ ≠ (.slice Ao30 t129.length co30 : Value).ownBlock ∧ some k_ ≠ (s_.1 : Value).ownBlock) s_.2 t147) ∧ (Kd.C (Kd.int .u8) w' Ao25 y132.length y132) ∧ (Kd.C (Kd.int .u8) w' A28 y136.length y136) ∧ (Kd.C (Kd.int .u8) w' A29 y143.length y143) ∧ (Below w.heap.size w w')) ?_ ?_
                      rotate_left
                      · intro hJ28_30_31_42_43
                        refine join_ (σ := Value) 5 #[true, true, true, true, true, true, true, true, true, true, true, true, true, true, true, true, true, true, true, true, true, true, true, true, true, true, true, true, true, true, true, true, true, true, true, true, true, true, true, true, true, true, false, false, false, false, false] (fun s_ => [(47, .string (strOfNums y136)), (49, s_), (50, .string (strOfNums t140)), (58, .string (strOfNums y143)), (51, .bool true), (52, .bool true), (53, .bool true), (54, .slice Ao30 t129.length co30), (55, .slice A0 l0.length c0), (56, .int .i64 (l0.length : Int)), (57, .slice A29 y143.length c29), (59, .int .u64 a1), (60, .int .u64 (IntKind.u64.wrap (a1 + 1)))]) (fun s_ w' => (Kd.R (Kd.int .u8) 5 w' w.heap.size (fun k_ => some k_ ≠ (.slice Ao30 t129.length co30 : Value).ownBlock ∧ some k_ ≠ (s_ : Value).ownBlock) (.slice Ao25 t126.length co25) t126) ∧ (Kd.R (Kd.int .u8) 5 w' w.heap.size (fun k_ => some k_ ≠ (.slice Ao25 t126.length co25 : Value).ownBlock ∧ some k_ ≠ (s_ : Value).ownBlock) (.slice Ao30 t129.length co30) t129) ∧ (Kd.R (Kd.int .u8) 5 w' w.heap.size (fun k_ => some k_ ≠ (.slice Ao25 t126.length co25 : Value).ownBlock ∧ some k_ ≠ (.slice Ao30 t129.length co30 : Value).ownBlock) s_ t140) ∧ (Kd.C (Kd.int .u8) w' Ao25 y132.length y132) ∧ (Kd.C (Kd.int .u8) w' A28 y136.length y136) ∧ (Kd.C (Kd.int .u8) w' A29 y143.length y143) ∧ (Below w.heap.size w w')) ?_ ?_
                        rotate_left
                        · intro hJ28_30_31_39
                          refine join_ (σ := Value × Value) 5 #[true, true, true, true, true, true, true, true, true, true, true, true, true, true, true, true, true, true, true, true, true, true, true, true, true, true, true, true, true, true, true, true, true, true, true, true, true, true, true, false, true, true, true, false, false, false, false] (fun s_ => [(47, .string (strOfNums y136)), (49, s_.1), (50, .string (strOfNums t140)), (61, s_.2), (51, .bool true), (52, .bool true), (53, .bool true), (54, .slice Ao30 t129.length co30), (55, .slice A0 l0.length c0), (56, .int .i64 (l0.length : Int)), (57, .slice A29 y143.length c29), (59, .int .u64 a1), (60, .int .u64 (IntKind.u64.wrap (a1 + 1)))]) (fun s_ w' => (Kd.R (Kd.int .u8) 5 w' w.heap.size (fun k_ => some k_ ≠ (.slice Ao30 t129.length co30 : Value).ownBlock ∧ some k_ ≠ (s_.1 : Value).ownBlock ∧ some k_ ≠ (s_.2 : Value).ownBlock) (.slice Ao25 t126.length co25) t126) ∧ (Kd.R (Kd.int .u8) 5 w' w.heap.size (fun k_ => some k_ ≠ (.slice Ao25 t126.length co25 : Value).ownBlock ∧ some k_ ≠ (s_.1 : Value).ownBlock ∧ some k_ ≠ (s_.2 : Value).ownBlock) (.slice Ao30 t129.length co30) t129) ∧ (Kd.R (Kd.int .u8) 5 w' w.heap.size (fun k_ => some k_ ≠ (.slice Ao25 t126.length co25 : Value).ownBlock ∧ some k_ ≠ (.slice Ao30 t129.length co30 : Value).ownBlock ∧ some k_ ≠ (s_.2 : Value).ownBlock) s_.1 t140) ∧ (Kd.R (Kd.int .u8) 5 w' w.heap.size (fun k_ => some k_ ≠ (.slice Ao25 t126.length co25 : Value).ownBlock ∧ some k_ ≠ (.slice Ao30 t129.length co30 : Value).ownBlock ∧ some k_ ≠ (s_.1 : Value).ownBlock) s_.2 t147) ∧ (Kd.C (Kd.int .u8) w' Ao25 y132.length y132) ∧ (Kd.C (Kd.int .u8) w' A28 y136.length y136) ∧ (Kd.C (Kd.int .u8) w' A29 y143.length y143) ∧ (Below w.heap.size w w')) ?_ ?_
                          rotate_left
                          · intro hJ28_30_31_42
                            refine join_ (σ := Value) 6 #[true, true, true, true, true, true, true, true, true, true, true, true, true, true, true, true, true, true, true, true, true, true, true, true, true, true, true, true, true, true, true, true, true, true, true, true, true, true, true, false, true, true, false, false, false, false, false] (fun s_ => [(47, .string (strOfNums y136)), (49, s_), (50, .string (strOfNums t140)), (51, .bool true), (52, .bool true), (53, .bool true), (54, .slice Ao30 t129.length co30), (55, .slice A0 l0.length c0), (56, .int .i64 (l0.length : Int)), (57, .slice A29 y143.length c29), (59, .int .u64 a1), (60, .int .u64 (IntKind.u64.wrap (a1 + 1)))]) (fun s_ w' => (Kd.R (Kd.int .u8) 5 w' w.heap.size (fun k_ => some k_ ≠ (.slice Ao30 t129.length co30 : Value).ownBlock ∧ some k_ ≠ (s_ : Value).ownBlock) (.slice Ao25 t126.length co25) t126) ∧ (Kd.R (Kd.int .u8) 5 w' w.heap.size (fun k_ => some k_ ≠ (.slice Ao25 t126.length co25 : Value).ownBlock ∧ some k_ ≠ (s_ : Value).ownBlock) (.slice Ao30 t129.length co30) t129) ∧ (Kd.R (Kd.int .u8) 5 w' w.heap.size (fun k_ => some k_ ≠ (.slice Ao25 t126.length co25 : Value).ownBlock ∧ some k_ ≠ (.slice Ao30 t129.length co30 : Value).ownBlock) s_ t140) ∧ (Kd.C (Kd.int .u8) w' Ao25 y132.length y132) ∧ (Kd.C (Kd.int .u8) w' A28 y136.length y136) ∧ (Kd.C (Kd.int .u8) w' A29 y143.length y143) ∧ (Below w.heap.size w w')) ?_ ?_
                            rotate_left
                            · intro hJ28_30_31
                              refine join_ (σ := Value) 16 #[true, true, true, true, true, true, true, true, true, true, true, true, true, true, true, true, true, true, true, true, true, true, true, true, true, true, true, true, true, true, true, false, false, false, false, false, false, false, false, false, false, false, false, false, false, false, false] (fun s_ => [(47, .string (strOfNums y136)), (49, s_)]) (fun s_ w' => (Kd.R (Kd.int .u8) 5 w' w.heap.size (fun k_ => some k_ ≠ (.slice Ao30 t129.length co30 : Value).ownBlock ∧ some k_ ≠ (s_ : Value).ownBlock) (.slice Ao25 t126.length co25) t126) ∧ (Kd.R (Kd.int .u8) 5 w' w.heap.size (fun k_ => some k_ ≠ (.slice Ao25 t126.length co25 : Value).ownBlock ∧ some k_ ≠ (s_ : Value).ownBlock) (.slice Ao30 t129.length co30) t129) ∧ (Kd.R (Kd.int .u8) 5 w' w.heap.size (fun k_ => some k_ ≠ (.slice Ao25 t126.length co25 : Value).ownBlock ∧ some k_ ≠ (.slice Ao30 t129.length co30 : Value).ownBlock) s_ t140) ∧ (Kd.C (Kd.int .u8) w' Ao25 y132.length y132) ∧ (Kd.C (Kd.int .u8) w' A28 y136.length y136) ∧ (Kd.C (Kd.int .u8) w' A29 y143.length y143) ∧ (Below w.heap.size w w')) ?_ ?_
                              rotate_left
                              · intro hJ28_30
                                refine join_ (σ := Value) 16 #[true, true, true, true, true, true, true, true, true, true, true, true, true, true, true, true, true, true, true, true, true, true, true, true, true, true, true, true, false, true, true, true, false, false, false, false, false, false, false, false, false, false, false, false, false, false, false] (fun s_ => [(49, s_), (50, .string (strOfNums t140))]) (fun s_ w' => (Kd.R (Kd.int .u8) 5 w' w.heap.size (fun k_ => some k_ ≠ (.slice Ao30 t129.length co30 : Value).ownBlock ∧ some k_ ≠ (s_ : Value).ownBlock) (.slice Ao25 t126.length co25) t126) ∧ (Kd.R (Kd.int .u8) 5 w' w.heap.size (fun k_ => some k_ ≠ (.slice Ao25 t126.length co25 : Value).ownBlock ∧ some k_ ≠ (s_ : Value).ownBlock) (.slice Ao30 t129.length co30) t129) ∧ (Kd.R (Kd.int .u8) 5 w' w.heap.size (fun k_ => some k_ ≠ (.slice Ao25 t126.length co25 : Value).ownBlock ∧ some k_ ≠ (.slice Ao30 t129.length co30 : Value).ownBlock) s_ t140) ∧ (Kd.C (Kd.int .u8) w' Ao25 y132.length y132) ∧ (Kd.C (Kd.int .u8) w' A28 y136.length y136) ∧ (Kd.C (Kd.int .u8) w' A29 y143.length y143) ∧ (Below w.heap.size w w')) ?_ ?_
                                rotate_left
                                · intro hJ30_31
                                  refine join_ (σ := Unit) 17 #[true, true, true, true, true, true, true, true, true, true, true, true, true, true, true, true, true, true, true, true, true, true, true, true, true, true, true, true, true, true, false, false, false, false, false, false, false, false, false, false, false, false, false, false, false, false, false] (fun s_ => [(47, .string (strOfNums y136))]) (fun s_ w' => (Kd.R (Kd.int .u8) 5 w' w.heap.size (fun k_ => some k_ ≠ (.slice Ao30 t129.length co30 : Value).ownBlock) (.slice Ao25 t126.length co25) t126) ∧ (Kd.R (Kd.int .u8) 5 w' w.heap.size (fun k_ => some k_ ≠ (.slice Ao25 t126.length co25 : Value).ownBlock) (.slice Ao30 t129.length co30) t129) ∧ (Kd.C (Kd.int .u8) w' Ao25 y132.length y132) ∧ (Kd.C (Kd.int .u8) w' A28 y136.length y136) ∧ (Kd.C (Kd.int .u8) w' A29 y143.length y143) ∧ (Below w.heap.size w w')) ?_ ?_
                                  rotate_left
                                  · intro hJ28
                                    refine join_ (σ := Value) 17 #[true, true, true, true, true, true, true, true, true, true, true, true, true, true, true, true, true, true, true, true, true, true, true, true, true, true, true, true, false, true, true, false, false, false, false, false, false, false, false, false, false, false, false, false, false, false, false] (fun s_ => [(49, s_)]) (fun s_ w' => (Kd.R (Kd.int .u8) 5 w' w.heap.size (fun k_ => some k_ ≠ (.slice Ao30 t129.length co30 : Value).ownBlock ∧ some k_ ≠ (s_ : Value).ownBlock) (.slice Ao25 t126.length co25) t126) ∧ (Kd.R (Kd.int .u8) 5 w' w.heap.size (fun k_ => some k_ ≠ (.slice Ao25 t126.length co25 : Value).ownBlock ∧ some k_ ≠ (s_ : Value).ownBlock) (.slice Ao30 t129.length co30) t129) ∧ (Kd.R (Kd.int .u8) 5 w' w.heap.size (fun k_ => some k_ ≠ (.slice Ao25 t126.length co25 : Value).ownBlock ∧ some k_ ≠ (.slice Ao30 t129.length co30 : Value).ownBlock) s_ t140) ∧ (Kd.C (Kd.int .u8) w' Ao25 y132.length y132) ∧ (Kd.C (Kd.int .u8) w' A28 y136.length y136) ∧ (Kd.C (Kd.int .u8) w' A29 y143.length y143) ∧ (Below w.heap.size w w')) ?_ ?_
                                    rotate_left
                                    · intro hJ30
                                      refine two_ (i := 28) (j := 30) (Ni := some 47) (Nj := some 49) #[true, true, true, true, true, true, true, true, true, true, true, true, true, true, true, true, true, true, true, true, true, true, true, true, true, true, true, true, true, true, false, false, false, false, false, false, false, false, false, false, false, false, false, false, false, false, false] #[true, true, true, true, true, true, true, true, true, true, true, true, true, true, true, true, true, true, true, true, true, true, true, true, true, true, true, true, false, true, true, false, false, false, false, false, false, false, false, false, false, false, false, false, false, false, false] rfl rfl rfl rfl (two_of HT_.out (by kernel_rfl)) (by decide) (by decide) (fun K hK => ?_) (fun K hK => ?_)
                                      · skip
                                        (have hcv31 := Kd.C_string (P := Try.prog) (A := A28) (c := c28) Try.underlying31 Try.underlying5 Try.underlying9 (by repeat (first | (with_reducible exact HR139.out) | (with_reducible refine Kd.C_alloc ?_ _) | (with_reducible refine Kd.C_drewN ?_ _) | (with_reducible refine Kd.C_drew ?_) | exact HR139.out)))
                                        refine value_ (w1 := ?_) (v := ?_) (by rfl) rfl ?_ ?_
                                        rotate_left 2
                                        · go_simp
                                          constructor
                                          · rfl
                                          · rfl
                                        clear hcv31
                                        refine hK.out _ _ trivial (fun hHeld => ?_)
                                        clear hK K
                                        refine norm_ (a' := ?_) ?_ ?_
                                        rotate_left
                                        · show Act.put _ (some 47) _ = _
                                          simp only [Act.put, List.setIfInBounds_toArray, List.set_cons_zero, List.set_cons_succ, i64_w, i32_w]
                                          rfl
                                        exact norm_ (by first | (simp only [putAll, Act.put, List.setIfInBounds_toArray, List.set_cons_zero, List.set_cons_succ]; done) | (simp only [putAll, Act.put, List.setIfInBounds_toArray, List.set_cons_zero, List.set_cons_succ]; rfl)) (hJ28 () _ ⟨(by (with_reducible repeat (first | apply Kd.R_alloc | apply Kd.R_drewN | apply Kd.R_drew)); exact Kd.R_mono HO128.out (fun _ hk => hk.2)), (by (with_reducible repeat (first | apply Kd.R_alloc | apply Kd.R_drewN | apply Kd.R_drew)); exact Kd.R_mono HO131.out (fun _ hk => hk.2)), (by repeat (first | (with_reducible exact HR135.out) | (with_reducible refine Kd.C_alloc ?_ _) | (with_reducible refine Kd.C_drewN ?_ _) | (with_reducible refine Kd.C_drew ?_) | exact HR135.out)), (by repeat (first | (with_reducible exact HR139.out) | (with_reducible refine Kd.C_alloc ?_ _) | (with_reducible refine Kd.C_drewN ?_ _) | (with_reducible refine Kd.C_drew ?_) | exact HR139.out)), (by repeat (first | (with_reducible exact HR146.out) | (with_reducible refine Kd.C_alloc ?_ _) | (with_reducible refine Kd.C_drewN ?_ _) | (with_reducible refine Kd.C_drew ?_) | exact HR146.out)), (by repeat (first | (with_reducible first | exact HB.out | apply below_alloc | apply pw_below_drewN | apply below_drew1) | exact HB.out))⟩)
                                      · skip
                                        refine goes_ Try.func19 (by kernel_rfl) rfl #[.slice none 0 0, .int .u64 a1] (by rfl) rfl rfl (by (try simp only [List.map_toArray, List.map_cons, List.map_nil]); first | done | rfl | (simp only [List.length_drop, List.length_take]; rfl)) ?_
                                        refine (num_Put.calls k _ _ ([] : List Int) a1 t140 _ ?side1 ?side2 A14.out).mono ?_
                                        (case side1 => exact Kd.C_nil _ _)
                                        (case side2 => exact Nat.le_refl _)
                                        rintro e w31 ⟨v141, rfl, ho0, hb⟩
                                        refine ⟨_, rfl, ?_⟩
                                        have n0_ := Aside0.mk (Kd.R_elder' (by (with_reducible repeat (first | apply Kd.R_alloc | apply Kd.R_drewN | apply Kd.R_drew)); exact HO128.out) (Kd.R_base ho0) hb)
                                        have n1_ := Aside0.mk (Kd.R_elder' (by (with_reducible repeat (first | apply Kd.R_alloc | apply Kd.R_drewN | apply Kd.R_drew)); exact HO131.out) (Kd.R_base ho0) hb)
                                        have n2_ := Aside0.mk (Kd.R_lower (Kd.R_new' (Kd.R_new' ho0 (Kd.R_lt (by (with_reducible repeat (first | apply Kd.R_alloc | apply Kd.R_drewN | apply Kd.R_drew)); exact HO128.out))) (Kd.R_lt (by (with_reducible repeat (first | apply Kd.R_alloc | apply Kd.R_drewN | apply Kd.R_drew)); exact HO131.out))) (below_size (by repeat (first | (with_reducible first | exact HB.out | apply below_alloc | apply pw_below_drewN | apply below_drew1) | exact HB.out))))
                                        have n3_ := Aside0.mk (Kd.C_below (by repeat (first | (with_reducible exact HR135.out) | (with_reducible refine Kd.C_alloc ?_ _) | (with_reducible refine Kd.C_drewN ?_ _) | (with_reducible refine Kd.C_drew ?_) | exact HR135.out)) hb)
                                        have n4_ := Aside0.mk (Kd.C_below (by repeat (first | (with_reducible exact HR139.out) | (with_reducible refine Kd.C_alloc ?_ _) | (with_reducible refine Kd.C_drewN ?_ _) | (with_reducible refine Kd.C_drew ?_) | exact HR139.out)) hb)
                                        have n5_ := Aside0.mk (Kd.C_below (by repeat (first | (with_reducible exact HR146.out) | (with_reducible refine Kd.C_alloc ?_ _) | (with_reducible refine Kd.C_drewN ?_ _) | (with_reducible refine Kd.C_drew ?_) | exact HR146.out)) hb)
                                        have n6_ := Aside0.mk (below_step (by repeat (first | (with_reducible first | exact HB.out | apply below_alloc | apply pw_below_drewN | apply below_drew1) | exact HB.out)) hb)
                                        clear HO128
                                        clear HO131
                                        clear HR135
                                        clear HR139
                                        clear HR146
                                        clear HB
                                        have HO128 := n0_
                                        have HO131 := n1_
                                        have HO142 := n2_
                                        have HR135 := n3_
                                        have HR139 := n4_
                                        have HR146 := n5_
                                        have HB := n6_
                                        clear n0_ n1_ n2_ n3_ n4_ n5_ n6_
                                        (try clear hb)
                                        (try clear hb2)
                                        (try clear hk)
                                        (try clear hi)
                                        (try clear ho0)
                                        refine hK.out _ _ trivial (fun hHeld => ?_)
                                        clear hK K
                                        refine norm_ (a' := ?_) ?_ ?_
                                        rotate_left
                                        · show Act.put _ (some 49) _ = _
                                          simp only [Act.put, List.setIfInBounds_toArray, List.set_cons_zero, List.set_cons_succ, i64_w, i32_w]
                                          rfl
                                        exact norm_ (by first | (simp only [putAll, Act.put, List.setIfInBounds_toArray, List.set_cons_zero, List.set_cons_succ]; done) | (simp only [putAll, Act.put, List.setIfInBounds_toArray, List.set_cons_zero, List.set_cons_succ]; rfl)) (hJ30 (v141) _ ⟨(by (with_reducible repeat (first | apply Kd.R_alloc | apply Kd.R_drewN | apply Kd.R_drew)); exact Kd.R_mono HO128.out (fun _ hk => by first | exact ⟨hk.1.2, hk.2⟩ | exact ⟨hk.1, hk.2⟩)), (by (with_reducible repeat (first | apply Kd.R_alloc | apply Kd.R_drewN | apply Kd.R_drew)); exact Kd.R_mono HO131.out (fun _ hk => by first | exact ⟨hk.1.2, hk.2⟩ | exact ⟨hk.1, hk.2⟩)), (by (with_reducible repeat (first | apply Kd.R_alloc | apply Kd.R_drewN | apply Kd.R_drew)); exact Kd.R_mono HO142.out (fun _ hk => by first | exact ⟨hk.1.2, hk.2⟩ | exact ⟨hk.1, hk.2⟩)), (by repeat (first | (with_reducible exact HR135.out) | (with_reducible refine Kd.C_alloc ?_ _) | (with_reducible refine Kd.C_drewN ?_ _) | (with_reducible refine Kd.C_drew ?_) | exact HR135.out)), (by repeat (first | (with_reducible exact HR139.out) | (with_reducible refine Kd.C_alloc ?_ _) | (with_reducible refine Kd.C_drewN ?_ _) | (with_reducible refine Kd.C_drew ?_) | exact HR139.out)), (by repeat (first | (with_reducible exact HR146.out) | (with_reducible refine Kd.C_alloc ?_ _) | (with_reducible refine Kd.C_drewN ?_ _) | (with_reducible refine Kd.C_drew ?_) | exact HR146.out)), (by repeat (first | (with_reducible first | exact HB.out | apply below_alloc | apply pw_below_drewN | apply below_drew1) | exact HB.out))⟩)
                                    · skip
                                      rintro v141 w32 ⟨h0_, h1_, h2_, h3_, h4_, h5_, h6_⟩
                                      have n0_ : Aside0 (Kd.R (Kd.int .u8) 5 w32 w.heap.size (fun k_ => some k_ ≠ (.slice Ao30 t129.length co30 : Value).ownBlock ∧ some k_ ≠ (v141 : Value).ownBlock) (.slice Ao25 t126.length co25) t126) := ⟨h0_⟩
                                      have n1_ : Aside0 (Kd.R (Kd.int .u8) 5 w32 w.heap.size (fun k_ => some k_ ≠ (.slice Ao25 t126.length co25 : Value).ownBlock ∧ some k_ ≠ (v141 : Value).ownBlock) (.slice Ao30 t129.length co30) t129) := ⟨h1_⟩
                                      have n2_ : Aside0 (Kd.R (Kd.int .u8) 5 w32 w.heap.size (fun k_ => some k_ ≠ (.slice Ao25 t126.length co25 : Value).ownBlock ∧ some k_ ≠ (.slice Ao30 t129.length co30 : Value).ownBlock) v141 t140) := ⟨h2_⟩
                                      have n3_ : Aside0 (Kd.C (Kd.int .u8) w32 Ao25 y132.length y132) := ⟨h3_⟩
                                      have n4_ : Aside0 (Kd.C (Kd.int .u8) w32 A28 y136.length y136) := ⟨h4_⟩
                                      have n5_ : Aside0 (Kd.C (Kd.int .u8) w32 A29 y143.length y143) := ⟨h5_⟩
                                      have n6_ : Aside0 (Below w.heap.size w w32) := ⟨h6_⟩
                                      clear HO128
                                      clear HO131
                                      clear HB
                                      clear h0_ h1_ h2_ h3_ h4_ h5_ h6_
                                      have HO128 := n0_
                                      have HO131 := n1_
                                      have HO142 := n2_
                                      have HR135 := n3_
                                      have HR139 := n4_
                                      have HR146 := n5_
                                      have HB := n6_
                                      clear n0_ n1_ n2_ n3_ n4_ n5_ n6_
                                      have hHeld := trivial
                                      refine norm_ (a' := ?_) ?_ ?_
                                      rotate_left
                                      · simp only [putAll, Act.put, List.setIfInBounds_toArray, List.set_cons_zero, List.set_cons_succ]
                                        rfl
                                      refine two_ (i := 28) (j := 31) (Ni := some 47) (Nj := some 50) #[true, true, true, true, true, true, true, true, true, true, true, true, true, true, true, true, true, true, true, true, true, true, true, true, true, true, true, true, true, true, true, false, false, false, false, false, false, false, false, false, false, false, false, false, false, false, false] #[true, true, true, true, true, true, true, true, true, true, true, true, true, true, true, true, true, true, true, true, true, true, true, true, true, true, true, true, false, true, true, true, false, false, false, false, false, false, false, false, false, false, false, false, false, false, false] rfl rfl rfl rfl (two_of HT_.out (by kernel_rfl)) (by decide) (by decide) (fun K hK => ?_) (fun K hK => ?_)
                                      · skip
                                        (have hcv33 := Kd.C_string (P := Try.prog) (A := A28) (c := c28) Try.underlying31 Try.underlying5 Try.underlying9 (by repeat (first | (with_reducible exact HR139.out) | (with_reducible refine Kd.C_alloc ?_ _) | (with_reducible refine Kd.C_drewN ?_ _) | (with_reducible refine Kd.C_drew ?_) | exact HR139.out)))
                                        refine value_ (w1 := ?_) (v := ?_) (by rfl) rfl ?_ ?_
                                        rotate_left 2
                                        · go_simp
                                          constructor
                                          · rfl
                                          · rfl
                                        clear hcv33
                                        refine hK.out _ _ trivial (fun hHeld => ?_)
                                        clear hK K
                                        refine norm_ (a' := ?_) ?_ ?_
                                        rotate_left
                                        · show Act.put _ (some 47) _ = _
                                          simp only [Act.put, List.setIfInBounds_toArray, List.set_cons_zero, List.set_cons_succ, i64_w, i32_w]
                                          rfl
                                        exact norm_ (by first | (simp only [putAll, Act.put, List.setIfInBounds_toArray, List.set_cons_zero, List.set_cons_succ]; done) | (simp only [putAll, Act.put, List.setIfInBounds_toArray, List.set_cons_zero, List.set_cons_succ]; rfl)) (hJ28_30 (v141) _ ⟨(by (with_reducible repeat (first | apply Kd.R_alloc | apply Kd.R_drewN | apply Kd.R_drew)); exact HO128.out), (by (with_reducible repeat (first | apply Kd.R_alloc | apply Kd.R_drewN | apply Kd.R_drew)); exact HO131.out), (by (with_reducible repeat (first | apply Kd.R_alloc | apply Kd.R_drewN | apply Kd.R_drew)); exact HO142.out), (by repeat (first | (with_reducible exact HR135.out) | (with_reducible refine Kd.C_alloc ?_ _) | (with_reducible refine Kd.C_drewN ?_ _) | (with_reducible refine Kd.C_drew ?_) | exact HR135.out)), (by repeat (first | (with_reducible exact HR139.out) | (with_reducible refine Kd.C_alloc ?_ _) | (with_reducible refine Kd.C_drewN ?_ _) | (with_reducible refine Kd.C_drew ?_) | exact HR139.out)), (by repeat (first | (with_reducible exact HR146.out) | (with_reducible refine Kd.C_alloc ?_ _) | (with_reducible refine Kd.C_drewN ?_ _) | (with_reducible refine Kd.C_drew ?_) | exact HR146.out)), (by repeat (first | (with_reducible first | exact HB.out | apply below_alloc | apply pw_below_drewN | apply below_drew1) | exact HB.out))⟩)
                                      · skip
                                        have hcv33 := own_string (P := Try.prog) Try.underlying31 Try.underlying5 Try.underlying9 (Kd.own_of_R HO142.out)
                                        refine value_ (w1 := ?_) (v := ?_) (by rfl) rfl ?_ ?_
                                        rotate_left 2
                                        · go_simp
                                          constructor
                                          · rfl
                                          · rfl
                                        clear hcv33
                                        refine hK.out _ _ trivial (fun hHeld => ?_)
                                        clear hK K
                                        refine norm_ (a' := ?_) ?_ ?_
                                        rotate_left
                                        · show Act.put _ (some 50) _ = _
                                          simp only [Act.put, List.setIfInBounds_toArray, List.set_cons_zero, List.set_cons_succ, i64_w, i32_w]
                                          rfl
                                        exact norm_ (by first | (simp only [putAll, Act.put, List.setIfInBounds_toArray, List.set_cons_zero, List.set_cons_succ]; done) | (simp only [putAll, Act.put, List.setIfInBounds_toArray, List.set_cons_zero, List.set_cons_succ]; rfl)) (hJ30_31 (v141) _ ⟨(by (with_reducible repeat (first | apply Kd.R_alloc | apply Kd.R_drewN | apply Kd.R_drew)); exact HO128.out), (by (with_reducible repeat (first | apply Kd.R_alloc | apply Kd.R_drewN | apply Kd.R_drew)); exact HO131.out), (by (with_reducible repeat (first | apply Kd.R_alloc | apply Kd.R_drewN | apply Kd.R_drew)); exact HO142.out), (by repeat (first | (with_reducible exact HR135.out) | (with_reducible refine Kd.C_alloc ?_ _) | (with_reducible refine Kd.C_drewN ?_ _) | (with_reducible refine Kd.C_drew ?_) | exact HR135.out)), (by repeat (first | (with_reducible exact HR139.out) | (with_reducible refine Kd.C_alloc ?_ _) | (with_reducible refine Kd.C_drewN ?_ _) | (with_reducible refine Kd.C_drew ?_) | exact HR139.out)), (by repeat (first | (with_reducible exact HR146.out) | (with_reducible refine Kd.C_alloc ?_ _) | (with_reducible refine Kd.C_drewN ?_ _) | (with_reducible refine Kd.C_drew ?_) | exact HR146.out)), (by repeat (first | (with_reducible first | exact HB.out | apply below_alloc | apply pw_below_drewN | apply below_drew1) | exact HB.out))⟩)
                                  · skip
                                    rintro _ w32 ⟨h0_, h1_, h2_, h3_, h4_, h5_⟩
                                    have n0_ : Aside0 (Kd.R (Kd.int .u8) 5 w32 w.heap.size (fun k_ => some k_ ≠ (.slice Ao30 t129.length co30 : Value).ownBlock) (.slice Ao25 t126.length co25) t126) := ⟨h0_⟩
                                    have n1_ : Aside0 (Kd.R (Kd.int .u8) 5 w32 w.heap.size (fun k_ => some k_ ≠ (.slice Ao25 t126.length co25 : Value).ownBlock) (.slice Ao30 t129.length co30) t129) := ⟨h1_⟩
                                    have n2_ : Aside0 (Kd.C (Kd.int .u8) w32 Ao25 y132.length y132) := ⟨h2_⟩
                                    have n3_ : Aside0 (Kd.C (Kd.int .u8) w32 A28 y136.length y136) := ⟨h3_⟩
                                    have n4_ : Aside0 (Kd.C (Kd.int .u8) w32 A29 y143.length y143) := ⟨h4_⟩
                                    have n5_ : Aside0 (Below w.heap.size w w32) := ⟨h5_⟩
                                    clear HO128
                                    clear HO131
                                    clear HB
                                    clear h0_ h1_ h2_ h3_ h4_ h5_
                                    have HO128 := n0_
                                    have HO131 := n1_
                                    have HR135 := n2_
                                    have HR139 := n3_
                                    have HR146 := n4_
                                    have HB := n5_
                                    clear n0_ n1_ n2_ n3_ n4_ n5_
                                    have hHeld := trivial
                                    refine norm_ (a' := ?_) ?_ ?_
                                    rotate_left
                                    · simp only [putAll, Act.put, List.setIfInBounds_toArray, List.set_cons_zero, List.set_cons_succ]
                                      rfl
                                    refine one_ (i := 30) (N := some 49) #[true, true, true, true, true, true, true, true, true, true, true, true, true, true, true, true, true, true, true, true, true, true, true, true, true, true, true, true, true, true, true, false, false, false, false, false, false, false, false, false, false, false, false, false, false, false, false] rfl rfl (one_of HT_.out (by kernel_rfl)) (by decide) (fun K hK => ?_)
                                    refine goes_ Try.func19 (by kernel_rfl) rfl #[.slice none 0 0, .int .u64 a1] (by rfl) rfl rfl (by (try simp only [List.map_toArray, List.map_cons, List.map_nil]); first | done | rfl | (simp only [List.length_drop, List.length_take]; rfl)) ?_
                                    refine (num_Put.calls k _ _ ([] : List Int) a1 t140 _ ?side1 ?side2 A14.out).mono ?_
                                    (case side1 => exact Kd.C_nil _ _)
                                    (case side2 => exact Nat.le_refl _)
                                    rintro e w33 ⟨v141, rfl, ho0, hb⟩
                                    refine ⟨_, rfl, ?_⟩
                                    have n0_ := Aside0.mk (Kd.R_elder' (by (with_reducible repeat (first | apply Kd.R_alloc | apply Kd.R_drewN | apply Kd.R_drew)); exact HO128.out) (Kd.R_base ho0) hb)
                                    have n1_ := Aside0.mk (Kd.R_elder' (by (with_reducible repeat (first | apply Kd.R_alloc | apply Kd.R_drewN | apply Kd.R_drew)); exact HO131.out) (Kd.R_base ho0) hb)
                                    have n2_ := Aside0.mk (Kd.R_lower (Kd.R_new' (Kd.R_new' ho0 (Kd.R_lt (by (with_reducible repeat (first | apply Kd.R_alloc | apply Kd.R_drewN | apply Kd.R_drew)); exact HO128.out))) (Kd.R_lt (by (with_reducible repeat (first | apply Kd.R_alloc | apply Kd.R_drewN | apply Kd.R_drew)); exact HO131.out))) (below_size (by repeat (first | (with_reducible first | exact HB.out | apply below_alloc | apply pw_below_drewN | apply below_drew1) | exact HB.out))))
                                    have n3_ := Aside0.mk (Kd.C_below (by repeat (first | (with_reducible exact HR135.out) | (with_reducible refine Kd.C_alloc ?_ _) | (with_reducible refine Kd.C_drewN ?_ _) | (with_reducible refine Kd.C_drew ?_) | exact HR135.out)) hb)
                                    have n4_ := Aside0.mk (Kd.C_below (by repeat (first | (with_reducible exact HR139.out) | (with_reducible refine Kd.C_alloc ?_ _) | (with_reducible refine Kd.C_drewN ?_ _) | (with_reducible refine Kd.C_drew ?_) | exact HR139.out)) hb)
                                    have n5_ := Aside0.mk (Kd.C_below (by repeat (first | (with_reducible exact HR146.out) | (with_reducible refine Kd.C_alloc ?_ _) | (with_reducible refine Kd.C_drewN ?_ _) | (with_reducible refine Kd.C_drew ?_) | exact HR146.out)) hb)
                                    have n6_ := Aside0.mk (below_step (by repeat (first | (with_reducible first | exact HB.out | apply below_alloc | apply pw_below_drewN | apply below_drew1) | exact HB.out)) hb)
                                    clear HO128
                                    clear HO131
                                    clear HR135
                                    clear HR139
                                    clear HR146
                                    clear HB
                                    have HO128 := n0_
                                    have HO131 := n1_
                                    have HO142 := n2_
                                    have HR135 := n3_
                                    have HR139 := n4_
                                    have HR146 := n5_
                                    have HB := n6_
                                    clear n0_ n1_ n2_ n3_ n4_ n5_ n6_
                                    (try clear hb)
                                    (try clear hb2)
                                    (try clear hk)
                                    (try clear hi)
                                    (try clear ho0)
                                    refine hK.out _ _ trivial (fun hHeld => ?_)
                                    clear hK K
                                    refine norm_ (a' := ?_) ?_ ?_
                                    rotate_left
                                    · show Act.put _ (some 49) _ = _
                                      simp only [Act.put, List.setIfInBounds_toArray, List.set_cons_zero, List.set_cons_succ, i64_w, i32_w]
                                      rfl
                                    exact norm_ (by first | (simp only [putAll, Act.put, List.setIfInBounds_toArray, List.set_cons_zero, List.set_cons_succ]; done) | (simp only [putAll, Act.put, List.setIfInBounds_toArray, List.set_cons_zero, List.set_cons_succ]; rfl)) (hJ28_30 (v141) _ ⟨(by (with_reducible repeat (first | apply Kd.R_alloc | apply Kd.R_drewN | apply Kd.R_drew)); exact HO128.out), (by (with_reducible repeat (first | apply Kd.R_alloc | apply Kd.R_drewN | apply Kd.R_drew)); exact HO131.out), (by (with_reducible repeat (first | apply Kd.R_alloc | apply Kd.R_drewN | apply Kd.R_drew)); exact Kd.R_mono HO142.out (fun _ hk => by first | exact ⟨hk.1.2, hk.2⟩ | exact ⟨hk.1, hk.2⟩)), (by repeat (first | (with_reducible exact HR135.out) | (with_reducible refine Kd.C_alloc ?_ _) | (with_reducible refine Kd.C_drewN ?_ _) | (with_reducible refine Kd.C_drew ?_) | exact HR135.out)), (by repeat (first | (with_reducible exact HR139.out) | (with_reducible refine Kd.C_alloc ?_ _) | (with_reducible refine Kd.C_drewN ?_ _) | (with_reducible refine Kd.C_drew ?_) | exact HR139.out)), (by repeat (first | (with_reducible exact HR146.out) | (with_reducible refine Kd.C_alloc ?_ _) | (with_reducible refine Kd.C_drewN ?_ _) | (with_reducible refine Kd.C_drew ?_) | exact HR146.out)), (by repeat (first | (with_reducible first | exact HB.out | apply below_alloc | apply pw_below_drewN | apply below_drew1) | exact HB.out))⟩)
                                · skip
                                  rintro v141 w33 ⟨h0_, h1_, h2_, h3_, h4_, h5_, h6_⟩
                                  have n0_ : Aside0 (Kd.R (Kd.int .u8) 5 w33 w.heap.size (fun k_ => some k_ ≠ (.slice Ao30 t129.length co30 : Value).ownBlock ∧ some k_ ≠ (v141 : Value).ownBlock) (.slice Ao25 t126.length co25) t126) := ⟨h0_⟩
                                  have n1_ : Aside0 (Kd.R (Kd.int .u8) 5 w33 w.heap.size (fun k_ => some k_ ≠ (.slice Ao25 t126.length co25 : Value).ownBlock ∧ some k_ ≠ (v141 : Value).ownBlock) (.slice Ao30 t129.length co30) t129) := ⟨h1_⟩
                                  have n2_ : Aside0 (Kd.R (Kd.int .u8) 5 w33 w.heap.size (fun k_ => some k_ ≠ (.slice Ao25 t126.length co25 : Value).ownBlock ∧ some k_ ≠ (.slice Ao30 t129.length co30 : Value).ownBlock) v141 t140) := ⟨h2_⟩
                                  have n3_ : Aside0 (Kd.C (Kd.int .u8) w33 Ao25 y132.length y132) := ⟨h3_⟩
                                  have n4_ : Aside0 (Kd.C (Kd.int .u8) w33 A28 y136.length y136) := ⟨h4_⟩
                                  have n5_ : Aside0 (Kd.C (Kd.int .u8) w33 A29 y143.length y143) := ⟨h5_⟩
                                  have n6_ : Aside0 (Below w.heap.size w w33) := ⟨h6_⟩
                                  clear HO128
                                  clear HO131
                                  clear HB
                                  clear h0_ h1_ h2_ h3_ h4_ h5_ h6_
                                  have HO128 := n0_
                                  have HO131 := n1_
                                  have HO142 := n2_
                                  have HR135 := n3_
                                  have HR139 := n4_
                                  have HR146 := n5_
                                  have HB := n6_
                                  clear n0_ n1_ n2_ n3_ n4_ n5_ n6_
                                  have hHeld := trivial
                                  refine norm_ (a' := ?_) ?_ ?_
                                  rotate_left
                                  · simp only [putAll, Act.put, List.setIfInBounds_toArray, List.set_cons_zero, List.set_cons_succ]
                                    rfl
                                  refine one_ (i := 28) (N := some 47) #[true, true, true, true, true, true, true, true, true, true, true, true, true, true, true, true, true, true, true, true, true, true, true, true, true, true, true, true, true, true, true, true, false, false, false, false, false, false, false, false, false, false, false, false, false, false, false] rfl rfl (one_of HT_.out (by kernel_rfl)) (by decide) (fun K hK => ?_)
                                  (have hcv34 := Kd.C_string (P := Try.prog) (A := A28) (c := c28) Try.underlying31 Try.underlying5 Try.underlying9 (by repeat (first | (with_reducible exact HR139.out) | (with_reducible refine Kd.C_alloc ?_ _) | (with_reducible refine Kd.C_drewN ?_ _) | (with_reducible refine Kd.C_drew ?_) | exact HR139.out)))
                                  refine value_ (w1 := ?_) (v := ?_) (by rfl) rfl ?_ ?_
                                  rotate_left 2
                                  · go_simp
                                    constructor
                                    · rfl
                                    · rfl
                                  clear hcv34
                                  refine hK.out _ _ trivial (fun hHeld => ?_)
                                  clear hK K
                                  refine norm_ (a' := ?_) ?_ ?_
                                  rotate_left
                                  · show Act.put _ (some 47) _ = _
                                    simp only [Act.put, List.setIfInBounds_toArray, List.set_cons_zero, List.set_cons_succ, i64_w, i32_w]
                                    rfl
                                  refine pure_ (i := 32) (N := some 51) (v := ?_) (a' := ?_) #[true, true, true, true, true, true, true, true, true, true, true, true, true, true, true, true, true, true, true, true, true, true, true, true, true, true, true, true, true, true, true, true, true, false, false, false, false, false, false, false, false, false, false, false, false, false, false] rfl rfl (any_of HT_.out (by kernel_rfl)) (fun _ _ _ h => h) (Or.inl ⟨by rfl, ?_⟩) ?_ ?_
                                  rotate_left
                                  · intro w'
                                    go_simp
                                    with_reducible rfl
                                  rotate_left
                                  · simp only [Act.put, List.setIfInBounds_toArray, List.set_cons_zero, List.set_cons_succ, i64_w, i32_w]
                                    rfl
                                  refine pure_ (i := 33) (N := some 52) (v := ?_) (a' := ?_) #[true, true, true, true, true, true, true, true, true, true, true, true, true, true, true, true, true, true, true, true, true, true, true, true, true, true, true, true, true, true, true, true, true, true, false, false, false, false, false, false, false, false, false, false, false, false, false] rfl rfl (any_of HT_.out (by kernel_rfl)) (fun _ _ _ h => h) (Or.inl ⟨by rfl, ?_⟩) ?_ ?_
                                  rotate_left
                                  · intro w'
                                    go_simp
                                    with_reducible rfl
                                  rotate_left
                                  · simp only [Act.put, List.setIfInBounds_toArray, List.set_cons_zero, List.set_cons_succ, i64_w, i32_w]
                                    rfl
                                  refine pure_ (i := 34) (N := some 53) (v := ?_) (a' := ?_) #[true, true, true, true, true, true, true, true, true, true, true, true, true, true, true, true, true, true, true, true, true, true, true, true, true, true, true, true, true, true, true, true, true, true, true, false, false, false, false, false, false, false, false, false, false, false, false] rfl rfl (any_of HT_.out (by kernel_rfl)) (fun _ _ _ h => h) (Or.inl ⟨by rfl, ?_⟩) ?_ ?_
                                  rotate_left
                                  · intro w'
                                    go_simp
                                    with_reducible rfl
                                  rotate_left
                                  · simp only [Act.put, List.setIfInBounds_toArray, List.set_cons_zero, List.set_cons_succ, i64_w, i32_w]
                                    rfl
                                  refine pure_ (i := 35) (N := some 54) (v := ?_) (a' := ?_) #[true, true, true, true, true, true, true, true, true, true, true, true, true, true, true, true, true, true, true, true, true, true, true, true, true, true, true, true, true, true, true, true, true, true, true, true, false, false, false, false, false, false, false, false, false, false, false] rfl rfl (any_of HT_.out (by kernel_rfl)) (fun _ _ _ h => h) (Or.inl ⟨by rfl, ?_⟩) ?_ ?_
                                  rotate_left
                                  · intro w'
                                    go_simp
                                    with_reducible rfl
                                  rotate_left
                                  · simp only [Act.put, List.setIfInBounds_toArray, List.set_cons_zero, List.set_cons_succ, i64_w, i32_w]
                                    rfl
                                  refine pure_ (i := 36) (N := some 55) (v := ?_) (a' := ?_) #[true, true, true, true, true, true, true, true, true, true, true, true, true, true, true, true, true, true, true, true, true, true, true, true, true, true, true, true, true, true, true, true, true, true, true, true, true, false, false, false, false, false, false, false, false, false, false] rfl rfl (any_of HT_.out (by kernel_rfl)) (fun _ _ _ h => h) (Or.inl ⟨by rfl, ?_⟩) ?_ ?_
                                  rotate_left
                                  · intro w'
                                    go_simp
                                    with_reducible rfl
                                  rotate_left
                                  · simp only [Act.put, List.setIfInBounds_toArray, List.set_cons_zero, List.set_cons_succ, i64_w, i32_w]
                                    rfl
                                  refine pure_ (i := 37) (N := some 56) (v := ?_) (a' := ?_) #[true, true, true, true, true, true, true, true, true, true, true, true, true, true, true, true, true, true, true, true, true, true, true, true, true, true, true, true, true, true, true, true, true, true, true, true, true, true, false, false, false, false, false, false, false, false, false] rfl rfl (any_of HT_.out (by kernel_rfl)) (fun _ _ _ h => h) (Or.inl ⟨by rfl, ?_⟩) ?_ ?_
                                  rotate_left
                                  · intro w'
                                    go_simp
                                    with_reducible rfl
                                  rotate_left
                                  · simp only [Act.put, List.setIfInBounds_toArray, List.set_cons_zero, List.set_cons_succ, i64_w, i32_w]
                                    rfl
                                  refine pure_ (i := 38) (N := some 57) (v := ?_) (a' := ?_) #[true, true, true, true, true, true, true, true, true, true, true, true, true, true, true, true, true, true, true, true, true, true, true, true, true, true, true, true, true, true, true, true, true, true, true, true, true, true, true, false, false, false, false, false, false, false, false] rfl rfl (any_of HT_.out (by kernel_rfl)) (fun _ _ _ h => h) (Or.inl ⟨by rfl, ?_⟩) ?_ ?_
                                  rotate_left
                                  · intro w'
                                    go_simp
                                    with_reducible rfl
                                  rotate_left
                                  · simp only [Act.put, List.setIfInBounds_toArray, List.set_cons_zero, List.set_cons_succ, i64_w, i32_w]
                                    rfl
                                  refine pure_ (i := 40) (N := some 59) (v := ?_) (a' := ?_) #[true, true, true, true, true, true, true, true, true, true, true, true, true, true, true, true, true, true, true, true, true, true, true, true, true, true, true, true, true, true, true, true, true, true, true, true, true, true, true, false, true, false, false, false, false, false, false] rfl rfl (any_of HT_.out (by kernel_rfl)) (fun _ _ _ h => h) (Or.inl ⟨by rfl, ?_⟩) ?_ ?_
                                  rotate_left
                                  · intro w'
                                    go_simp
                                    with_reducible rfl
                                  rotate_left
                                  · simp only [Act.put, List.setIfInBounds_toArray, List.set_cons_zero, List.set_cons_succ, i64_w, i32_w]
                                    rfl
                                  refine pure_ (i := 41) (N := some 60) (v := ?_) (a' := ?_) #[true, true, true, true, true, true, true, true, true, true, true, true, true, true, true, true, true, true, true, true, true, true, true, true, true, true, true, true, true, true, true, true, true, true, true, true, true, true, true, false, true, true, false, false, false, false, false] rfl rfl (any_of HT_.out (by kernel_rfl)) (fun _ _ _ h => h) (Or.inl ⟨by rfl, ?_⟩) ?_ ?_
                                  rotate_left
                                  · intro w'
                                    go_simp
                                    with_reducible rfl
                                  rotate_left
                                  · simp only [Act.put, List.setIfInBounds_toArray, List.set_cons_zero, List.set_cons_succ, i64_w, i32_w]
                                    rfl
                                  exact norm_ (by first | (simp only [putAll, Act.put, List.setIfInBounds_toArray, List.set_cons_zero, List.set_cons_succ]; done) | (simp only [putAll, Act.put, List.setIfInBounds_toArray, List.set_cons_zero, List.set_cons_succ]; rfl)) (hJ28_30_31 (v141) _ ⟨(by (with_reducible repeat (first | apply Kd.R_alloc | apply Kd.R_drewN | apply Kd.R_drew)); exact HO128.out), (by (with_reducible repeat (first | apply Kd.R_alloc | apply Kd.R_drewN | apply Kd.R_drew)); exact HO131.out), (by (with_reducible repeat (first | apply Kd.R_alloc | apply Kd.R_drewN | apply Kd.R_drew)); exact HO142.out), (by repeat (first | (with_reducible exact HR135.out) | (with_reducible refine Kd.C_alloc ?_ _) | (with_reducible refine Kd.C_drewN ?_ _) | (with_reducible refine Kd.C_drew ?_) | exact HR135.out)), (by repeat (first | (with_reducible exact HR139.out) | (with_reducible refine Kd.C_alloc ?_ _) | (with_reducible refine Kd.C_drewN ?_ _) | (with_reducible refine Kd.C_drew ?_) | exact HR139.out)), (by repeat (first | (with_reducible exact HR146.out) | (with_reducible refine Kd.C_alloc ?_ _) | (with_reducible refine Kd.C_drewN ?_ _) | (with_reducible refine Kd.C_drew ?_) | exact HR146.out)), (by repeat (first | (with_reducible first | exact HB.out | apply below_alloc | apply pw_below_drewN | apply below_drew1) | exact HB.out))⟩)
                              · skip
                                rintro v141 w33 ⟨h0_, h1_, h2_, h3_, h4_, h5_, h6_⟩
                                have n0_ : Aside0 (Kd.R (Kd.int .u8) 5 w33 w.heap.size (fun k_ => some k_ ≠ (.slice Ao30 t129.length co30 : Value).ownBlock ∧ some k_ ≠ (v141 : Value).ownBlock) (.slice Ao25 t126.length co25) t126) := ⟨h0_⟩
                                have n1_ : Aside0 (Kd.R (Kd.int .u8) 5 w33 w.heap.size (fun k_ => some k_ ≠ (.slice Ao25 t126.length co25 : Value).ownBlock ∧ some k_ ≠ (v141 : Value).ownBlock) (.slice Ao30 t129.length co30) t129) := ⟨h1_⟩
                                have n2_ : Aside0 (Kd.R (Kd.int .u8) 5 w33 w.heap.size (fun k_ => some k_ ≠ (.slice Ao25 t126.length co25 : Value).ownBlock ∧ some k_ ≠ (.slice Ao30 t129.length co30 : Value).ownBlock) v141 t140) := ⟨h2_⟩
                                have n3_ : Aside0 (Kd.C (Kd.int .u8) w33 Ao25 y132.length y132) := ⟨h3_⟩
                                have n4_ : Aside0 (Kd.C (Kd.int .u8) w33 A28 y136.length y136) := ⟨h4_⟩
                                have n5_ : Aside0 (Kd.C (Kd.int .u8) w33 A29 y143.length y143) := ⟨h5_⟩
                                have n6_ : Aside0 (Below w.heap.size w w33) := ⟨h6_⟩
                                clear HO128
                                clear HO131
                                clear HB
                                clear h0_ h1_ h2_ h3_ h4_ h5_ h6_
                                have HO128 := n0_
                                have HO131 := n1_
                                have HO142 := n2_
                                have HR135 := n3_
                                have HR139 := n4_
                                have HR146 := n5_
                                have HB := n6_
                                clear n0_ n1_ n2_ n3_ n4_ n5_ n6_
                                have hHeld := trivial
                                refine norm_ (a' := ?_) ?_ ?_
                                rotate_left
                                · simp only [putAll, Act.put, List.setIfInBounds_toArray, List.set_cons_zero, List.set_cons_succ]
                                  rfl
                                refine one_ (i := 31) (N := some 50) #[true, true, true, true, true, true, true, true, true, true, true, true, true, true, true, true, true, true, true, true, true, true, true, true, true, true, true, true, true, true, true, true, false, false, false, false, false, false, false, false, false, false, false, false, false, false, false] rfl rfl (one_of HT_.out (by kernel_rfl)) (by decide) (fun K hK => ?_)
                                have hcv34 := own_string (P := Try.prog) Try.underlying31 Try.underlying5 Try.underlying9 (Kd.own_of_R HO142.out)
                                refine value_ (w1 := ?_) (v := ?_) (by rfl) rfl ?_ ?_
                                rotate_left 2
                                · go_simp
                                  constructor
                                  · rfl
                                  · rfl
                                clear hcv34
                                refine hK.out _ _ trivial (fun hHeld => ?_)
                                clear hK K
                                refine norm_ (a' := ?_) ?_ ?_
                                rotate_left
                                · show Act.put _ (some 50) _ = _
                                  simp only [Act.put, List.setIfInBounds_toArray, List.set_cons_zero, List.set_cons_succ, i64_w, i32_w]
                                  rfl
                                refine pure_ (i := 32) (N := some 51) (v := ?_) (a' := ?_) #[true, true, true, true, true, true, true, true, true, true, true, true, true, true, true, true, true, true, true, true, true, true, true, true, true, true, true, true, true, true, true, true, true, false, false, false, false, false, false, false, false, false, false, false, false, false, false] rfl rfl (any_of HT_.out (by kernel_rfl)) (fun _ _ _ h => h) (Or.inl ⟨by rfl, ?_⟩) ?_ ?_
                                rotate_left
                                · intro w'
                                  go_simp
                                  with_reducible rfl
                                rotate_left
                                · simp only [Act.put, List.setIfInBounds_toArray, List.set_cons_zero, List.set_cons_succ, i64_w, i32_w]
                                  rfl
                                refine pure_ (i := 33) (N := some 52) (v := ?_) (a' := ?_) #[true, true, true, true, true, true, true, true, true, true, true, true, true, true, true, true, true, true, true, true, true, true, true, true, true, true, true, true, true, true, true, true, true, true, false, false, false, false, false, false, false, false, false, false, false, false, false] rfl rfl (any_of HT_.out (by kernel_rfl)) (fun _ _ _ h => h) (Or.inl ⟨by rfl, ?_⟩) ?_ ?_
                                rotate_left
                                · intro w'
                                  go_simp
                                  with_reducible rfl
                                rotate_left
                                · simp only [Act.put, List.setIfInBounds_toArray, List.set_cons_zero, List.set_cons_succ, i64_w, i32_w]
                                  rfl
                                refine pure_ (i := 34) (N := some 53) (v := ?_) (a' := ?_) #[true, true, true, true, true, true, true, true, true, true, true, true, true, true, true, true, true, true, true, true, true, true, true, true, true, true, true, true, true, true, true, true, true, true, true, false, false, false, false, false, false, false, false, false, false, false, false] rfl rfl (any_of HT_.out (by kernel_rfl)) (fun _ _ _ h => h) (Or.inl ⟨by rfl, ?_⟩) ?_ ?_
                                rotate_left
                                · intro w'
                                  go_simp
                                  with_reducible rfl
                                rotate_left
                                · simp only [Act.put, List.setIfInBounds_toArray, List.set_cons_zero, List.set_cons_succ, i64_w, i32_w]
                                  rfl
                                refine pure_ (i := 35) (N := some 54) (v := ?_) (a' := ?_) #[true, true, true, true, true, true, true, true, true, true, true, true, true, true, true, true, true, true, true, true, true, true, true, true, true, true, true, true, true, true, true, true, true, true, true, true, false, false, false, false, false, false, false, false, false, false, false] rfl rfl (any_of HT_.out (by kernel_rfl)) (fun _ _ _ h => h) (Or.inl ⟨by rfl, ?_⟩) ?_ ?_
                                rotate_left
                                · intro w'
                                  go_simp
                                  with_reducible rfl
                                rotate_left
                                · simp only [Act.put, List.setIfInBounds_toArray, List.set_cons_zero, List.set_cons_succ, i64_w, i32_w]
                                  rfl
                                refine pure_ (i := 36) (N := some 55) (v := ?_) (a' := ?_) #[true, true, true, true, true, true, true, true, true, true, true, true, true, true, true, true, true, true, true, true, true, true, true, true, true, true, true, true, true, true, true, true, true, true, true, true, true, false, false, false, false, false, false, false, false, false, false] rfl rfl (any_of HT_.out (by kernel_rfl)) (fun _ _ _ h => h) (Or.inl ⟨by rfl, ?_⟩) ?_ ?_
                                rotate_left
                                · intro w'
                                  go_simp
                                  with_reducible rfl
                                rotate_left
                                · simp only [Act.put, List.setIfInBounds_toArray, List.set_cons_zero, List.set_cons_succ, i64_w, i32_w]
                                  rfl
                                refine pure_ (i := 37) (N := some 56) (v := ?_) (a' := ?_) #[true, true, true, true, true, true, true, true, true, true, true, true, true, true, true, true, true, true, true, true, true, true, true, true, true, true, true, true, true, true, true, true, true, true, true, true, true, true, false, false, false, false, false, false, false, false, false] rfl rfl (any_of HT_.out (by kernel_rfl)) (fun _ _ _ h => h) (Or.inl ⟨by rfl, ?_⟩) ?_ ?_
                                rotate_left
                                · intro w'
                                  go_simp
                                  with_reducible rfl
                                rotate_left
                                · simp only [Act.put, List.setIfInBounds_toArray, List.set_cons_zero, List.set_cons_succ, i64_w, i32_w]
                                  rfl
                                refine pure_ (i := 38) (N := some 57) (v := ?_) (a' := ?_) #[true, true, true, true, true, true, true, true, true, true, true, true, true, true, true, true, true, true, true, true, true, true, true, true, true, true, true, true, true, true, true, true, true, true, true, true, true, true, true, false, false, false, false, false, false, false, false] rfl rfl (any_of HT_.out (by kernel_rfl)) (fun _ _ _ h => h) (Or.inl ⟨by rfl, ?_⟩) ?_ ?_
                                rotate_left
                                · intro w'
                                  go_simp
                                  with_reducible rfl
                                rotate_left
                                · simp only [Act.put, List.setIfInBounds_toArray, List.set_cons_zero, List.set_cons_succ, i64_w, i32_w]
                                  rfl
                                refine pure_ (i := 40) (N := some 59) (v := ?_) (a' := ?_) #[true, true, true, true, true, true, true, true, true, true, true, true, true, true, true, true, true, true, true, true, true, true, true, true, true, true, true, true, true, true, true, true, true, true, true, true, true, true, true, false, true, false, false, false, false, false, false] rfl rfl (any_of HT_.out (by kernel_rfl)) (fun _ _ _ h => h) (Or.inl ⟨by rfl, ?_⟩) ?_ ?_
                                rotate_left
                                · intro w'
                                  go_simp
                                  with_reducible rfl
                                rotate_left
                                · simp only [Act.put, List.setIfInBounds_toArray, List.set_cons_zero, List.set_cons_succ, i64_w, i32_w]
                                  rfl
                                refine pure_ (i := 41) (N := some 60) (v := ?_) (a' := ?_) #[true, true, true, true, true, true, true, true, true, true, true, true, true, true, true, true, true, true, true, true, true, true, true, true, true, true, true, true, true, true, true, true, true, true, true, true, true, true, true, false, true, true, false, false, false, false, false] rfl rfl (any_of HT_.out (by kernel_rfl)) (fun _ _ _ h => h) (Or.inl ⟨by rfl, ?_⟩) ?_ ?_
                                rotate_left
                                · intro w'
                                  go_simp
                                  with_reducible rfl
                                rotate_left
                                · simp only [Act.put, List.setIfInBounds_toArray, List.set_cons_zero, List.set_cons_succ, i64_w, i32_w]
                                  rfl
                                exact norm_ (by first | (simp only [putAll, Act.put, List.setIfInBounds_toArray, List.set_cons_zero, List.set_cons_succ]; done) | (simp only [putAll, Act.put, List.setIfInBounds_toArray, List.set_cons_zero, List.set_cons_succ]; rfl)) (hJ28_30_31 (v141) _ ⟨(by (with_reducible repeat (first | apply Kd.R_alloc | apply Kd.R_drewN | apply Kd.R_drew)); exact HO128.out), (by (with_reducible repeat (first | apply Kd.R_alloc | apply Kd.R_drewN | apply Kd.R_drew)); exact HO131.out), (by (with_reducible repeat (first | apply Kd.R_alloc | apply Kd.R_drewN | apply Kd.R_drew)); exact HO142.out), (by repeat (first | (with_reducible exact HR135.out) | (with_reducible refine Kd.C_alloc ?_ _) | (with_reducible refine Kd.C_drewN ?_ _) | (with_reducible refine Kd.C_drew ?_) | exact HR135.out)), (by repeat (first | (with_reducible exact HR139.out) | (with_reducible refine Kd.C_alloc ?_ _) | (with_reducible refine Kd.C_drewN ?_ _) | (with_reducible refine Kd.C_drew ?_) | exact HR139.out)), (by repeat (first | (with_reducible exact HR146.out) | (with_reducible refine Kd.C_alloc ?_ _) | (with_reducible refine Kd.C_drewN ?_ _) | (with_reducible refine Kd.C_drew ?_) | exact HR146.out)), (by repeat (first | (with_reducible first | exact HB.out | apply below_alloc | apply pw_below_drewN | apply below_drew1) | exact HB.out))⟩)
                            · skip
                              rintro v141 w34 ⟨h0_, h1_, h2_, h3_, h4_, h5_, h6_⟩
                              have n0_ : Aside0 (Kd.R (Kd.int .u8) 5 w34 w.heap.size (fun k_ => some k_ ≠ (.slice Ao30 t129.length co30 : Value).ownBlock ∧ some k_ ≠ (v141 : Value).ownBlock) (.slice Ao25 t126.length co25) t126) := ⟨h0_⟩
                              have n1_ : Aside0 (Kd.R (Kd.int .u8) 5 w34 w.heap.size (fun k_ => some k_ ≠ (.slice Ao25 t126.length co25 : Value).ownBlock ∧ some k_ ≠ (v141 : Value).ownBlock) (.slice Ao30 t129.length co30) t129) := ⟨h1_⟩
                              have n2_ : Aside0 (Kd.R (Kd.int .u8) 5 w34 w.heap.size (fun k_ => some k_ ≠ (.slice Ao25 t126.length co25 : Value).ownBlock ∧ some k_ ≠ (.slice Ao30 t129.length co30 : Value).ownBlock) v141 t140) := ⟨h2_⟩
                              have n3_ : Aside0 (Kd.C (Kd.int .u8) w34 Ao25 y132.length y132) := ⟨h3_⟩
                              have n4_ : Aside0 (Kd.C (Kd.int .u8) w34 A28 y136.length y136) := ⟨h4_⟩
                              have n5_ : Aside0 (Kd.C (Kd.int .u8) w34 A29 y143.length y143) := ⟨h5_⟩
                              have n6_ : Aside0 (Below w.heap.size w w34) := ⟨h6_⟩
                              clear HO128
                              clear HO131
                              clear HB
                              clear h0_ h1_ h2_ h3_ h4_ h5_ h6_
                              have HO128 := n0_
                              have HO131 := n1_
                              have HO142 := n2_
                              have HR135 := n3_
                              have HR139 := n4_
                              have HR146 := n5_
                              have HB := n6_
                              clear n0_ n1_ n2_ n3_ n4_ n5_ n6_
                              have hHeld := trivial
                              refine norm_ (a' := ?_) ?_ ?_
                              rotate_left
                              · simp only [putAll, Act.put, List.setIfInBounds_toArray, List.set_cons_zero, List.set_cons_succ]
                                rfl
                              refine two_ (i := 39) (j := 42) (Ni := some 58) (Nj := some 61) #[true, true, true, true, true, true, true, true, true, true, true, true, true, true, true, true, true, true, true, true, true, true, true, true, true, true, true, true, true, true, true, true, true, true, true, true, true, true, true, true, true, true, false, false, false, false, false] #[true, true, true, true, true, true, true, true, true, true, true, true, true, true, true, true, true, true, true, true, true, true, true, true, true, true, true, true, true, true, true, true, true, true, true, true, true, true, true, false, true, true, true, false, false, false, false] rfl rfl rfl rfl (two_of HT_.out (by kernel_rfl)) (by decide) (by decide) (fun K hK => ?_) (fun K hK => ?_)
                              · skip
                                (have hcv35 := Kd.C_string (P := Try.prog) (A := A29) (c := c29) Try.underlying31 Try.underlying5 Try.underlying9 (by repeat (first | (with_reducible exact HR146.out) | (with_reducible refine Kd.C_alloc ?_ _) | (with_reducible refine Kd.C_drewN ?_ _) | (with_reducible refine Kd.C_drew ?_) | exact HR146.out)))
                                refine value_ (w1 := ?_) (v := ?_) (by rfl) rfl ?_ ?_
                                rotate_left 2
                                · go_simp
                                  constructor
                                  · rfl
                                  · rfl
                                clear hcv35
                                refine hK.out _ _ trivial (fun hHeld => ?_)
                                clear hK K
                                refine norm_ (a' := ?_) ?_ ?_
                                rotate_left
                                · show Act.put _ (some 58) _ = _
                                  simp only [Act.put, List.setIfInBounds_toArray, List.set_cons_zero, List.set_cons_succ, i64_w, i32_w]
                                  rfl
                                exact norm_ (by first | (simp only [putAll, Act.put, List.setIfInBounds_toArray, List.set_cons_zero, List.set_cons_succ]; done) | (simp only [putAll, Act.put, List.setIfInBounds_toArray, List.set_cons_zero, List.set_cons_succ]; rfl)) (hJ28_30_31_39 (v141) _ ⟨(by (with_reducible repeat (first | apply Kd.R_alloc | apply Kd.R_drewN | apply Kd.R_drew)); exact HO128.out), (by (with_reducible repeat (first | apply Kd.R_alloc | apply Kd.R_drewN | apply Kd.R_drew)); exact HO131.out), (by (with_reducible repeat (first | apply Kd.R_alloc | apply Kd.R_drewN | apply Kd.R_drew)); exact HO142.out), (by repeat (first | (with_reducible exact HR135.out) | (with_reducible refine Kd.C_alloc ?_ _) | (with_reducible refine Kd.C_drewN ?_ _) | (with_reducible refine Kd.C_drew ?_) | exact HR135.out)), (by repeat (first | (with_reducible exact HR139.out) | (with_reducible refine Kd.C_alloc ?_ _) | (with_reducible refine Kd.C_drewN ?_ _) | (with_reducible refine Kd.C_drew ?_) | exact HR139.out)), (by repeat (first | (with_reducible exact HR146.out) | (with_reducible refine Kd.C_alloc ?_ _) | (with_reducible refine Kd.C_drewN ?_ _) | (with_reducible refine Kd.C_drew ?_) | exact HR146.out)), (by repeat (first | (with_reducible first | exact HB.out | apply below_alloc | apply pw_below_drewN | apply below_drew1) | exact HB.out))⟩)
                              · skip
                                refine goes_ Try.func19 (by kernel_rfl) rfl #[.slice none 0 0, .int .u64 (IntKind.u64.wrap (a1 + 1))] (by rfl) rfl rfl (by (try simp only [List.map_toArray, List.map_cons, List.map_nil]); first | done | rfl | (simp only [List.length_drop, List.length_take]; rfl)) ?_
                                refine (num_Put.calls k _ _ ([] : List Int) (IntKind.u64.wrap (a1 + 1)) t147 _ ?side1 ?side2 A18.out).mono ?_
                                (case side1 => exact Kd.C_nil _ _)
                                (case side2 => exact Nat.le_refl _)
                                rintro e w35 ⟨v148, rfl, ho0, hb⟩
                                refine ⟨_, rfl, ?_⟩
                                have n0_ := Aside0.mk (Kd.R_elder' (by (with_reducible repeat (first | apply Kd.R_alloc | apply Kd.R_drewN | apply Kd.R_drew)); exact HO128.out) (Kd.R_base ho0) hb)
                                have n1_ := Aside0.mk (Kd.R_elder' (by (with_reducible repeat (first | apply Kd.R_alloc | apply Kd.R_drewN | apply Kd.R_drew)); exact HO131.out) (Kd.R_base ho0) hb)
                                have n2_ := Aside0.mk (Kd.R_elder' (by (with_reducible repeat (first | apply Kd.R_alloc | apply Kd.R_drewN | apply Kd.R_drew)); exact HO142.out) (Kd.R_base ho0) hb)
                                have n3_ := Aside0.mk (Kd.R_lower (Kd.R_new' (Kd.R_new' (Kd.R_new' ho0 (Kd.R_lt (by (with_reducible repeat (first | apply Kd.R_alloc | apply Kd.R_drewN | apply Kd.R_drew)); exact HO128.out))) (Kd.R_lt (by (with_reducible repeat (first | apply Kd.R_alloc | apply Kd.R_drewN | apply Kd.R_drew)); exact HO131.out))) (Kd.R_lt (by (with_reducible repeat (first | apply Kd.R_alloc | apply Kd.R_drewN | apply Kd.R_drew)); exact HO142.out))) (below_size (by repeat (first | (with_reducible first | exact HB.out | apply below_alloc | apply pw_below_drewN | apply below_drew1) | exact HB.out))))
                                have n4_ := Aside0.mk (Kd.C_below (by repeat (first | (with_reducible exact HR135.out) | (with_reducible refine Kd.C_alloc ?_ _) | (with_reducible refine Kd.C_drewN ?_ _) | (with_reducible refine Kd.C_drew ?_) | exact HR135.out)) hb)
                                have n5_ := Aside0.mk (Kd.C_below (by repeat (first | (with_reducible exact HR139.out) | (with_reducible refine Kd.C_alloc ?_ _) | (with_reducible refine Kd.C_drewN ?_ _) | (with_reducible refine Kd.C_drew ?_) | exact HR139.out)) hb)
                                have n6_ := Aside0.mk (Kd.C_below (by repeat (first | (with_reducible exact HR146.out) | (with_reducible refine Kd.C_alloc ?_ _) | (with_reducible refine Kd.C_drewN ?_ _) | (with_reducible refine Kd.C_drew ?_) | exact HR146.out)) hb)
                                have n7_ := Aside0.mk (below_step (by repeat (first | (with_reducible first | exact HB.out | apply below_alloc | apply pw_below_drewN | apply below_drew1) | exact HB.out)) hb)
                                clear HO128
                                clear HO131
                                clear HO142
                                clear HR135
                                clear HR139
                                clear HR146
                                clear HB
                                have HO128 := n0_
                                have HO131 := n1_
                                have HO142 := n2_
                                have HO149 := n3_
                                have HR135 := n4_
                                have HR139 := n5_
                                have HR146 := n6_
                                have HB := n7_
                                clear n0_ n1_ n2_ n3_ n4_ n5_ n6_ n7_
                                (try clear hb)
                                (try clear hb2)
                                (try clear hk)
                                (try clear hi)
                                (try clear ho0)
                                refine hK.out _ _ trivial (fun hHeld => ?_)
                                clear hK K
                                refine norm_ (a' := ?_) ?_ ?_
                                rotate_left
                                · show Act.put _ (some 61) _ = _
                                  simp only [Act.put, List.setIfInBounds_toArray, List.set_cons_zero, List.set_cons_succ, i64_w, i32_w]
                                  rfl
                                exact norm_ (by first | (simp only [putAll, Act.put, List.setIfInBounds_toArray, List.set_cons_zero, List.set_cons_succ]; done) | (simp only [putAll, Act.put, List.setIfInBounds_toArray, List.set_cons_zero, List.set_cons_succ]; rfl)) (hJ28_30_31_42 (v141, v148) _ ⟨(by (with_reducible repeat (first | apply Kd.R_alloc | apply Kd.R_drewN | apply Kd.R_drew)); exact Kd.R_mono HO128.out (fun _ hk => ⟨hk.1.1, ⟨hk.1.2, hk.2⟩⟩)), (by (with_reducible repeat (first | apply Kd.R_alloc | apply Kd.R_drewN | apply Kd.R_drew)); exact Kd.R_mono HO131.out (fun _ hk => ⟨hk.1.1, ⟨hk.1.2, hk.2⟩⟩)), (by (with_reducible repeat (first | apply Kd.R_alloc | apply Kd.R_drewN | apply Kd.R_drew)); exact Kd.R_mono HO142.out (fun _ hk => ⟨hk.1.1, ⟨hk.1.2, hk.2⟩⟩)), (by (with_reducible repeat (first | apply Kd.R_alloc | apply Kd.R_drewN | apply Kd.R_drew)); exact Kd.R_mono HO149.out (fun _ hk => ⟨hk.1.1.2, ⟨hk.1.2, hk.2⟩⟩)), (by repeat (first | (with_reducible exact HR135.out) | (with_reducible refine Kd.C_alloc ?_ _) | (with_reducible refine Kd.C_drewN ?_ _) | (with_reducible refine Kd.C_drew ?_) | exact HR135.out)), (by repeat (first | (with_reducible exact HR139.out) | (with_reducible refine Kd.C_alloc ?_ _) | (with_reducible refine Kd.C_drewN ?_ _) | (with_reducible refine Kd.C_drew ?_) | exact HR139.out)), (by repeat (first | (with_reducible exact HR146.out) | (with_reducible refine Kd.C_alloc ?_ _) | (with_reducible refine Kd.C_drewN ?_ _) | (with_reducible refine Kd.C_drew ?_) | exact HR146.out)), (by repeat (first | (with_reducible first | exact HB.out | apply below_alloc | apply pw_below_drewN | apply below_drew1) | exact HB.out))⟩)
                          · skip
                            rintro ⟨v141, v148⟩ w35 ⟨h0_, h1_, h2_, h3_, h4_, h5_, h6_, h7_⟩
                            have n0_ : Aside0 (Kd.R (Kd.int .u8) 5 w35 w.heap.size (fun k_ => some k_ ≠ (.slice Ao30 t129.length co30 : Value).ownBlock ∧ some k_ ≠ (v141 : Value).ownBlock ∧ some k_ ≠ (v148 : Value).ownBlock) (.slice Ao25 t126.length co25) t126) := ⟨h0_⟩
                            have n1_ : Aside0 (Kd.R (Kd.int .u8) 5 w35 w.heap.size (fun k_ => some k_ ≠ (.slice Ao25 t126.length co25 : Value).ownBlock ∧ some k_ ≠ (v141 : Value).ownBlock ∧ some k_ ≠ (v148 : Value).ownBlock) (.slice Ao30 t129.length co30) t129) := ⟨h1_⟩
                            have n2_ : Aside0 (Kd.R (Kd.int .u8) 5 w35 w.heap.size (fun k_ => some k_ ≠ (.slice Ao25 t126.length co25 : Value).ownBlock ∧ some k_ ≠ (.slice Ao30 t129.length co30 : Value).ownBlock ∧ some k_ ≠ (v148 : Value).ownBlock) v141 t140) := ⟨h2_⟩
                            have n3_ : Aside0 (Kd.R (Kd.int .u8) 5 w35 w.heap.size (fun k_ => some k_ ≠ (.slice Ao25 t126.length co25 : Value).ownBlock ∧ some k_ ≠ (.slice Ao30 t129.length co30 : Value).ownBlock ∧ some k_ ≠ (v141 : Value).ownBlock) v148 t147) := ⟨h3_⟩
                            have n4_ : Aside0 (Kd.C (Kd.int .u8) w35 Ao25 y132.length y132) := ⟨h4_⟩
                            have n5_ : Aside0 (Kd.C (Kd.int .u8) w35 A28 y136.length y136) := ⟨h5_⟩
                            have n6_ : Aside0 (Kd.C (Kd.int .u8) w35 A29 y143.length y143) := ⟨h6_⟩
                            have n7_ : Aside0 (Below w.heap.size w w35) := ⟨h7_⟩
                            clear HO128
                            clear HO131
                            clear HB
                            clear h0_ h1_ h2_ h3_ h4_ h5_ h6_ h7_
                            have HO128 := n0_
                            have HO131 := n1_
                            have HO142 := n2_
                            have HO149 := n3_
                            have HR135 := n4_
                            have HR139 := n5_
                            have HR146 := n6_
                            have HB := n7_
                            clear n0_ n1_ n2_ n3_ n4_ n5_ n6_ n7_
                            have hHeld := trivial
                            refine norm_ (a' := ?_) ?_ ?_
                            rotate_left
                            · simp only [putAll, Act.put, List.setIfInBounds_toArray, List.set_cons_zero, List.set_cons_succ]
                              rfl
                            refine two_ (i := 39) (j := 43) (Ni := some 58) (Nj := some 62) #[true, true, true, true, true, true, true, true, true, true, true, true, true, true, true, true, true, true, true, true, true, true, true, true, true, true, true, true, true, true, true, true, true, true, true, true, true, true, true, true, true, true, true, false, false, false, false] #[true, true, true, true, true, true, true, true, true, true, true, true, true, true, true, true, true, true, true, true, true, true, true, true, true, true, true, true, true, true, true, true, true, true, true, true, true, true, true, false, true, true, true, true, false, false, false] rfl rfl rfl rfl (two_of HT_.out (by kernel_rfl)) (by decide) (by decide) (fun K hK => ?_) (fun K hK => ?_)
                            · skip
                              (have hcv36 := Kd.C_string (P := Try.prog) (A := A29) (c := c29) Try.underlying31 Try.underlying5 Try.underlying9 (by repeat (first | (with_reducible exact HR146.out) | (with_reducible refine Kd.C_alloc ?_ _) | (with_reducible refine Kd.C_drewN ?_ _) | (with_reducible refine Kd.C_drew ?_) | exact HR146.out)))
                              refine value_ (w1 := ?_) (v := ?_) (by rfl) rfl ?_ ?_
                              rotate_left 2
                              · go_simp
                                constructor
                                · rfl
                                · rfl
                              clear hcv36
                              refine hK.out _ _ trivial (fun hHeld => ?_)
                              clear hK K
                              refine norm_ (a' := ?_) ?_ ?_
                              rotate_left
                              · show Act.put _ (some 58) _ = _
                                simp only [Act.put, List.setIfInBounds_toArray, List.set_cons_zero, List.set_cons_succ, i64_w, i32_w]
                                rfl
                              exact norm_ (by first | (simp only [putAll, Act.put, List.setIfInBounds_toArray, List.set_cons_zero, List.set_cons_succ]; done) | (simp only [putAll, Act.put, List.setIfInBounds_toArray, List.set_cons_zero, List.set_cons_succ]; rfl)) (hJ28_30_31_39_42 (v141, v148) _ ⟨(by (with_reducible repeat (first | apply Kd.R_alloc | apply Kd.R_drewN | apply Kd.R_drew)); exact HO128.out), (by (with_reducible repeat (first | apply Kd.R_alloc | apply Kd.R_drewN | apply Kd.R_drew)); exact HO131.out), (by (with_reducible repeat (first | apply Kd.R_alloc | apply Kd.R_drewN | apply Kd.R_drew)); exact HO142.out), (by (with_reducible repeat (first | apply Kd.R_alloc | apply Kd.R_drewN | apply Kd.R_drew)); exact HO149.out), (by repeat (first | (with_reducible exact HR135.out) | (with_reducible refine Kd.C_alloc ?_ _) | (with_reducible refine Kd.C_drewN ?_ _) | (with_reducible refine Kd.C_drew ?_) | exact HR135.out)), (by repeat (first | (with_reducible exact HR139.out) | (with_reducible refine Kd.C_alloc ?_ _) | (with_reducible refine Kd.C_drewN ?_ _) | (with_reducible refine Kd.C_drew ?_) | exact HR139.out)), (by repeat (first | (with_reducible exact HR146.out) | (with_reducible refine Kd.C_alloc ?_ _) | (with_reducible refine Kd.C_drewN ?_ _) | (with_reducible refine Kd.C_drew ?_) | exact HR146.out)), (by repeat (first | (with_reducible first | exact HB.out | apply below_alloc | apply pw_below_drewN | apply below_drew1) | exact HB.out))⟩)
                            · skip
                              have hcv36 := own_string (P := Try.prog) Try.underlying31 Try.underlying5 Try.underlying9 (Kd.own_of_R HO149.out)
                              refine value_ (w1 := ?_) (v := ?_) (by rfl) rfl ?_ ?_
                              rotate_left 2
                              · go_simp
                                constructor
                                · rfl
                                · rfl
                              clear hcv36
                              refine hK.out _ _ trivial (fun hHeld => ?_)
                              clear hK K
                              refine norm_ (a' := ?_) ?_ ?_
                              rotate_left
                              · show Act.put _ (some 62) _ = _
                                simp only [Act.put, List.setIfInBounds_toArray, List.set_cons_zero, List.set_cons_succ, i64_w, i32_w]
                                rfl
                              exact norm_ (by first | (simp only [putAll, Act.put, List.setIfInBounds_toArray, List.set_cons_zero, List.set_cons_succ]; done) | (simp only [putAll, Act.put, List.setIfInBounds_toArray, List.set_cons_zero, List.set_cons_succ]; rfl)) (hJ28_30_31_42_43 (v141, v148) _ ⟨(by (with_reducible repeat (first | apply Kd.R_alloc | apply Kd.R_drewN | apply Kd.R_drew)); exact HO128.out), (by (with_reducible repeat (first | apply Kd.R_alloc | apply Kd.R_drewN | apply Kd.R_drew)); exact HO131.out), (by (with_reducible repeat (first | apply Kd.R_alloc | apply Kd.R_drewN | apply Kd.R_drew)); exact HO142.out), (by (with_reducible repeat (first | apply Kd.R_alloc | apply Kd.R_drewN | apply Kd.R_drew)); exact HO149.out), (by repeat (first | (with_reducible exact HR135.out) | (with_reducible refine Kd.C_alloc ?_ _) | (with_reducible refine Kd.C_drewN ?_ _) | (with_reducible refine Kd.C_drew ?_) | exact HR135.out)), (by repeat (first | (with_reducible exact HR139.out) | (with_reducible refine Kd.C_alloc ?_ _) | (with_reducible refine Kd.C_drewN ?_ _) | (with_reducible refine Kd.C_drew ?_) | exact HR139.out)), (by repeat (first | (with_reducible exact HR146.out) | (with_reducible refine Kd.C_alloc ?_ _) | (with_reducible refine Kd.C_drewN ?_ _) | (with_reducible refine Kd.C_drew ?_) | exact HR146.out)), (by repeat (first | (with_reducible first | exact HB.out | apply below_alloc | apply pw_below_drewN | apply below_drew1) | exact HB.out))⟩)
                        · skip
                          rintro v141 w35 ⟨h0_, h1_, h2_, h3_, h4_, h5_, h6_⟩
                          have n0_ : Aside0 (Kd.R (Kd.int .u8) 5 w35 w.heap.size (fun k_ => some k_ ≠ (.slice Ao30 t129.length co30 : Value).ownBlock ∧ some k_ ≠ (v141 : Value).ownBlock) (.slice Ao25 t126.length co25) t126) := ⟨h0_⟩
                          have n1_ : Aside0 (Kd.R (Kd.int .u8) 5 w35 w.heap.size (fun k_ => some k_ ≠ (.slice Ao25 t126.length co25 : Value).ownBlock ∧ some k_ ≠ (v141 : Value).ownBlock) (.slice Ao30 t129.length co30) t129) := ⟨h1_⟩
                          have n2_ : Aside0 (Kd.R (Kd.int .u8) 5 w35 w.heap.size (fun k_ => some k_ ≠ (.slice Ao25 t126.length co25 : Value).ownBlock ∧ some k_ ≠ (.slice Ao30 t129.length co30 : Value).ownBlock) v141 t140) := ⟨h2_⟩
                          have n3_ : Aside0 (Kd.C (Kd.int .u8) w35 Ao25 y132.length y132) := ⟨h3_⟩
                          have n4_ : Aside0 (Kd.C (Kd.int .u8) w35 A28 y136.length y136) := ⟨h4_⟩
                          have n5_ : Aside0 (Kd.C (Kd.int .u8) w35 A29 y143.length y143) := ⟨h5_⟩
                          have n6_ : Aside0 (Below w.heap.size w w35) := ⟨h6_⟩
                          clear HO128
                          clear HO131
                          clear HB
                          clear h0_ h1_ h2_ h3_ h4_ h5_ h6_
                          have HO128 := n0_
                          have HO131 := n1_
                          have HO142 := n2_
                          have HR135 := n3_
                          have HR139 := n4_
                          have HR146 := n5_
                          have HB := n6_
                          clear n0_ n1_ n2_ n3_ n4_ n5_ n6_
                          have hHeld := trivial
                          refine norm_ (a' := ?_) ?_ ?_
                          rotate_left
                          · simp only [putAll, Act.put, List.setIfInBounds_toArray, List.set_cons_zero, List.set_cons_succ]
                            rfl
                          refine one_ (i := 42) (N := some 61) #[true, true, true, true, true, true, true, true, true, true, true, true, true, true, true, true, true, true, true, true, true, true, true, true, true, true, true, true, true, true, true, true, true, true, true, true, true, true, true, true, true, true, true, false, false, false, false] rfl rfl (one_of HT_.out (by kernel_rfl)) (by decide) (fun K hK => ?_)
                          refine goes_ Try.func19 (by kernel_rfl) rfl #[.slice none 0 0, .int .u64 (IntKind.u64.wrap (a1 + 1))] (by rfl) rfl rfl (by (try simp only [List.map_toArray, List.map_cons, List.map_nil]); first | done | rfl | (simp only [List.length_drop, List.length_take]; rfl)) ?_
                          refine (num_Put.calls k _ _ ([] : List Int) (IntKind.u64.wrap (a1 + 1)) t147 _ ?side1 ?side2 A18.out).mono ?_
                          (case side1 => exact Kd.C_nil _ _)
                          (case side2 => exact Nat.le_refl _)
                          rintro e w36 ⟨v148, rfl, ho0, hb⟩
                          refine ⟨_, rfl, ?_⟩
                          have n0_ := Aside0.mk (Kd.R_elder' (by (with_reducible repeat (first | apply Kd.R_alloc | apply Kd.R_drewN | apply Kd.R_drew)); exact HO128.out) (Kd.R_base ho0) hb)
                          have n1_ := Aside0.mk (Kd.R_elder' (by (with_reducible repeat (first | apply Kd.R_alloc | apply Kd.R_drewN | apply Kd.R_drew)); exact HO131.out) (Kd.R_base ho0) hb)
                          have n2_ := Aside0.mk (Kd.R_elder' (by (with_reducible repeat (first | apply Kd.R_alloc | apply Kd.R_drewN | apply Kd.R_drew)); exact HO142.out) (Kd.R_base ho0) hb)
                          have n3_ := Aside0.mk (Kd.R_lower (Kd.R_new' (Kd.R_new' (Kd.R_new' ho0 (Kd.R_lt (by (with_reducible repeat (first | apply Kd.R_alloc | apply Kd.R_drewN | apply Kd.R_drew)); exact HO128.out))) (Kd.R_lt (by (with_reducible repeat (first | apply Kd.R_alloc | apply Kd.R_drewN | apply Kd.R_drew)); exact HO131.out))) (Kd.R_lt (by (with_reducible repeat (first | apply Kd.R_alloc | apply Kd.R_drewN | apply Kd.R_drew)); exact HO142.out))) (below_size (by repeat (first | (with_reducible first | exact HB.out | apply below_alloc | apply pw_below_drewN | apply below_drew1) | exact HB.out))))
                          have n4_ := Aside0.mk (Kd.C_below (by repeat (first | (with_reducible exact HR135.out) | (with_reducible refine Kd.C_alloc ?_ _) | (with_reducible refine Kd.C_drewN ?_ _) | (with_reducible refine Kd.C_drew ?_) | exact HR135.out)) hb)
                          have n5_ := Aside0.mk (Kd.C_below (by repeat (first | (with_reducible exact HR139.out) | (with_reducible refine Kd.C_alloc ?_ _) | (with_reducible refine Kd.C_drewN ?_ _) | (with_reducible refine Kd.C_drew ?_) | exact HR139.out)) hb)
                          have n6_ := Aside0.mk (Kd.C_below (by repeat (first | (with_reducible exact HR146.out) | (with_reducible refine Kd.C_alloc ?_ _) | (with_reducible refine Kd.C_drewN ?_ _) | (with_reducible refine Kd.C_drew ?_) | exact HR146.out)) hb)
                          have n7_ := Aside0.mk (below_step (by repeat (first | (with_reducible first | exact HB.out | apply below_alloc | apply pw_below_drewN | apply below_drew1) | exact HB.out)) hb)
                          clear HO128
                          clear HO131
                          clear HO142
                          clear HR135
                          clear HR139
                          clear HR146
                          clear HB
                          have HO128 := n0_
                          have HO131 := n1_
                          have HO142 := n2_
                          have HO149 := n3_
                          have HR135 := n4_
                          have HR139 := n5_
                          have HR146 := n6_
                          have HB := n7_
                          clear n0_ n1_ n2_ n3_ n4_ n5_ n6_ n7_
                          (try clear hb)
                          (try clear hb2)
                          (try clear hk)
                          (try clear hi)
                          (try clear ho0)
                          refine hK.out _ _ trivial (fun hHeld => ?_)
                          clear hK K
                          refine norm_ (a' := ?_) ?_ ?_
                          rotate_left
                          · show Act.put _ (some 61) _ = _
                            simp only [Act.put, List.setIfInBounds_toArray, List.set_cons_zero, List.set_cons_succ, i64_w, i32_w]
                            rfl
                          exact norm_ (by first | (simp only [putAll, Act.put, List.setIfInBounds_toArray, List.set_cons_zero, List.set_cons_succ]; done) | (simp only [putAll, Act.put, List.setIfInBounds_toArray, List.set_cons_zero, List.set_cons_succ]; rfl)) (hJ28_30_31_39_42 (v141, v148) _ ⟨(by (with_reducible repeat (first | apply Kd.R_alloc | apply Kd.R_drewN | apply Kd.R_drew)); exact Kd.R_mono HO128.out (fun _ hk => ⟨hk.1.1, ⟨hk.1.2, hk.2⟩⟩)), (by (with_reducible repeat (first | apply Kd.R_alloc | apply Kd.R_drewN | apply Kd.R_drew)); exact Kd.R_mono HO131.out (fun _ hk => ⟨hk.1.1, ⟨hk.1.2, hk.2⟩⟩)), (by (with_reducible repeat (first | apply Kd.R_alloc | apply Kd.R_drewN | apply Kd.R_drew)); exact Kd.R_mono HO142.out (fun _ hk => ⟨hk.1.1, ⟨hk.1.2, hk.2⟩⟩)), (by (with_reducible repeat (first | apply Kd.R_alloc | apply Kd.R_drewN | apply Kd.R_drew)); exact Kd.R_mono HO149.out (fun _ hk => ⟨hk.1.1.2, ⟨hk.1.2, hk.2⟩⟩)), (by repeat (first | (with_reducible exact HR135.out) | (with_reducible refine Kd.C_alloc ?_ _) | (with_reducible refine Kd.C_drewN ?_ _) | (with_reducible refine Kd.C_drew ?_) | exact HR135.out)), (by repeat (first | (with_reducible exact HR139.out) | (with_reducible refine Kd.C_alloc ?_ _) | (with_reducible refine Kd.C_drewN ?_ _) | (with_reducible refine Kd.C_drew ?_) | exact HR139.out)), (by repeat (first | (with_reducible exact HR146.out) | (with_reducible refine Kd.C_alloc ?_ _) | (with_reducible refine Kd.C_drewN ?_ _) | (with_reducible refine Kd.C_drew ?_) | exact HR146.out)), (by repeat (first | (with_reducible first | exact HB.out | apply below_alloc | apply pw_below_drewN | apply below_drew1) | exact HB.out))⟩)
                      · skip
                        rintro ⟨v141, v148⟩ w36 ⟨h0_, h1_, h2_, h3_, h4_, h5_, h6_, h7_⟩
                        have n0_ : Aside0 (Kd.R (Kd.int .u8) 5 w36 w.heap.size (fun k_ => some k_ ≠ (.slice Ao30 t129.length co30 : Value).ownBlock ∧ some k_ ≠ (v141 : Value).ownBlock ∧ some k_ ≠ (v148 : Value).ownBlock) (.slice Ao25 t126.length co25) t126) := ⟨h0_⟩
                        have n1_ : Aside0 (Kd.R (Kd.int .u8) 5 w36 w.heap.size (fun k_ => some k_ ≠ (.slice Ao25 t126.length co25 : Value).ownBlock ∧ some k_ ≠ (v141 : Value).ownBlock ∧ some k_ ≠ (v148 : Value).ownBlock) (.slice Ao30 t129.length co30) t129) := ⟨h1_⟩
                        have n2_ : Aside0 (Kd.R (Kd.int .u8) 5 w36 w.heap.size (fun k_ => some k_ ≠ (.slice Ao25 t126.length co25 : Value).ownBlock ∧ some k_ ≠ (.slice Ao30 t129.length co30 : Value).ownBlock ∧ some k_ ≠ (v148 : Value).ownBlock) v141 t140) := ⟨h2_⟩
                        have n3_ : Aside0 (Kd.R (Kd.int .u8) 5 w36 w.heap.size (fun k_ => some k_ ≠ (.slice Ao25 t126.length co25 : Value).ownBlock ∧ some k_ ≠ (.slice Ao30 t129.length co30 : Value).ownBlock ∧ some k_ ≠ (v141 : Value).ownBlock) v148 t147) := ⟨h3_⟩
                        have n4_ : Aside0 (Kd.C (Kd.int .u8) w36 Ao25 y132.length y132) := ⟨h4_⟩
                        have n5_ : Aside0 (Kd.C (Kd.int .u8) w36 A28 y136.length y136) := ⟨h5_⟩
                        have n6_ : Aside0 (Kd.C (Kd.int .u8) w36 A29 y143.length y143) := ⟨h6_⟩
                        have n7_ : Aside0 (Below w.heap.size w w36) := ⟨h7_⟩
                        clear HO128
                        clear HO131
                        clear HB
                        clear h0_ h1_ h2_ h3_ h4_ h5_ h6_ h7_
                        have HO128 := n0_
                        have HO131 := n1_
                        have HO142 := n2_
                        have HO149 := n3_
                        have HR135 := n4_
                        have HR139 := n5_
                        have HR146 := n6_
                        have HB := n7_
                        clear n0_ n1_ n2_ n3_ n4_ n5_ n6_ n7_
                        have hHeld := trivial
                        refine norm_ (a' := ?_) ?_ ?_
                        rotate_left
                        · simp only [putAll, Act.put, List.setIfInBounds_toArray, List.set_cons_zero, List.set_cons_succ]
                          rfl
                        refine one_ (i := 39) (N := some 58) #[true, true, true, true, true, true, true, true, true, true, true, true, true, true, true, true, true, true, true, true, true, true, true, true, true, true, true, true, true, true, true, true, true, true, true, true, true, true, true, true, true, true, true, true, false, false, false] rfl rfl (one_of HT_.out (by kernel_rfl)) (by decide) (fun K hK => ?_)
                        (have hcv37 := Kd.C_string (P := Try.prog) (A := A29) (c := c29) Try.underlying31 Try.underlying5 Try.underlying9 (by repeat (first | (with_reducible exact HR146.out) | (with_reducible refine Kd.C_alloc ?_ _) | (with_reducible refine Kd.C_drewN ?_ _) | (with_reducible refine Kd.C_drew ?_) | exact HR146.out)))
                        refine value_ (w1 := ?_) (v := ?_) (by rfl) rfl ?_ ?_
                        rotate_left 2
                        · go_simp
                          constructor
                          · rfl
                          · rfl
                        clear hcv37
                        refine hK.out _ _ trivial (fun hHeld => ?_)
                        clear hK K
                        refine norm_ (a' := ?_) ?_ ?_
                        rotate_left
                        · show Act.put _ (some 58) _ = _
                          simp only [Act.put, List.setIfInBounds_toArray, List.set_cons_zero, List.set_cons_succ, i64_w, i32_w]
                          rfl
                        exact norm_ (by first | (simp only [putAll, Act.put, List.setIfInBounds_toArray, List.set_cons_zero, List.set_cons_succ]; done) | (simp only [putAll, Act.put, List.setIfInBounds_toArray, List.set_cons_zero, List.set_cons_succ]; rfl)) (hJ28_30_31_39_42_43 (v141, v148) _ ⟨(by (with_reducible repeat (first | apply Kd.R_alloc | apply Kd.R_drewN | apply Kd.R_drew)); exact HO128.out), (by (with_reducible repeat (first | apply Kd.R_alloc | apply Kd.R_drewN | apply Kd.R_drew)); exact HO131.out), (by (with_reducible repeat (first | apply Kd.R_alloc | apply Kd.R_drewN | apply Kd.R_drew)); exact HO142.out), (by (with_reducible repeat (first | apply Kd.R_alloc | apply Kd.R_drewN | apply Kd.R_drew)); exact HO149.out), (by repeat (first | (with_reducible exact HR135.out) | (with_reducible refine Kd.C_alloc ?_ _) | (with_reducible refine Kd.C_drewN ?_ _) | (with_reducible refine Kd.C_drew ?_) | exact HR135.out)), (by repeat (first | (with_reducible exact HR139.out) | (with_reducible refine Kd.C_alloc ?_ _) | (with_reducible refine Kd.C_drewN ?_ _) | (with_reducible refine Kd.C_drew ?_) | exact HR139.out)), (by repeat (first | (with_reducible exact HR146.out) | (with_reducible refine Kd.C_alloc ?_ _) | (with_reducible refine Kd.C_drewN ?_ _) | (with_reducible refine Kd.C_drew ?_) | exact HR146.out)), (by repeat (first | (with_reducible first | exact HB.out | apply below_alloc | apply pw_below_drewN | apply below_drew1) | exact HB.out))⟩)
                    · skip
                      rintro ⟨v141, v148⟩ w36 ⟨h0_, h1_, h2_, h3_, h4_, h5_, h6_, h7_⟩
                      have n0_ : Aside0 (Kd.R (Kd.int .u8) 5 w36 w.heap.size (fun k_ => some k_ ≠ (.slice Ao30 t129.length co30 : Value).ownBlock ∧ some k_ ≠ (v141 : Value).ownBlock ∧ some k_ ≠ (v148 : Value).ownBlock) (.slice Ao25 t126.length co25) t126) := ⟨h0_⟩
                      have n1_ : Aside0 (Kd.R (Kd.int .u8) 5 w36 w.heap.size (fun k_ => some k_ ≠ (.slice Ao25 t126.length co25 : Value).ownBlock ∧ some k_ ≠ (v141 : Value).ownBlock ∧ some k_ ≠ (v148 : Value).ownBlock) (.slice Ao30 t129.length co30) t129) := ⟨h1_⟩
                      have n2_ : Aside0 (Kd.R (Kd.int .u8) 5 w36 w.heap.size (fun k_ => some k_ ≠ (.slice Ao25 t126.length co25 : Value).ownBlock ∧ some k_ ≠ (.slice Ao30 t129.length co30 : Value).ownBlock ∧ some k_ ≠ (v148 : Value).ownBlock) v141 t140) := ⟨h2_⟩
                      have n3_ : Aside0 (Kd.R (Kd.int .u8) 5 w36 w.heap.size (fun k_ => some k_ ≠ (.slice Ao25 t126.length co25 : Value).ownBlock ∧ some k_ ≠ (.slice Ao30 t129.length co30 : Value).ownBlock ∧ some k_ ≠ (v141 : Value).ownBlock) v148 t147) := ⟨h3_⟩
                      have n4_ : Aside0 (Kd.C (Kd.int .u8) w36 Ao25 y132.length y132) := ⟨h4_⟩
                      have n5_ : Aside0 (Kd.C (Kd.int .u8) w36 A28 y136.length y136) := ⟨h5_⟩
                      have n6_ : Aside0 (Kd.C (Kd.int .u8) w36 A29 y143.length y143) := ⟨h6_⟩
                      have n7_ : Aside0 (Below w.heap.size w w36) := ⟨h7_⟩
                      clear HO128
                      clear HO131
                      clear HB
                      clear h0_ h1_ h2_ h3_ h4_ h5_ h6_ h7_
                      have HO128 := n0_
                      have HO131 := n1_
                      have HO142 := n2_
                      have HO149 := n3_
                      have HR135 := n4_
                      have HR139 := n5_
                      have HR146 := n6_
                      have HB := n7_
                      clear n0_ n1_ n2_ n3_ n4_ n5_ n6_ n7_
                      have hHeld := trivial
                      refine norm_ (a' := ?_) ?_ ?_
                      rotate_left
                      · simp only [putAll, Act.put, List.setIfInBounds_toArray, List.set_cons_zero, List.set_cons_succ]
                        rfl
                      refine one_ (i := 43) (N := some 62) #[true, true, true, true, true, true, true, true, true, true, true, true, true, true, true, true, true, true, true, true, true, true, true, true, true, true, true, true, true, true, true, true, true, true, true, true, true, true, true, true, true, true, true, true, false, false, false] rfl rfl (one_of HT_.out (by kernel_rfl)) (by decide) (fun K hK => ?_)
                      have hcv37 := own_string (P := Try.prog) Try.underlying31 Try.underlying5 Try.underlying9 (Kd.own_of_R HO149.out)
                      refine value_ (w1 := ?_) (v := ?_) (by rfl) rfl ?_ ?_
                      rotate_left 2
                      · go_simp
                        constructor
                        · rfl
                        · rfl
                      clear hcv37
                      refine hK.out _ _ trivial (fun hHeld => ?_)
                      clear hK K
                      refine norm_ (a' := ?_) ?_ ?_
                      rotate_left
                      · show Act.put _ (some 62) _ = _
                        simp only [Act.put, List.setIfInBounds_toArray, List.set_cons_zero, List.set_cons_succ, i64_w, i32_w]
                        rfl
                      exact norm_ (by first | (simp only [putAll, Act.put, List.setIfInBounds_toArray, List.set_cons_zero, List.set_cons_succ]; done) | (simp only [putAll, Act.put, List.setIfInBounds_toArray, List.set_cons_zero, List.set_cons_succ]; rfl)) (hJ28_30_31_39_42_43 (v141, v148) _ ⟨(by (with_reducible repeat (first | apply Kd.R_alloc | apply Kd.R_drewN | apply Kd.R_drew)); exact HO128.out), (by (with_reducible repeat (first | apply Kd.R_alloc | apply Kd.R_drewN | apply Kd.R_drew)); exact HO131.out), (by (with_reducible repeat (first | apply Kd.R_alloc | apply Kd.R_drewN | apply Kd.R_drew)); exact HO142.out), (by (with_reducible repeat (first | apply Kd.R_alloc | apply Kd.R_drewN | apply Kd.R_drew)); exact HO149.out), (by repeat (first | (with_reducible exact HR135.out) | (with_reducible refine Kd.C_alloc ?_ _) | (with_reducible refine Kd.C_drewN ?_ _) | (with_reducible refine Kd.C_drew ?_) | exact HR135.out)), (by repeat (first | (with_reducible exact HR139.out) | (with_reducible refine Kd.C_alloc ?_ _) | (with_reducible refine Kd.C_drewN ?_ _) | (with_reducible refine Kd.C_drew ?_) | exact HR139.out)), (by repeat (first | (with_reducible exact HR146.out) | (with_reducible refine Kd.C_alloc ?_ _) | (with_reducible refine Kd.C_drewN ?_ _) | (with_reducible refine Kd.C_drew ?_) | exact HR146.out)), (by repeat (first | (with_reducible first | exact HB.out | apply below_alloc | apply pw_below_drewN | apply below_drew1) | exact HB.out))⟩)
                  rintro ⟨v141, v148⟩ w37 ⟨h0_, h1_, h2_, h3_, h4_, h5_, h6_, h7_⟩
                  have n0_ : Aside0 (Kd.R (Kd.int .u8) 5 w37 w.heap.size (fun k_ => some k_ ≠ (.slice Ao30 t129.length co30 : Value).ownBlock ∧ some k_ ≠ (v141 : Value).ownBlock ∧ some k_ ≠ (v148 : Value).ownBlock) (.slice Ao25 t126.length co25) t126) := ⟨h0_⟩
                  have n1_ : Aside0 (Kd.R (Kd.int .u8) 5 w37 w.heap.size (fun k_ => some k_ ≠ (.slice Ao25 t126.length co25 : Value).ownBlock ∧ some k_ ≠ (v141 : Value).ownBlock ∧ some k_ ≠ (v148 : Value).ownBlock) (.slice Ao30 t129.length co30) t129) := ⟨h1_⟩
                  have n2_ : Aside0 (Kd.R (Kd.int .u8) 5 w37 w.heap.size (fun k_ => some k_ ≠ (.slice Ao25 t126.length co25 : Value).ownBlock ∧ some k_ ≠ (.slice Ao30 t129.length co30 : Value).ownBlock ∧ some k_ ≠ (v148 : Value).ownBlock) v141 t140) := ⟨h2_⟩
                  have n3_ : Aside0 (Kd.R (Kd.int .u8) 5 w37 w.heap.size (fun k_ => some k_ ≠ (.slice Ao25 t126.length co25 : Value).ownBlock ∧ some k_ ≠ (.slice Ao30 t129.length co30 : Value).ownBlock ∧ some k_ ≠ (v141 : Value).ownBlock) v148 t147) := ⟨h3_⟩
                  have n4_ : Aside0 (Kd.C (Kd.int .u8) w37 Ao25 y132.length y132) := ⟨h4_⟩
                  have n5_ : Aside0 (Kd.C (Kd.int .u8) w37 A28 y136.length y136) := ⟨h5_⟩
                  have n6_ : Aside0 (Kd.C (Kd.int .u8) w37 A29 y143.length y143) := ⟨h6_⟩
                  have n7_ : Aside0 (Below w.heap.size w w37) := ⟨h7_⟩
                  clear HO128
                  clear HO131
                  clear HB
                  clear h0_ h1_ h2_ h3_ h4_ h5_ h6_ h7_
                  have HO128 := n0_
                  have HO131 := n1_
                  have HO142 := n2_
                  have HO149 := n3_
                  have HR135 := n4_
                  have HR139 := n5_
                  have HR146 := n6_
                  have HB := n7_
                  clear n0_ n1_ n2_ n3_ n4_ n5_ n6_ n7_
                  have hHeld := trivial
                  refine norm_ (a' := ?_) ?_ ?_
                  rotate_left
                  · simp only [putAll, Act.put, List.setIfInBounds_toArray, List.set_cons_zero, List.set_cons_succ]
                    rfl
                  refine pure_ (i := 44) (N := some 63) (v := ?_) (a' := ?_) #[true, true, true, true, true, true, true, true, true, true, true, true, true, true, true, true, true, true, true, true, true, true, true, true, true, true, true, true, true, true, true, true, true, true, true, true, true, true, true, true, true, true, true, true, true, false, false] rfl rfl (any_of HT_.out (by kernel_rfl)) (fun _ _ _ h => h) (Or.inl ⟨by rfl, ?_⟩) ?_ ?_
                  rotate_left
                  · intro w'
                    go_simp
                    with_reducible rfl
                  rotate_left
                  · simp only [Act.put, List.setIfInBounds_toArray, List.set_cons_zero, List.set_cons_succ, i64_w, i32_w]
                    rfl
                  refine pure_ (i := 45) (N := some 64) (v := ?_) (a' := ?_) #[true, true, true, true, true, true, true, true, true, true, true, true, true, true, true, true, true, true, true, true, true, true, true, true, true, true, true, true, true, true, true, true, true, true, true, true, true, true, true, true, true, true, true, true, true, true, false] rfl rfl (any_of HT_.out (by kernel_rfl)) (fun _ _ _ h => h) (Or.inl ⟨by rfl, ?_⟩) ?_ ?_
                  rotate_left
                  · intro w'
                    go_simp
                    with_reducible rfl
                  rotate_left
                  · simp only [Act.put, List.setIfInBounds_toArray, List.set_cons_zero, List.set_cons_succ, i64_w, i32_w]
                    rfl
                  refine pure_ (i := 46) (N := some 4) (v := ?_) (a' := ?_) #[true, true, true, true, true, true, true, true, true, true, true, true, true, true, true, true, true, true, true, true, true, true, true, true, true, true, true, true, true, true, true, true, true, true, true, true, true, true, true, true, true, true, true, true, true, true, true] rfl rfl (any_of HT_.out (by kernel_rfl)) (fun _ _ _ h => h) (Or.inl ⟨by rfl, ?_⟩) ?_ ?_
                  rotate_left
                  · intro w'
                    go_simp
                    with_reducible rfl
                  rotate_left
                  · simp only [Act.put, List.setIfInBounds_toArray, List.set_cons_zero, List.set_cons_succ, i64_w, i32_w]
                    rfl
                  refine done_ (done_of HT_.out (by kernel_rfl)) ?_
                  try go_wp2
                  go_ret
                  exact ⟨by first | rfl | (simp [errW_none, errW_some] <;> rfl) | (simp [*, errW_none, errW_some] <;> rfl), by repeat (first | (with_reducible first | exact HB.out | apply below_alloc | apply pw_below_drewN | apply below_drew1) | exact HB.out)⟩
                · rw [if_neg c17] at H
                  exact absurd H (by simp)
              · rw [if_neg c15] at H
                have c15b0 : ((strOfNums y136).toList == (strOfNums t140).toList) = false := beq_eq_false_iff_ne.mpr c15
                have c15b1 : ((strOfNums y136).toList != (strOfNums t140).toList) = true := bne_iff_ne.mpr c15
                exact absurd H (by simp)
            · rw [if_neg c11] at H
              have c11b0 : ((strOfNums y132).toList == (strOfNums l0).toList) = false := beq_eq_false_iff_ne.mpr c11
              have c11b1 : ((strOfNums y132).toList != (strOfNums l0).toList) = true := bne_iff_ne.mpr c11
              exact absurd H (by simp)
          · rw [if_neg c10] at H
            exact absurd H (by simp)
        · rw [if_neg c9] at H
          exact absurd H (by simp)
      · rw [if_neg c8] at H
        have c8b0 : decide ((l0.length : Int) < (t126.length : Int)) = false := decide_eq_false c8
        have c8b1 : decide (l0.length < t126.length) = false := decide_eq_false (fun h => c8 (Int.ofNat_lt.mpr h))
        clear c8
        exact absurd H (by simp)
    · rw [if_neg c7] at H
      have c7b0 : ((strOfNums l0).toList == (strOfNums l0).toList) = false := beq_eq_false_iff_ne.mpr c7
      have c7b1 : ((strOfNums l0).toList != (strOfNums l0).toList) = true := bne_iff_ne.mpr c7
      exact absurd H (by simp)
  · replace c6 := Bool.eq_false_iff.mpr c6
    subst c6
    have H1 : (none) = some r := by rw [if_neg (show ¬ (false = true) by decide)] at H; exact H
    clear H
    have H := H1
    clear H1
    exact absurd H (by simp)

/-- THE ONE PURE STATEMENT of manteletlaw01_NumBehind: yours. -/
def manteletlaw01_NumBehind.Pure : Prop := ∀ (l0 : List Int) (a1 : Int), l0.length ≤ maxLen → l0.length * 1 ≤ 140737488351232 → (∀ x ∈ l0, (Lit.int .u8 x).wf = true) → (Lit.int .u64 a1).wf = true → ∃ k, manteletlaw01_NumBehind.f k l0 a1 = some true
theorem manteletlaw01_NumBehind.walk (P : manteletlaw01_NumBehind.Pure) (a0 : Option Addr) (len0 cap0 : Nat) (z0 : List Int) (a1 : Int) (w : World) (w0 : (a0 = none ∧ len0 = 0 ∧ cap0 = 0 ∧ z0 = []) ∨ ∃ x, a0 = some x ∧ len0 ≤ cap0 ∧ cap0 ≤ maxLen ∧ z0.length = cap0 ∧ (∀ i, i < z0.length → w.cell? (x.add i) = some (.int .u8 (z0.getD i 0))) ∧ ∀ n ∈ z0, (Lit.int .u8 n).wf = true) (y0 : len0 * 1 ≤ 140737488351232) (w1 : (Lit.int .u64 a1).wf = true) :
    Calls Try.prog 10 #[.slice a0 len0 cap0, .int .u64 a1] w fun e w' => e = .returned (.bool true) ∧ Below w.heap.size w w' := by
  obtain ⟨l0, rfl, hr0, hm0, hw0, hc0⟩ := ReadsInt.ofRowC w0
  obtain ⟨k, h⟩ := P l0 a1 hm0 y0 hw0 w1
  refine (manteletlaw01_NumBehind.calls k _ _ l0 a1 true w (Kd.C_of_reads (d := (0 : Int)) (h1 := fun _ => rfl) hr0) hc0 h).mono ?_
  rintro e w' ⟨rfl, hd⟩
  exact ⟨rfl, hd⟩

end Go.Proofs.Ytlndbodbhbcgcaa.PNb
