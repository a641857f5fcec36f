/- Contracts of Go functions: called with what reads as these lists and numbers, a function returns what its plain Lean function says, and leaves what was there. Written by a program of this session. -/
import Derived.Test.YtmfngihgoanhpaaPRunx0
import Derived.Test.YtmfngihgoanhpaaPRunx9
namespace Go.Proofs.Ytmfngihgoanhpaa.PRun
open Go.RowKit Go.Proofs.YtmfngihgoanhpaaW.PrintWords Go.Proofs.YtmfngihgoanhpaaW.PrintLast Go.Proofs.YtmfngihgoanhpaaW.PrintMore
attribute [local go_sem] max2_int min2_int max_two min_two max_three min_three max_four min_four   -- for this text's walks alone
attribute [local go_sem] Go.Proofs.Ytmfngihgoanhpaa.MoreWords.str_leq Go.Proofs.Ytmfngihgoanhpaa.MoreWords.str_gtr Go.Proofs.Ytmfngihgoanhpaa.MoreWords.str_geq
set_option linter.unusedVariables false
set_option linter.unusedSimpArgs false

/-! ### manteletref03_Scan: function 18 -/
def manteletref03_Scan.l0 : Nat → List Int → List Int → Int → Int → Int → List (List Int) → Option ((List (List Int)) × Int)
  | 0, _, _, _, _, _, _ => none
  | k + 1, x0, x4, x5, x6, x7, x8 => if x6 = 0 then (if x8.length < 5864062014805 then (if 0 ≤ (wrap64 (x7 + x5)) then (if (wrap64 (x7 + x5)) ≤ (x0.length : Int) then ((manteletref03_Get.f k (x0.drop ((wrap64 (x7 + x5)) : Int).toNat)).bind fun bt344 => (manteletref03_Scan.l0 k x0 bt344.1 bt344.2.1 bt344.2.2 (wrap64 (x7 + x5)) (x8 ++ [x4]))) else (none)) else (none)) else (none)) else (some (x8, x7))
def manteletref03_Scan.f (k : Nat) (l0 : List Int) : Option ((List (List Int)) × Int) := (manteletref03_Get.f k l0).bind fun bt335 => (manteletref03_Scan.l0 k l0 bt335.1 bt335.2.1 bt335.2.2 0 ([] : List (List Int)))
theorem manteletref03_Scan.mono_l : ∀ k, (∀ y0 y1 y2 y3 y4 y5, LeO (manteletref03_Scan.l0 k y0 y1 y2 y3 y4 y5) (manteletref03_Scan.l0 (k + 1) y0 y1 y2 y3 y4 y5))
  | 0 => fun _ _ _ _ _ _ r h => by simp [manteletref03_Scan.l0] at h
  | k + 1 => by
    have ih0 := manteletref03_Scan.mono_l k
    · intro y0 y1 y2 y3 y4 y5
      unfold manteletref03_Scan.l0
      repeat' first
      | (with_reducible exact ih0 _ _ _ _ _ _)
      | (with_reducible exact manteletref03_Get.mono _ _)
      | (with_reducible exact LeO.refl _)
      | (with_reducible exact LeO.none _)
      | (with_reducible refine LeO.ite ?_ ?_)
      | (with_reducible refine LeO.bind ?_ (fun _ => ?_))
      | exact ih0 _ _ _ _ _ _
      | exact manteletref03_Get.mono _ _
      | exact LeO.none _
      | refine LeO.ite ?_ ?_
      | refine LeO.bind ?_ (fun _ => ?_)
theorem manteletref03_Scan.mono : ∀ a0 k, LeO (manteletref03_Scan.f k a0) (manteletref03_Scan.f (k + 1) a0) := by
  intro a0 k
  have ih0 := manteletref03_Scan.mono_l k
  unfold manteletref03_Scan.f
  repeat' first
      | (with_reducible exact ih0 _ _ _ _ _ _)
      | (with_reducible exact manteletref03_Get.mono _ _)
      | (with_reducible exact LeO.refl _)
      | (with_reducible exact LeO.none _)
      | (with_reducible refine LeO.ite ?_ ?_)
      | (with_reducible refine LeO.bind ?_ (fun _ => ?_))
      | exact ih0 _ _ _ _ _ _
      | exact manteletref03_Get.mono _ _
      | exact LeO.none _
      | refine LeO.ite ?_ ?_
      | refine LeO.bind ?_ (fun _ => ?_)
set_option maxHeartbeats 8000000 in
set_option maxRecDepth 100000 in
theorem manteletref03_Scan.calls (k : Nat) (A0 : Option Addr) (c0 : Nat) (l0 : List Int) (r1 : List (List Int)) (r2 : Int) (w : World) (hr0 : Kd.C (Kd.int .u8) w A0 l0.length l0) (hc0 : l0.length ≤ c0) (h : manteletref03_Scan.f k l0 = some (r1, r2)) :
    Calls Try.prog 18 #[.slice A0 l0.length c0] w fun e w' => ∃ v0_ : Value, e = .returned (.tuple #[v0_, .int .i64 r2]) ∧ Kd.S (Kd.slice 5 (Kd.int .u8)) 23 w' w.heap.size (fun _ => True) v0_ r1 ∧ Below w.heap.size w w' := by
  have HR0 := Aside0.mk hr0
  have HC0 := Aside0.mk hc0
  clear hr0 hc0
  have HB := Aside0.mk (Below.refl w.heap.size w)
  have H : ((manteletref03_Get.f k l0).bind fun bt335 => (manteletref03_Scan.l0 k l0 bt335.1 bt335.2.1 bt335.2.2 0 ([] : List (List Int)))) = some (r1, r2) := h
  clear h
  replace H := Option.bind_eq_some_iff.mp H
  obtain ⟨⟨t335, t336, t337⟩, A20, H⟩ := H
  replace H : (manteletref03_Scan.l0 k l0 t335 t336 t337 0 ([] : List (List Int))) = some (r1, r2) := H
  have A2 := Aside0.mk A20
  clear A20
  have H' := Aside0.mk H
  clear H
  go_enter Try.func18, Try.ntmps18
  go_wp2_with (first | ((with_reducible refine gate_callee (f := 35) rfl ?_); refine goesL_ (some 11) rfl rfl Try.func35 (by kernel_rfl) rfl #[.slice A0 l0.length c0] rfl (by (try simp only [List.map_toArray, List.map_cons, List.map_nil]); first | done | rfl | (simp only [List.length_drop, List.length_take]; rfl)) ?_; (with_reducible refine (manteletref03_Get.calls k _ _ l0 t335 t336 t337 _ ?side1 ?side2 A2.out).mono ?_); (case side1 => repeat (first | exact HR0.out | (with_reducible refine Kd.C_alloc ?_ _) | (with_reducible refine Kd.C_drewN ?_ _) | (with_reducible refine Kd.C_drew ?_))); (case side2 => exact HC0.out); rintro e w3 ⟨v338, rfl, ho0, hb⟩; refine ⟨_, rfl, ?_⟩; have n0_ := Aside0.mk (Kd.R_lower ho0 (below_size (by repeat (first | (with_reducible first | exact HB.out | apply below_alloc | apply pw_below_drewN | apply below_drew1) | exact HB.out)))); have n1_ := Aside0.mk (below_step (by repeat (first | (with_reducible first | exact HB.out | apply below_alloc | apply pw_below_drewN | apply below_drew1) | exact HB.out)) hb); clear HB; have HO339 := n0_; have HB := n1_; clear n0_ n1_; (try clear hb); (try clear hb2); (try clear hk); (try clear hi); (try clear ho0)))
  go_loopg [4, 5, 6, 7, 8] k (fun kq v4 v5 v6 v7 v8 w' => ∃ (x4_1 : List Int) (x5_1 : Int) (x6_1 : Int) (x7_1 : Int) (x8_1 : List (List Int)), v5 = .int .i64 x5_1 ∧ v6 = .int .i64 x6_1 ∧ v7 = .int .i64 x7_1 ∧ Aside0 (manteletref03_Scan.l0 kq l0 x4_1 x5_1 x6_1 x7_1 x8_1 = some (r1, r2)) ∧ Aside0 (kq ≤ k) ∧ Aside0 (Kd.R (Kd.int .u8) 5 w' w.heap.size (fun _ => True) v4 x4_1) ∧ Aside0 (Kd.S (Kd.slice 5 (Kd.int .u8)) 23 w' w.heap.size (fun k_ => some k_ ≠ (v4 : Value).ownBlock) v8 x8_1) ∧ Aside0 (Below w.heap.size w w'))
  case atStart => exact ⟨(t335), (t336), (t337), (0), (([] : List (List Int))), (by first | rfl | (simp; done) | (simp [*]; done)), (by first | rfl | (simp; done) | (simp [*]; done)), (by first | rfl | (simp; done) | (simp [*]; done)), H', ⟨Nat.le_refl _⟩, ⟨by (with_reducible repeat (first | apply Kd.R_alloc | apply Kd.R_drewN | apply Kd.R_drew)); exact HO339.out⟩, ⟨by first | exact Kd.S_nil _ _ _ _ _ | exact Kd.N_nil _ _ _ _ _ | exact Kd.V_nil _ _ _ _ _ | exact Kd.Q_nil _ _ _ _ _ | exact Kd.R_nil _ _ _ _ _⟩, ⟨by repeat (first | (with_reducible first | exact HB.out | apply below_alloc | apply pw_below_drewN | apply below_drew1) | exact HB.out)⟩⟩
  case round =>
    clear H'
    try clear c1
    try clear p2
    try clear c3
    obtain ⟨x4_1, x5_1, x6_1, x7_1, x8_1, rfl, rfl, rfl, HA, HK1, HO_4, HO_8, HB⟩ := hrel
    cases gk with
    | zero => exact absurd HA.out (by simp [manteletref03_Scan.l0])
    | succ k1 =>
      have H := HA.out
      clear HA
      simp only [manteletref03_Scan.l0] at H
      by_cases c4 : x6_1 = 0
      · rw [if_pos c4] at H
        have c4b0 : (x6_1 == 0) = true := beq_iff_eq.mpr c4
        have c4b1 : (x6_1 != 0) = false := bne_eq_false_iff_eq.mpr c4
        clear c4
        by_cases c5 : x8_1.length < 5864062014805
        · rw [if_pos c5] at H
          have LMc5 := Aside0.mk c5
          clear c5
          obtain ⟨y340, hy340⟩ : ∃ y_ : List (List Int), y_ = (x8_1 ++ [x4_1]) := ⟨_, rfl⟩
          replace H : (if 0 ≤ (wrap64 (x7_1 + x5_1)) then (if (wrap64 (x7_1 + x5_1)) ≤ (l0.length : Int) then ((manteletref03_Get.f k1 (l0.drop ((wrap64 (x7_1 + x5_1)) : Int).toNat)).bind fun bt344 => (manteletref03_Scan.l0 k1 l0 bt344.1 bt344.2.1 bt344.2.2 (wrap64 (x7_1 + x5_1)) y340)) else (none)) else (none)) = some (r1, r2) := by first | (rw [hy340]; with_reducible exact H) | (have H2_ := (Option.bind_some _ _).symm.trans H; rw [hy340]; with_reducible exact H2_) | (have H2_ := (Option.bind_some _ _).symm.trans H; with_reducible exact H2_) | with_reducible exact H | (rw [hy340]; exact H) | exact H
          have Ny340 := Aside0.mk hy340
          clear hy340
          obtain ⟨ji6, hji6⟩ : ∃ j_ : Int, (wrap64 (x7_1 + x5_1)) = j_ := ⟨_, rfl⟩
          (try rw [hji6] at LMc5)
          replace H : (if 0 ≤ (ji6) then (if (ji6) ≤ (l0.length : Int) then ((manteletref03_Get.f k1 (l0.drop ((ji6) : Int).toNat)).bind fun bt344 => (manteletref03_Scan.l0 k1 l0 bt344.1 bt344.2.1 bt344.2.2 ji6 y340)) else (none)) else (none)) = some (r1, r2) := by first | (rw [hji6] at H; exact H) | (simp only [hji6] at H ⊢; exact H)
          have hji6w : (IntKind.i64.wrap (x7_1 + x5_1)) = ji6 := (i64_w _).trans hji6
          by_cases c7 : 0 ≤ (ji6)
          · rw [if_pos c7] at H
            have c7b0 := eq_true c7
            have c7b1 : decide (0 ≤ (ji6)) = true := decide_eq_true c7
            clear c7
            by_cases c8 : (ji6) ≤ (l0.length : Int)
            · rw [if_pos c8] at H
              have c8b0 := eq_true c8
              have c8b1 : decide ((ji6) ≤ (l0.length : Int)) = true := decide_eq_true c8
              clear c8
              replace H := Option.bind_eq_some_iff.mp H
              obtain ⟨⟨t344, t345, t346⟩, A90, H⟩ := H
              replace H : (manteletref03_Scan.l0 k1 l0 t344 t345 t346 ji6 y340) = some (r1, r2) := H
              have A9 := Aside0.mk A90
              clear A90
              have H' := Aside0.mk H
              clear H
              obtain ⟨Ao11, co11, eo11⟩ := Kd.R_slice HO_4.out
              subst eo11
              go_wp2_with (first | ((with_reducible refine gate_builtin (b := .append) (xs := #[.tmp 17, .tmp 19]) rfl ?_); at_builtin; refine Kd.S_append (Kd.slice 5 (Kd.int .u8)) (w0 := w) w.heap.size rfl (.tmp 17) (.tmp 19) 46 23 (.slice none 0 0) 24 rfl Try.underlying46 info23 rfl (by decide) (by omega) u8 x8_1 x4_1 [.slice Ao11 x4_1.length co11] (fun _ => True) (fun k_ => some k_ = (.slice Ao11 x4_1.length co11 : Value).ownBlock) rfl rfl ?aP (fun k_ hk_ => ((Kd.R_mono (ok' := fun k_ => ((fun _ => True)) k_ ∧ some k_ ≠ (u8 : Value).ownBlock) (Kd.R_apart' (HO_4.out) (Kd.S_typed HO_8.out) (by decide)) (fun k_ hk => ⟨trivial, hk.2⟩))).1 k_ hk_.symm) ?aF ?aO ?aB ?aS ?aL ?_; (case aP => exact Kd.M_row (Kd.R_mono (Kd.R_tight rfl (Kd.R_mono (ok' := fun k_ => ((fun _ => True)) k_ ∧ some k_ ≠ (u8 : Value).ownBlock) (Kd.R_apart' (HO_4.out) (Kd.S_typed HO_8.out) (by decide)) (fun k_ hk => ⟨trivial, hk.2⟩))) (fun _ h_ => h_))); (case aB => exact (by repeat (first | (with_reducible first | exact HB.out | apply below_alloc | apply pw_below_drewN | apply below_drew1) | exact HB.out))); (case aF => exact (fun _ _ => trivial)); (case aO => exact (by (with_reducible repeat (first | apply Kd.S_alloc | apply Kd.S_drewN | apply Kd.S_drew)); exact Kd.S_mono HO_8.out (fun k_ hk => ⟨trivial, fun e_ => hk e_⟩))); (case aS => exact (below_size (by repeat (first | (with_reducible first | exact HB.out | apply below_alloc | apply pw_below_drewN | apply below_drew1) | exact HB.out)))); (case aL => have := LMc5.out; omega); intro v341 w10 ho hb hg hat; rw [← Ny340.out] at ho; have n0_ := Aside0.mk (hb); have n1_ := Aside0.mk (ho); clear HB; clear HO_8; clear HO_4; have HB := n0_; have HO342 := n1_; clear n0_ n1_; clear ho hb hg hat; obtain ⟨i012, hi012, _, hsz12, _⟩ := info_parts info5; obtain ⟨A12, hcut12, hA12, hC12⟩ := print_drop_of (P := Try.prog) (Value.int .u8) 0 23 5 .i64 Try.underlying23 hi012 hsz12 A0 c0 l0 (ji6) (of_decide_eq_true (by first | (with_reducible assumption) | assumption)) (of_decide_eq_true (by first | (with_reducible assumption) | assumption)) HC0.out; have HR343 := Aside0.mk (Kd.C_of_reads (h1 := fun _ => rfl) (hA12 _ (Kd.reads_of_C HR0.out))); have HC343 := Aside0.mk hC12; clear hA12 hC12 hi012 hsz12) | ((with_reducible refine gate_callee (f := 35) rfl ?_); refine goesL_ (some 28) rfl rfl Try.func35 (by kernel_rfl) rfl #[.slice A12 (l0.drop ((ji6) : Int).toNat).length (c0 - (ji6).toNat)] rfl (by (try simp only [List.map_toArray, List.map_cons, List.map_nil]); first | done | (rw [show (l0.drop ((ji6) : Int).toNat).length = (l0.length - (ji6).toNat) from List.length_drop] <;> rfl) | (simp only [hji6]; rfl) | rfl | (simp only [List.length_drop, List.length_take]; rfl)) ?_; (with_reducible refine (manteletref03_Get.calls k1 _ _ (l0.drop ((ji6) : Int).toNat) t344 t345 t346 _ ?side1 ?side2 A9.out).mono ?_); (case side1 => repeat (first | exact (Kd.C_below HR343.out HB.out) | (with_reducible refine Kd.C_alloc ?_ _) | (with_reducible refine Kd.C_drewN ?_ _) | (with_reducible refine Kd.C_drew ?_))); (case side2 => exact HC343.out); rintro e w13 ⟨v347, rfl, ho0, hb⟩; refine ⟨_, rfl, ?_⟩; have n0_ := Aside0.mk (Kd.S_elder' (by (with_reducible repeat (first | apply Kd.S_alloc | apply Kd.S_drewN | apply Kd.S_drew)); exact HO342.out) (Kd.R_base ho0) hb); have n1_ := Aside0.mk (Kd.R_lower ho0 (below_size (by repeat (first | (with_reducible first | exact HB.out | apply below_alloc | apply pw_below_drewN | apply below_drew1) | exact HB.out)))); have n2_ := Aside0.mk (below_step (by repeat (first | (with_reducible first | exact HB.out | apply below_alloc | apply pw_below_drewN | apply below_drew1) | exact HB.out)) hb); clear HO342; clear HB; have HO342 := n0_; have HO348 := n1_; have HB := n2_; clear n0_ n1_ n2_; (try clear hb); (try clear hb2); (try clear hk); (try clear hi); (try clear ho0)))
              go_roundg k1
              case measure => have := HK1.out; omega
              case rel => exact ⟨(t344), (t345), (t346), (ji6), (y340), (by first | rfl | (simp; done) | (simp [*]; done)), (by first | rfl | (simp; done) | (simp [*]; done)), (by first | rfl | (simp; done) | (simp only [← hji6] <;> (first | rfl | simp)) | (simp [*]; done)), H', ⟨by have := HK1.out; omega⟩, ⟨by (with_reducible repeat (first | apply Kd.R_alloc | apply Kd.R_drewN | apply Kd.R_drew)); exact HO348.out⟩, ⟨by (with_reducible repeat (first | apply Kd.S_alloc | apply Kd.S_drewN | apply Kd.S_drew)); exact Kd.S_mono HO342.out (fun _ hk => hk.2)⟩, ⟨by repeat (first | (with_reducible first | exact HB.out | apply below_alloc | apply pw_below_drewN | apply below_drew1) | exact HB.out)⟩⟩
            · rw [if_neg c8] at H
              exact absurd H (by simp)
          · rw [if_neg c7] at H
            exact absurd H (by simp)
        · rw [if_neg c5] at H
          exact absurd H (by simp)
      · rw [if_neg c4] at H
        have c4b0 : (x6_1 == 0) = false := beq_eq_false_iff_ne.mpr c4
        have c4b1 : (x6_1 != 0) = true := bne_iff_ne.mpr c4
        simp only [Option.some.injEq, Prod.mk.injEq] at H
        obtain ⟨rfl, rfl⟩ := H
        go_wp2
        go_ret2
        exact ⟨_, by first | rfl | (simp [errW_none, errW_some] <;> rfl) | (simp [*, errW_none, errW_some] <;> rfl), by (with_reducible repeat (first | apply Kd.S_alloc | apply Kd.S_drewN | apply Kd.S_drew)); exact Kd.S_mono HO_8.out (fun _ hk => trivial), by repeat (first | (with_reducible first | exact HB.out | apply below_alloc | apply pw_below_drewN | apply below_drew1) | exact HB.out)⟩

/-! ### manteletref09_take: function 31 -/
mutual
def manteletref09_take.j0 : Nat → ByteArray → List Int → Int → Int → Bool → Option (ByteArray × Int × Int)
  | 0, _, _, _, _, _ => none
  | k + 1, x0, x1, x6, x7, x31 => if x31 = true then (some ((⟨#[]⟩ : ByteArray), 0, 0)) else (if 0 ≤ x7 then (if x7 ≤ (x1.length : Int) then ((manteletref01_Get.f k (x1.drop (x7 : Int).toNat)).bind fun bt354 => (if bt354.2.2 = 0 then (manteletref09_take.j1 k x0 x1 x6 bt354.1 (wrap64 (x7 + bt354.2.1)) (decide (bt354.1 > (IntKind.u64.wrap (wrap64 ((x1.length : Int) - (wrap64 (x7 + bt354.2.1)))))))) else (manteletref09_take.j1 k x0 x1 x6 bt354.1 (wrap64 (x7 + bt354.2.1)) true))) else (none)) else (none))
def manteletref09_take.j1 : Nat → ByteArray → List Int → Int → Int → Int → Bool → Option (ByteArray × Int × Int)
  | 0, _, _, _, _, _, _ => none
  | k + 1, x0, x1, x6, x9, x12, x54 => if x54 = true then (some ((⟨#[]⟩ : ByteArray), 0, 0)) else (if 0 ≤ x6 then (if x6 ≤ (x0.size : Int) then (if 0 ≤ x12 then (if x12 ≤ (wrap64 (x12 + (wrap64 (x9)))) then (if (wrap64 (x12 + (wrap64 (x9)))) ≤ (x1.length : Int) then (if (x0.extract 0 (x6 : Int).toNat).size + (strOfNums ((x1.take ((wrap64 (x12 + (wrap64 (x9)))) : Int).toNat).drop (x12 : Int).toNat)).size ≤ 9223372036854775807 then (if 0 ≤ (wrap64 (x12 + (wrap64 (x9)))) then ((manteletref01_Get.f k (x1.drop ((wrap64 (x12 + (wrap64 (x9)))) : Int).toNat)).bind fun bt359 => (if bt359.2.2 = 0 then (some ((x0.extract 0 (x6 : Int).toNat) ++ (strOfNums ((x1.take ((wrap64 (x12 + (wrap64 (x9)))) : Int).toNat).drop (x12 : Int).toNat)), bt359.1, wrap64 ((wrap64 (x12 + (wrap64 (x9)))) + bt359.2.1))) else (some ((⟨#[]⟩ : ByteArray), 0, 0)))) else (none)) else (none)) else (none)) else (none)) else (none)) else (none)) else (none))
end
def manteletref09_take.f (k : Nat) (a0 : ByteArray) (l1 : List Int) : Option (ByteArray × Int × Int) := (manteletref01_Get.f k l1).bind fun bt350 => (if bt350.2.2 = 0 then (manteletref09_take.j0 k a0 l1 bt350.1 bt350.2.1 (decide (bt350.1 > (IntKind.u64.wrap ((a0.size : Int)))))) else (manteletref09_take.j0 k a0 l1 bt350.1 bt350.2.1 true))
theorem manteletref09_take.mono_l : ∀ k, (∀ y0 y1 y2 y3 y4, LeO (manteletref09_take.j0 k y0 y1 y2 y3 y4) (manteletref09_take.j0 (k + 1) y0 y1 y2 y3 y4)) ∧ (∀ y0 y1 y2 y3 y4 y5, LeO (manteletref09_take.j1 k y0 y1 y2 y3 y4 y5) (manteletref09_take.j1 (k + 1) y0 y1 y2 y3 y4 y5))
  | 0 => ⟨fun _ _ _ _ _ r h => by simp [manteletref09_take.j0] at h, fun _ _ _ _ _ _ r h => by simp [manteletref09_take.j1] at h⟩
  | k + 1 => by
    obtain ⟨ih0, ih1⟩ := manteletref09_take.mono_l k
    refine ⟨?_, ?_⟩
    · intro y0 y1 y2 y3 y4
      unfold manteletref09_take.j0
      repeat' first
      | (with_reducible exact ih0 _ _ _ _ _)
      | (with_reducible exact ih1 _ _ _ _ _ _)
      | (with_reducible exact manteletref01_Get.mono _ _)
      | (with_reducible exact LeO.refl _)
      | (with_reducible exact LeO.none _)
      | (with_reducible refine LeO.ite ?_ ?_)
      | (with_reducible refine LeO.bind ?_ (fun _ => ?_))
      | exact ih0 _ _ _ _ _
      | exact ih1 _ _ _ _ _ _
      | exact manteletref01_Get.mono _ _
      | exact LeO.none _
      | refine LeO.ite ?_ ?_
      | refine LeO.bind ?_ (fun _ => ?_)
    · intro y0 y1 y2 y3 y4 y5
      unfold manteletref09_take.j1
      repeat' first
      | (with_reducible exact ih0 _ _ _ _ _)
      | (with_reducible exact ih1 _ _ _ _ _ _)
      | (with_reducible exact manteletref01_Get.mono _ _)
      | (with_reducible exact LeO.refl _)
      | (with_reducible exact LeO.none _)
      | (with_reducible refine LeO.ite ?_ ?_)
      | (with_reducible refine LeO.bind ?_ (fun _ => ?_))
      | exact ih0 _ _ _ _ _
      | exact ih1 _ _ _ _ _ _
      | exact manteletref01_Get.mono _ _
      | exact LeO.none _
      | refine LeO.ite ?_ ?_
      | refine LeO.bind ?_ (fun _ => ?_)
theorem manteletref09_take.mono : ∀ a0 a1 k, LeO (manteletref09_take.f k a0 a1) (manteletref09_take.f (k + 1) a0 a1) := by
  intro a0 a1 k
  obtain ⟨ih0, ih1⟩ := manteletref09_take.mono_l k
  unfold manteletref09_take.f
  repeat' first
      | (with_reducible exact ih0 _ _ _ _ _)
      | (with_reducible exact ih1 _ _ _ _ _ _)
      | (with_reducible exact manteletref01_Get.mono _ _)
      | (with_reducible exact LeO.refl _)
      | (with_reducible exact LeO.none _)
      | (with_reducible refine LeO.ite ?_ ?_)
      | (with_reducible refine LeO.bind ?_ (fun _ => ?_))
      | exact ih0 _ _ _ _ _
      | exact ih1 _ _ _ _ _ _
      | exact manteletref01_Get.mono _ _
      | exact LeO.none _
      | refine LeO.ite ?_ ?_
      | refine LeO.bind ?_ (fun _ => ?_)
set_option maxHeartbeats 8000000 in
set_option maxRecDepth 100000 in
theorem manteletref09_take.calls (k : Nat) (a0 : ByteArray) (A1 : Option Addr) (c1 : Nat) (l1 : List Int) (r1 : ByteArray) (r2 : Int) (r3 : Int) (w : World) (hr1 : Kd.C (Kd.int .u8) w A1 l1.length l1) (hc1 : l1.length ≤ c1) (h : manteletref09_take.f k a0 l1 = some (r1, r2, r3)) :
    Calls Try.prog 31 #[.string a0, .slice A1 l1.length c1] w fun e w' => e = .returned (.tuple #[.agg #[.string r1, .int .u64 r2], .int .i64 r3]) ∧ Below w.heap.size w w' := by
  have hu44 := Try.underlying44
  have HR1 := Aside0.mk hr1
  have HC1 := Aside0.mk hc1
  clear hr1 hc1
  have HB := Aside0.mk (Below.refl w.heap.size w)
  have H : ((manteletref01_Get.f k l1).bind fun bt350 => (if bt350.2.2 = 0 then (manteletref09_take.j0 k a0 l1 bt350.1 bt350.2.1 (decide (bt350.1 > (IntKind.u64.wrap ((a0.size : Int)))))) else (manteletref09_take.j0 k a0 l1 bt350.1 bt350.2.1 true))) = some (r1, r2, r3) := h
  clear h
  replace H := Option.bind_eq_some_iff.mp H
  obtain ⟨⟨t350, t351, t352⟩, A30, H⟩ := H
  replace H : (if t352 = 0 then (manteletref09_take.j0 k a0 l1 t350 t351 (decide (t350 > (IntKind.u64.wrap ((a0.size : Int)))))) else (manteletref09_take.j0 k a0 l1 t350 t351 true)) = some (r1, r2, r3) := H
  have A3 := Aside0.mk A30
  clear A30
  have HC4 := Aside0.mk H
  clear H
  go_enter Try.func31, Try.ntmps31
  go_upto_region 2 with (first | ((with_reducible refine gate_dst (N := 4) rfl ?_); (try (refine gate_guard (by rfl) ?_; dsimp only)); refine box_event ?hg (N := 4) ?hd (cs := #[.string (⟨#[]⟩ : ByteArray), .int .u64 0]) (t := 44) ?hr ?_; (case hd => rfl); (case hg => rfl); (case hr => first | (go_simp; done) | (go_simp; rfl)); intro gb349 hg w5 hbox hb; have n0_ := Aside0.mk (below_step (by repeat (first | (with_reducible first | exact HB.out | apply below_alloc | apply pw_below_drewN | apply below_drew1) | exact HB.out)) hb); have n1_ := Aside0.mk (hbox); have n2_ := Aside0.mk ((by rw [hg]; exact (below_size (by repeat (first | (with_reducible first | exact HB.out | apply below_alloc | apply pw_below_drewN | apply below_drew1) | exact HB.out))) : w.heap.size ≤ gb349)); have n3_ := Aside0.mk ((by rw [hg]; exact (below_size (by repeat (first | (with_reducible first | exact HB.out | apply below_alloc | apply pw_below_drewN | apply below_drew1) | exact HB.out))) : w.heap.size ≤ gb349)); clear HB; have HB := n0_; have BK349 := n1_; have GW349 := n2_; have GE349 := n3_; clear n0_ n1_ n2_ n3_; clear hb hbox hg) | (go_at_call 30; (with_reducible refine (manteletref01_Get.calls k _ _ l1 t350 t351 t352 _ ?side1 ?side2 A3.out).mono ?_); (case side1 => repeat (first | exact (Kd.C_below HR1.out HB.out) | (with_reducible refine Kd.C_alloc ?_ _) | (with_reducible refine Kd.C_drewN ?_ _) | (with_reducible refine Kd.C_drew ?_))); (case side2 => exact HC1.out); rintro e w' ⟨rfl, ⟨nd, rfl⟩⟩; (try first | exact ⟨rfl, _, World.drewN_drewN _ _ _⟩ | exact ⟨rfl, _, Eq.trans (World.drewN_drewN _ _ _) (congrArg (World.drewN _) (Nat.add_assoc _ _ _))⟩)))
  repeat (go_quiet (first | ((with_reducible refine gate_dst (N := 4) rfl ?_); (try (refine gate_guard (by rfl) ?_; dsimp only)); refine box_event ?hg (N := 4) ?hd (cs := #[.string (⟨#[]⟩ : ByteArray), .int .u64 0]) (t := 44) ?hr ?_; (case hd => rfl); (case hg => rfl); (case hr => first | (go_simp; done) | (go_simp; rfl)); intro gb349 hg w5 hbox hb; have n0_ := Aside0.mk (below_step (by repeat (first | (with_reducible first | exact HB.out | apply below_alloc | apply pw_below_drewN | apply below_drew1) | exact HB.out)) hb); have n1_ := Aside0.mk (hbox); have n2_ := Aside0.mk ((by rw [hg]; exact (below_size (by repeat (first | (with_reducible first | exact HB.out | apply below_alloc | apply pw_below_drewN | apply below_drew1) | exact HB.out))) : w.heap.size ≤ gb349)); have n3_ := Aside0.mk ((by rw [hg]; exact (below_size (by repeat (first | (with_reducible first | exact HB.out | apply below_alloc | apply pw_below_drewN | apply below_drew1) | exact HB.out))) : w.heap.size ≤ gb349)); clear HB; have HB := n0_; have BK349 := n1_; have GW349 := n2_; have GE349 := n3_; clear n0_ n1_ n2_ n3_; clear hb hbox hg) | (go_at_call 30; (with_reducible refine (manteletref01_Get.calls k _ _ l1 t350 t351 t352 _ ?side1 ?side2 A3.out).mono ?_); (case side1 => repeat (first | exact (Kd.C_below HR1.out HB.out) | (with_reducible refine Kd.C_alloc ?_ _) | (with_reducible refine Kd.C_drewN ?_ _) | (with_reducible refine Kd.C_drew ?_))); (case side2 => exact HC1.out); rintro e w' ⟨rfl, ⟨nd, rfl⟩⟩; (try first | exact ⟨rfl, _, World.drewN_drewN _ _ _⟩ | exact ⟨rfl, _, Eq.trans (World.drewN_drewN _ _ _) (congrArg (World.drewN _) (Nat.add_assoc _ _ _))⟩))); go_upto_region 2 with (first | ((with_reducible refine gate_dst (N := 4) rfl ?_); (try (refine gate_guard (by rfl) ?_; dsimp only)); refine box_event ?hg (N := 4) ?hd (cs := #[.string (⟨#[]⟩ : ByteArray), .int .u64 0]) (t := 44) ?hr ?_; (case hd => rfl); (case hg => rfl); (case hr => first | (go_simp; done) | (go_simp; rfl)); intro gb349 hg w5 hbox hb; have n0_ := Aside0.mk (below_step (by repeat (first | (with_reducible first | exact HB.out | apply below_alloc | apply pw_below_drewN | apply below_drew1) | exact HB.out)) hb); have n1_ := Aside0.mk (hbox); have n2_ := Aside0.mk ((by rw [hg]; exact (below_size (by repeat (first | (with_reducible first | exact HB.out | apply below_alloc | apply pw_below_drewN | apply below_drew1) | exact HB.out))) : w.heap.size ≤ gb349)); have n3_ := Aside0.mk ((by rw [hg]; exact (below_size (by repeat (first | (with_reducible first | exact HB.out | apply below_alloc | apply pw_below_drewN | apply below_drew1) | exact HB.out))) : w.heap.size ≤ gb349)); clear HB; have HB := n0_; have BK349 := n1_; have GW349 := n2_; have GE349 := n3_; clear n0_ n1_ n2_ n3_; clear hb hbox hg) | (go_at_call 30; (with_reducible refine (manteletref01_Get.calls k _ _ l1 t350 t351 t352 _ ?side1 ?side2 A3.out).mono ?_); (case side1 => repeat (first | exact (Kd.C_below HR1.out HB.out) | (with_reducible refine Kd.C_alloc ?_ _) | (with_reducible refine Kd.C_drewN ?_ _) | (with_reducible refine Kd.C_drew ?_))); (case side2 => exact HC1.out); rintro e w' ⟨rfl, ⟨nd, rfl⟩⟩; (try first | exact ⟨rfl, _, World.drewN_drewN _ _ _⟩ | exact ⟨rfl, _, Eq.trans (World.drewN_drewN _ _ _) (congrArg (World.drewN _) (Nat.add_assoc _ _ _))⟩))))
  (try simp only [Act.put, List.setIfInBounds_toArray, List.set_cons_zero, List.set_cons_succ])
  go_cut [31] (fun v31 wc => ∃ (kq : Nat) (x31_3 : Bool), v31 = .bool x31_3 ∧ Aside0 (manteletref09_take.j0 kq a0 l1 t350 t351 x31_3 = some (r1, r2, r3)) ∧ Aside0 (kq ≤ k) ∧ Aside0 (wc.heap[gb349]? = some (.cells #[.string (⟨#[]⟩ : ByteArray), .int .u64 0] 44 (0, 0))) ∧ Aside0 (Below w.heap.size w wc))
  case first =>
    have H := HC4.out
    clear HC4
    by_cases c6 : t352 = 0
    · rw [if_pos c6] at H
      have c6b0 : (t352 == 0) = true := beq_iff_eq.mpr c6
      have c6b1 : (t352 != 0) = false := bne_eq_false_iff_eq.mpr c6
      clear c6
      (first | rw [c6b0] | (simp only [i64_w, i32_w]; rw [c6b0]) | skip)
      have H' := Aside0.mk H
      clear H
      go_wp2
      repeat (go_quiet (fail); try go_wp2)
      go_meet
      case rel => exact ⟨_, (decide (t350 > (IntKind.u64.wrap ((a0.size : Int))))), (by first | rfl | (simp; done) | (simp [*]; done)), H', ⟨by first | omega | exact Nat.le_refl _⟩, ⟨by (with_reducible repeat (first | refine blk_drewN ?_ _ | refine blk_drew ?_ | refine blk_alloc ?_ _)); exact BK349.out⟩, ⟨by repeat (first | (with_reducible first | exact HB.out | apply below_alloc | apply pw_below_drewN | apply below_drew1 | refine below_set ?_ GE349.out) | exact HB.out)⟩⟩
    · rw [if_neg c6] at H
      have c6b0 : (t352 == 0) = false := beq_eq_false_iff_ne.mpr c6
      have c6b1 : (t352 != 0) = true := bne_iff_ne.mpr c6
      (first | rw [c6b0] | (simp only [i64_w, i32_w]; rw [c6b0]) | skip)
      have H' := Aside0.mk H
      clear H
      go_wp2
      repeat (go_quiet (fail); try go_wp2)
      go_meet
      case rel => exact ⟨_, (true), (by first | rfl | (simp; done) | (simp [*]; done)), H', ⟨by first | omega | exact Nat.le_refl _⟩, ⟨by (with_reducible repeat (first | refine blk_drewN ?_ _ | refine blk_drew ?_ | refine blk_alloc ?_ _)); exact BK349.out⟩, ⟨by repeat (first | (with_reducible first | exact HB.out | apply below_alloc | apply pw_below_drewN | apply below_drew1 | refine below_set ?_ GE349.out) | exact HB.out)⟩⟩
  case rest =>
    clear HC4
    try clear c1
    try clear p2
    try clear c3
    try clear c6
    try clear c6b0
    try clear c6b1
    obtain ⟨kq, x31_3, rfl, HA, HJ3, BK349, HB⟩ := hcut
    cases kq with
    | zero => exact absurd HA.out (by simp [manteletref09_take.j0])
    | succ kj3 =>
      have H := HA.out
      clear HA
      simp only [manteletref09_take.j0] at H
      by_cases c7 : x31_3 = true
      · subst c7
        have H1 : (some ((⟨#[]⟩ : ByteArray), 0, 0)) = some (r1, r2, r3) := by rw [if_pos rfl] at H; exact H
        clear H
        have H := H1
        clear H1
        simp only [Option.some.injEq, Prod.mk.injEq] at H
        obtain ⟨rfl, rfl, rfl⟩ := H
        have hcz8_0 : wc.cell? ⟨gb349, 0, none⟩ = some (.string (⟨#[]⟩ : ByteArray)) := (blk_cell BK349.out 0).trans rfl
        have hcz8_1 : wc.cell? ⟨gb349, 1, none⟩ = some (.int .u64 0) := (blk_cell BK349.out 1).trans rfl
        have hfz8_0 := blk_frozen BK349.out 0
        have hfz8_1 := blk_frozen BK349.out 1
        go_wp2
        repeat (go_quiet (fail); try go_wp2)
        refine bodyPost_ret (results_ct rfl _ _ gb349 44 #[.string (⟨#[]⟩ : ByteArray), .int .u64 0] (0, 0) _ rfl (by (with_reducible repeat (first | refine blk_drewN ?_ _ | refine blk_drew ?_ | refine blk_alloc ?_ _)); refine blk_put (cs := #[.string (⟨#[]⟩ : ByteArray), .int .u64 0]) ?_ 1 _ rfl; (with_reducible repeat (first | refine blk_drewN ?_ _ | refine blk_drew ?_ | refine blk_alloc ?_ _)); refine blk_put (cs := #[.string (⟨#[]⟩ : ByteArray), .int .u64 0]) ?_ 0 _ rfl; (with_reducible repeat (first | refine blk_drewN ?_ _ | refine blk_drew ?_ | refine blk_alloc ?_ _)); exact BK349.out) Try.underlying44 rfl (by kernel_rfl)) rfl ?_
        exact ⟨by first | rfl | (simp [errW_none, errW_some] <;> rfl) | (simp [*, errW_none, errW_some] <;> rfl), by repeat (first | (with_reducible first | exact HB.out | apply below_alloc | apply pw_below_drewN | apply below_drew1 | refine below_set ?_ GE349.out) | exact HB.out)⟩
      · replace c7 := Bool.eq_false_iff.mpr c7
        subst c7
        have H1 : (if 0 ≤ t351 then (if t351 ≤ (l1.length : Int) then ((manteletref01_Get.f kj3 (l1.drop (t351 : Int).toNat)).bind fun bt354 => (if bt354.2.2 = 0 then (manteletref09_take.j1 kj3 a0 l1 t350 bt354.1 (wrap64 (t351 + bt354.2.1)) (decide (bt354.1 > (IntKind.u64.wrap (wrap64 ((l1.length : Int) - (wrap64 (t351 + bt354.2.1)))))))) else (manteletref09_take.j1 kj3 a0 l1 t350 bt354.1 (wrap64 (t351 + bt354.2.1)) true))) else (none)) else (none)) = some (r1, r2, r3) := by rw [if_neg (show ¬ (false = true) by decide)] at H; exact H
        clear H
        have H := H1
        clear H1
        by_cases c9 : 0 ≤ t351
        · rw [if_pos c9] at H
          have c9b0 := eq_true c9
          have c9b1 : decide (0 ≤ t351) = true := decide_eq_true c9
          clear c9
          by_cases c10 : t351 ≤ (l1.length : Int)
          · rw [if_pos c10] at H
            have c10b0 := eq_true c10
            have c10b1 : decide (t351 ≤ (l1.length : Int)) = true := decide_eq_true c10
            clear c10
            replace H := Option.bind_eq_some_iff.mp H
            obtain ⟨⟨t354, t355, t356⟩, A110, H⟩ := H
            replace H : (if t356 = 0 then (manteletref09_take.j1 kj3 a0 l1 t350 t354 (wrap64 (t351 + t355)) (decide (t354 > (IntKind.u64.wrap (wrap64 ((l1.length : Int) - (wrap64 (t351 + t355)))))))) else (manteletref09_take.j1 kj3 a0 l1 t350 t354 (wrap64 (t351 + t355)) true)) = some (r1, r2, r3) := H
            have A11 := Aside0.mk A110
            clear A110
            have HC12 := Aside0.mk H
            clear H
            obtain ⟨i013, hi013, _, hsz13, _⟩ := info_parts info5
            obtain ⟨A13, hcut13, hA13, hC13⟩ := print_drop_of (P := Try.prog) (Value.int .u8) 0 23 5 .i64 Try.underlying23 hi013 hsz13 A1 c1 l1 t351 (of_decide_eq_true (by first | (with_reducible assumption) | assumption)) (of_decide_eq_true (by first | (with_reducible assumption) | assumption)) HC1.out
            have HR353 := Aside0.mk (Kd.C_of_reads (h1 := fun _ => rfl) (hA13 _ (Kd.reads_of_C HR1.out)))
            have HC353 := Aside0.mk hC13
            clear hA13 hC13 hi013 hsz13
            go_upto_region 6 with (first | (go_at_call 30; refine calls_of_args (args' := #[.slice A13 (l1.drop (t351 : Int).toNat).length (c1 - t351.toNat)]) (by first | (rw [show (l1.drop (t351 : Int).toNat).length = (l1.length - t351.toNat) from List.length_drop] <;> rfl) | rfl) ?_; (with_reducible refine (manteletref01_Get.calls kj3 _ _ (l1.drop (t351 : Int).toNat) t354 t355 t356 _ ?side1 ?side2 A11.out).mono ?_); (case side1 => repeat (first | exact (Kd.C_below HR353.out HB.out) | (with_reducible refine Kd.C_alloc ?_ _) | (with_reducible refine Kd.C_drewN ?_ _) | (with_reducible refine Kd.C_drew ?_))); (case side2 => exact HC353.out); rintro e w' ⟨rfl, ⟨nd, rfl⟩⟩; (try first | exact ⟨rfl, _, World.drewN_drewN _ _ _⟩ | exact ⟨rfl, _, Eq.trans (World.drewN_drewN _ _ _) (congrArg (World.drewN _) (Nat.add_assoc _ _ _))⟩)))
            repeat (go_quiet (first | (go_at_call 30; refine calls_of_args (args' := #[.slice A13 (l1.drop (t351 : Int).toNat).length (c1 - t351.toNat)]) (by first | (rw [show (l1.drop (t351 : Int).toNat).length = (l1.length - t351.toNat) from List.length_drop] <;> rfl) | rfl) ?_; (with_reducible refine (manteletref01_Get.calls kj3 _ _ (l1.drop (t351 : Int).toNat) t354 t355 t356 _ ?side1 ?side2 A11.out).mono ?_); (case side1 => repeat (first | exact (Kd.C_below HR353.out HB.out) | (with_reducible refine Kd.C_alloc ?_ _) | (with_reducible refine Kd.C_drewN ?_ _) | (with_reducible refine Kd.C_drew ?_))); (case side2 => exact HC353.out); rintro e w' ⟨rfl, ⟨nd, rfl⟩⟩; (try first | exact ⟨rfl, _, World.drewN_drewN _ _ _⟩ | exact ⟨rfl, _, Eq.trans (World.drewN_drewN _ _ _) (congrArg (World.drewN _) (Nat.add_assoc _ _ _))⟩))); go_upto_region 6 with (first | (go_at_call 30; refine calls_of_args (args' := #[.slice A13 (l1.drop (t351 : Int).toNat).length (c1 - t351.toNat)]) (by first | (rw [show (l1.drop (t351 : Int).toNat).length = (l1.length - t351.toNat) from List.length_drop] <;> rfl) | rfl) ?_; (with_reducible refine (manteletref01_Get.calls kj3 _ _ (l1.drop (t351 : Int).toNat) t354 t355 t356 _ ?side1 ?side2 A11.out).mono ?_); (case side1 => repeat (first | exact (Kd.C_below HR353.out HB.out) | (with_reducible refine Kd.C_alloc ?_ _) | (with_reducible refine Kd.C_drewN ?_ _) | (with_reducible refine Kd.C_drew ?_))); (case side2 => exact HC353.out); rintro e w' ⟨rfl, ⟨nd, rfl⟩⟩; (try first | exact ⟨rfl, _, World.drewN_drewN _ _ _⟩ | exact ⟨rfl, _, Eq.trans (World.drewN_drewN _ _ _) (congrArg (World.drewN _) (Nat.add_assoc _ _ _))⟩))))
            (try simp only [Act.put, List.setIfInBounds_toArray, List.set_cons_zero, List.set_cons_succ])
            go_cut [54] (fun v54 wc => ∃ (kq : Nat) (x54_11 : Bool), v54 = .bool x54_11 ∧ Aside0 (manteletref09_take.j1 kq a0 l1 t350 t354 (wrap64 (t351 + t355)) x54_11 = some (r1, r2, r3)) ∧ Aside0 (kq ≤ kj3) ∧ Aside0 (wc.heap[gb349]? = some (.cells #[.string (⟨#[]⟩ : ByteArray), .int .u64 0] 44 (0, 0))) ∧ Aside0 (Below w.heap.size w wc))
            case first =>
              have H := HC12.out
              clear HC12
              by_cases c14 : t356 = 0
              · rw [if_pos c14] at H
                have c14b0 : (t356 == 0) = true := beq_iff_eq.mpr c14
                have c14b1 : (t356 != 0) = false := bne_eq_false_iff_eq.mpr c14
                clear c14
                (first | rw [c14b0] | (simp only [i64_w, i32_w]; rw [c14b0]) | skip)
                have H' := Aside0.mk H
                clear H
                go_wp2
                repeat (go_quiet (fail); try go_wp2)
                go_meet
                case rel => exact ⟨_, (decide (t354 > (IntKind.u64.wrap (wrap64 ((l1.length : Int) - (wrap64 (t351 + t355))))))), (by first | rfl | (simp; done) | (simp [*]; done)), H', ⟨by have := HJ3.out; first | omega | exact Nat.le_refl _⟩, ⟨by (with_reducible repeat (first | refine blk_drewN ?_ _ | refine blk_drew ?_ | refine blk_alloc ?_ _)); exact BK349.out⟩, ⟨by repeat (first | (with_reducible first | exact HB.out | apply below_alloc | apply pw_below_drewN | apply below_drew1 | refine below_set ?_ GE349.out) | exact HB.out)⟩⟩
              · rw [if_neg c14] at H
                have c14b0 : (t356 == 0) = false := beq_eq_false_iff_ne.mpr c14
                have c14b1 : (t356 != 0) = true := bne_iff_ne.mpr c14
                (first | rw [c14b0] | (simp only [i64_w, i32_w]; rw [c14b0]) | skip)
                have H' := Aside0.mk H
                clear H
                go_wp2
                repeat (go_quiet (fail); try go_wp2)
                go_meet
                case rel => exact ⟨_, (true), (by first | rfl | (simp; done) | (simp [*]; done)), H', ⟨by have := HJ3.out; first | omega | exact Nat.le_refl _⟩, ⟨by (with_reducible repeat (first | refine blk_drewN ?_ _ | refine blk_drew ?_ | refine blk_alloc ?_ _)); exact BK349.out⟩, ⟨by repeat (first | (with_reducible first | exact HB.out | apply below_alloc | apply pw_below_drewN | apply below_drew1 | refine below_set ?_ GE349.out) | exact HB.out)⟩⟩
            case rest =>
              clear HC12
              try clear c1
              try clear p2
              try clear c3
              try clear c6
              try clear c6b0
              try clear c6b1
              try clear p6
              try clear c7
              try clear c9
              try clear c9b0
              try clear c9b1
              try clear c10
              try clear c10b0
              try clear c10b1
              try clear c14
              try clear c14b0
              try clear c14b1
              try clear hcz8_0
              try clear hcz8_1
              try clear hfz8_0
              try clear hfz8_1
              try clear p2
              obtain ⟨kq, x54_11, rfl, HA, HJ11, BK349, HB⟩ := hcut
              cases kq with
              | zero => exact absurd HA.out (by simp [manteletref09_take.j1])
              | succ kj11 =>
                have H := HA.out
                clear HA
                simp only [manteletref09_take.j1] at H
                by_cases c15 : x54_11 = true
                · subst c15
                  have H1 : (some ((⟨#[]⟩ : ByteArray), 0, 0)) = some (r1, r2, r3) := by rw [if_pos rfl] at H; exact H
                  clear H
                  have H := H1
                  clear H1
                  simp only [Option.some.injEq, Prod.mk.injEq] at H
                  obtain ⟨rfl, rfl, rfl⟩ := H
                  have hcz16_0 : wc.cell? ⟨gb349, 0, none⟩ = some (.string (⟨#[]⟩ : ByteArray)) := (blk_cell BK349.out 0).trans rfl
                  have hcz16_1 : wc.cell? ⟨gb349, 1, none⟩ = some (.int .u64 0) := (blk_cell BK349.out 1).trans rfl
                  have hfz16_0 := blk_frozen BK349.out 0
                  have hfz16_1 := blk_frozen BK349.out 1
                  go_wp2
                  repeat (go_quiet (fail); try go_wp2)
                  refine bodyPost_ret (results_ct rfl _ _ gb349 44 #[.string (⟨#[]⟩ : ByteArray), .int .u64 0] (0, 0) _ rfl (by (with_reducible repeat (first | refine blk_drewN ?_ _ | refine blk_drew ?_ | refine blk_alloc ?_ _)); refine blk_put (cs := #[.string (⟨#[]⟩ : ByteArray), .int .u64 0]) ?_ 1 _ rfl; (with_reducible repeat (first | refine blk_drewN ?_ _ | refine blk_drew ?_ | refine blk_alloc ?_ _)); refine blk_put (cs := #[.string (⟨#[]⟩ : ByteArray), .int .u64 0]) ?_ 0 _ rfl; (with_reducible repeat (first | refine blk_drewN ?_ _ | refine blk_drew ?_ | refine blk_alloc ?_ _)); exact BK349.out) Try.underlying44 rfl (by kernel_rfl)) rfl ?_
                  exact ⟨by first | rfl | (simp [errW_none, errW_some] <;> rfl) | (have e_ := Option.some.inj (A3.out.symm.trans A11.out); subst e_; rfl) | (simp [*, errW_none, errW_some] <;> rfl), by repeat (first | (with_reducible first | exact HB.out | apply below_alloc | apply pw_below_drewN | apply below_drew1 | refine below_set ?_ GE349.out) | exact HB.out)⟩
                · replace c15 := Bool.eq_false_iff.mpr c15
                  subst c15
                  have H1 : (if 0 ≤ t350 then (if t350 ≤ (a0.size : Int) then (if 0 ≤ (wrap64 (t351 + t355)) then (if (wrap64 (t351 + t355)) ≤ (wrap64 ((wrap64 (t351 + t355)) + (wrap64 (t354)))) then (if (wrap64 ((wrap64 (t351 + t355)) + (wrap64 (t354)))) ≤ (l1.length : Int) then (if (a0.extract 0 (t350 : Int).toNat).size + (strOfNums ((l1.take ((wrap64 ((wrap64 (t351 + t355)) + (wrap64 (t354)))) : Int).toNat).drop ((wrap64 (t351 + t355)) : Int).toNat)).size ≤ 9223372036854775807 then (if 0 ≤ (wrap64 ((wrap64 (t351 + t355)) + (wrap64 (t354)))) then ((manteletref01_Get.f kj11 (l1.drop ((wrap64 ((wrap64 (t351 + t355)) + (wrap64 (t354)))) : Int).toNat)).bind fun bt359 => (if bt359.2.2 = 0 then (some ((a0.extract 0 (t350 : Int).toNat) ++ (strOfNums ((l1.take ((wrap64 ((wrap64 (t351 + t355)) + (wrap64 (t354)))) : Int).toNat).drop ((wrap64 (t351 + t355)) : Int).toNat)), bt359.1, wrap64 ((wrap64 ((wrap64 (t351 + t355)) + (wrap64 (t354)))) + bt359.2.1))) else (some ((⟨#[]⟩ : ByteArray), 0, 0)))) else (none)) else (none)) else (none)) else (none)) else (none)) else (none)) else (none)) = some (r1, r2, r3) := by rw [if_neg (show ¬ (false = true) by decide)] at H; exact H
                  clear H
                  have H := H1
                  clear H1
                  by_cases c17 : 0 ≤ t350
                  · rw [if_pos c17] at H
                    have c17b0 := eq_true c17
                    have c17b1 : decide (0 ≤ t350) = true := decide_eq_true c17
                    clear c17
                    by_cases c18 : t350 ≤ (a0.size : Int)
                    · rw [if_pos c18] at H
                      have c18b0 := eq_true c18
                      have c18b1 : decide (t350 ≤ (a0.size : Int)) = true := decide_eq_true c18
                      clear c18
                      obtain ⟨ji19, hji19⟩ : ∃ j_ : Int, (wrap64 (t351 + t355)) = j_ := ⟨_, rfl⟩
                      replace H : (if 0 ≤ (ji19) then (if (ji19) ≤ (wrap64 ((ji19) + (wrap64 (t354)))) then (if (wrap64 ((ji19) + (wrap64 (t354)))) ≤ (l1.length : Int) then (if (a0.extract 0 (t350 : Int).toNat).size + (strOfNums ((l1.take ((wrap64 ((ji19) + (wrap64 (t354)))) : Int).toNat).drop ((ji19) : Int).toNat)).size ≤ 9223372036854775807 then (if 0 ≤ (wrap64 ((ji19) + (wrap64 (t354)))) then ((manteletref01_Get.f kj11 (l1.drop ((wrap64 ((ji19) + (wrap64 (t354)))) : Int).toNat)).bind fun bt359 => (if bt359.2.2 = 0 then (some ((a0.extract 0 (t350 : Int).toNat) ++ (strOfNums ((l1.take ((wrap64 ((ji19) + (wrap64 (t354)))) : Int).toNat).drop ((ji19) : Int).toNat)), bt359.1, wrap64 ((wrap64 ((ji19) + (wrap64 (t354)))) + bt359.2.1))) else (some ((⟨#[]⟩ : ByteArray), 0, 0)))) else (none)) else (none)) else (none)) else (none)) else (none)) = some (r1, r2, r3) := by first | (rw [hji19] at H; exact H) | (simp only [hji19] at H ⊢; exact H)
                      have hji19w : (IntKind.i64.wrap (t351 + t355)) = ji19 := (i64_w _).trans hji19
                      by_cases c20 : 0 ≤ (ji19)
                      · rw [if_pos c20] at H
                        have c20b0 := eq_true c20
                        have c20b1 : decide (0 ≤ (ji19)) = true := decide_eq_true c20
                        clear c20
                        by_cases c21 : (ji19) ≤ (wrap64 ((ji19) + (wrap64 (t354))))
                        · rw [if_pos c21] at H
                          have c21b0 := eq_true c21
                          have c21b1 : decide ((ji19) ≤ (wrap64 ((ji19) + (wrap64 (t354))))) = true := decide_eq_true c21
                          by_cases c22 : (wrap64 ((ji19) + (wrap64 (t354)))) ≤ (l1.length : Int)
                          · rw [if_pos c22] at H
                            have c22b0 := eq_true c22
                            have c22b1 : decide ((wrap64 ((ji19) + (wrap64 (t354)))) ≤ (l1.length : Int)) = true := decide_eq_true c22
                            by_cases c23 : (a0.extract 0 (t350 : Int).toNat).size + (strOfNums ((l1.take ((wrap64 ((ji19) + (wrap64 (t354)))) : Int).toNat).drop ((ji19) : Int).toNat)).size ≤ 9223372036854775807
                            · rw [if_pos c23] at H
                              have c23b0 := eq_true c23
                              have c23b1 : decide ((a0.extract 0 (t350 : Int).toNat).size + (strOfNums ((l1.take ((wrap64 ((ji19) + (wrap64 (t354)))) : Int).toNat).drop ((ji19) : Int).toNat)).size ≤ 9223372036854775807) = true := decide_eq_true c23
                              try have c23b2 : (9223372036854775807 < (a0.extract 0 (t350 : Int).toNat).size + (strOfNums ((l1.take ((wrap64 ((ji19) + (wrap64 (t354)))) : Int).toNat).drop ((ji19) : Int).toNat)).size) = False := eq_false (Nat.not_lt.2 c23)
                              obtain ⟨ji24, hji24⟩ : ∃ j_ : Int, (wrap64 ((ji19) + (wrap64 (t354)))) = j_ := ⟨_, rfl⟩
                              replace H : (if 0 ≤ (ji24) then ((manteletref01_Get.f kj11 (l1.drop ((ji24) : Int).toNat)).bind fun bt359 => (if bt359.2.2 = 0 then (some ((a0.extract 0 (t350 : Int).toNat) ++ (strOfNums ((l1.take ((ji24) : Int).toNat).drop ((ji19) : Int).toNat)), bt359.1, wrap64 ((ji24) + bt359.2.1))) else (some ((⟨#[]⟩ : ByteArray), 0, 0)))) else (none)) = some (r1, r2, r3) := by first | (rw [hji24] at H; exact H) | (simp only [hji24] at H ⊢; exact H)
                              (try rw [hji24] at c21b0)
                              (try rw [hji24] at c21b1)
                              (try rw [hji24] at c21)
                              (try rw [hji24] at c22b0)
                              (try rw [hji24] at c22b1)
                              (try rw [hji24] at c22)
                              (try rw [hji24] at c23b0)
                              (try rw [hji24] at c23b1)
                              (try rw [hji24] at c23)
                              have hji24w : (IntKind.i64.wrap ((ji19) + (wrap64 (t354)))) = ji24 := (i64_w _).trans hji24
                              by_cases c25 : 0 ≤ (ji24)
                              · rw [if_pos c25] at H
                                have c25b0 := eq_true c25
                                have c25b1 : decide (0 ≤ (ji24)) = true := decide_eq_true c25
                                clear c25
                                have c26b0 := eq_true (of_decide_eq_true (by first | (with_reducible assumption) | assumption) : (ji24) ≤ (l1.length : Int))
                                replace H := Option.bind_eq_some_iff.mp H
                                obtain ⟨⟨t359, t360, t361⟩, A270, H⟩ := H
                                replace H : (if t361 = 0 then (some ((a0.extract 0 (t350 : Int).toNat) ++ (strOfNums ((l1.take ((ji24) : Int).toNat).drop ((ji19) : Int).toNat)), t359, wrap64 ((ji24) + t360))) else (some ((⟨#[]⟩ : ByteArray), 0, 0))) = some (r1, r2, r3) := H
                                have A27 := Aside0.mk A270
                                clear A270
                                by_cases c28 : t361 = 0
                                · rw [if_pos c28] at H
                                  have c28b0 : (t361 == 0) = true := beq_iff_eq.mpr c28
                                  have c28b1 : (t361 != 0) = false := bne_eq_false_iff_eq.mpr c28
                                  clear c28
                                  simp only [Option.some.injEq, Prod.mk.injEq] at H
                                  obtain ⟨rfl, rfl, rfl⟩ := H
                                  obtain ⟨i029, hi029, _, hsz29, _⟩ := info_parts info5
                                  obtain ⟨A29, hcut29, hA29, hC29⟩ := print_mid_of (P := Try.prog) (Value.int .u8) 0 23 5 .i64 .i64 Try.underlying23 hi029 hsz29 A1 c1 l1 (ji19) (ji24) (of_decide_eq_true (by first | (with_reducible assumption) | assumption)) (by first | omega | exact of_decide_eq_true (by first | (with_reducible assumption) | assumption)) (of_decide_eq_true (by first | (with_reducible assumption) | assumption)) HC1.out
                                  have HR357 := Aside0.mk (Kd.C_of_reads (h1 := fun _ => rfl) (hA29 _ (Kd.reads_of_C HR1.out)))
                                  have HC357 := Aside0.mk hC29
                                  clear hA29 hC29 hi029 hsz29
                                  have hcv30 := Kd.C_string (P := Try.prog) (A := A29) (c := (c1 - (ji19).toNat)) Try.underlying23 Try.underlying5 Try.underlying9 (Kd.C_below HR357.out HB.out)
                                  have hcv30x := hcv30
                                  (try rw [show ((l1.take ((ji24) : Int).toNat).drop ((ji19) : Int).toNat).length = ((ji24) : Int).toNat - ((ji19) : Int).toNat from by rw [List.length_drop, List.length_take]; exact congrArg (· - _) (Nat.min_eq_left (Int.toNat_le.mpr (of_decide_eq_true (by first | (with_reducible assumption) | assumption))))] at hcv30x)
                                  have hcv30q := fun nq_ : Nat => Kd.C_string (P := Try.prog) (A := A29) (c := (c1 - (ji19).toNat)) Try.underlying23 Try.underlying5 Try.underlying9 (Kd.C_drewN (Kd.C_below HR357.out HB.out) nq_)
                                  (try simp only [show ((l1.take ((ji24) : Int).toNat).drop ((ji19) : Int).toNat).length = ((ji24) : Int).toNat - ((ji19) : Int).toNat from by rw [List.length_drop, List.length_take]; exact congrArg (· - _) (Nat.min_eq_left (Int.toNat_le.mpr (of_decide_eq_true (by first | (with_reducible assumption) | assumption))))] at hcv30q)
                                  obtain ⟨i031, hi031, _, hsz31, _⟩ := info_parts info5
                                  obtain ⟨A31, hcut31, hA31, hC31⟩ := print_drop_of (P := Try.prog) (Value.int .u8) 0 23 5 .i64 Try.underlying23 hi031 hsz31 A1 c1 l1 (ji24) (of_decide_eq_true (by first | (with_reducible assumption) | assumption)) (of_decide_eq_true (by first | (with_reducible assumption) | assumption)) HC1.out
                                  have HR358 := Aside0.mk (Kd.C_of_reads (h1 := fun _ => rfl) (hA31 _ (Kd.reads_of_C HR1.out)))
                                  have HC358 := Aside0.mk hC31
                                  clear hA31 hC31 hi031 hsz31
                                  go_wp2_with (first | (go_at_call 30; refine calls_of_args (args' := #[.slice A31 (l1.drop ((ji24) : Int).toNat).length (c1 - (ji24).toNat)]) (by first | (rw [show (l1.drop ((ji24) : Int).toNat).length = (l1.length - (ji24).toNat) from List.length_drop] <;> rfl) | rfl) ?_; (with_reducible refine (manteletref01_Get.calls kj11 _ _ (l1.drop ((ji24) : Int).toNat) t359 t360 t361 _ ?side1 ?side2 A27.out).mono ?_); (case side1 => repeat (first | exact (Kd.C_below HR358.out HB.out) | (with_reducible refine Kd.C_alloc ?_ _) | (with_reducible refine Kd.C_drewN ?_ _) | (with_reducible refine Kd.C_drew ?_))); (case side2 => exact HC358.out); rintro e w' ⟨rfl, ⟨nd, rfl⟩⟩; (try first | exact ⟨rfl, _, World.drewN_drewN _ _ _⟩ | exact ⟨rfl, _, Eq.trans (World.drewN_drewN _ _ _) (congrArg (World.drewN _) (Nat.add_assoc _ _ _))⟩); have hcz32_0 : wc.cell? ⟨gb349, 0, none⟩ = some (.string (⟨#[]⟩ : ByteArray)) := (blk_cell BK349.out 0).trans rfl; have hcz32_1 : wc.cell? ⟨gb349, 1, none⟩ = some (.int .u64 0) := (blk_cell BK349.out 1).trans rfl; have hfz32_0 := blk_frozen BK349.out 0; have hfz32_1 := blk_frozen BK349.out 1))
                                  repeat (go_quiet (first | (go_at_call 30; refine calls_of_args (args' := #[.slice A31 (l1.drop ((ji24) : Int).toNat).length (c1 - (ji24).toNat)]) (by first | (rw [show (l1.drop ((ji24) : Int).toNat).length = (l1.length - (ji24).toNat) from List.length_drop] <;> rfl) | rfl) ?_; (with_reducible refine (manteletref01_Get.calls kj11 _ _ (l1.drop ((ji24) : Int).toNat) t359 t360 t361 _ ?side1 ?side2 A27.out).mono ?_); (case side1 => repeat (first | exact (Kd.C_below HR358.out HB.out) | (with_reducible refine Kd.C_alloc ?_ _) | (with_reducible refine Kd.C_drewN ?_ _) | (with_reducible refine Kd.C_drew ?_))); (case side2 => exact HC358.out); rintro e w' ⟨rfl, ⟨nd, rfl⟩⟩; (try first | exact ⟨rfl, _, World.drewN_drewN _ _ _⟩ | exact ⟨rfl, _, Eq.trans (World.drewN_drewN _ _ _) (congrArg (World.drewN _) (Nat.add_assoc _ _ _))⟩); have hcz32_0 : wc.cell? ⟨gb349, 0, none⟩ = some (.string (⟨#[]⟩ : ByteArray)) := (blk_cell BK349.out 0).trans rfl; have hcz32_1 : wc.cell? ⟨gb349, 1, none⟩ = some (.int .u64 0) := (blk_cell BK349.out 1).trans rfl; have hfz32_0 := blk_frozen BK349.out 0; have hfz32_1 := blk_frozen BK349.out 1)); try go_wp2_with (first | (go_at_call 30; refine calls_of_args (args' := #[.slice A31 (l1.drop ((ji24) : Int).toNat).length (c1 - (ji24).toNat)]) (by first | (rw [show (l1.drop ((ji24) : Int).toNat).length = (l1.length - (ji24).toNat) from List.length_drop] <;> rfl) | rfl) ?_; (with_reducible refine (manteletref01_Get.calls kj11 _ _ (l1.drop ((ji24) : Int).toNat) t359 t360 t361 _ ?side1 ?side2 A27.out).mono ?_); (case side1 => repeat (first | exact (Kd.C_below HR358.out HB.out) | (with_reducible refine Kd.C_alloc ?_ _) | (with_reducible refine Kd.C_drewN ?_ _) | (with_reducible refine Kd.C_drew ?_))); (case side2 => exact HC358.out); rintro e w' ⟨rfl, ⟨nd, rfl⟩⟩; (try first | exact ⟨rfl, _, World.drewN_drewN _ _ _⟩ | exact ⟨rfl, _, Eq.trans (World.drewN_drewN _ _ _) (congrArg (World.drewN _) (Nat.add_assoc _ _ _))⟩); have hcz32_0 : wc.cell? ⟨gb349, 0, none⟩ = some (.string (⟨#[]⟩ : ByteArray)) := (blk_cell BK349.out 0).trans rfl; have hcz32_1 : wc.cell? ⟨gb349, 1, none⟩ = some (.int .u64 0) := (blk_cell BK349.out 1).trans rfl; have hfz32_0 := blk_frozen BK349.out 0; have hfz32_1 := blk_frozen BK349.out 1)))
                                  refine bodyPost_ret (results_ct rfl _ _ gb349 44 #[.string ((a0.extract 0 (t350 : Int).toNat) ++ (strOfNums ((l1.take ((ji24) : Int).toNat).drop ((ji19) : Int).toNat))), .int .u64 t359] (0, 0) _ rfl (by (with_reducible repeat (first | refine blk_drewN ?_ _ | refine blk_drew ?_ | refine blk_alloc ?_ _)); refine blk_put (cs := #[.string ((a0.extract 0 (t350 : Int).toNat) ++ (strOfNums ((l1.take ((ji24) : Int).toNat).drop ((ji19) : Int).toNat))), .int .u64 0]) ?_ 1 _ rfl; (with_reducible repeat (first | refine blk_drewN ?_ _ | refine blk_drew ?_ | refine blk_alloc ?_ _)); refine blk_put (cs := #[.string (⟨#[]⟩ : ByteArray), .int .u64 0]) ?_ 0 _ rfl; (with_reducible repeat (first | refine blk_drewN ?_ _ | refine blk_drew ?_ | refine blk_alloc ?_ _)); exact BK349.out) Try.underlying44 rfl (by kernel_rfl)) rfl ?_
                                  exact ⟨by first | rfl | (simp [errW_none, errW_some] <;> rfl) | (simp only [← hji19, ← hji24]; first | rfl | (simp [errW_none, errW_some] <;> rfl)) | (simp [*, errW_none, errW_some] <;> rfl), by repeat (first | (with_reducible first | exact HB.out | apply below_alloc | apply pw_below_drewN | apply below_drew1 | refine below_set ?_ GE349.out) | exact HB.out)⟩
                                · rw [if_neg c28] at H
                                  have c28b0 : (t361 == 0) = false := beq_eq_false_iff_ne.mpr c28
                                  have c28b1 : (t361 != 0) = true := bne_iff_ne.mpr c28
                                  simp only [Option.some.injEq, Prod.mk.injEq] at H
                                  obtain ⟨rfl, rfl, rfl⟩ := H
                                  obtain ⟨i033, hi033, _, hsz33, _⟩ := info_parts info5
                                  obtain ⟨A33, hcut33, hA33, hC33⟩ := print_mid_of (P := Try.prog) (Value.int .u8) 0 23 5 .i64 .i64 Try.underlying23 hi033 hsz33 A1 c1 l1 (ji19) (ji24) (of_decide_eq_true (by first | (with_reducible assumption) | assumption)) (by first | omega | exact of_decide_eq_true (by first | (with_reducible assumption) | assumption)) (of_decide_eq_true (by first | (with_reducible assumption) | assumption)) HC1.out
                                  have HR357 := Aside0.mk (Kd.C_of_reads (h1 := fun _ => rfl) (hA33 _ (Kd.reads_of_C HR1.out)))
                                  have HC357 := Aside0.mk hC33
                                  clear hA33 hC33 hi033 hsz33
                                  have hcv34 := Kd.C_string (P := Try.prog) (A := A33) (c := (c1 - (ji19).toNat)) Try.underlying23 Try.underlying5 Try.underlying9 (Kd.C_below HR357.out HB.out)
                                  have hcv34x := hcv34
                                  (try rw [show ((l1.take ((ji24) : Int).toNat).drop ((ji19) : Int).toNat).length = ((ji24) : Int).toNat - ((ji19) : Int).toNat from by rw [List.length_drop, List.length_take]; exact congrArg (· - _) (Nat.min_eq_left (Int.toNat_le.mpr (of_decide_eq_true (by first | (with_reducible assumption) | assumption))))] at hcv34x)
                                  have hcv34q := fun nq_ : Nat => Kd.C_string (P := Try.prog) (A := A33) (c := (c1 - (ji19).toNat)) Try.underlying23 Try.underlying5 Try.underlying9 (Kd.C_drewN (Kd.C_below HR357.out HB.out) nq_)
                                  (try simp only [show ((l1.take ((ji24) : Int).toNat).drop ((ji19) : Int).toNat).length = ((ji24) : Int).toNat - ((ji19) : Int).toNat from by rw [List.length_drop, List.length_take]; exact congrArg (· - _) (Nat.min_eq_left (Int.toNat_le.mpr (of_decide_eq_true (by first | (with_reducible assumption) | assumption))))] at hcv34q)
                                  obtain ⟨i035, hi035, _, hsz35, _⟩ := info_parts info5
                                  obtain ⟨A35, hcut35, hA35, hC35⟩ := print_drop_of (P := Try.prog) (Value.int .u8) 0 23 5 .i64 Try.underlying23 hi035 hsz35 A1 c1 l1 (ji24) (of_decide_eq_true (by first | (with_reducible assumption) | assumption)) (of_decide_eq_true (by first | (with_reducible assumption) | assumption)) HC1.out
                                  have HR358 := Aside0.mk (Kd.C_of_reads (h1 := fun _ => rfl) (hA35 _ (Kd.reads_of_C HR1.out)))
                                  have HC358 := Aside0.mk hC35
                                  clear hA35 hC35 hi035 hsz35
                                  go_wp2_with (first | (go_at_call 30; refine calls_of_args (args' := #[.slice A35 (l1.drop ((ji24) : Int).toNat).length (c1 - (ji24).toNat)]) (by first | (rw [show (l1.drop ((ji24) : Int).toNat).length = (l1.length - (ji24).toNat) from List.length_drop] <;> rfl) | rfl) ?_; (with_reducible refine (manteletref01_Get.calls kj11 _ _ (l1.drop ((ji24) : Int).toNat) t359 t360 t361 _ ?side1 ?side2 A27.out).mono ?_); (case side1 => repeat (first | exact (Kd.C_below HR358.out HB.out) | (with_reducible refine Kd.C_alloc ?_ _) | (with_reducible refine Kd.C_drewN ?_ _) | (with_reducible refine Kd.C_drew ?_))); (case side2 => exact HC358.out); rintro e w' ⟨rfl, ⟨nd, rfl⟩⟩; (try first | exact ⟨rfl, _, World.drewN_drewN _ _ _⟩ | exact ⟨rfl, _, Eq.trans (World.drewN_drewN _ _ _) (congrArg (World.drewN _) (Nat.add_assoc _ _ _))⟩); have hcz36_0 : wc.cell? ⟨gb349, 0, none⟩ = some (.string (⟨#[]⟩ : ByteArray)) := (blk_cell BK349.out 0).trans rfl; have hcz36_1 : wc.cell? ⟨gb349, 1, none⟩ = some (.int .u64 0) := (blk_cell BK349.out 1).trans rfl; have hfz36_0 := blk_frozen BK349.out 0; have hfz36_1 := blk_frozen BK349.out 1))
                                  repeat (go_quiet (first | (go_at_call 30; refine calls_of_args (args' := #[.slice A35 (l1.drop ((ji24) : Int).toNat).length (c1 - (ji24).toNat)]) (by first | (rw [show (l1.drop ((ji24) : Int).toNat).length = (l1.length - (ji24).toNat) from List.length_drop] <;> rfl) | rfl) ?_; (with_reducible refine (manteletref01_Get.calls kj11 _ _ (l1.drop ((ji24) : Int).toNat) t359 t360 t361 _ ?side1 ?side2 A27.out).mono ?_); (case side1 => repeat (first | exact (Kd.C_below HR358.out HB.out) | (with_reducible refine Kd.C_alloc ?_ _) | (with_reducible refine Kd.C_drewN ?_ _) | (with_reducible refine Kd.C_drew ?_))); (case side2 => exact HC358.out); rintro e w' ⟨rfl, ⟨nd, rfl⟩⟩; (try first | exact ⟨rfl, _, World.drewN_drewN _ _ _⟩ | exact ⟨rfl, _, Eq.trans (World.drewN_drewN _ _ _) (congrArg (World.drewN _) (Nat.add_assoc _ _ _))⟩); have hcz36_0 : wc.cell? ⟨gb349, 0, none⟩ = some (.string (⟨#[]⟩ : ByteArray)) := (blk_cell BK349.out 0).trans rfl; have hcz36_1 : wc.cell? ⟨gb349, 1, none⟩ = some (.int .u64 0) := (blk_cell BK349.out 1).trans rfl; have hfz36_0 := blk_frozen BK349.out 0; have hfz36_1 := blk_frozen BK349.out 1)); try go_wp2_with (first | (go_at_call 30; refine calls_of_args (args' := #[.slice A35 (l1.drop ((ji24) : Int).toNat).length (c1 - (ji24).toNat)]) (by first | (rw [show (l1.drop ((ji24) : Int).toNat).length = (l1.length - (ji24).toNat) from List.length_drop] <;> rfl) | rfl) ?_; (with_reducible refine (manteletref01_Get.calls kj11 _ _ (l1.drop ((ji24) : Int).toNat) t359 t360 t361 _ ?side1 ?side2 A27.out).mono ?_); (case side1 => repeat (first | exact (Kd.C_below HR358.out HB.out) | (with_reducible refine Kd.C_alloc ?_ _) | (with_reducible refine Kd.C_drewN ?_ _) | (with_reducible refine Kd.C_drew ?_))); (case side2 => exact HC358.out); rintro e w' ⟨rfl, ⟨nd, rfl⟩⟩; (try first | exact ⟨rfl, _, World.drewN_drewN _ _ _⟩ | exact ⟨rfl, _, Eq.trans (World.drewN_drewN _ _ _) (congrArg (World.drewN _) (Nat.add_assoc _ _ _))⟩); have hcz36_0 : wc.cell? ⟨gb349, 0, none⟩ = some (.string (⟨#[]⟩ : ByteArray)) := (blk_cell BK349.out 0).trans rfl; have hcz36_1 : wc.cell? ⟨gb349, 1, none⟩ = some (.int .u64 0) := (blk_cell BK349.out 1).trans rfl; have hfz36_0 := blk_frozen BK349.out 0; have hfz36_1 := blk_frozen BK349.out 1)))
                                  refine bodyPost_ret (results_ct rfl _ _ gb349 44 #[.string (⟨#[]⟩ : ByteArray), .int .u64 0] (0, 0) _ rfl (by (with_reducible repeat (first | refine blk_drewN ?_ _ | refine blk_drew ?_ | refine blk_alloc ?_ _)); refine blk_put (cs := #[.string (⟨#[]⟩ : ByteArray), .int .u64 0]) ?_ 1 _ rfl; (with_reducible repeat (first | refine blk_drewN ?_ _ | refine blk_drew ?_ | refine blk_alloc ?_ _)); refine blk_put (cs := #[.string (⟨#[]⟩ : ByteArray), .int .u64 0]) ?_ 0 _ rfl; (with_reducible repeat (first | refine blk_drewN ?_ _ | refine blk_drew ?_ | refine blk_alloc ?_ _)); exact BK349.out) Try.underlying44 rfl (by kernel_rfl)) rfl ?_
                                  exact ⟨by first | rfl | (simp [errW_none, errW_some] <;> rfl) | (simp only [← hji19, ← hji24]; first | rfl | (simp [errW_none, errW_some] <;> rfl)) | (simp [*, errW_none, errW_some] <;> rfl), by repeat (first | (with_reducible first | exact HB.out | apply below_alloc | apply pw_below_drewN | apply below_drew1 | refine below_set ?_ GE349.out) | exact HB.out)⟩
                              · rw [if_neg c25] at H
                                exact absurd H (by simp)
                            · rw [if_neg c23] at H
                              exact absurd H (by simp)
                          · rw [if_neg c22] at H
                            exact absurd H (by simp)
                        · rw [if_neg c21] at H
                          exact absurd H (by simp)
                      · rw [if_neg c20] at H
                        exact absurd H (by simp)
                    · rw [if_neg c18] at H
                      exact absurd H (by simp)
                  · rw [if_neg c17] at H
                    exact absurd H (by simp)
          · rw [if_neg c10] at H
            exact absurd H (by simp)
        · rw [if_neg c9] at H
          exact absurd H (by simp)

end Go.Proofs.Ytmfngihgoanhpaa.PRun
