/- Parts of the proof, merged by a program of this session. -/
import Derived.Test.YtiohnpphhepdfaaPkPassesMergesa
import Derived.Test.YtiohnpphhepdfaaPkPassesMergesc
section
namespace Go.Proofs.Ytiohnpphhepdfaa.PPa
open Go.RowKit Go.Proofs.YtiohnpphhepdfaaW.PrintWords Go.Proofs.YtiohnpphhepdfaaW.PrintLast Go.Proofs.YtiohnpphhepdfaaW.PrintMore
attribute [local go_sem] max2_int min2_int max_two min_two max_three min_three max_four min_four
attribute [local go_sem] Go.Proofs.Ytiohnpphhepdfaa.MoreWords.str_leq Go.Proofs.Ytiohnpphhepdfaa.MoreWords.str_gtr Go.Proofs.Ytiohnpphhepdfaa.MoreWords.str_geq
set_option maxHeartbeats 8000000
set_option maxRecDepth 100000
set_option linter.unusedVariables false
set_option linter.unusedSimpArgs false
mutual
def r09_Encode.j0 : Nat → List (S41) → Int → Bool → Option (List Int × Int)
 | 0, _, _, _ => none
 | k + 1, x0, x1, x20 => if x20 = true then (some (([] : List Int), 1)) else ((r09_May.f k x0).bind fun t309 => (if t309 = 0 then ((r01_Put.f k ([] : List Int) (IntKind.u64.wrap (x1))).bind fun t310 => ((r03_Put.f k ([] : List Int) t310).bind fun bt313 => (r09_Encode.l0 k x0 x1 bt313.1 0))) else (some (([] : List Int), t309))))
def r09_Encode.l0 : Nat → List (S41) → Int → List Int → Int → Option (List Int × Int)
 | 0, _, _, _, _ => none
 | k + 1, x0, x1, x7, x9 => if x9 < (x0.length : Int) then (if (wrap64 (x9 + x1)) > (x0.length : Int) then (r09_Encode.j2 k x0 x1 x7 x9 (x0.length : Int)) else (r09_Encode.j2 k x0 x1 x7 x9 (wrap64 (x9 + x1)))) else ((r01_Put.f k ([] : List Int) 0).bind fun t317 => ((r01_Put.f k t317 (IntKind.u64.wrap ((x0.length : Int)))).bind fun t320 => ((r03_Put.f k x7 t320).bind fun bt323 => (some (bt323.1, 0)))))
def r09_Encode.j2 : Nat → List (S41) → Int → List Int → Int → Int → Option (List Int × Int)
 | 0, _, _, _, _, _ => none
 | k + 1, x0, x1, x7, x9, x10 => if 0 ≤ x9 then (if x9 ≤ x10 then (if x10 ≤ (x0.length : Int) then ((r09_Block.f k ((x0.take (x10 : Int).toNat).drop (x9 : Int).toNat)).bind fun t331 => ((r03_Put.f k x7 t331).bind fun bt334 => (if bt334.2 = 0 then (r09_Encode.l0 k x0 x1 bt334.1 (wrap64 (x9 + x1))) else (some (([] : List Int), bt334.2))))) else (none)) else (none)) else (none)
end
def r09_Encode.f (k : Nat) (l0 : List (S41)) (a1 : Int) : Option (List Int × Int) := if a1 < 1 then (r09_Encode.j0 k l0 a1 true) else (r09_Encode.j0 k l0 a1 (decide (a1 > 255)))
theorem r09_Encode.mono_l : ∀ k, (∀ y0 y1 y2, LeO (r09_Encode.j0 k y0 y1 y2) (r09_Encode.j0 (k + 1) y0 y1 y2)) ∧ (∀ y0 y1 y2 y3, LeO (r09_Encode.l0 k y0 y1 y2 y3) (r09_Encode.l0 (k + 1) y0 y1 y2 y3)) ∧ (∀ y0 y1 y2 y3 y4, LeO (r09_Encode.j2 k y0 y1 y2 y3 y4) (r09_Encode.j2 (k + 1) y0 y1 y2 y3 y4))
 | 0 => ⟨fun _ _ _ r h => by simp [r09_Encode.j0] at h, fun _ _ _ _ r h => by simp [r09_Encode.l0] at h, fun _ _ _ _ _ r h => by simp [r09_Encode.j2] at h⟩
 | k + 1 => by
  obtain ⟨ih0, ih1, ih2⟩ := r09_Encode.mono_l k
  refine ⟨?_, ?_, ?_⟩
  ·intro y0 y1 y2
   unfold r09_Encode.j0
   repeat' first
   | (with_reducible exact ih0 _ _ _)
   | (with_reducible exact ih1 _ _ _ _)
   | (with_reducible exact ih2 _ _ _ _ _)
   | (with_reducible exact r01_Put.mono _ _ _)
   | (with_reducible exact r03_Put.mono _ _ _)
   | (with_reducible exact r09_Block.mono _ _)
   | (with_reducible exact r09_May.mono _ _)
   | (with_reducible exact LeO.refl _)
   | (with_reducible exact LeO.none _)
   | (with_reducible refine LeO.ite ?_ ?_)
   | (with_reducible refine LeO.bind ?_ (fun _ => ?_))
   | exact ih0 _ _ _
   | exact ih1 _ _ _ _
   | exact ih2 _ _ _ _ _
   | exact r01_Put.mono _ _ _
   | exact r03_Put.mono _ _ _
   | exact r09_Block.mono _ _
   | exact r09_May.mono _ _
   | exact LeO.none _
   | refine LeO.ite ?_ ?_
   | refine LeO.bind ?_ (fun _ => ?_)
  ·intro y0 y1 y2 y3
   unfold r09_Encode.l0
   repeat' first
   | (with_reducible exact ih0 _ _ _)
   | (with_reducible exact ih1 _ _ _ _)
   | (with_reducible exact ih2 _ _ _ _ _)
   | (with_reducible exact r01_Put.mono _ _ _)
   | (with_reducible exact r03_Put.mono _ _ _)
   | (with_reducible exact r09_Block.mono _ _)
   | (with_reducible exact r09_May.mono _ _)
   | (with_reducible exact LeO.refl _)
   | (with_reducible exact LeO.none _)
   | (with_reducible refine LeO.ite ?_ ?_)
   | (with_reducible refine LeO.bind ?_ (fun _ => ?_))
   | exact ih0 _ _ _
   | exact ih1 _ _ _ _
   | exact ih2 _ _ _ _ _
   | exact r01_Put.mono _ _ _
   | exact r03_Put.mono _ _ _
   | exact r09_Block.mono _ _
   | exact r09_May.mono _ _
   | exact LeO.none _
   | refine LeO.ite ?_ ?_
   | refine LeO.bind ?_ (fun _ => ?_)
  ·intro y0 y1 y2 y3 y4
   unfold r09_Encode.j2
   repeat' first
   | (with_reducible exact ih0 _ _ _)
   | (with_reducible exact ih1 _ _ _ _)
   | (with_reducible exact ih2 _ _ _ _ _)
   | (with_reducible exact r01_Put.mono _ _ _)
   | (with_reducible exact r03_Put.mono _ _ _)
   | (with_reducible exact r09_Block.mono _ _)
   | (with_reducible exact r09_May.mono _ _)
   | (with_reducible exact LeO.refl _)
   | (with_reducible exact LeO.none _)
   | (with_reducible refine LeO.ite ?_ ?_)
   | (with_reducible refine LeO.bind ?_ (fun _ => ?_))
   | exact ih0 _ _ _
   | exact ih1 _ _ _ _
   | exact ih2 _ _ _ _ _
   | exact r01_Put.mono _ _ _
   | exact r03_Put.mono _ _ _
   | exact r09_Block.mono _ _
   | exact r09_May.mono _ _
   | exact LeO.none _
   | refine LeO.ite ?_ ?_
   | refine LeO.bind ?_ (fun _ => ?_)
theorem r09_Encode.mono : ∀ a0 a1 k, LeO (r09_Encode.f k a0 a1) (r09_Encode.f (k + 1) a0 a1) := by
 intro a0 a1 k
 obtain ⟨ih0, ih1, ih2⟩ := r09_Encode.mono_l k
 unfold r09_Encode.f
 repeat' first
   | (with_reducible exact ih0 _ _ _)
   | (with_reducible exact ih1 _ _ _ _)
   | (with_reducible exact ih2 _ _ _ _ _)
   | (with_reducible exact r01_Put.mono _ _ _)
   | (with_reducible exact r03_Put.mono _ _ _)
   | (with_reducible exact r09_Block.mono _ _)
   | (with_reducible exact r09_May.mono _ _)
   | (with_reducible exact LeO.refl _)
   | (with_reducible exact LeO.none _)
   | (with_reducible refine LeO.ite ?_ ?_)
   | (with_reducible refine LeO.bind ?_ (fun _ => ?_))
   | exact ih0 _ _ _
   | exact ih1 _ _ _ _
   | exact ih2 _ _ _ _ _
   | exact r01_Put.mono _ _ _
   | exact r03_Put.mono _ _ _
   | exact r09_Block.mono _ _
   | exact r09_May.mono _ _
   | exact LeO.none _
   | refine LeO.ite ?_ ?_
   | refine LeO.bind ?_ (fun _ => ?_)
theorem r09_Encode.calls (k : Nat) (A0 : Option Addr) (c0 : Nat) (l0 : List (S41)) (a1 : Int) (r1 : List Int) (r2 : Int) (w : World) (hr0 : Kd.C k41 w A0 l0.length l0) (hc0 : l0.length ≤ c0) (h : r09_Encode.f k l0 a1 = some (r1, r2)) :
  Calls Try.prog 19 #[.slice A0 l0.length c0, .int .i64 a1] w fun e w' => ∃ v0_ : Value, e = .returned (.tuple #[v0_, .int .i64 r2]) ∧ Kd.R (Kd.int .u8) 5 w' w.heap.size (fun _ => True) v0_ r1 ∧ Below w.heap.size w w' := by
 have HR0 := Az.mk hr0
 have HC0 := Az.mk hc0
 clear hr0 hc0
 have HB := Az.mk (Below.refl w.heap.size w)
 have H : (if a1 < 1 then (r09_Encode.j0 k l0 a1 true) else (r09_Encode.j0 k l0 a1 (decide (a1 > 255)))) = some (r1, r2) := h
 clear h
 have HC3 := Az.mk H
 clear H
 go_enter Try.func19, Try.ntmps19
 go_upto_region 1 with (fail)
 go_cut [20] (fun v20 wc => ∃ (kq : Nat) (x20_2 : Bool), v20 = .bool x20_2 ∧ Az (r09_Encode.j0 kq l0 a1 x20_2 = some (r1, r2)) ∧ Az (kq ≤ k) ∧ Az (Below w.heap.size w wc))
 case first =>
  have H := HC3.out
  clear HC3
  by_cases c4 : a1 < 1
  ·rw [if_pos c4] at H
   have c4b0 := decide_eq_true c4
   clear c4
   (first | rw [c4b0] | (simp only [i64_w, i32_w]; rw [c4b0]) | skip)
   have H' := Az.mk H
   clear H
   go_wp2
   go_meet
   case rel => exact ⟨_, (true), (es_), H', ⟨by first | omega | exact Nat.le_refl _⟩, ⟨bl_ HB⟩⟩
  ·rw [if_neg c4] at H
   have c4b0 := decide_eq_false c4
   clear c4
   (first | rw [c4b0] | (simp only [i64_w, i32_w]; rw [c4b0]) | skip)
   have H' := Az.mk H
   clear H
   go_wp2
   go_meet
   case rel => exact ⟨_, (decide (a1 > 255)), (es_), H', ⟨by first | omega | exact Nat.le_refl _⟩, ⟨bl_ HB⟩⟩
 case rest =>
  clear HC3
  try clear c1
  try clear p2
  try clear c4
  try clear c4b0
  obtain ⟨kq, x20_2, rfl, HA, HJ2, HB⟩ := hcut
  cases kq with
  | zero => exact absurd HA.out (by simp [r09_Encode.j0])
  | succ kj2 =>
   have H := HA.out
   clear HA
   simp only [r09_Encode.j0] at H
   by_cases c5 : x20_2 = true
   ·subst c5
    have H1 : (some (([] : List Int), 1)) = some (r1, r2) := by rw [if_pos rfl] at H; exact H
    clear H
    have H := H1
    clear H1
    simp only [Option.some.injEq, Prod.mk.injEq] at H
    obtain ⟨rfl, rfl⟩ := H
    go_wp2
    go_ret2
    exact ⟨_, er_, nl_, bl_ HB⟩
   ·replace c5 := Bool.eq_false_iff.mpr c5
    subst c5
    have H1 : ((r09_May.f kj2 l0).bind fun t309 => (if t309 = 0 then ((r01_Put.f kj2 ([] : List Int) (IntKind.u64.wrap (a1))).bind fun t310 => ((r03_Put.f kj2 ([] : List Int) t310).bind fun bt313 => (r09_Encode.l0 kj2 l0 a1 bt313.1 0))) else (some (([] : List Int), t309)))) = some (r1, r2) := by rw [if_neg (show ¬ (false = true) by decide)] at H; exact H
    clear H
    have H := H1
    clear H1
    replace H := Option.bind_eq_some_iff.mp H
    obtain ⟨t309, A60, H⟩ := H
    replace H : (if t309 = 0 then ((r01_Put.f kj2 ([] : List Int) (IntKind.u64.wrap (a1))).bind fun t310 => ((r03_Put.f kj2 ([] : List Int) t310).bind fun bt313 => (r09_Encode.l0 kj2 l0 a1 bt313.1 0))) else (some (([] : List Int), t309))) = some (r1, r2) := H
    have A6 := Az.mk A60
    clear A60
    by_cases c7 : t309 = 0
    ·rw [if_pos c7] at H
     have c7b0 : (t309 == 0) = true := beq_iff_eq.mpr c7
     have c7b1 : (t309 != 0) = false := bne_eq_false_iff_eq.mpr c7
     clear c7
     replace H := Option.bind_eq_some_iff.mp H
     obtain ⟨t310, A80, H⟩ := H
     replace H : ((r03_Put.f kj2 ([] : List Int) t310).bind fun bt313 => (r09_Encode.l0 kj2 l0 a1 bt313.1 0)) = some (r1, r2) := H
     have A8 := Az.mk A80
     clear A80
     replace H := Option.bind_eq_some_iff.mp H
     obtain ⟨⟨t313, t314⟩, A90, H⟩ := H
     replace H : (r09_Encode.l0 kj2 l0 a1 t313 0) = some (r1, r2) := H
     have A9 := Az.mk A90
     clear A90
     have H' := Az.mk H
     clear H
     go_wp2_with (first | ((with_reducible refine gate_callee (f := 37) rfl ?_); refine goesL_ (some 22) rfl rfl Try.func37 (by kernel_rfl) rfl #[.slice A0 l0.length c0] rfl ar_ ?_; (with_reducible refine (r09_May.calls kj2 _ _ l0 t309 _ ?side1 ?side2 A6.out).mono ?_); (case side1 => exact cl_ (Kd.C_below HR0.out HB.out)); (case side2 => exact HC0.out); rintro e w' ⟨rfl, ⟨nd, rfl⟩⟩; refine ⟨_, rfl, ?_⟩) | ((with_reducible refine gate_callee (f := 40) rfl ?_); refine goesL_ (some 29) rfl rfl Try.func40 (by kernel_rfl) rfl #[.slice none 0 0, .int .u64 (IntKind.u64.wrap (a1))] rfl ar_ ?_; (refine (r01_Put.calls kj2 _ _ ([] : List Int) (IntKind.u64.wrap (a1)) t310 _ ?side1 ?side2 A8.out).mono ?_); (case side1 => exact Kd.C_nil _ _); (case side2 => exact Nat.le_refl _); rintro e w10 ⟨v311, rfl, ho0, hb⟩; refine ⟨_, rfl, ?_⟩; have n0_ := Az.mk (Kd.R_lower ho0 (below_size (bl_ HB))); have n1_ := Az.mk (below_step (bl_ HB) hb); clear HB; have HO312 := n0_; have HB := n1_; clear n0_ n1_; (try clear hb); (try clear hb2); (try clear hk); (try clear hi); (try clear ho0); obtain ⟨Ao11, co11, eo11⟩ := Kd.R_slice HO312.out; subst eo11) | ((with_reducible refine gate_callee (f := 39) rfl ?_); refine goesL_ (some 30) rfl rfl Try.func39 (by kernel_rfl) rfl #[.slice none 0 0, .slice Ao11 t310.length co11] rfl ar_ ?_; (refine (r03_Put.calls kj2 _ _ ([] : List Int) _ _ t310 t313 t314 _ ?side1 ?side2 ?side3 ?side4 A9.out).mono ?_); (case side1 => exact Kd.C_nil _ _); (case side2 => exact Nat.le_refl _); (case side3 => exact cl_ (Kd.R_reads' HO312.out).2.2); (case side4 => exact (Kd.R_reads' HO312.out).2.1); rintro e w12 ⟨v315, rfl, ho0, hb⟩; refine ⟨_, rfl, ?_⟩; have n0_ := Az.mk (Kd.R_elder' (rl_ HO312.out) (Kd.R_base ho0) hb); have n1_ := Az.mk (Kd.R_lower (Kd.R_new' ho0 (Kd.R_lt (rl_ HO312.out))) (below_size (bl_ HB))); have n2_ := Az.mk (below_step (bl_ HB) hb); clear HO312; clear HB; have HO312 := n0_; have HO316 := n1_; have HB := n2_; clear n0_ n1_ n2_; (try clear hb); (try clear hb2); (try clear hk); (try clear hi); (try clear ho0)))
     go_loopg [7, 9] kj2 (fun kq v7 v9 w' => ∃ (x7_2 : List Int) (x9_2 : Int), v9 = .int .i64 x9_2 ∧ Az (r09_Encode.l0 kq l0 a1 x7_2 x9_2 = some (r1, r2)) ∧ Az (kq ≤ kj2) ∧ Az (Kd.R (Kd.int .u8) 5 w' w.heap.size (fun _ => True) v7 x7_2) ∧ Az (Below w.heap.size w w'))
     case atStart => exact ⟨(t313), (0), (es_), H', ⟨Nat.le_refl _⟩, ⟨by (with_reducible repeat (first | apply Kd.R_alloc | apply Kd.R_drewN | apply Kd.R_drew)); exact Kd.R_mono HO316.out (fun _ hk => trivial)⟩, ⟨bl_ HB⟩⟩
     case round =>
      clear H'
      try clear c1
      try clear p2
      try clear c3
      try clear c4
      try clear c4b0
      try clear c5
      try clear c7
      try clear c7b0
      try clear c7b1
      try clear p2
      obtain ⟨x7_2, x9_2, rfl, HA, HK2, HO_7, HB⟩ := hrel
      cases gk with
      | zero => exact absurd HA.out (by simp [r09_Encode.l0])
      | succ k2 =>
       have H := HA.out
       clear HA
       simp only [r09_Encode.l0] at H
       by_cases c13 : x9_2 < (l0.length : Int)
       ·rw [if_pos c13] at H
        have c13b0 := decide_eq_true c13
        clear c13
        have HC14 := Az.mk H
        clear H
        go_upto_if 46 with (fail)
        go_cut [10] (fun v10 wc => ∃ (kq : Nat) (x10_13 : Int), v10 = .int .i64 x10_13 ∧ Az (r09_Encode.j2 kq l0 a1 x7_2 x9_2 x10_13 = some (r1, r2)) ∧ Az (kq ≤ k2) ∧ Az (Kd.R (Kd.int .u8) 5 wc w.heap.size (fun _ => True) u7 x7_2) ∧ Az (Below w.heap.size w wc))
        case first =>
         have H := HC14.out
         clear HC14
         by_cases c15 : (wrap64 (x9_2 + a1)) > (l0.length : Int)
         ·rw [if_pos c15] at H
          have c15b0 := decide_eq_true c15
          clear c15
          (first | rw [c15b0] | (simp only [i64_w, i32_w]; rw [c15b0]) | skip)
          have H' := Az.mk H
          clear H
          go_wp2
          go_meet
          case rel => exact ⟨_, ((l0.length : Int)), (es_), H', ⟨by have := HJ2.out; have := HK2.out; first | omega | exact Nat.le_refl _⟩, ⟨rl_ HO_7.out⟩, ⟨bl_ HB⟩⟩
         ·rw [if_neg c15] at H
          have c15b0 := decide_eq_false c15
          clear c15
          (first | rw [c15b0] | (simp only [i64_w, i32_w]; rw [c15b0]) | skip)
          have H' := Az.mk H
          clear H
          go_wp2
          go_meet
          case rel => exact ⟨_, (wrap64 (x9_2 + a1)), (es_), H', ⟨by have := HJ2.out; have := HK2.out; first | omega | exact Nat.le_refl _⟩, ⟨rl_ HO_7.out⟩, ⟨bl_ HB⟩⟩
        case rest =>
         clear HC14
         try clear c1
         try clear p2
         try clear c3
         try clear c4
         try clear c4b0
         try clear c5
         try clear p6
         try clear c7
         try clear c7b0
         try clear c7b1
         try clear c13
         try clear c13b0
         try clear c15
         try clear c15b0
         try clear p2
         obtain ⟨kq, x10_13, rfl, HA, HJ13, HO_7, HB⟩ := hcut
         cases kq with
         | zero => exact absurd HA.out (by simp [r09_Encode.j2])
         | succ kj13 =>
          have H := HA.out
          clear HA
          simp only [r09_Encode.j2] at H
          by_cases c16 : 0 ≤ x9_2
          ·rw [if_pos c16] at H
           have c16b0 := eq_true c16
           have c16b1 := decide_eq_true c16
           clear c16
           by_cases c17 : x9_2 ≤ x10_13
           ·rw [if_pos c17] at H
            have c17b0 := eq_true c17
            have c17b1 := decide_eq_true c17
            clear c17
            by_cases c18 : x10_13 ≤ (l0.length : Int)
            ·rw [if_pos c18] at H
             have c18b0 := eq_true c18
             have c18b1 := decide_eq_true c18
             clear c18
             obtain ⟨y327, hy327⟩ : ∃ y_ : List (S41), y_ = ((l0.take (x10_13 : Int).toNat).drop (x9_2 : Int).toNat) := ⟨_, rfl⟩
             replace H : ((r09_Block.f kj13 y327).bind fun t331 => ((r03_Put.f kj13 x7_2 t331).bind fun bt334 => (if bt334.2 = 0 then (r09_Encode.l0 kj13 l0 a1 bt334.1 (wrap64 (x9_2 + a1))) else (some (([] : List Int), bt334.2))))) = some (r1, r2) := hr_ hy327 H
             have Ny327 := Az.mk hy327
             clear hy327
             replace H := Option.bind_eq_some_iff.mp H
             obtain ⟨t331, A190, H⟩ := H
             replace H : ((r03_Put.f kj13 x7_2 t331).bind fun bt334 => (if bt334.2 = 0 then (r09_Encode.l0 kj13 l0 a1 bt334.1 (wrap64 (x9_2 + a1))) else (some (([] : List Int), bt334.2)))) = some (r1, r2) := H
             have A19 := Az.mk A190
             clear A190
             replace H := Option.bind_eq_some_iff.mp H
             obtain ⟨⟨t334, t335⟩, A200, H⟩ := H
             replace H : (if t335 = 0 then (r09_Encode.l0 kj13 l0 a1 t334 (wrap64 (x9_2 + a1))) else (some (([] : List Int), t335))) = some (r1, r2) := H
             have A20 := Az.mk A200
             clear A200
             by_cases c21 : t335 = 0
             ·rw [if_pos c21] at H
              have c21b0 : (t335 == 0) = true := beq_iff_eq.mpr c21
              have c21b1 : (t335 != 0) = false := bne_eq_false_iff_eq.mpr c21
              clear c21
              have H' := Az.mk H
              clear H
              have q22 : (x10_13 : Int) ≤ ((l0.length : Int) : Int) := of_decide_eq_true as_
              obtain ⟨i022, hi022, _, hsz22, _⟩ := info_parts info41
              have hroom22 : l0.length ≤ c0 := HC0.out
              have hC22 : Kd.C k41 _ A0 l0.length l0 := HR0.out
              have ql22 : (x9_2 : Int) ≤ (x10_13 : Int) := of_decide_eq_true as_
              have q022 : (0 : Int) ≤ (x9_2 : Int) := of_decide_eq_true as_
              have hcut22 := cut_mid (P := Try.prog) 36 41 .i64 .i64 Try.underlying36 hi022 2 hsz22 A0 l0.length c0 x9_2 x10_13 q022 ql22 q22 hroom22
              have hr22 := Kd.C_mid (lo := (x9_2 : Int).toNat) (hi := (x10_13 : Int).toNat) (c := c0) hC22 (by omega) (by omega) hroom22
              obtain ⟨A22, hA22⟩ : ∃ A1, A1 = (if c0 = (x9_2 : Int).toNat then A0 else (A0 : Option Addr).map (·.add ((x9_2 : Int).toNat * 2))) := ⟨_, rfl⟩
              obtain ⟨c22, hc22⟩ : ∃ c1, c1 = c0 - (x9_2 : Int).toNat := ⟨_, rfl⟩
              have hy22 : y327.length = (x10_13 : Int).toNat - (x9_2 : Int).toNat := (by rw [Ny327.out, List.length_drop, List.length_take] <;> omega)
              rw [show ((l0).take (x10_13 : Int).toNat).drop (x9_2 : Int).toNat = y327 from Ny327.out.symm] at hr22
              replace hr22 : Kd.C k41 _ A22 y327.length y327 := (by rw [hA22]; exact hr22)
              rw [← hy22, ← hA22, ← hc22] at hcut22
              have HR330 := Az.mk hr22
              have HC330 := Az.mk (show y327.length ≤ c22 from by rw [hy22, hc22]; exact Nat.sub_le_sub_right (Nat.le_trans (by omega) hroom22) _)
              clear hr22 hC22 hroom22 hi022 hsz22 hc22
              have KY22 := Az.mk hy22
              have KA22 := Az.mk hA22
              clear hy22 hA22
              replace q22 := eq_true q22
              go_wp2_with (first | ((with_reducible refine gate_callee (f := 41) rfl ?_); refine goesL_ (some 55) rfl rfl Try.func41 (by kernel_rfl) rfl #[.slice A22 y327.length c22] rfl ar_ ?_; (with_reducible refine (r09_Block.calls kj13 _ _ y327 t331 _ ?side1 ?side2 A19.out).mono ?_); (case side1 => exact cl_ (Kd.C_below HR330.out HB.out)); (case side2 => exact HC330.out); rintro e w23 ⟨v332, rfl, ho0, hb⟩; refine ⟨_, rfl, ?_⟩; have n0_ := Az.mk (Kd.R_elder' (rl_ HO_7.out) (Kd.R_base ho0) hb); have n1_ := Az.mk (Kd.R_lower (Kd.R_new' ho0 (Kd.R_lt (rl_ HO_7.out))) (below_size (bl_ HB))); have n2_ := Az.mk (below_step (bl_ HB) hb); clear HO_7; clear HB; have HO_7 := n0_; have HO333 := n1_; have HB := n2_; clear n0_ n1_ n2_; (try clear hb); (try clear hb2); (try clear hk); (try clear hi); (try clear ho0); obtain ⟨Ao24, co24, eo24⟩ := Kd.R_slice HO_7.out; subst eo24; obtain ⟨Ao25, co25, eo25⟩ := Kd.R_slice HO333.out; subst eo25) | ((with_reducible refine gate_callee (f := 39) rfl ?_); refine goesL_ (some 56) rfl rfl Try.func39 (by kernel_rfl) rfl #[.slice Ao24 x7_2.length co24, .slice Ao25 t331.length co25] rfl ar_ ?_; (with_reducible refine (r03_Put.calls kj13 _ _ x7_2 _ _ t331 t334 t335 _ ?side1 ?side2 ?side3 ?side4 A20.out).mono ?_); (case side1 => exact cl_ (Kd.R_reads' HO_7.out).2.2); (case side2 => exact (Kd.R_reads' HO_7.out).2.1); (case side3 => exact cl_ (Kd.R_reads' HO333.out).2.2); (case side4 => exact (Kd.R_reads' HO333.out).2.1); rintro e w26 ⟨v336, rfl, ho0, hb⟩; refine ⟨_, rfl, ?_⟩; have n0_ := Az.mk (Kd.R_elder' (rl_ HO_7.out) (Kd.R_base ho0) hb); have n1_ := Az.mk (Kd.R_elder' (rl_ HO333.out) (Kd.R_base ho0) hb); have n2_ := Az.mk (Kd.R_lower (Kd.R_new' (Kd.R_new' ho0 (Kd.R_lt (rl_ HO_7.out))) (Kd.R_lt (rl_ HO333.out))) (below_size (bl_ HB))); have n3_ := Az.mk (below_step (bl_ HB) hb); clear HO_7; clear HO333; clear HB; have HO_7 := n0_; have HO333 := n1_; have HO337 := n2_; have HB := n3_; clear n0_ n1_ n2_ n3_; (try clear hb); (try clear hb2); (try clear hk); (try clear hi); (try clear ho0)))
              go_roundg kj13
              case measure => have := HJ2.out; have := HK2.out; have := HJ13.out; omega
              case rel => exact ⟨(t334), (wrap64 (x9_2 + a1)), (es_), H', ⟨by have := HJ2.out; have := HK2.out; have := HJ13.out; omega⟩, ⟨by (with_reducible repeat (first | apply Kd.R_alloc | apply Kd.R_drewN | apply Kd.R_drew)); exact Kd.R_mono HO337.out (fun _ hk => trivial)⟩, ⟨bl_ HB⟩⟩
             ·rw [if_neg c21] at H
              have c21b0 : (t335 == 0) = false := beq_eq_false_iff_ne.mpr c21
              have c21b1 : (t335 != 0) = true := bne_iff_ne.mpr c21
              simp only [Option.some.injEq, Prod.mk.injEq] at H
              obtain ⟨rfl, rfl⟩ := H
              have q27 : (x10_13 : Int) ≤ ((l0.length : Int) : Int) := of_decide_eq_true as_
              obtain ⟨i027, hi027, _, hsz27, _⟩ := info_parts info41
              have hroom27 : l0.length ≤ c0 := HC0.out
              have hC27 : Kd.C k41 _ A0 l0.length l0 := HR0.out
              have ql27 : (x9_2 : Int) ≤ (x10_13 : Int) := of_decide_eq_true as_
              have q027 : (0 : Int) ≤ (x9_2 : Int) := of_decide_eq_true as_
              have hcut27 := cut_mid (P := Try.prog) 36 41 .i64 .i64 Try.underlying36 hi027 2 hsz27 A0 l0.length c0 x9_2 x10_13 q027 ql27 q27 hroom27
              have hr27 := Kd.C_mid (lo := (x9_2 : Int).toNat) (hi := (x10_13 : Int).toNat) (c := c0) hC27 (by omega) (by omega) hroom27
              obtain ⟨A27, hA27⟩ : ∃ A1, A1 = (if c0 = (x9_2 : Int).toNat then A0 else (A0 : Option Addr).map (·.add ((x9_2 : Int).toNat * 2))) := ⟨_, rfl⟩
              obtain ⟨c27, hc27⟩ : ∃ c1, c1 = c0 - (x9_2 : Int).toNat := ⟨_, rfl⟩
              have hy27 : y327.length = (x10_13 : Int).toNat - (x9_2 : Int).toNat := (by rw [Ny327.out, List.length_drop, List.length_take] <;> omega)
              rw [show ((l0).take (x10_13 : Int).toNat).drop (x9_2 : Int).toNat = y327 from Ny327.out.symm] at hr27
              replace hr27 : Kd.C k41 _ A27 y327.length y327 := (by rw [hA27]; exact hr27)
              rw [← hy27, ← hA27, ← hc27] at hcut27
              have HR330 := Az.mk hr27
              have HC330 := Az.mk (show y327.length ≤ c27 from by rw [hy27, hc27]; exact Nat.sub_le_sub_right (Nat.le_trans (by omega) hroom27) _)
              clear hr27 hC27 hroom27 hi027 hsz27 hc27
              have KY27 := Az.mk hy27
              have KA27 := Az.mk hA27
              clear hy27 hA27
              replace q27 := eq_true q27
              go_wp2_with (first | ((with_reducible refine gate_callee (f := 41) rfl ?_); refine goesL_ (some 55) rfl rfl Try.func41 (by kernel_rfl) rfl #[.slice A27 y327.length c27] rfl ar_ ?_; (with_reducible refine (r09_Block.calls kj13 _ _ y327 t331 _ ?side1 ?side2 A19.out).mono ?_); (case side1 => exact cl_ (Kd.C_below HR330.out HB.out)); (case side2 => exact HC330.out); rintro e w28 ⟨v332, rfl, ho0, hb⟩; refine ⟨_, rfl, ?_⟩; have n0_ := Az.mk (Kd.R_elder' (rl_ HO_7.out) (Kd.R_base ho0) hb); have n1_ := Az.mk (Kd.R_lower (Kd.R_new' ho0 (Kd.R_lt (rl_ HO_7.out))) (below_size (bl_ HB))); have n2_ := Az.mk (below_step (bl_ HB) hb); clear HO_7; clear HB; have HO_7 := n0_; have HO333 := n1_; have HB := n2_; clear n0_ n1_ n2_; (try clear hb); (try clear hb2); (try clear hk); (try clear hi); (try clear ho0); obtain ⟨Ao29, co29, eo29⟩ := Kd.R_slice HO_7.out; subst eo29; obtain ⟨Ao30, co30, eo30⟩ := Kd.R_slice HO333.out; subst eo30) | ((with_reducible refine gate_callee (f := 39) rfl ?_); refine goesL_ (some 56) rfl rfl Try.func39 (by kernel_rfl) rfl #[.slice Ao29 x7_2.length co29, .slice Ao30 t331.length co30] rfl ar_ ?_; (with_reducible refine (r03_Put.calls kj13 _ _ x7_2 _ _ t331 t334 t335 _ ?side1 ?side2 ?side3 ?side4 A20.out).mono ?_); (case side1 => exact cl_ (Kd.R_reads' HO_7.out).2.2); (case side2 => exact (Kd.R_reads' HO_7.out).2.1); (case side3 => exact cl_ (Kd.R_reads' HO333.out).2.2); (case side4 => exact (Kd.R_reads' HO333.out).2.1); rintro e w31 ⟨v336, rfl, ho0, hb⟩; refine ⟨_, rfl, ?_⟩; have n0_ := Az.mk (Kd.R_elder' (rl_ HO_7.out) (Kd.R_base ho0) hb); have n1_ := Az.mk (Kd.R_elder' (rl_ HO333.out) (Kd.R_base ho0) hb); have n2_ := Az.mk (Kd.R_lower (Kd.R_new' (Kd.R_new' ho0 (Kd.R_lt (rl_ HO_7.out))) (Kd.R_lt (rl_ HO333.out))) (below_size (bl_ HB))); have n3_ := Az.mk (below_step (bl_ HB) hb); clear HO_7; clear HO333; clear HB; have HO_7 := n0_; have HO333 := n1_; have HO337 := n2_; have HB := n3_; clear n0_ n1_ n2_ n3_; (try clear hb); (try clear hb2); (try clear hk); (try clear hi); (try clear ho0)))
              go_ret2
              exact ⟨_, er_, nl_, bl_ HB⟩
            ·rw [if_neg c18] at H
             exact absurd H (by simp)
           ·rw [if_neg c17] at H
            exact absurd H (by simp)
          ·rw [if_neg c16] at H
           exact absurd H (by simp)
       ·rw [if_neg c13] at H
        have c13b0 := decide_eq_false c13
        clear c13
        replace H := Option.bind_eq_some_iff.mp H
        obtain ⟨t317, A320, H⟩ := H
        replace H : ((r01_Put.f k2 t317 (IntKind.u64.wrap ((l0.length : Int)))).bind fun t320 => ((r03_Put.f k2 x7_2 t320).bind fun bt323 => (some (bt323.1, 0)))) = some (r1, r2) := H
        have A32 := Az.mk A320
        clear A320
        replace H := Option.bind_eq_some_iff.mp H
        obtain ⟨t320, A330, H⟩ := H
        replace H : ((r03_Put.f k2 x7_2 t320).bind fun bt323 => (some (bt323.1, 0))) = some (r1, r2) := H
        have A33 := Az.mk A330
        clear A330
        replace H := Option.bind_eq_some_iff.mp H
        obtain ⟨⟨t323, t324⟩, A340, H⟩ := H
        replace H : (some (t323, 0)) = some (r1, r2) := H
        have A34 := Az.mk A340
        clear A340
        simp only [Option.some.injEq, Prod.mk.injEq] at H
        obtain ⟨rfl, rfl⟩ := H
        go_wp2_with (first | ((with_reducible refine gate_callee (f := 40) rfl ?_); refine goesL_ (some 65) rfl rfl Try.func40 (by kernel_rfl) rfl #[.slice none 0 0, .int .u64 0] rfl ar_ ?_; (refine (r01_Put.calls k2 _ _ ([] : List Int) 0 t317 _ ?side1 ?side2 A32.out).mono ?_); (case side1 => exact Kd.C_nil _ _); (case side2 => exact Nat.le_refl _); rintro e w35 ⟨v318, rfl, ho0, hb⟩; refine ⟨_, rfl, ?_⟩; have n0_ := Az.mk (Kd.R_elder' (rl_ HO_7.out) (Kd.R_base ho0) hb); have n1_ := Az.mk (Kd.R_lower (Kd.R_new' ho0 (Kd.R_lt (rl_ HO_7.out))) (below_size (bl_ HB))); have n2_ := Az.mk (below_step (bl_ HB) hb); clear HO_7; clear HB; have HO_7 := n0_; have HO319 := n1_; have HB := n2_; clear n0_ n1_ n2_; (try clear hb); (try clear hb2); (try clear hk); (try clear hi); (try clear ho0); obtain ⟨Ao36, co36, eo36⟩ := Kd.R_slice HO319.out; subst eo36) | ((with_reducible refine gate_callee (f := 40) rfl ?_); refine goesL_ (some 69) rfl rfl Try.func40 (by kernel_rfl) rfl #[.slice Ao36 t317.length co36, .int .u64 (IntKind.u64.wrap ((l0.length : Int)))] rfl ar_ ?_; (with_reducible refine (r01_Put.calls k2 _ _ t317 (IntKind.u64.wrap ((l0.length : Int))) t320 _ ?side1 ?side2 A33.out).mono ?_); (case side1 => exact cl_ (Kd.R_reads' HO319.out).2.2); (case side2 => exact (Kd.R_reads' HO319.out).2.1); rintro e w37 ⟨v321, rfl, ho0, hb⟩; refine ⟨_, rfl, ?_⟩; have n0_ := Az.mk (Kd.R_elder' (rl_ HO_7.out) (Kd.R_base ho0) hb); have n1_ := Az.mk (Kd.R_elder' (rl_ HO319.out) (Kd.R_base ho0) hb); have n2_ := Az.mk (Kd.R_lower (Kd.R_new' (Kd.R_new' ho0 (Kd.R_lt (rl_ HO_7.out))) (Kd.R_lt (rl_ HO319.out))) (below_size (bl_ HB))); have n3_ := Az.mk (below_step (bl_ HB) hb); clear HO_7; clear HO319; clear HB; have HO_7 := n0_; have HO319 := n1_; have HO322 := n2_; have HB := n3_; clear n0_ n1_ n2_ n3_; (try clear hb); (try clear hb2); (try clear hk); (try clear hi); (try clear ho0); obtain ⟨Ao38, co38, eo38⟩ := Kd.R_slice HO_7.out; subst eo38; obtain ⟨Ao39, co39, eo39⟩ := Kd.R_slice HO322.out; subst eo39) | ((with_reducible refine gate_callee (f := 39) rfl ?_); refine goesL_ (some 70) rfl rfl Try.func39 (by kernel_rfl) rfl #[.slice Ao38 x7_2.length co38, .slice Ao39 t320.length co39] rfl ar_ ?_; (with_reducible refine (r03_Put.calls k2 _ _ x7_2 _ _ t320 t323 t324 _ ?side1 ?side2 ?side3 ?side4 A34.out).mono ?_); (case side1 => exact cl_ (Kd.R_reads' HO_7.out).2.2); (case side2 => exact (Kd.R_reads' HO_7.out).2.1); (case side3 => exact cl_ (Kd.R_reads' HO322.out).2.2); (case side4 => exact (Kd.R_reads' HO322.out).2.1); rintro e w40 ⟨v325, rfl, ho0, hb⟩; refine ⟨_, rfl, ?_⟩; have n0_ := Az.mk (Kd.R_elder' (rl_ HO_7.out) (Kd.R_base ho0) hb); have n1_ := Az.mk (Kd.R_elder' (rl_ HO319.out) (Kd.R_base ho0) hb); have n2_ := Az.mk (Kd.R_elder' (rl_ HO322.out) (Kd.R_base ho0) hb); have n3_ := Az.mk (Kd.R_lower (Kd.R_new' (Kd.R_new' (Kd.R_new' ho0 (Kd.R_lt (rl_ HO_7.out))) (Kd.R_lt (rl_ HO319.out))) (Kd.R_lt (rl_ HO322.out))) (below_size (bl_ HB))); have n4_ := Az.mk (below_step (bl_ HB) hb); clear HO_7; clear HO319; clear HO322; clear HB; have HO_7 := n0_; have HO319 := n1_; have HO322 := n2_; have HO326 := n3_; have HB := n4_; clear n0_ n1_ n2_ n3_ n4_; (try clear hb); (try clear hb2); (try clear hk); (try clear hi); (try clear ho0)))
        go_ret2
        exact ⟨_, er_, by (with_reducible repeat (first | apply Kd.R_alloc | apply Kd.R_drewN | apply Kd.R_drew)); exact Kd.R_mono HO326.out (fun _ hk => trivial), bl_ HB⟩
    ·rw [if_neg c7] at H
     have c7b0 : (t309 == 0) = false := beq_eq_false_iff_ne.mpr c7
     have c7b1 : (t309 != 0) = true := bne_iff_ne.mpr c7
     simp only [Option.some.injEq, Prod.mk.injEq] at H
     obtain ⟨rfl, rfl⟩ := H
     go_wp2_with (first | ((with_reducible refine gate_callee (f := 37) rfl ?_); refine goesL_ (some 22) rfl rfl Try.func37 (by kernel_rfl) rfl #[.slice A0 l0.length c0] rfl ar_ ?_; (with_reducible refine (r09_May.calls kj2 _ _ l0 t309 _ ?side1 ?side2 A6.out).mono ?_); (case side1 => exact cl_ (Kd.C_below HR0.out HB.out)); (case side2 => exact HC0.out); rintro e w' ⟨rfl, ⟨nd, rfl⟩⟩; refine ⟨_, rfl, ?_⟩))
     go_ret2
     exact ⟨_, er_, nl_, bl_ HB⟩
mutual
def r01_Get.l0 : Nat → List Int → Int → Int → Int → Option (Int × Int × Int)
 | 0, _, _, _, _ => none
 | k + 1, x0, x5, x6, x7 => if x7 < 10 then (if x7 = (x0.length : Int) then (some (0, 0, 3)) else (if 0 ≤ x7 then (if x7 < (x0.length : Int) then (if x7 = 9 then (if (IntKind.u64.wrap (Int.tmod (rd x0 x7) 128)) > 1 then (r01_Get.j1 k x0 x5 x6 x7 (IntKind.u64.wrap (Int.tmod (rd x0 x7) 128)) true) else (r01_Get.j1 k x0 x5 x6 x7 (IntKind.u64.wrap (Int.tmod (rd x0 x7) 128)) (decide ((rd x0 x7) > 127)))) else (r01_Get.j1 k x0 x5 x6 x7 (IntKind.u64.wrap (Int.tmod (rd x0 x7) 128)) false)) else (none)) else (none))) else (some (0, 0, 2))
def r01_Get.j1 : Nat → List Int → Int → Int → Int → Int → Bool → Option (Int × Int × Int)
 | 0, _, _, _, _, _, _ => none
 | k + 1, x0, x5, x6, x7, x8, x35 => if x35 = true then (some (0, 0, 2)) else (if 0 ≤ x7 then (if x7 < (x0.length : Int) then (if (rd x0 x7) < 128 then (if x7 > 0 then (if (rd x0 x7) = 0 then (some (0, 0, 2)) else (some (IntKind.u64.wrap (x5 + (IntKind.u64.wrap (x8 * x6))), wrap64 (x7 + 1), 0))) else (some (IntKind.u64.wrap (x5 + (IntKind.u64.wrap (x8 * x6))), wrap64 (x7 + 1), 0))) else (r01_Get.l0 k x0 (IntKind.u64.wrap (x5 + (IntKind.u64.wrap (x8 * x6)))) (IntKind.u64.wrap (x6 * 128)) (wrap64 (x7 + 1)))) else (none)) else (none))
end
def r01_Get.f (k : Nat) (l0 : List Int) : Option (Int × Int × Int) := r01_Get.l0 k l0 0 1 0
theorem r01_Get.mono_l : ∀ k, (∀ y0 y1 y2 y3, LeO (r01_Get.l0 k y0 y1 y2 y3) (r01_Get.l0 (k + 1) y0 y1 y2 y3)) ∧ (∀ y0 y1 y2 y3 y4 y5, LeO (r01_Get.j1 k y0 y1 y2 y3 y4 y5) (r01_Get.j1 (k + 1) y0 y1 y2 y3 y4 y5))
 | 0 => ⟨fun _ _ _ _ r h => by simp [r01_Get.l0] at h, fun _ _ _ _ _ _ r h => by simp [r01_Get.j1] at h⟩
 | k + 1 => by
  obtain ⟨ih0, ih1⟩ := r01_Get.mono_l k
  refine ⟨?_, ?_⟩
  ·intro y0 y1 y2 y3
   unfold r01_Get.l0
   repeat' first
   | (with_reducible exact ih0 _ _ _ _)
   | (with_reducible exact ih1 _ _ _ _ _ _)
   | (with_reducible exact LeO.refl _)
   | (with_reducible exact LeO.none _)
   | (with_reducible refine LeO.ite ?_ ?_)
   | (with_reducible refine LeO.bind ?_ (fun _ => ?_))
   | exact ih0 _ _ _ _
   | exact ih1 _ _ _ _ _ _
   | exact LeO.none _
   | refine LeO.ite ?_ ?_
   | refine LeO.bind ?_ (fun _ => ?_)
  ·intro y0 y1 y2 y3 y4 y5
   unfold r01_Get.j1
   repeat' first
   | (with_reducible exact ih0 _ _ _ _)
   | (with_reducible exact ih1 _ _ _ _ _ _)
   | (with_reducible exact LeO.refl _)
   | (with_reducible exact LeO.none _)
   | (with_reducible refine LeO.ite ?_ ?_)
   | (with_reducible refine LeO.bind ?_ (fun _ => ?_))
   | exact ih0 _ _ _ _
   | exact ih1 _ _ _ _ _ _
   | exact LeO.none _
   | refine LeO.ite ?_ ?_
   | refine LeO.bind ?_ (fun _ => ?_)
theorem r01_Get.mono : ∀ a0 k, LeO (r01_Get.f k a0) (r01_Get.f (k + 1) a0) := by
 intro a0 k
 obtain ⟨ih0, ih1⟩ := r01_Get.mono_l k
 unfold r01_Get.f
 repeat' first
   | (with_reducible exact ih0 _ _ _ _)
   | (with_reducible exact ih1 _ _ _ _ _ _)
   | (with_reducible exact LeO.refl _)
   | (with_reducible exact LeO.none _)
   | (with_reducible refine LeO.ite ?_ ?_)
   | (with_reducible refine LeO.bind ?_ (fun _ => ?_))
   | exact ih0 _ _ _ _
   | exact ih1 _ _ _ _ _ _
   | exact LeO.none _
   | refine LeO.ite ?_ ?_
   | refine LeO.bind ?_ (fun _ => ?_)
theorem r01_Get.calls (k : Nat) (A0 : Option Addr) (c0 : Nat) (l0 : List Int) (r1 : Int) (r2 : Int) (r3 : Int) (w : World) (hr0 : Kd.C (Kd.int .u8) w A0 l0.length l0) (hc0 : l0.length ≤ c0) (h : r01_Get.f k l0 = some (r1, r2, r3)) :
  Calls Try.prog 35 #[.slice A0 l0.length c0] w fun e w' => e = .returned (.tuple #[.int .u64 r1, .int .i64 r2, .int .i64 r3]) ∧ Drawn0 w w' := by
 have HR0 := Az.mk hr0
 have HC0 := Az.mk hc0
 clear hr0 hc0
 have H : (r01_Get.l0 k l0 0 1 0) = some (r1, r2, r3) := h
 clear h
 have H' := Az.mk H
 clear H
 go_enter Try.func35, Try.ntmps35
 go_wp2
 go_loopg [5, 6, 7] k (fun kq v5 v6 v7 w' => ∃ (x5_1 : Int) (x6_1 : Int) (x7_1 : Int), v5 = .int .u64 x5_1 ∧ v6 = .int .u64 x6_1 ∧ v7 = .int .i64 x7_1 ∧ Az (r01_Get.l0 kq l0 x5_1 x6_1 x7_1 = some (r1, r2, r3)) ∧ Az (kq ≤ k) ∧ Drawn0 w w')
 case atStart => exact ⟨(0), (1), (0), (es_), (es_), (es_), H', ⟨Nat.le_refl _⟩, dw_⟩
 case round =>
  clear H'
  obtain ⟨x5_1, x6_1, x7_1, rfl, rfl, rfl, HA, HK1, ⟨m1, rfl⟩⟩ := hrel
  cases gk with
  | zero => exact absurd HA.out (by simp [r01_Get.l0])
  | succ k1 =>
   have H := HA.out
   clear HA
   simp only [r01_Get.l0] at H
   by_cases c2 : x7_1 < 10
   ·rw [if_pos c2] at H
    have c2b0 := decide_eq_true c2
    clear c2
    by_cases c3 : x7_1 = (l0.length : Int)
    ·rw [if_pos c3] at H
     have c3b0 : (x7_1 == (l0.length : Int)) = true := beq_iff_eq.mpr c3
     have c3b1 : (x7_1 != (l0.length : Int)) = false := bne_eq_false_iff_eq.mpr c3
     clear c3
     simp only [Option.some.injEq, Prod.mk.injEq] at H
     obtain ⟨rfl, rfl, rfl⟩ := H
     go_wp2
     go_ret3
     exact ⟨es_, dw_⟩
    ·rw [if_neg c3] at H
     have c3b0 : (x7_1 == (l0.length : Int)) = false := beq_eq_false_iff_ne.mpr c3
     have c3b1 : (x7_1 != (l0.length : Int)) = true := bne_iff_ne.mpr c3
     by_cases c4 : 0 ≤ x7_1
     ·rw [if_pos c4] at H
      have c4b0 := decide_eq_true c4
      clear c4
      by_cases c5 : x7_1 < (l0.length : Int)
      ·rw [if_pos c5] at H
       have c5b0 := decide_eq_true c5
       clear c5
       have HC6 := Az.mk H
       clear H
       have p338 : 0 ≤ (x7_1 : Int) := of_decide_eq_true as_
       have q338 : x7_1 < (l0.length : Int) := of_decide_eq_true as_
       obtain ⟨ad338, e338, hx338_0⟩ := Kd.at_int HR0.out x7_1 p338 q338
       cases e338
       replace p338 := eq_true p338
       replace q338 := eq_true q338
       go_upto_region 9 with (fail)
       go_cut [35] (fun v35 wc => ∃ (kq : Nat) (x35_5 : Bool), v35 = .bool x35_5 ∧ Az (r01_Get.j1 kq l0 x5_1 x6_1 x7_1 (IntKind.u64.wrap (Int.tmod (rd l0 x7_1) 128)) x35_5 = some (r1, r2, r3)) ∧ Az (kq ≤ k1) ∧ Drawn0 w wc)
       case first =>
        have H := HC6.out
        clear HC6
        by_cases c7 : x7_1 = 9
        ·rw [if_pos c7] at H
         have c7b0 : (x7_1 == 9) = true := beq_iff_eq.mpr c7
         have c7b1 : (x7_1 != 9) = false := bne_eq_false_iff_eq.mpr c7
         clear c7
         (first | rw [c7b0] | (simp only [i64_w, i32_w]; rw [c7b0]) | skip)
         by_cases c8 : (IntKind.u64.wrap (Int.tmod (rd l0 x7_1) 128)) > 1
         ·rw [if_pos c8] at H
          have c8b0 := decide_eq_true c8
          clear c8
          have H' := Az.mk H
          clear H
          go_wp2
          go_meet
          case rel => exact ⟨_, (true), (es_), H', ⟨by have := HK1.out; first | omega | exact Nat.le_refl _⟩, dw_⟩
         ·rw [if_neg c8] at H
          have c8b0 := decide_eq_false c8
          clear c8
          have H' := Az.mk H
          clear H
          have p339 : 0 ≤ (x7_1 : Int) := of_decide_eq_true as_
          have q339 : x7_1 < (l0.length : Int) := of_decide_eq_true as_
          obtain ⟨ad339, e339, hx339_0⟩ := Kd.at_int HR0.out x7_1 p339 q339
          obtain rfl : ad338 = ad339 := (by injection e339)
          replace p339 := eq_true p339
          replace q339 := eq_true q339
          go_wp2
          go_meet
          case rel => exact ⟨_, (decide ((rd l0 x7_1) > 127)), (es_), H', ⟨by have := HK1.out; first | omega | exact Nat.le_refl _⟩, dw_⟩
        ·rw [if_neg c7] at H
         have c7b0 : (x7_1 == 9) = false := beq_eq_false_iff_ne.mpr c7
         have c7b1 : (x7_1 != 9) = true := bne_iff_ne.mpr c7
         (first | rw [c7b0] | (simp only [i64_w, i32_w]; rw [c7b0]) | skip)
         have H' := Az.mk H
         clear H
         go_wp2
         go_meet
         case rel => exact ⟨_, (false), (es_), H', ⟨by have := HK1.out; first | omega | exact Nat.le_refl _⟩, dw_⟩
       case rest =>
        clear HC6
        try clear c2
        try clear c2b0
        try clear p2
        try clear c3
        try clear c3b0
        try clear c3b1
        try clear p3
        try clear q3
        try clear hx3
        try clear c4
        try clear c4b0
        try clear c5
        try clear c5b0
        try clear c7
        try clear c7b0
        try clear c7b1
        try clear c8
        try clear c8b0
        try clear hx338_0
        try clear hx339_0
        try clear p338
        try clear p339
        try clear q338
        try clear q339
        obtain ⟨kq, x35_5, rfl, HA, HJ5, ⟨mc5, rfl⟩⟩ := hcut
        cases kq with
        | zero => exact absurd HA.out (by simp [r01_Get.j1])
        | succ kj5 =>
         have H := HA.out
         clear HA
         simp only [r01_Get.j1] at H
         by_cases c9 : x35_5 = true
         ·subst c9
          have H1 : (some (0, 0, 2)) = some (r1, r2, r3) := by rw [if_pos rfl] at H; exact H
          clear H
          have H := H1
          clear H1
          simp only [Option.some.injEq, Prod.mk.injEq] at H
          obtain ⟨rfl, rfl, rfl⟩ := H
          go_wp2
          go_ret3
          exact ⟨es_, dw_⟩
         ·replace c9 := Bool.eq_false_iff.mpr c9
          subst c9
          have H1 : (if 0 ≤ x7_1 then (if x7_1 < (l0.length : Int) then (if (rd l0 x7_1) < 128 then (if x7_1 > 0 then (if (rd l0 x7_1) = 0 then (some (0, 0, 2)) else (some (IntKind.u64.wrap (x5_1 + (IntKind.u64.wrap ((IntKind.u64.wrap (Int.tmod (rd l0 x7_1) 128)) * x6_1))), wrap64 (x7_1 + 1), 0))) else (some (IntKind.u64.wrap (x5_1 + (IntKind.u64.wrap ((IntKind.u64.wrap (Int.tmod (rd l0 x7_1) 128)) * x6_1))), wrap64 (x7_1 + 1), 0))) else (r01_Get.l0 kj5 l0 (IntKind.u64.wrap (x5_1 + (IntKind.u64.wrap ((IntKind.u64.wrap (Int.tmod (rd l0 x7_1) 128)) * x6_1)))) (IntKind.u64.wrap (x6_1 * 128)) (wrap64 (x7_1 + 1)))) else (none)) else (none)) = some (r1, r2, r3) := by rw [if_neg (show ¬ (false = true) by decide)] at H; exact H
          clear H
          have H := H1
          clear H1
          by_cases c10 : 0 ≤ x7_1
          ·rw [if_pos c10] at H
           have c10b0 := decide_eq_true c10
           clear c10
           by_cases c11 : x7_1 < (l0.length : Int)
           ·rw [if_pos c11] at H
            have c11b0 := decide_eq_true c11
            clear c11
            by_cases c12 : (rd l0 x7_1) < 128
            ·rw [if_pos c12] at H
             have c12b0 := decide_eq_true c12
             clear c12
             by_cases c13 : x7_1 > 0
             ·rw [if_pos c13] at H
              have c13b0 := decide_eq_true c13
              clear c13
              by_cases c14 : (rd l0 x7_1) = 0
              ·rw [if_pos c14] at H
               have c14b0 : ((rd l0 x7_1) == 0) = true := beq_iff_eq.mpr c14
               have c14b1 : ((rd l0 x7_1) != 0) = false := bne_eq_false_iff_eq.mpr c14
               clear c14
               simp only [Option.some.injEq, Prod.mk.injEq] at H
               obtain ⟨rfl, rfl, rfl⟩ := H
               have p340 : 0 ≤ (x7_1 : Int) := of_decide_eq_true as_
               have q340 : x7_1 < (l0.length : Int) := of_decide_eq_true as_
               obtain ⟨ad340, e340, hx340_0⟩ := Kd.at_int HR0.out x7_1 p340 q340
               obtain rfl : ad338 = ad340 := (by injection e340)
               replace p340 := eq_true p340
               replace q340 := eq_true q340
               have p341 : 0 ≤ (x7_1 : Int) := of_decide_eq_true as_
               have q341 : x7_1 < (l0.length : Int) := of_decide_eq_true as_
               obtain ⟨ad341, e341, hx341_0⟩ := Kd.at_int HR0.out x7_1 p341 q341
               obtain rfl : ad338 = ad341 := (by injection e341)
               replace p341 := eq_true p341
               replace q341 := eq_true q341
               go_wp2
               go_ret3
               exact ⟨es_, dw_⟩
              ·rw [if_neg c14] at H
               have c14b0 : ((rd l0 x7_1) == 0) = false := beq_eq_false_iff_ne.mpr c14
               have c14b1 : ((rd l0 x7_1) != 0) = true := bne_iff_ne.mpr c14
               simp only [Option.some.injEq, Prod.mk.injEq] at H
               obtain ⟨rfl, rfl, rfl⟩ := H
               have p340 : 0 ≤ (x7_1 : Int) := of_decide_eq_true as_
               have q340 : x7_1 < (l0.length : Int) := of_decide_eq_true as_
               obtain ⟨ad340, e340, hx340_0⟩ := Kd.at_int HR0.out x7_1 p340 q340
               obtain rfl : ad338 = ad340 := (by injection e340)
               replace p340 := eq_true p340
               replace q340 := eq_true q340
               have p341 : 0 ≤ (x7_1 : Int) := of_decide_eq_true as_
               have q341 : x7_1 < (l0.length : Int) := of_decide_eq_true as_
               obtain ⟨ad341, e341, hx341_0⟩ := Kd.at_int HR0.out x7_1 p341 q341
               obtain rfl : ad338 = ad341 := (by injection e341)
               replace p341 := eq_true p341
               replace q341 := eq_true q341
               go_wp2
               go_ret3
               exact ⟨es_, dw_⟩
             ·rw [if_neg c13] at H
              have c13b0 := decide_eq_false c13
              clear c13
              simp only [Option.some.injEq, Prod.mk.injEq] at H
              obtain ⟨rfl, rfl, rfl⟩ := H
              have p340 : 0 ≤ (x7_1 : Int) := of_decide_eq_true as_
              have q340 : x7_1 < (l0.length : Int) := of_decide_eq_true as_
              obtain ⟨ad340, e340, hx340_0⟩ := Kd.at_int HR0.out x7_1 p340 q340
              obtain rfl : ad338 = ad340 := (by injection e340)
              replace p340 := eq_true p340
              replace q340 := eq_true q340
              go_wp2
              go_ret3
              exact ⟨es_, dw_⟩
            ·rw [if_neg c12] at H
             have c12b0 := decide_eq_false c12
             clear c12
             have H' := Az.mk H
             clear H
             have p340 : 0 ≤ (x7_1 : Int) := of_decide_eq_true as_
             have q340 : x7_1 < (l0.length : Int) := of_decide_eq_true as_
             obtain ⟨ad340, e340, hx340_0⟩ := Kd.at_int HR0.out x7_1 p340 q340
             obtain rfl : ad338 = ad340 := (by injection e340)
             replace p340 := eq_true p340
             replace q340 := eq_true q340
             go_wp2
             go_roundg kj5
             case measure => have := HK1.out; have := HJ5.out; omega
             case rel => exact ⟨(IntKind.u64.wrap (x5_1 + (IntKind.u64.wrap ((IntKind.u64.wrap (Int.tmod (rd l0 x7_1) 128)) * x6_1)))), (IntKind.u64.wrap (x6_1 * 128)), (wrap64 (x7_1 + 1)), (es_), (es_), (es_), H', ⟨by have := HK1.out; have := HJ5.out; omega⟩, dw_⟩
           ·rw [if_neg c11] at H
            exact absurd H (by simp)
          ·rw [if_neg c10] at H
           exact absurd H (by simp)
      ·rw [if_neg c5] at H
       exact absurd H (by simp)
     ·rw [if_neg c4] at H
      exact absurd H (by simp)
   ·rw [if_neg c2] at H
    have c2b0 := decide_eq_false c2
    clear c2
    simp only [Option.some.injEq, Prod.mk.injEq] at H
    obtain ⟨rfl, rfl, rfl⟩ := H
    go_wp2
    go_ret3
    exact ⟨es_, dw_⟩
def r03_Get.f (k : Nat) (l0 : List Int) : Option (List Int × Int × Int) := (r01_Get.f k l0).bind fun bt342 => (if bt342.2.2 = 0 then (if bt342.1 > 1048576 then (some (([] : List Int), 0, 2)) else (if (wrap64 ((wrap64 (bt342.2.1 + (wrap64 (bt342.1)))) + 4)) > (l0.length : Int) then (some (([] : List Int), 0, 3)) else ((some (([] : List Int) : List Int)).bind fun y345 => (if 0 ≤ bt342.2.1 then (if bt342.2.1 ≤ (wrap64 ((wrap64 ((wrap64 (bt342.2.1 + (wrap64 (bt342.1)))) + 4)) - 4)) then (if (wrap64 ((wrap64 ((wrap64 (bt342.2.1 + (wrap64 (bt342.1)))) + 4)) - 4)) ≤ (l0.length : Int) then (if y345.length + ((l0.take ((wrap64 ((wrap64 ((wrap64 (bt342.2.1 + (wrap64 (bt342.1)))) + 4)) - 4)) : Int).toNat).drop (bt342.2.1 : Int).toNat).length < 140737488355328 then ((some (y345 ++ ((l0.take ((wrap64 ((wrap64 ((wrap64 (bt342.2.1 + (wrap64 (bt342.1)))) + 4)) - 4)) : Int).toNat).drop (bt342.2.1 : Int).toNat) : List Int)).bind fun y349 => ((r03_Put.f k ([] : List Int) y349).bind fun bt352 => (if 0 ≤ (wrap64 ((wrap64 (bt342.2.1 + (wrap64 (bt342.1)))) + 4)) then (if (wrap64 ((wrap64 (bt342.2.1 + (wrap64 (bt342.1)))) + 4)) ≤ (l0.length : Int) then (if (strOfNums bt352.1).toList = (strOfNums (l0.take ((wrap64 ((wrap64 (bt342.2.1 + (wrap64 (bt342.1)))) + 4)) : Int).toNat)).toList then (some (y349, wrap64 ((wrap64 (bt342.2.1 + (wrap64 (bt342.1)))) + 4), 0)) else (some (([] : List Int), 0, 4))) else (none)) else (none)))) else (none)) else (none)) else (none)) else (none))))) else (some (([] : List Int), 0, bt342.2.2)))
theorem r03_Get.mono : ∀ a0 k, LeO (r03_Get.f k a0) (r03_Get.f (k + 1) a0) := by
 intro a0 k
 unfold r03_Get.f
 repeat' first
   | (with_reducible exact r01_Get.mono _ _)
   | (with_reducible exact r03_Put.mono _ _ _)
   | (with_reducible exact LeO.refl _)
   | (with_reducible exact LeO.none _)
   | (with_reducible refine LeO.ite ?_ ?_)
   | (with_reducible refine LeO.bind ?_ (fun _ => ?_))
   | exact r01_Get.mono _ _
   | exact r03_Put.mono _ _ _
   | exact LeO.none _
   | refine LeO.ite ?_ ?_
   | refine LeO.bind ?_ (fun _ => ?_)
theorem r03_Get.calls (k : Nat) (A0 : Option Addr) (c0 : Nat) (l0 : List Int) (r1 : List Int) (r2 : Int) (r3 : Int) (w : World) (hr0 : Kd.C (Kd.int .u8) w A0 l0.length l0) (hc0 : l0.length ≤ c0) (h : r03_Get.f k l0 = some (r1, r2, r3)) :
  Calls Try.prog 52 #[.slice A0 l0.length c0] w fun e w' => ∃ v0_ : Value, e = .returned (.tuple #[v0_, .int .i64 r2, .int .i64 r3]) ∧ Kd.R (Kd.int .u8) 5 w' w.heap.size (fun _ => True) v0_ r1 ∧ Below w.heap.size w w' := by
 have HR0 := Az.mk hr0
 have HC0 := Az.mk hc0
 clear hr0 hc0
 have HB := Az.mk (Below.refl w.heap.size w)
 have H : ((r01_Get.f k l0).bind fun bt342 => (if bt342.2.2 = 0 then (if bt342.1 > 1048576 then (some (([] : List Int), 0, 2)) else (if (wrap64 ((wrap64 (bt342.2.1 + (wrap64 (bt342.1)))) + 4)) > (l0.length : Int) then (some (([] : List Int), 0, 3)) else ((some (([] : List Int) : List Int)).bind fun y345 => (if 0 ≤ bt342.2.1 then (if bt342.2.1 ≤ (wrap64 ((wrap64 ((wrap64 (bt342.2.1 + (wrap64 (bt342.1)))) + 4)) - 4)) then (if (wrap64 ((wrap64 ((wrap64 (bt342.2.1 + (wrap64 (bt342.1)))) + 4)) - 4)) ≤ (l0.length : Int) then (if y345.length + ((l0.take ((wrap64 ((wrap64 ((wrap64 (bt342.2.1 + (wrap64 (bt342.1)))) + 4)) - 4)) : Int).toNat).drop (bt342.2.1 : Int).toNat).length < 140737488355328 then ((some (y345 ++ ((l0.take ((wrap64 ((wrap64 ((wrap64 (bt342.2.1 + (wrap64 (bt342.1)))) + 4)) - 4)) : Int).toNat).drop (bt342.2.1 : Int).toNat) : List Int)).bind fun y349 => ((r03_Put.f k ([] : List Int) y349).bind fun bt352 => (if 0 ≤ (wrap64 ((wrap64 (bt342.2.1 + (wrap64 (bt342.1)))) + 4)) then (if (wrap64 ((wrap64 (bt342.2.1 + (wrap64 (bt342.1)))) + 4)) ≤ (l0.length : Int) then (if (strOfNums bt352.1).toList = (strOfNums (l0.take ((wrap64 ((wrap64 (bt342.2.1 + (wrap64 (bt342.1)))) + 4)) : Int).toNat)).toList then (some (y349, wrap64 ((wrap64 (bt342.2.1 + (wrap64 (bt342.1)))) + 4), 0)) else (some (([] : List Int), 0, 4))) else (none)) else (none)))) else (none)) else (none)) else (none)) else (none))))) else (some (([] : List Int), 0, bt342.2.2)))) = some (r1, r2, r3) := h
 clear h
 replace H := Option.bind_eq_some_iff.mp H
 obtain ⟨⟨t342, t343, t344⟩, A20, H⟩ := H
 replace H : (if t344 = 0 then (if t342 > 1048576 then (some (([] : List Int), 0, 2)) else (if (wrap64 ((wrap64 (t343 + (wrap64 (t342)))) + 4)) > (l0.length : Int) then (some (([] : List Int), 0, 3)) else ((some (([] : List Int) : List Int)).bind fun y345 => (if 0 ≤ t343 then (if t343 ≤ (wrap64 ((wrap64 ((wrap64 (t343 + (wrap64 (t342)))) + 4)) - 4)) then (if (wrap64 ((wrap64 ((wrap64 (t343 + (wrap64 (t342)))) + 4)) - 4)) ≤ (l0.length : Int) then (if y345.length + ((l0.take ((wrap64 ((wrap64 ((wrap64 (t343 + (wrap64 (t342)))) + 4)) - 4)) : Int).toNat).drop (t343 : Int).toNat).length < 140737488355328 then ((some (y345 ++ ((l0.take ((wrap64 ((wrap64 ((wrap64 (t343 + (wrap64 (t342)))) + 4)) - 4)) : Int).toNat).drop (t343 : Int).toNat) : List Int)).bind fun y349 => ((r03_Put.f k ([] : List Int) y349).bind fun bt352 => (if 0 ≤ (wrap64 ((wrap64 (t343 + (wrap64 (t342)))) + 4)) then (if (wrap64 ((wrap64 (t343 + (wrap64 (t342)))) + 4)) ≤ (l0.length : Int) then (if (strOfNums bt352.1).toList = (strOfNums (l0.take ((wrap64 ((wrap64 (t343 + (wrap64 (t342)))) + 4)) : Int).toNat)).toList then (some (y349, wrap64 ((wrap64 (t343 + (wrap64 (t342)))) + 4), 0)) else (some (([] : List Int), 0, 4))) else (none)) else (none)))) else (none)) else (none)) else (none)) else (none))))) else (some (([] : List Int), 0, t344))) = some (r1, r2, r3) := H
 have A2 := Az.mk A20
 clear A20
 by_cases c3 : t344 = 0
 ·rw [if_pos c3] at H
  have c3b0 : (t344 == 0) = true := beq_iff_eq.mpr c3
  have c3b1 : (t344 != 0) = false := bne_eq_false_iff_eq.mpr c3
  clear c3
  by_cases c4 : t342 > 1048576
  ·rw [if_pos c4] at H
   have c4b0 := decide_eq_true c4
   clear c4
   simp only [Option.some.injEq, Prod.mk.injEq] at H
   obtain ⟨rfl, rfl, rfl⟩ := H
   go_enter Try.func52, Try.ntmps52
   go_wp2_with (first | (go_at_call 35; (with_reducible refine (r01_Get.calls k _ _ l0 t342 t343 t344 _ ?side1 ?side2 A2.out).mono ?_); (case side1 => exact cl_ HR0.out); (case side2 => exact HC0.out); rintro e w' ⟨rfl, ⟨nd, rfl⟩⟩; (try first | exact ⟨rfl, _, World.drewN_drewN _ _ _⟩ | exact ⟨rfl, _, Eq.trans (World.drewN_drewN _ _ _) (congrArg (World.drewN _) (Nat.add_assoc _ _ _))⟩)))
   repeat (go_quiet (first | (go_at_call 35; (with_reducible refine (r01_Get.calls k _ _ l0 t342 t343 t344 _ ?side1 ?side2 A2.out).mono ?_); (case side1 => exact cl_ HR0.out); (case side2 => exact HC0.out); rintro e w' ⟨rfl, ⟨nd, rfl⟩⟩; (try first | exact ⟨rfl, _, World.drewN_drewN _ _ _⟩ | exact ⟨rfl, _, Eq.trans (World.drewN_drewN _ _ _) (congrArg (World.drewN _) (Nat.add_assoc _ _ _))⟩))); try go_wp2_with (first | (go_at_call 35; (with_reducible refine (r01_Get.calls k _ _ l0 t342 t343 t344 _ ?side1 ?side2 A2.out).mono ?_); (case side1 => exact cl_ HR0.out); (case side2 => exact HC0.out); rintro e w' ⟨rfl, ⟨nd, rfl⟩⟩; (try first | exact ⟨rfl, _, World.drewN_drewN _ _ _⟩ | exact ⟨rfl, _, Eq.trans (World.drewN_drewN _ _ _) (congrArg (World.drewN _) (Nat.add_assoc _ _ _))⟩))))
   go_ret3
   exact ⟨_, er_, nl_, bl_ HB⟩
  ·rw [if_neg c4] at H
   have c4b0 := decide_eq_false c4
   clear c4
   by_cases c5 : (wrap64 ((wrap64 (t343 + (wrap64 (t342)))) + 4)) > (l0.length : Int)
   ·rw [if_pos c5] at H
    have c5b0 := decide_eq_true c5
    clear c5
    simp only [Option.some.injEq, Prod.mk.injEq] at H
    obtain ⟨rfl, rfl, rfl⟩ := H
    go_enter Try.func52, Try.ntmps52
    go_wp2_with (first | (go_at_call 35; (with_reducible refine (r01_Get.calls k _ _ l0 t342 t343 t344 _ ?side1 ?side2 A2.out).mono ?_); (case side1 => exact cl_ HR0.out); (case side2 => exact HC0.out); rintro e w' ⟨rfl, ⟨nd, rfl⟩⟩; (try first | exact ⟨rfl, _, World.drewN_drewN _ _ _⟩ | exact ⟨rfl, _, Eq.trans (World.drewN_drewN _ _ _) (congrArg (World.drewN _) (Nat.add_assoc _ _ _))⟩)))
    repeat (go_quiet (first | (go_at_call 35; (with_reducible refine (r01_Get.calls k _ _ l0 t342 t343 t344 _ ?side1 ?side2 A2.out).mono ?_); (case side1 => exact cl_ HR0.out); (case side2 => exact HC0.out); rintro e w' ⟨rfl, ⟨nd, rfl⟩⟩; (try first | exact ⟨rfl, _, World.drewN_drewN _ _ _⟩ | exact ⟨rfl, _, Eq.trans (World.drewN_drewN _ _ _) (congrArg (World.drewN _) (Nat.add_assoc _ _ _))⟩))); try go_wp2_with (first | (go_at_call 35; (with_reducible refine (r01_Get.calls k _ _ l0 t342 t343 t344 _ ?side1 ?side2 A2.out).mono ?_); (case side1 => exact cl_ HR0.out); (case side2 => exact HC0.out); rintro e w' ⟨rfl, ⟨nd, rfl⟩⟩; (try first | exact ⟨rfl, _, World.drewN_drewN _ _ _⟩ | exact ⟨rfl, _, Eq.trans (World.drewN_drewN _ _ _) (congrArg (World.drewN _) (Nat.add_assoc _ _ _))⟩))))
    go_ret3
    exact ⟨_, er_, nl_, bl_ HB⟩
   ·rw [if_neg c5] at H
    have c5b0 := decide_eq_false c5
    clear c5
    obtain ⟨y345, hy345⟩ : ∃ y_ : List Int, y_ = (([] : List Int)) := ⟨_, rfl⟩
    replace H : (if 0 ≤ t343 then (if t343 ≤ (wrap64 ((wrap64 ((wrap64 (t343 + (wrap64 (t342)))) + 4)) - 4)) then (if (wrap64 ((wrap64 ((wrap64 (t343 + (wrap64 (t342)))) + 4)) - 4)) ≤ (l0.length : Int) then (if y345.length + ((l0.take ((wrap64 ((wrap64 ((wrap64 (t343 + (wrap64 (t342)))) + 4)) - 4)) : Int).toNat).drop (t343 : Int).toNat).length < 140737488355328 then ((some (y345 ++ ((l0.take ((wrap64 ((wrap64 ((wrap64 (t343 + (wrap64 (t342)))) + 4)) - 4)) : Int).toNat).drop (t343 : Int).toNat) : List Int)).bind fun y349 => ((r03_Put.f k ([] : List Int) y349).bind fun bt352 => (if 0 ≤ (wrap64 ((wrap64 (t343 + (wrap64 (t342)))) + 4)) then (if (wrap64 ((wrap64 (t343 + (wrap64 (t342)))) + 4)) ≤ (l0.length : Int) then (if (strOfNums bt352.1).toList = (strOfNums (l0.take ((wrap64 ((wrap64 (t343 + (wrap64 (t342)))) + 4)) : Int).toNat)).toList then (some (y349, wrap64 ((wrap64 (t343 + (wrap64 (t342)))) + 4), 0)) else (some (([] : List Int), 0, 4))) else (none)) else (none)))) else (none)) else (none)) else (none)) else (none)) = some (r1, r2, r3) := hr_ hy345 H
    have Ny345 := Az.mk hy345
    clear hy345
    by_cases c6 : 0 ≤ t343
    ·rw [if_pos c6] at H
     have c6b0 := eq_true c6
     have c6b1 := decide_eq_true c6
     clear c6
     by_cases c7 : t343 ≤ (wrap64 ((wrap64 ((wrap64 (t343 + (wrap64 (t342)))) + 4)) - 4))
     ·rw [if_pos c7] at H
      have c7b0 := eq_true c7
      have c7b1 := decide_eq_true c7
      by_cases c8 : (wrap64 ((wrap64 ((wrap64 (t343 + (wrap64 (t342)))) + 4)) - 4)) ≤ (l0.length : Int)
      ·rw [if_pos c8] at H
       have c8b0 := eq_true c8
       have c8b1 := decide_eq_true c8
       by_cases c9 : y345.length + ((l0.take ((wrap64 ((wrap64 ((wrap64 (t343 + (wrap64 (t342)))) + 4)) - 4)) : Int).toNat).drop (t343 : Int).toNat).length < 140737488355328
       ·rw [if_pos c9] at H
        have LMc9 := Az.mk c9
        clear c9
        obtain ⟨y349, hy349⟩ : ∃ y_ : List Int, y_ = (y345 ++ ((l0.take ((wrap64 ((wrap64 ((wrap64 (t343 + (wrap64 (t342)))) + 4)) - 4)) : Int).toNat).drop (t343 : Int).toNat)) := ⟨_, rfl⟩
        replace H : ((r03_Put.f k ([] : List Int) y349).bind fun bt352 => (if 0 ≤ (wrap64 ((wrap64 (t343 + (wrap64 (t342)))) + 4)) then (if (wrap64 ((wrap64 (t343 + (wrap64 (t342)))) + 4)) ≤ (l0.length : Int) then (if (strOfNums bt352.1).toList = (strOfNums (l0.take ((wrap64 ((wrap64 (t343 + (wrap64 (t342)))) + 4)) : Int).toNat)).toList then (some (y349, wrap64 ((wrap64 (t343 + (wrap64 (t342)))) + 4), 0)) else (some (([] : List Int), 0, 4))) else (none)) else (none))) = some (r1, r2, r3) := hr_ hy349 H
        have Ny349 := Az.mk hy349
        clear hy349
        replace H := Option.bind_eq_some_iff.mp H
        obtain ⟨⟨t352, t353⟩, A100, H⟩ := H
        replace H : (if 0 ≤ (wrap64 ((wrap64 (t343 + (wrap64 (t342)))) + 4)) then (if (wrap64 ((wrap64 (t343 + (wrap64 (t342)))) + 4)) ≤ (l0.length : Int) then (if (strOfNums t352).toList = (strOfNums (l0.take ((wrap64 ((wrap64 (t343 + (wrap64 (t342)))) + 4)) : Int).toNat)).toList then (some (y349, wrap64 ((wrap64 (t343 + (wrap64 (t342)))) + 4), 0)) else (some (([] : List Int), 0, 4))) else (none)) else (none)) = some (r1, r2, r3) := H
        have A10 := Az.mk A100
        clear A100
        obtain ⟨ji11, hji11⟩ : ∃ j_ : Int, (wrap64 ((wrap64 (t343 + (wrap64 (t342)))) + 4)) = j_ := ⟨_, rfl⟩
        (try rw [hji11] at LMc9)
        replace H : (if 0 ≤ (ji11) then (if (ji11) ≤ (l0.length : Int) then (if (strOfNums t352).toList = (strOfNums (l0.take ((ji11) : Int).toNat)).toList then (some (y349, ji11, 0)) else (some (([] : List Int), 0, 4))) else (none)) else (none)) = some (r1, r2, r3) := by first | (rw [hji11] at H; exact H) | (simp only [hji11] at H ⊢; exact H)
        (try rw [hji11] at c5b0)
        (try rw [hji11] at c7b0)
        (try rw [hji11] at c7b1)
        (try rw [hji11] at c7)
        (try rw [hji11] at c8b0)
        (try rw [hji11] at c8b1)
        (try rw [hji11] at c8)
        (try rw [hji11] at A2)
        (try rw [hji11] at Ny349)
        (try rw [hji11] at A10)
        have hji11w : (IntKind.i64.wrap ((wrap64 (t343 + (wrap64 (t342)))) + 4)) = ji11 := (i64_w _).trans hji11
        by_cases c12 : 0 ≤ (ji11)
        ·rw [if_pos c12] at H
         have c12b0 := eq_true c12
         have c12b1 := decide_eq_true c12
         clear c12
         by_cases c13 : (ji11) ≤ (l0.length : Int)
         ·rw [if_pos c13] at H
          have c13b0 := eq_true c13
          have c13b1 := decide_eq_true c13
          clear c13
          by_cases c14 : (strOfNums t352).toList = (strOfNums (l0.take ((ji11) : Int).toNat)).toList
          ·rw [if_pos c14] at H
           have c14b0 : ((strOfNums t352).toList == (strOfNums (l0.take ((ji11) : Int).toNat)).toList) = true := beq_iff_eq.mpr c14
           have c14b1 : ((strOfNums t352).toList != (strOfNums (l0.take ((ji11) : Int).toNat)).toList) = false := bne_eq_false_iff_eq.mpr c14
           clear c14
           simp only [Option.some.injEq, Prod.mk.injEq] at H
           obtain ⟨rfl, rfl, rfl⟩ := H
           go_enter Try.func52, Try.ntmps52
           go_wp2_with (first | (go_at_call 35; (with_reducible refine (r01_Get.calls k _ _ l0 t342 t343 t344 _ ?side1 ?side2 A2.out).mono ?_); (case side1 => exact cl_ HR0.out); (case side2 => exact HC0.out); rintro e w' ⟨rfl, ⟨nd, rfl⟩⟩; (try first | exact ⟨rfl, _, World.drewN_drewN _ _ _⟩ | exact ⟨rfl, _, Eq.trans (World.drewN_drewN _ _ _) (congrArg (World.drewN _) (Nat.add_assoc _ _ _))⟩)) | ((with_reducible refine gate_dst (N := 32) rfl ?_); refine Kd.R_lit (Kd.int .u8) _ 5 ?hg (N := 32) ?hd (xs := ([] : List Int)) (inner := []) (ok := fun _ => True) (okp := fun _ => True) ?hr ?hp (fun _ hk => hk) trivial (Below.refl _ _) (Nat.le_refl _) (by simp) ?_; (case hd => rfl); (case hg => rfl); (case hr => first | (go_simp; done) | (go_simp; rfl)); (case hp => exact (Reps.none _ _)); intro v346 w15 ho16 hb hg_ hnew_; clear hg_ hnew_; (first | rw [← Ny345.out] at ho16 | (simp only [Int.reduceToNat] at ho16; rw [← Ny345.out] at ho16)); have n0_ := Az.mk (Kd.R_lower ho16 (below_size (bl_ HB))); have n1_ := Az.mk (below_step (bl_ HB) hb); clear HB; have HO347 := n0_; have HB := n1_; clear n0_ n1_; clear hb ho16; obtain ⟨i017, hi017, _, hsz17, _⟩ := info_parts info5; obtain ⟨A17, hcut17, hA17, hC17⟩ := print_mid_of (P := Try.prog) (Value.int .u8) 0 24 5 .i64 .i64 Try.underlying24 hi017 hsz17 A0 c0 l0 t343 (wrap64 ((ji11) - 4)) (of_decide_eq_true as_) (by first | omega | exact of_decide_eq_true as_) (of_decide_eq_true as_) HC0.out; have HR348 := Az.mk (Kd.C_of_reads (h1 := fun _ => rfl) (hA17 _ (Kd.reads_of_C HR0.out))); have HC348 := Az.mk hC17; clear hA17 hC17 hi017 hsz17) | ((with_reducible refine gate_builtin (b := .append) (xs := #[.tmp 32, .tmp 37]) rfl ?_); at_builtin; refine Kd.R_append_rows (Kd.int .u8) (w0 := w) w.heap.size rfl (.tmp 32) (.tmp 37) 24 5 (.int .u8 0) 1 rfl Try.underlying24 info5 rfl (by decide) (by omega) v346 y345 ((l0.take ((wrap64 ((ji11) - 4)) : Int).toNat).drop (t343 : Int).toNat) _ _ _ (fun _ => True) (fun _ => False) rfl rfl ?aO ?aR (fun _ _ h => h) (fun _ h => h.elim) ?aF ?aB ?aS ?aL ?_; (case aR => first | (rw [← show ((l0.take ((wrap64 ((ji11) - 4)) : Int).toNat).drop (t343 : Int).toNat).length = ((wrap64 ((ji11) - 4)).toNat - t343.toNat) from (by rw [List.length_drop, List.length_take]; have h_ : ((wrap64 ((ji11) - 4)) : Int) ≤ (l0.length : Int) := of_decide_eq_true as_; omega)]; exact cl_ (Kd.C_below HR348.out HB.out)) | (exact cl_ (Kd.C_below HR348.out HB.out))); (case aB => exact (bl_ HB)); (case aF => exact (fun _ _ => trivial)); (case aO => exact (rl_ HO347.out)); (case aS => exact (below_size (bl_ HB))); (case aL => have := LMc9.out; have hlx_ := (show ((l0.take ((wrap64 ((ji11) - 4)) : Int).toNat).drop (t343 : Int).toNat).length = ((wrap64 ((ji11) - 4)).toNat - t343.toNat) from (by rw [List.length_drop, List.length_take]; have h_ : ((wrap64 ((ji11) - 4)) : Int) ≤ (l0.length : Int) := of_decide_eq_true as_; omega)); omega); intro v350 w18 ho hb hg hat; rw [← Ny349.out] at ho; have n0_ := Az.mk (hb); have n1_ := Az.mk (ho); clear HB; clear HO347; have HB := n0_; have HO351 := n1_; clear n0_ n1_; clear ho hb hg hat; obtain ⟨Ao19, co19, eo19⟩ := Kd.R_slice HO351.out; subst eo19) | (go_at_call 39; (refine (r03_Put.calls k _ _ ([] : List Int) _ _ y349 t352 t353 _ ?side1 ?side2 ?side3 ?side4 A10.out).mono ?_); (case side1 => exact Kd.C_nil _ _); (case side2 => exact Nat.le_refl _); (case side3 => exact cl_ (Kd.R_reads' HO351.out).2.2); (case side4 => exact (Kd.R_reads' HO351.out).2.1); rintro e w20 ⟨v354, rfl, ho0, hb⟩; have n0_ := Az.mk (Kd.R_elder' (rl_ HO351.out) (Kd.R_base ho0) hb); have n1_ := Az.mk (Kd.R_lower (Kd.R_new' ho0 (Kd.R_lt (rl_ HO351.out))) (below_size (bl_ HB))); have n2_ := Az.mk (below_step (bl_ HB) hb); clear HO351; clear HB; have HO351 := n0_; have HO355 := n1_; have HB := n2_; clear n0_ n1_ n2_; (try clear hb); (try clear hb2); (try clear hk); (try clear hi); (try clear ho0); have hcv21 := own_string (P := Try.prog) Try.underlying24 Try.underlying5 Try.underlying9 (Kd.own_of_R HO355.out); have hcv22q := fun nq_ : Nat => own_string (P := Try.prog) Try.underlying24 Try.underlying5 Try.underlying9 (Kd.own_of_R (Kd.R_drewN HO355.out nq_)); obtain ⟨i023, hi023, _, hsz23, _⟩ := info_parts info5; obtain ⟨hcut23, hA23, hC23⟩ := print_take_of (P := Try.prog) (Value.int .u8) 0 24 5 .i64 Try.underlying24 hi023 hsz23 A0 c0 l0 (ji11) (of_decide_eq_true as_) (of_decide_eq_true as_) HC0.out; have HR356 := Az.mk (Kd.C_of_reads (h1 := fun _ => rfl) (hA23 _ (Kd.reads_of_C HR0.out))); have HC356 := Az.mk hC23; clear hA23 hC23 hi023 hsz23; have hcv24 := Kd.C_string (P := Try.prog) (A := A0) (c := c0) Try.underlying24 Try.underlying5 Try.underlying9 (Kd.C_below HR356.out HB.out); have hcv24x := hcv24; (try rw [show (l0.take ((ji11) : Int).toNat).length = ((ji11) : Int).toNat from by rw [List.length_take]; exact Nat.min_eq_left (Int.toNat_le.mpr (of_decide_eq_true as_))] at hcv24x); have hcv24q := fun nq_ : Nat => Kd.C_string (P := Try.prog) (A := A0) (c := c0) Try.underlying24 Try.underlying5 Try.underlying9 (Kd.C_drewN (Kd.C_below HR356.out HB.out) nq_); (try simp only [show (l0.take ((ji11) : Int).toNat).length = ((ji11) : Int).toNat from by rw [List.length_take]; exact Nat.min_eq_left (Int.toNat_le.mpr (of_decide_eq_true as_))] at hcv24q)))
           repeat (go_quiet (first | (go_at_call 35; (with_reducible refine (r01_Get.calls k _ _ l0 t342 t343 t344 _ ?side1 ?side2 A2.out).mono ?_); (case side1 => exact cl_ HR0.out); (case side2 => exact HC0.out); rintro e w' ⟨rfl, ⟨nd, rfl⟩⟩; (try first | exact ⟨rfl, _, World.drewN_drewN _ _ _⟩ | exact ⟨rfl, _, Eq.trans (World.drewN_drewN _ _ _) (congrArg (World.drewN _) (Nat.add_assoc _ _ _))⟩)) | ((with_reducible refine gate_dst (N := 32) rfl ?_); refine Kd.R_lit (Kd.int .u8) _ 5 ?hg (N := 32) ?hd (xs := ([] : List Int)) (inner := []) (ok := fun _ => True) (okp := fun _ => True) ?hr ?hp (fun _ hk => hk) trivial (Below.refl _ _) (Nat.le_refl _) (by simp) ?_; (case hd => rfl); (case hg => rfl); (case hr => first | (go_simp; done) | (go_simp; rfl)); (case hp => exact (Reps.none _ _)); intro v346 w15 ho16 hb hg_ hnew_; clear hg_ hnew_; (first | rw [← Ny345.out] at ho16 | (simp only [Int.reduceToNat] at ho16; rw [← Ny345.out] at ho16)); have n0_ := Az.mk (Kd.R_lower ho16 (below_size (bl_ HB))); have n1_ := Az.mk (below_step (bl_ HB) hb); clear HB; have HO347 := n0_; have HB := n1_; clear n0_ n1_; clear hb ho16; obtain ⟨i017, hi017, _, hsz17, _⟩ := info_parts info5; obtain ⟨A17, hcut17, hA17, hC17⟩ := print_mid_of (P := Try.prog) (Value.int .u8) 0 24 5 .i64 .i64 Try.underlying24 hi017 hsz17 A0 c0 l0 t343 (wrap64 ((ji11) - 4)) (of_decide_eq_true as_) (by first | omega | exact of_decide_eq_true as_) (of_decide_eq_true as_) HC0.out; have HR348 := Az.mk (Kd.C_of_reads (h1 := fun _ => rfl) (hA17 _ (Kd.reads_of_C HR0.out))); have HC348 := Az.mk hC17; clear hA17 hC17 hi017 hsz17) | ((with_reducible refine gate_builtin (b := .append) (xs := #[.tmp 32, .tmp 37]) rfl ?_); at_builtin; refine Kd.R_append_rows (Kd.int .u8) (w0 := w) w.heap.size rfl (.tmp 32) (.tmp 37) 24 5 (.int .u8 0) 1 rfl Try.underlying24 info5 rfl (by decide) (by omega) v346 y345 ((l0.take ((wrap64 ((ji11) - 4)) : Int).toNat).drop (t343 : Int).toNat) _ _ _ (fun _ => True) (fun _ => False) rfl rfl ?aO ?aR (fun _ _ h => h) (fun _ h => h.elim) ?aF ?aB ?aS ?aL ?_; (case aR => first | (rw [← show ((l0.take ((wrap64 ((ji11) - 4)) : Int).toNat).drop (t343 : Int).toNat).length = ((wrap64 ((ji11) - 4)).toNat - t343.toNat) from (by rw [List.length_drop, List.length_take]; have h_ : ((wrap64 ((ji11) - 4)) : Int) ≤ (l0.length : Int) := of_decide_eq_true as_; omega)]; exact cl_ (Kd.C_below HR348.out HB.out)) | (exact cl_ (Kd.C_below HR348.out HB.out))); (case aB => exact (bl_ HB)); (case aF => exact (fun _ _ => trivial)); (case aO => exact (rl_ HO347.out)); (case aS => exact (below_size (bl_ HB))); (case aL => have := LMc9.out; have hlx_ := (show ((l0.take ((wrap64 ((ji11) - 4)) : Int).toNat).drop (t343 : Int).toNat).length = ((wrap64 ((ji11) - 4)).toNat - t343.toNat) from (by rw [List.length_drop, List.length_take]; have h_ : ((wrap64 ((ji11) - 4)) : Int) ≤ (l0.length : Int) := of_decide_eq_true as_; omega)); omega); intro v350 w18 ho hb hg hat; rw [← Ny349.out] at ho; have n0_ := Az.mk (hb); have n1_ := Az.mk (ho); clear HB; clear HO347; have HB := n0_; have HO351 := n1_; clear n0_ n1_; clear ho hb hg hat; obtain ⟨Ao19, co19, eo19⟩ := Kd.R_slice HO351.out; subst eo19) | (go_at_call 39; (refine (r03_Put.calls k _ _ ([] : List Int) _ _ y349 t352 t353 _ ?side1 ?side2 ?side3 ?side4 A10.out).mono ?_); (case side1 => exact Kd.C_nil _ _); (case side2 => exact Nat.le_refl _); (case side3 => exact cl_ (Kd.R_reads' HO351.out).2.2); (case side4 => exact (Kd.R_reads' HO351.out).2.1); rintro e w20 ⟨v354, rfl, ho0, hb⟩; have n0_ := Az.mk (Kd.R_elder' (rl_ HO351.out) (Kd.R_base ho0) hb); have n1_ := Az.mk (Kd.R_lower (Kd.R_new' ho0 (Kd.R_lt (rl_ HO351.out))) (below_size (bl_ HB))); have n2_ := Az.mk (below_step (bl_ HB) hb); clear HO351; clear HB; have HO351 := n0_; have HO355 := n1_; have HB := n2_; clear n0_ n1_ n2_; (try clear hb); (try clear hb2); (try clear hk); (try clear hi); (try clear ho0); have hcv21 := own_string (P := Try.prog) Try.underlying24 Try.underlying5 Try.underlying9 (Kd.own_of_R HO355.out); have hcv22q := fun nq_ : Nat => own_string (P := Try.prog) Try.underlying24 Try.underlying5 Try.underlying9 (Kd.own_of_R (Kd.R_drewN HO355.out nq_)); obtain ⟨i023, hi023, _, hsz23, _⟩ := info_parts info5; obtain ⟨hcut23, hA23, hC23⟩ := print_take_of (P := Try.prog) (Value.int .u8) 0 24 5 .i64 Try.underlying24 hi023 hsz23 A0 c0 l0 (ji11) (of_decide_eq_true as_) (of_decide_eq_true as_) HC0.out; have HR356 := Az.mk (Kd.C_of_reads (h1 := fun _ => rfl) (hA23 _ (Kd.reads_of_C HR0.out))); have HC356 := Az.mk hC23; clear hA23 hC23 hi023 hsz23; have hcv24 := Kd.C_string (P := Try.prog) (A := A0) (c := c0) Try.underlying24 Try.underlying5 Try.underlying9 (Kd.C_below HR356.out HB.out); have hcv24x := hcv24; (try rw [show (l0.take ((ji11) : Int).toNat).length = ((ji11) : Int).toNat from by rw [List.length_take]; exact Nat.min_eq_left (Int.toNat_le.mpr (of_decide_eq_true as_))] at hcv24x); have hcv24q := fun nq_ : Nat => Kd.C_string (P := Try.prog) (A := A0) (c := c0) Try.underlying24 Try.underlying5 Try.underlying9 (Kd.C_drewN (Kd.C_below HR356.out HB.out) nq_); (try simp only [show (l0.take ((ji11) : Int).toNat).length = ((ji11) : Int).toNat from by rw [List.length_take]; exact Nat.min_eq_left (Int.toNat_le.mpr (of_decide_eq_true as_))] at hcv24q))); try go_wp2_with (first | (go_at_call 35; (with_reducible refine (r01_Get.calls k _ _ l0 t342 t343 t344 _ ?side1 ?side2 A2.out).mono ?_); (case side1 => exact cl_ HR0.out); (case side2 => exact HC0.out); rintro e w' ⟨rfl, ⟨nd, rfl⟩⟩; (try first | exact ⟨rfl, _, World.drewN_drewN _ _ _⟩ | exact ⟨rfl, _, Eq.trans (World.drewN_drewN _ _ _) (congrArg (World.drewN _) (Nat.add_assoc _ _ _))⟩)) | ((with_reducible refine gate_dst (N := 32) rfl ?_); refine Kd.R_lit (Kd.int .u8) _ 5 ?hg (N := 32) ?hd (xs := ([] : List Int)) (inner := []) (ok := fun _ => True) (okp := fun _ => True) ?hr ?hp (fun _ hk => hk) trivial (Below.refl _ _) (Nat.le_refl _) (by simp) ?_; (case hd => rfl); (case hg => rfl); (case hr => first | (go_simp; done) | (go_simp; rfl)); (case hp => exact (Reps.none _ _)); intro v346 w15 ho16 hb hg_ hnew_; clear hg_ hnew_; (first | rw [← Ny345.out] at ho16 | (simp only [Int.reduceToNat] at ho16; rw [← Ny345.out] at ho16)); have n0_ := Az.mk (Kd.R_lower ho16 (below_size (bl_ HB))); have n1_ := Az.mk (below_step (bl_ HB) hb); clear HB; have HO347 := n0_; have HB := n1_; clear n0_ n1_; clear hb ho16; obtain ⟨i017, hi017, _, hsz17, _⟩ := info_parts info5; obtain ⟨A17, hcut17, hA17, hC17⟩ := print_mid_of (P := Try.prog) (Value.int .u8) 0 24 5 .i64 .i64 Try.underlying24 hi017 hsz17 A0 c0 l0 t343 (wrap64 ((ji11) - 4)) (of_decide_eq_true as_) (by first | omega | exact of_decide_eq_true as_) (of_decide_eq_true as_) HC0.out; have HR348 := Az.mk (Kd.C_of_reads (h1 := fun _ => rfl) (hA17 _ (Kd.reads_of_C HR0.out))); have HC348 := Az.mk hC17; clear hA17 hC17 hi017 hsz17) | ((with_reducible refine gate_builtin (b := .append) (xs := #[.tmp 32, .tmp 37]) rfl ?_); at_builtin; refine Kd.R_append_rows (Kd.int .u8) (w0 := w) w.heap.size rfl (.tmp 32) (.tmp 37) 24 5 (.int .u8 0) 1 rfl Try.underlying24 info5 rfl (by decide) (by omega) v346 y345 ((l0.take ((wrap64 ((ji11) - 4)) : Int).toNat).drop (t343 : Int).toNat) _ _ _ (fun _ => True) (fun _ => False) rfl rfl ?aO ?aR (fun _ _ h => h) (fun _ h => h.elim) ?aF ?aB ?aS ?aL ?_; (case aR => first | (rw [← show ((l0.take ((wrap64 ((ji11) - 4)) : Int).toNat).drop (t343 : Int).toNat).length = ((wrap64 ((ji11) - 4)).toNat - t343.toNat) from (by rw [List.length_drop, List.length_take]; have h_ : ((wrap64 ((ji11) - 4)) : Int) ≤ (l0.length : Int) := of_decide_eq_true as_; omega)]; exact cl_ (Kd.C_below HR348.out HB.out)) | (exact cl_ (Kd.C_below HR348.out HB.out))); (case aB => exact (bl_ HB)); (case aF => exact (fun _ _ => trivial)); (case aO => exact (rl_ HO347.out)); (case aS => exact (below_size (bl_ HB))); (case aL => have := LMc9.out; have hlx_ := (show ((l0.take ((wrap64 ((ji11) - 4)) : Int).toNat).drop (t343 : Int).toNat).length = ((wrap64 ((ji11) - 4)).toNat - t343.toNat) from (by rw [List.length_drop, List.length_take]; have h_ : ((wrap64 ((ji11) - 4)) : Int) ≤ (l0.length : Int) := of_decide_eq_true as_; omega)); omega); intro v350 w18 ho hb hg hat; rw [← Ny349.out] at ho; have n0_ := Az.mk (hb); have n1_ := Az.mk (ho); clear HB; clear HO347; have HB := n0_; have HO351 := n1_; clear n0_ n1_; clear ho hb hg hat; obtain ⟨Ao19, co19, eo19⟩ := Kd.R_slice HO351.out; subst eo19) | (go_at_call 39; (refine (r03_Put.calls k _ _ ([] : List Int) _ _ y349 t352 t353 _ ?side1 ?side2 ?side3 ?side4 A10.out).mono ?_); (case side1 => exact Kd.C_nil _ _); (case side2 => exact Nat.le_refl _); (case side3 => exact cl_ (Kd.R_reads' HO351.out).2.2); (case side4 => exact (Kd.R_reads' HO351.out).2.1); rintro e w20 ⟨v354, rfl, ho0, hb⟩; have n0_ := Az.mk (Kd.R_elder' (rl_ HO351.out) (Kd.R_base ho0) hb); have n1_ := Az.mk (Kd.R_lower (Kd.R_new' ho0 (Kd.R_lt (rl_ HO351.out))) (below_size (bl_ HB))); have n2_ := Az.mk (below_step (bl_ HB) hb); clear HO351; clear HB; have HO351 := n0_; have HO355 := n1_; have HB := n2_; clear n0_ n1_ n2_; (try clear hb); (try clear hb2); (try clear hk); (try clear hi); (try clear ho0); have hcv21 := own_string (P := Try.prog) Try.underlying24 Try.underlying5 Try.underlying9 (Kd.own_of_R HO355.out); have hcv22q := fun nq_ : Nat => own_string (P := Try.prog) Try.underlying24 Try.underlying5 Try.underlying9 (Kd.own_of_R (Kd.R_drewN HO355.out nq_)); obtain ⟨i023, hi023, _, hsz23, _⟩ := info_parts info5; obtain ⟨hcut23, hA23, hC23⟩ := print_take_of (P := Try.prog) (Value.int .u8) 0 24 5 .i64 Try.underlying24 hi023 hsz23 A0 c0 l0 (ji11) (of_decide_eq_true as_) (of_decide_eq_true as_) HC0.out; have HR356 := Az.mk (Kd.C_of_reads (h1 := fun _ => rfl) (hA23 _ (Kd.reads_of_C HR0.out))); have HC356 := Az.mk hC23; clear hA23 hC23 hi023 hsz23; have hcv24 := Kd.C_string (P := Try.prog) (A := A0) (c := c0) Try.underlying24 Try.underlying5 Try.underlying9 (Kd.C_below HR356.out HB.out); have hcv24x := hcv24; (try rw [show (l0.take ((ji11) : Int).toNat).length = ((ji11) : Int).toNat from by rw [List.length_take]; exact Nat.min_eq_left (Int.toNat_le.mpr (of_decide_eq_true as_))] at hcv24x); have hcv24q := fun nq_ : Nat => Kd.C_string (P := Try.prog) (A := A0) (c := c0) Try.underlying24 Try.underlying5 Try.underlying9 (Kd.C_drewN (Kd.C_below HR356.out HB.out) nq_); (try simp only [show (l0.take ((ji11) : Int).toNat).length = ((ji11) : Int).toNat from by rw [List.length_take]; exact Nat.min_eq_left (Int.toNat_le.mpr (of_decide_eq_true as_))] at hcv24q))))
           go_ret3
           exact ⟨_, by first | rfl | (simp [errW_none, errW_some] <;> rfl) | (simp only [← hji11]; first | rfl | (simp [errW_none, errW_some] <;> rfl)) | (simp [*, errW_none, errW_some] <;> rfl), by (with_reducible repeat (first | apply Kd.R_alloc | apply Kd.R_drewN | apply Kd.R_drew)); exact Kd.R_mono HO351.out (fun _ hk => trivial), bl_ HB⟩
          ·rw [if_neg c14] at H
           have c14b0 : ((strOfNums t352).toList == (strOfNums (l0.take ((ji11) : Int).toNat)).toList) = false := beq_eq_false_iff_ne.mpr c14
           have c14b1 : ((strOfNums t352).toList != (strOfNums (l0.take ((ji11) : Int).toNat)).toList) = true := bne_iff_ne.mpr c14
           simp only [Option.some.injEq, Prod.mk.injEq] at H
           obtain ⟨rfl, rfl, rfl⟩ := H
           go_enter Try.func52, Try.ntmps52
           go_wp2_with (first | (go_at_call 35; (with_reducible refine (r01_Get.calls k _ _ l0 t342 t343 t344 _ ?side1 ?side2 A2.out).mono ?_); (case side1 => exact cl_ HR0.out); (case side2 => exact HC0.out); rintro e w' ⟨rfl, ⟨nd, rfl⟩⟩; (try first | exact ⟨rfl, _, World.drewN_drewN _ _ _⟩ | exact ⟨rfl, _, Eq.trans (World.drewN_drewN _ _ _) (congrArg (World.drewN _) (Nat.add_assoc _ _ _))⟩)) | ((with_reducible refine gate_dst (N := 32) rfl ?_); refine Kd.R_lit (Kd.int .u8) _ 5 ?hg (N := 32) ?hd (xs := ([] : List Int)) (inner := []) (ok := fun _ => True) (okp := fun _ => True) ?hr ?hp (fun _ hk => hk) trivial (Below.refl _ _) (Nat.le_refl _) (by simp) ?_; (case hd => rfl); (case hg => rfl); (case hr => first | (go_simp; done) | (go_simp; rfl)); (case hp => exact (Reps.none _ _)); intro v346 w25 ho26 hb hg_ hnew_; clear hg_ hnew_; (first | rw [← Ny345.out] at ho26 | (simp only [Int.reduceToNat] at ho26; rw [← Ny345.out] at ho26)); have n0_ := Az.mk (Kd.R_lower ho26 (below_size (bl_ HB))); have n1_ := Az.mk (below_step (bl_ HB) hb); clear HB; have HO347 := n0_; have HB := n1_; clear n0_ n1_; clear hb ho26; obtain ⟨i027, hi027, _, hsz27, _⟩ := info_parts info5; obtain ⟨A27, hcut27, hA27, hC27⟩ := print_mid_of (P := Try.prog) (Value.int .u8) 0 24 5 .i64 .i64 Try.underlying24 hi027 hsz27 A0 c0 l0 t343 (wrap64 ((ji11) - 4)) (of_decide_eq_true as_) (by first | omega | exact of_decide_eq_true as_) (of_decide_eq_true as_) HC0.out; have HR348 := Az.mk (Kd.C_of_reads (h1 := fun _ => rfl) (hA27 _ (Kd.reads_of_C HR0.out))); have HC348 := Az.mk hC27; clear hA27 hC27 hi027 hsz27) | ((with_reducible refine gate_builtin (b := .append) (xs := #[.tmp 32, .tmp 37]) rfl ?_); at_builtin; refine Kd.R_append_rows (Kd.int .u8) (w0 := w) w.heap.size rfl (.tmp 32) (.tmp 37) 24 5 (.int .u8 0) 1 rfl Try.underlying24 info5 rfl (by decide) (by omega) v346 y345 ((l0.take ((wrap64 ((ji11) - 4)) : Int).toNat).drop (t343 : Int).toNat) _ _ _ (fun _ => True) (fun _ => False) rfl rfl ?aO ?aR (fun _ _ h => h) (fun _ h => h.elim) ?aF ?aB ?aS ?aL ?_; (case aR => first | (rw [← show ((l0.take ((wrap64 ((ji11) - 4)) : Int).toNat).drop (t343 : Int).toNat).length = ((wrap64 ((ji11) - 4)).toNat - t343.toNat) from (by rw [List.length_drop, List.length_take]; have h_ : ((wrap64 ((ji11) - 4)) : Int) ≤ (l0.length : Int) := of_decide_eq_true as_; omega)]; exact cl_ (Kd.C_below HR348.out HB.out)) | (exact cl_ (Kd.C_below HR348.out HB.out))); (case aB => exact (bl_ HB)); (case aF => exact (fun _ _ => trivial)); (case aO => exact (rl_ HO347.out)); (case aS => exact (below_size (bl_ HB))); (case aL => have := LMc9.out; have hlx_ := (show ((l0.take ((wrap64 ((ji11) - 4)) : Int).toNat).drop (t343 : Int).toNat).length = ((wrap64 ((ji11) - 4)).toNat - t343.toNat) from (by rw [List.length_drop, List.length_take]; have h_ : ((wrap64 ((ji11) - 4)) : Int) ≤ (l0.length : Int) := of_decide_eq_true as_; omega)); omega); intro v350 w28 ho hb hg hat; rw [← Ny349.out] at ho; have n0_ := Az.mk (hb); have n1_ := Az.mk (ho); clear HB; clear HO347; have HB := n0_; have HO351 := n1_; clear n0_ n1_; clear ho hb hg hat; obtain ⟨Ao29, co29, eo29⟩ := Kd.R_slice HO351.out; subst eo29) | (go_at_call 39; (refine (r03_Put.calls k _ _ ([] : List Int) _ _ y349 t352 t353 _ ?side1 ?side2 ?side3 ?side4 A10.out).mono ?_); (case side1 => exact Kd.C_nil _ _); (case side2 => exact Nat.le_refl _); (case side3 => exact cl_ (Kd.R_reads' HO351.out).2.2); (case side4 => exact (Kd.R_reads' HO351.out).2.1); rintro e w30 ⟨v354, rfl, ho0, hb⟩; have n0_ := Az.mk (Kd.R_elder' (rl_ HO351.out) (Kd.R_base ho0) hb); have n1_ := Az.mk (Kd.R_lower (Kd.R_new' ho0 (Kd.R_lt (rl_ HO351.out))) (below_size (bl_ HB))); have n2_ := Az.mk (below_step (bl_ HB) hb); clear HO351; clear HB; have HO351 := n0_; have HO355 := n1_; have HB := n2_; clear n0_ n1_ n2_; (try clear hb); (try clear hb2); (try clear hk); (try clear hi); (try clear ho0); have hcv31 := own_string (P := Try.prog) Try.underlying24 Try.underlying5 Try.underlying9 (Kd.own_of_R HO355.out); have hcv32q := fun nq_ : Nat => own_string (P := Try.prog) Try.underlying24 Try.underlying5 Try.underlying9 (Kd.own_of_R (Kd.R_drewN HO355.out nq_)); obtain ⟨i033, hi033, _, hsz33, _⟩ := info_parts info5; obtain ⟨hcut33, hA33, hC33⟩ := print_take_of (P := Try.prog) (Value.int .u8) 0 24 5 .i64 Try.underlying24 hi033 hsz33 A0 c0 l0 (ji11) (of_decide_eq_true as_) (of_decide_eq_true as_) HC0.out; have HR356 := Az.mk (Kd.C_of_reads (h1 := fun _ => rfl) (hA33 _ (Kd.reads_of_C HR0.out))); have HC356 := Az.mk hC33; clear hA33 hC33 hi033 hsz33; have hcv34 := Kd.C_string (P := Try.prog) (A := A0) (c := c0) Try.underlying24 Try.underlying5 Try.underlying9 (Kd.C_below HR356.out HB.out); have hcv34x := hcv34; (try rw [show (l0.take ((ji11) : Int).toNat).length = ((ji11) : Int).toNat from by rw [List.length_take]; exact Nat.min_eq_left (Int.toNat_le.mpr (of_decide_eq_true as_))] at hcv34x); have hcv34q := fun nq_ : Nat => Kd.C_string (P := Try.prog) (A := A0) (c := c0) Try.underlying24 Try.underlying5 Try.underlying9 (Kd.C_drewN (Kd.C_below HR356.out HB.out) nq_); (try simp only [show (l0.take ((ji11) : Int).toNat).length = ((ji11) : Int).toNat from by rw [List.length_take]; exact Nat.min_eq_left (Int.toNat_le.mpr (of_decide_eq_true as_))] at hcv34q)))
           repeat (go_quiet (first | (go_at_call 35; (with_reducible refine (r01_Get.calls k _ _ l0 t342 t343 t344 _ ?side1 ?side2 A2.out).mono ?_); (case side1 => exact cl_ HR0.out); (case side2 => exact HC0.out); rintro e w' ⟨rfl, ⟨nd, rfl⟩⟩; (try first | exact ⟨rfl, _, World.drewN_drewN _ _ _⟩ | exact ⟨rfl, _, Eq.trans (World.drewN_drewN _ _ _) (congrArg (World.drewN _) (Nat.add_assoc _ _ _))⟩)) | ((with_reducible refine gate_dst (N := 32) rfl ?_); refine Kd.R_lit (Kd.int .u8) _ 5 ?hg (N := 32) ?hd (xs := ([] : List Int)) (inner := []) (ok := fun _ => True) (okp := fun _ => True) ?hr ?hp (fun _ hk => hk) trivial (Below.refl _ _) (Nat.le_refl _) (by simp) ?_; (case hd => rfl); (case hg => rfl); (case hr => first | (go_simp; done) | (go_simp; rfl)); (case hp => exact (Reps.none _ _)); intro v346 w25 ho26 hb hg_ hnew_; clear hg_ hnew_; (first | rw [← Ny345.out] at ho26 | (simp only [Int.reduceToNat] at ho26; rw [← Ny345.out] at ho26)); have n0_ := Az.mk (Kd.R_lower ho26 (below_size (bl_ HB))); have n1_ := Az.mk (below_step (bl_ HB) hb); clear HB; have HO347 := n0_; have HB := n1_; clear n0_ n1_; clear hb ho26; obtain ⟨i027, hi027, _, hsz27, _⟩ := info_parts info5; obtain ⟨A27, hcut27, hA27, hC27⟩ := print_mid_of (P := Try.prog) (Value.int .u8) 0 24 5 .i64 .i64 Try.underlying24 hi027 hsz27 A0 c0 l0 t343 (wrap64 ((ji11) - 4)) (of_decide_eq_true as_) (by first | omega | exact of_decide_eq_true as_) (of_decide_eq_true as_) HC0.out; have HR348 := Az.mk (Kd.C_of_reads (h1 := fun _ => rfl) (hA27 _ (Kd.reads_of_C HR0.out))); have HC348 := Az.mk hC27; clear hA27 hC27 hi027 hsz27) | ((with_reducible refine gate_builtin (b := .append) (xs := #[.tmp 32, .tmp 37]) rfl ?_); at_builtin; refine Kd.R_append_rows (Kd.int .u8) (w0 := w) w.heap.size rfl (.tmp 32) (.tmp 37) 24 5 (.int .u8 0) 1 rfl Try.underlying24 info5 rfl (by decide) (by omega) v346 y345 ((l0.take ((wrap64 ((ji11) - 4)) : Int).toNat).drop (t343 : Int).toNat) _ _ _ (fun _ => True) (fun _ => False) rfl rfl ?aO ?aR (fun _ _ h => h) (fun _ h => h.elim) ?aF ?aB ?aS ?aL ?_; (case aR => first | (rw [← show ((l0.take ((wrap64 ((ji11) - 4)) : Int).toNat).drop (t343 : Int).toNat).length = ((wrap64 ((ji11) - 4)).toNat - t343.toNat) from (by rw [List.length_drop, List.length_take]; have h_ : ((wrap64 ((ji11) - 4)) : Int) ≤ (l0.length : Int) := of_decide_eq_true as_; omega)]; exact cl_ (Kd.C_below HR348.out HB.out)) | (exact cl_ (Kd.C_below HR348.out HB.out))); (case aB => exact (bl_ HB)); (case aF => exact (fun _ _ => trivial)); (case aO => exact (rl_ HO347.out)); (case aS => exact (below_size (bl_ HB))); (case aL => have := LMc9.out; have hlx_ := (show ((l0.take ((wrap64 ((ji11) - 4)) : Int).toNat).drop (t343 : Int).toNat).length = ((wrap64 ((ji11) - 4)).toNat - t343.toNat) from (by rw [List.length_drop, List.length_take]; have h_ : ((wrap64 ((ji11) - 4)) : Int) ≤ (l0.length : Int) := of_decide_eq_true as_; omega)); omega); intro v350 w28 ho hb hg hat; rw [← Ny349.out] at ho; have n0_ := Az.mk (hb); have n1_ := Az.mk (ho); clear HB; clear HO347; have HB := n0_; have HO351 := n1_; clear n0_ n1_; clear ho hb hg hat; obtain ⟨Ao29, co29, eo29⟩ := Kd.R_slice HO351.out; subst eo29) | (go_at_call 39; (refine (r03_Put.calls k _ _ ([] : List Int) _ _ y349 t352 t353 _ ?side1 ?side2 ?side3 ?side4 A10.out).mono ?_); (case side1 => exact Kd.C_nil _ _); (case side2 => exact Nat.le_refl _); (case side3 => exact cl_ (Kd.R_reads' HO351.out).2.2); (case side4 => exact (Kd.R_reads' HO351.out).2.1); rintro e w30 ⟨v354, rfl, ho0, hb⟩; have n0_ := Az.mk (Kd.R_elder' (rl_ HO351.out) (Kd.R_base ho0) hb); have n1_ := Az.mk (Kd.R_lower (Kd.R_new' ho0 (Kd.R_lt (rl_ HO351.out))) (below_size (bl_ HB))); have n2_ := Az.mk (below_step (bl_ HB) hb); clear HO351; clear HB; have HO351 := n0_; have HO355 := n1_; have HB := n2_; clear n0_ n1_ n2_; (try clear hb); (try clear hb2); (try clear hk); (try clear hi); (try clear ho0); have hcv31 := own_string (P := Try.prog) Try.underlying24 Try.underlying5 Try.underlying9 (Kd.own_of_R HO355.out); have hcv32q := fun nq_ : Nat => own_string (P := Try.prog) Try.underlying24 Try.underlying5 Try.underlying9 (Kd.own_of_R (Kd.R_drewN HO355.out nq_)); obtain ⟨i033, hi033, _, hsz33, _⟩ := info_parts info5; obtain ⟨hcut33, hA33, hC33⟩ := print_take_of (P := Try.prog) (Value.int .u8) 0 24 5 .i64 Try.underlying24 hi033 hsz33 A0 c0 l0 (ji11) (of_decide_eq_true as_) (of_decide_eq_true as_) HC0.out; have HR356 := Az.mk (Kd.C_of_reads (h1 := fun _ => rfl) (hA33 _ (Kd.reads_of_C HR0.out))); have HC356 := Az.mk hC33; clear hA33 hC33 hi033 hsz33; have hcv34 := Kd.C_string (P := Try.prog) (A := A0) (c := c0) Try.underlying24 Try.underlying5 Try.underlying9 (Kd.C_below HR356.out HB.out); have hcv34x := hcv34; (try rw [show (l0.take ((ji11) : Int).toNat).length = ((ji11) : Int).toNat from by rw [List.length_take]; exact Nat.min_eq_left (Int.toNat_le.mpr (of_decide_eq_true as_))] at hcv34x); have hcv34q := fun nq_ : Nat => Kd.C_string (P := Try.prog) (A := A0) (c := c0) Try.underlying24 Try.underlying5 Try.underlying9 (Kd.C_drewN (Kd.C_below HR356.out HB.out) nq_); (try simp only [show (l0.take ((ji11) : Int).toNat).length = ((ji11) : Int).toNat from by rw [List.length_take]; exact Nat.min_eq_left (Int.toNat_le.mpr (of_decide_eq_true as_))] at hcv34q))); try go_wp2_with (first | (go_at_call 35; (with_reducible refine (r01_Get.calls k _ _ l0 t342 t343 t344 _ ?side1 ?side2 A2.out).mono ?_); (case side1 => exact cl_ HR0.out); (case side2 => exact HC0.out); rintro e w' ⟨rfl, ⟨nd, rfl⟩⟩; (try first | exact ⟨rfl, _, World.drewN_drewN _ _ _⟩ | exact ⟨rfl, _, Eq.trans (World.drewN_drewN _ _ _) (congrArg (World.drewN _) (Nat.add_assoc _ _ _))⟩)) | ((with_reducible refine gate_dst (N := 32) rfl ?_); refine Kd.R_lit (Kd.int .u8) _ 5 ?hg (N := 32) ?hd (xs := ([] : List Int)) (inner := []) (ok := fun _ => True) (okp := fun _ => True) ?hr ?hp (fun _ hk => hk) trivial (Below.refl _ _) (Nat.le_refl _) (by simp) ?_; (case hd => rfl); (case hg => rfl); (case hr => first | (go_simp; done) | (go_simp; rfl)); (case hp => exact (Reps.none _ _)); intro v346 w25 ho26 hb hg_ hnew_; clear hg_ hnew_; (first | rw [← Ny345.out] at ho26 | (simp only [Int.reduceToNat] at ho26; rw [← Ny345.out] at ho26)); have n0_ := Az.mk (Kd.R_lower ho26 (below_size (bl_ HB))); have n1_ := Az.mk (below_step (bl_ HB) hb); clear HB; have HO347 := n0_; have HB := n1_; clear n0_ n1_; clear hb ho26; obtain ⟨i027, hi027, _, hsz27, _⟩ := info_parts info5; obtain ⟨A27, hcut27, hA27, hC27⟩ := print_mid_of (P := Try.prog) (Value.int .u8) 0 24 5 .i64 .i64 Try.underlying24 hi027 hsz27 A0 c0 l0 t343 (wrap64 ((ji11) - 4)) (of_decide_eq_true as_) (by first | omega | exact of_decide_eq_true as_) (of_decide_eq_true as_) HC0.out; have HR348 := Az.mk (Kd.C_of_reads (h1 := fun _ => rfl) (hA27 _ (Kd.reads_of_C HR0.out))); have HC348 := Az.mk hC27; clear hA27 hC27 hi027 hsz27) | ((with_reducible refine gate_builtin (b := .append) (xs := #[.tmp 32, .tmp 37]) rfl ?_); at_builtin; refine Kd.R_append_rows (Kd.int .u8) (w0 := w) w.heap.size rfl (.tmp 32) (.tmp 37) 24 5 (.int .u8 0) 1 rfl Try.underlying24 info5 rfl (by decide) (by omega) v346 y345 ((l0.take ((wrap64 ((ji11) - 4)) : Int).toNat).drop (t343 : Int).toNat) _ _ _ (fun _ => True) (fun _ => False) rfl rfl ?aO ?aR (fun _ _ h => h) (fun _ h => h.elim) ?aF ?aB ?aS ?aL ?_; (case aR => first | (rw [← show ((l0.take ((wrap64 ((ji11) - 4)) : Int).toNat).drop (t343 : Int).toNat).length = ((wrap64 ((ji11) - 4)).toNat - t343.toNat) from (by rw [List.length_drop, List.length_take]; have h_ : ((wrap64 ((ji11) - 4)) : Int) ≤ (l0.length : Int) := of_decide_eq_true as_; omega)]; exact cl_ (Kd.C_below HR348.out HB.out)) | (exact cl_ (Kd.C_below HR348.out HB.out))); (case aB => exact (bl_ HB)); (case aF => exact (fun _ _ => trivial)); (case aO => exact (rl_ HO347.out)); (case aS => exact (below_size (bl_ HB))); (case aL => have := LMc9.out; have hlx_ := (show ((l0.take ((wrap64 ((ji11) - 4)) : Int).toNat).drop (t343 : Int).toNat).length = ((wrap64 ((ji11) - 4)).toNat - t343.toNat) from (by rw [List.length_drop, List.length_take]; have h_ : ((wrap64 ((ji11) - 4)) : Int) ≤ (l0.length : Int) := of_decide_eq_true as_; omega)); omega); intro v350 w28 ho hb hg hat; rw [← Ny349.out] at ho; have n0_ := Az.mk (hb); have n1_ := Az.mk (ho); clear HB; clear HO347; have HB := n0_; have HO351 := n1_; clear n0_ n1_; clear ho hb hg hat; obtain ⟨Ao29, co29, eo29⟩ := Kd.R_slice HO351.out; subst eo29) | (go_at_call 39; (refine (r03_Put.calls k _ _ ([] : List Int) _ _ y349 t352 t353 _ ?side1 ?side2 ?side3 ?side4 A10.out).mono ?_); (case side1 => exact Kd.C_nil _ _); (case side2 => exact Nat.le_refl _); (case side3 => exact cl_ (Kd.R_reads' HO351.out).2.2); (case side4 => exact (Kd.R_reads' HO351.out).2.1); rintro e w30 ⟨v354, rfl, ho0, hb⟩; have n0_ := Az.mk (Kd.R_elder' (rl_ HO351.out) (Kd.R_base ho0) hb); have n1_ := Az.mk (Kd.R_lower (Kd.R_new' ho0 (Kd.R_lt (rl_ HO351.out))) (below_size (bl_ HB))); have n2_ := Az.mk (below_step (bl_ HB) hb); clear HO351; clear HB; have HO351 := n0_; have HO355 := n1_; have HB := n2_; clear n0_ n1_ n2_; (try clear hb); (try clear hb2); (try clear hk); (try clear hi); (try clear ho0); have hcv31 := own_string (P := Try.prog) Try.underlying24 Try.underlying5 Try.underlying9 (Kd.own_of_R HO355.out); have hcv32q := fun nq_ : Nat => own_string (P := Try.prog) Try.underlying24 Try.underlying5 Try.underlying9 (Kd.own_of_R (Kd.R_drewN HO355.out nq_)); obtain ⟨i033, hi033, _, hsz33, _⟩ := info_parts info5; obtain ⟨hcut33, hA33, hC33⟩ := print_take_of (P := Try.prog) (Value.int .u8) 0 24 5 .i64 Try.underlying24 hi033 hsz33 A0 c0 l0 (ji11) (of_decide_eq_true as_) (of_decide_eq_true as_) HC0.out; have HR356 := Az.mk (Kd.C_of_reads (h1 := fun _ => rfl) (hA33 _ (Kd.reads_of_C HR0.out))); have HC356 := Az.mk hC33; clear hA33 hC33 hi033 hsz33; have hcv34 := Kd.C_string (P := Try.prog) (A := A0) (c := c0) Try.underlying24 Try.underlying5 Try.underlying9 (Kd.C_below HR356.out HB.out); have hcv34x := hcv34; (try rw [show (l0.take ((ji11) : Int).toNat).length = ((ji11) : Int).toNat from by rw [List.length_take]; exact Nat.min_eq_left (Int.toNat_le.mpr (of_decide_eq_true as_))] at hcv34x); have hcv34q := fun nq_ : Nat => Kd.C_string (P := Try.prog) (A := A0) (c := c0) Try.underlying24 Try.underlying5 Try.underlying9 (Kd.C_drewN (Kd.C_below HR356.out HB.out) nq_); (try simp only [show (l0.take ((ji11) : Int).toNat).length = ((ji11) : Int).toNat from by rw [List.length_take]; exact Nat.min_eq_left (Int.toNat_le.mpr (of_decide_eq_true as_))] at hcv34q))))
           go_ret3
           exact ⟨_, by first | rfl | (simp [errW_none, errW_some] <;> rfl) | (simp only [← hji11]; first | rfl | (simp [errW_none, errW_some] <;> rfl)) | (simp [*, errW_none, errW_some] <;> rfl), nl_, bl_ HB⟩
         ·rw [if_neg c13] at H
          exact absurd H (by simp)
        ·rw [if_neg c12] at H
         exact absurd H (by simp)
       ·rw [if_neg c9] at H
        exact absurd H (by simp)
      ·rw [if_neg c8] at H
       exact absurd H (by simp)
     ·rw [if_neg c7] at H
      exact absurd H (by simp)
    ·rw [if_neg c6] at H
     exact absurd H (by simp)
 ·rw [if_neg c3] at H
  have c3b0 : (t344 == 0) = false := beq_eq_false_iff_ne.mpr c3
  have c3b1 : (t344 != 0) = true := bne_iff_ne.mpr c3
  simp only [Option.some.injEq, Prod.mk.injEq] at H
  obtain ⟨rfl, rfl, rfl⟩ := H
  go_enter Try.func52, Try.ntmps52
  go_wp2_with (first | (go_at_call 35; (with_reducible refine (r01_Get.calls k _ _ l0 t342 t343 t344 _ ?side1 ?side2 A2.out).mono ?_); (case side1 => exact cl_ HR0.out); (case side2 => exact HC0.out); rintro e w' ⟨rfl, ⟨nd, rfl⟩⟩; (try first | exact ⟨rfl, _, World.drewN_drewN _ _ _⟩ | exact ⟨rfl, _, Eq.trans (World.drewN_drewN _ _ _) (congrArg (World.drewN _) (Nat.add_assoc _ _ _))⟩)))
  repeat (go_quiet (first | (go_at_call 35; (with_reducible refine (r01_Get.calls k _ _ l0 t342 t343 t344 _ ?side1 ?side2 A2.out).mono ?_); (case side1 => exact cl_ HR0.out); (case side2 => exact HC0.out); rintro e w' ⟨rfl, ⟨nd, rfl⟩⟩; (try first | exact ⟨rfl, _, World.drewN_drewN _ _ _⟩ | exact ⟨rfl, _, Eq.trans (World.drewN_drewN _ _ _) (congrArg (World.drewN _) (Nat.add_assoc _ _ _))⟩))); try go_wp2_with (first | (go_at_call 35; (with_reducible refine (r01_Get.calls k _ _ l0 t342 t343 t344 _ ?side1 ?side2 A2.out).mono ?_); (case side1 => exact cl_ HR0.out); (case side2 => exact HC0.out); rintro e w' ⟨rfl, ⟨nd, rfl⟩⟩; (try first | exact ⟨rfl, _, World.drewN_drewN _ _ _⟩ | exact ⟨rfl, _, Eq.trans (World.drewN_drewN _ _ _) (congrArg (World.drewN _) (Nat.add_assoc _ _ _))⟩))))
  go_ret3
  exact ⟨_, er_, nl_, bl_ HB⟩
end Go.Proofs.Ytiohnpphhepdfaa.PPa
end
section
namespace Go.Proofs.Ytiohnpphhepdfaa.PPa
open Go.RowKit Go.Proofs.YtiohnpphhepdfaaW.PrintWords Go.Proofs.YtiohnpphhepdfaaW.PrintLast Go.Proofs.YtiohnpphhepdfaaW.PrintMore
attribute [local go_sem] max2_int min2_int max_two min_two max_three min_three max_four min_four
attribute [local go_sem] Go.Proofs.Ytiohnpphhepdfaa.MoreWords.str_leq Go.Proofs.Ytiohnpphhepdfaa.MoreWords.str_gtr Go.Proofs.Ytiohnpphhepdfaa.MoreWords.str_geq
set_option maxHeartbeats 8000000
set_option maxRecDepth 100000
set_option linter.unusedVariables false
set_option linter.unusedSimpArgs false
def r03_Scan.l0 : Nat → List Int → List Int → Int → Int → Int → List (List Int) → Option ((List (List Int)) × Int)
 | 0, _, _, _, _, _, _ => none
 | k + 1, x0, x4, x5, x6, x7, x8 => if x6 = 0 then (if x8.length < 5864062014805 then (if 0 ≤ (wrap64 (x7 + x5)) then (if (wrap64 (x7 + x5)) ≤ (x0.length : Int) then ((r03_Get.f k (x0.drop ((wrap64 (x7 + x5)) : Int).toNat)).bind fun bt366 => (r03_Scan.l0 k x0 bt366.1 bt366.2.1 bt366.2.2 (wrap64 (x7 + x5)) (x8 ++ [x4]))) else (none)) else (none)) else (none)) else (some (x8, x7))
def r03_Scan.f (k : Nat) (l0 : List Int) : Option ((List (List Int)) × Int) := (r03_Get.f k l0).bind fun bt357 => (r03_Scan.l0 k l0 bt357.1 bt357.2.1 bt357.2.2 0 ([] : List (List Int)))
theorem r03_Scan.mono_l : ∀ k, (∀ y0 y1 y2 y3 y4 y5, LeO (r03_Scan.l0 k y0 y1 y2 y3 y4 y5) (r03_Scan.l0 (k + 1) y0 y1 y2 y3 y4 y5))
 | 0 => fun _ _ _ _ _ _ r h => by simp [r03_Scan.l0] at h
 | k + 1 => by
  have ih0 := r03_Scan.mono_l k
  ·intro y0 y1 y2 y3 y4 y5
   unfold r03_Scan.l0
   repeat' first
   | (with_reducible exact ih0 _ _ _ _ _ _)
   | (with_reducible exact r03_Get.mono _ _)
   | (with_reducible exact LeO.refl _)
   | (with_reducible exact LeO.none _)
   | (with_reducible refine LeO.ite ?_ ?_)
   | (with_reducible refine LeO.bind ?_ (fun _ => ?_))
   | exact ih0 _ _ _ _ _ _
   | exact r03_Get.mono _ _
   | exact LeO.none _
   | refine LeO.ite ?_ ?_
   | refine LeO.bind ?_ (fun _ => ?_)
theorem r03_Scan.mono : ∀ a0 k, LeO (r03_Scan.f k a0) (r03_Scan.f (k + 1) a0) := by
 intro a0 k
 have ih0 := r03_Scan.mono_l k
 unfold r03_Scan.f
 repeat' first
   | (with_reducible exact ih0 _ _ _ _ _ _)
   | (with_reducible exact r03_Get.mono _ _)
   | (with_reducible exact LeO.refl _)
   | (with_reducible exact LeO.none _)
   | (with_reducible refine LeO.ite ?_ ?_)
   | (with_reducible refine LeO.bind ?_ (fun _ => ?_))
   | exact ih0 _ _ _ _ _ _
   | exact r03_Get.mono _ _
   | exact LeO.none _
   | refine LeO.ite ?_ ?_
   | refine LeO.bind ?_ (fun _ => ?_)
theorem r03_Scan.calls (k : Nat) (A0 : Option Addr) (c0 : Nat) (l0 : List Int) (r1 : List (List Int)) (r2 : Int) (w : World) (hr0 : Kd.C (Kd.int .u8) w A0 l0.length l0) (hc0 : l0.length ≤ c0) (h : r03_Scan.f k l0 = some (r1, r2)) :
  Calls Try.prog 34 #[.slice A0 l0.length c0] w fun e w' => ∃ v0_ : Value, e = .returned (.tuple #[v0_, .int .i64 r2]) ∧ Kd.S (Kd.slice 5 (Kd.int .u8)) 24 w' w.heap.size (fun _ => True) v0_ r1 ∧ Below w.heap.size w w' := by
 have HR0 := Az.mk hr0
 have HC0 := Az.mk hc0
 clear hr0 hc0
 have HB := Az.mk (Below.refl w.heap.size w)
 have H : ((r03_Get.f k l0).bind fun bt357 => (r03_Scan.l0 k l0 bt357.1 bt357.2.1 bt357.2.2 0 ([] : List (List Int)))) = some (r1, r2) := h
 clear h
 replace H := Option.bind_eq_some_iff.mp H
 obtain ⟨⟨t357, t358, t359⟩, A20, H⟩ := H
 replace H : (r03_Scan.l0 k l0 t357 t358 t359 0 ([] : List (List Int))) = some (r1, r2) := H
 have A2 := Az.mk A20
 clear A20
 have H' := Az.mk H
 clear H
 go_enter Try.func34, Try.ntmps34
 go_wp2_with (first | ((with_reducible refine gate_callee (f := 52) rfl ?_); refine goesL_ (some 11) rfl rfl Try.func52 (by kernel_rfl) rfl #[.slice A0 l0.length c0] rfl ar_ ?_; (with_reducible refine (r03_Get.calls k _ _ l0 t357 t358 t359 _ ?side1 ?side2 A2.out).mono ?_); (case side1 => exact cl_ HR0.out); (case side2 => exact HC0.out); rintro e w3 ⟨v360, rfl, ho0, hb⟩; refine ⟨_, rfl, ?_⟩; have n0_ := Az.mk (Kd.R_lower ho0 (below_size (bl_ HB))); have n1_ := Az.mk (below_step (bl_ HB) hb); clear HB; have HO361 := n0_; have HB := n1_; clear n0_ n1_; (try clear hb); (try clear hb2); (try clear hk); (try clear hi); (try clear ho0)))
 go_loopg [4, 5, 6, 7, 8] k (fun kq v4 v5 v6 v7 v8 w' => ∃ (x4_1 : List Int) (x5_1 : Int) (x6_1 : Int) (x7_1 : Int) (x8_1 : List (List Int)), v5 = .int .i64 x5_1 ∧ v6 = .int .i64 x6_1 ∧ v7 = .int .i64 x7_1 ∧ Az (r03_Scan.l0 kq l0 x4_1 x5_1 x6_1 x7_1 x8_1 = some (r1, r2)) ∧ Az (kq ≤ k) ∧ Az (Kd.R (Kd.int .u8) 5 w' w.heap.size (fun _ => True) v4 x4_1) ∧ Az (Kd.S (Kd.slice 5 (Kd.int .u8)) 24 w' w.heap.size (fun k_ => some k_ ≠ (v4 : Value).ownBlock) v8 x8_1) ∧ Az (Below w.heap.size w w'))
 case atStart => exact ⟨(t357), (t358), (t359), (0), (([] : List (List Int))), (es_), (es_), (es_), H', ⟨Nat.le_refl _⟩, ⟨rl_ HO361.out⟩, ⟨by first | exact Kd.S_nil _ _ _ _ _ | exact Kd.N_nil _ _ _ _ _ | exact Kd.V_nil _ _ _ _ _ | exact Kd.Q_nil _ _ _ _ _ | exact Kd.R_nil _ _ _ _ _⟩, ⟨bl_ HB⟩⟩
 case round =>
  clear H'
  try clear p2
  try clear c3
  obtain ⟨x4_1, x5_1, x6_1, x7_1, x8_1, rfl, rfl, rfl, HA, HK1, HO_4, HO_8, HB⟩ := hrel
  cases gk with
  | zero => exact absurd HA.out (by simp [r03_Scan.l0])
  | succ k1 =>
   have H := HA.out
   clear HA
   simp only [r03_Scan.l0] at H
   by_cases c4 : x6_1 = 0
   ·rw [if_pos c4] at H
    have c4b0 : (x6_1 == 0) = true := beq_iff_eq.mpr c4
    have c4b1 : (x6_1 != 0) = false := bne_eq_false_iff_eq.mpr c4
    clear c4
    by_cases c5 : x8_1.length < 5864062014805
    ·rw [if_pos c5] at H
     have LMc5 := Az.mk c5
     clear c5
     obtain ⟨y362, hy362⟩ : ∃ y_ : List (List Int), y_ = (x8_1 ++ [x4_1]) := ⟨_, rfl⟩
     replace H : (if 0 ≤ (wrap64 (x7_1 + x5_1)) then (if (wrap64 (x7_1 + x5_1)) ≤ (l0.length : Int) then ((r03_Get.f k1 (l0.drop ((wrap64 (x7_1 + x5_1)) : Int).toNat)).bind fun bt366 => (r03_Scan.l0 k1 l0 bt366.1 bt366.2.1 bt366.2.2 (wrap64 (x7_1 + x5_1)) y362)) else (none)) else (none)) = some (r1, r2) := hr_ hy362 H
     have Ny362 := Az.mk hy362
     clear hy362
     obtain ⟨ji6, hji6⟩ : ∃ j_ : Int, (wrap64 (x7_1 + x5_1)) = j_ := ⟨_, rfl⟩
     (try rw [hji6] at LMc5)
     replace H : (if 0 ≤ (ji6) then (if (ji6) ≤ (l0.length : Int) then ((r03_Get.f k1 (l0.drop ((ji6) : Int).toNat)).bind fun bt366 => (r03_Scan.l0 k1 l0 bt366.1 bt366.2.1 bt366.2.2 ji6 y362)) else (none)) else (none)) = some (r1, r2) := by first | (rw [hji6] at H; exact H) | (simp only [hji6] at H ⊢; exact H)
     have hji6w : (IntKind.i64.wrap (x7_1 + x5_1)) = ji6 := (i64_w _).trans hji6
     by_cases c7 : 0 ≤ (ji6)
     ·rw [if_pos c7] at H
      have c7b0 := eq_true c7
      have c7b1 := decide_eq_true c7
      clear c7
      by_cases c8 : (ji6) ≤ (l0.length : Int)
      ·rw [if_pos c8] at H
       have c8b0 := eq_true c8
       have c8b1 := decide_eq_true c8
       clear c8
       replace H := Option.bind_eq_some_iff.mp H
       obtain ⟨⟨t366, t367, t368⟩, A90, H⟩ := H
       replace H : (r03_Scan.l0 k1 l0 t366 t367 t368 ji6 y362) = some (r1, r2) := H
       have A9 := Az.mk A90
       clear A90
       have H' := Az.mk H
       clear H
       obtain ⟨Ao11, co11, eo11⟩ := Kd.R_slice HO_4.out
       subst eo11
       go_wp2_with (first | ((with_reducible refine gate_builtin (b := .append) (xs := #[.tmp 17, .tmp 19]) rfl ?_); at_builtin; refine Kd.S_append (Kd.slice 5 (Kd.int .u8)) (w0 := w) w.heap.size rfl (.tmp 17) (.tmp 19) 22 24 (.slice none 0 0) 24 rfl Try.underlying22 info24 rfl (by decide) (by omega) u8 x8_1 x4_1 [.slice Ao11 x4_1.length co11] (fun _ => True) (fun k_ => some k_ = (.slice Ao11 x4_1.length co11 : Value).ownBlock) rfl rfl ?aP (fun k_ hk_ => ((Kd.R_mono (ok' := fun k_ => ((fun _ => True)) k_ ∧ some k_ ≠ (u8 : Value).ownBlock) (Kd.R_apart' (HO_4.out) (Kd.S_typed HO_8.out) (by decide)) (fun k_ hk => ⟨trivial, hk.2⟩))).1 k_ hk_.symm) ?aF ?aO ?aB ?aS ?aL ?_; (case aP => exact Kd.M_row (Kd.R_mono (Kd.R_tight rfl (Kd.R_mono (ok' := fun k_ => ((fun _ => True)) k_ ∧ some k_ ≠ (u8 : Value).ownBlock) (Kd.R_apart' (HO_4.out) (Kd.S_typed HO_8.out) (by decide)) (fun k_ hk => ⟨trivial, hk.2⟩))) (fun _ h_ => h_))); (case aB => exact (bl_ HB)); (case aF => exact (fun _ _ => trivial)); (case aO => exact (by (with_reducible repeat (first | apply Kd.S_alloc | apply Kd.S_drewN | apply Kd.S_drew)); exact Kd.S_mono HO_8.out (fun k_ hk => ⟨trivial, fun e_ => hk e_⟩))); (case aS => exact (below_size (bl_ HB))); (case aL => have := LMc5.out; omega); intro v363 w10 ho hb hg hat; rw [← Ny362.out] at ho; have n0_ := Az.mk (hb); have n1_ := Az.mk (ho); clear HB; clear HO_8; clear HO_4; have HB := n0_; have HO364 := n1_; clear n0_ n1_; clear ho hb hg hat; obtain ⟨i012, hi012, _, hsz12, _⟩ := info_parts info5; obtain ⟨A12, hcut12, hA12, hC12⟩ := print_drop_of (P := Try.prog) (Value.int .u8) 0 24 5 .i64 Try.underlying24 hi012 hsz12 A0 c0 l0 (ji6) (of_decide_eq_true as_) (of_decide_eq_true as_) HC0.out; have HR365 := Az.mk (Kd.C_of_reads (h1 := fun _ => rfl) (hA12 _ (Kd.reads_of_C HR0.out))); have HC365 := Az.mk hC12; clear hA12 hC12 hi012 hsz12) | ((with_reducible refine gate_callee (f := 52) rfl ?_); refine goesL_ (some 28) rfl rfl Try.func52 (by kernel_rfl) rfl #[.slice A12 (l0.drop ((ji6) : Int).toNat).length (c0 - (ji6).toNat)] rfl (by (try simp only [List.map_toArray, List.map_cons, List.map_nil]); first | done | (rw [show (l0.drop ((ji6) : Int).toNat).length = (l0.length - (ji6).toNat) from List.length_drop] <;> rfl) | (simp only [hji6]; rfl) | rfl | (simp only [List.length_drop, List.length_take]; rfl)) ?_; (with_reducible refine (r03_Get.calls k1 _ _ (l0.drop ((ji6) : Int).toNat) t366 t367 t368 _ ?side1 ?side2 A9.out).mono ?_); (case side1 => exact cl_ (Kd.C_below HR365.out HB.out)); (case side2 => exact HC365.out); rintro e w13 ⟨v369, rfl, ho0, hb⟩; refine ⟨_, rfl, ?_⟩; have n0_ := Az.mk (Kd.S_elder' (sl_ HO364.out) (Kd.R_base ho0) hb); have n1_ := Az.mk (Kd.R_lower ho0 (below_size (bl_ HB))); have n2_ := Az.mk (below_step (bl_ HB) hb); clear HO364; clear HB; have HO364 := n0_; have HO370 := n1_; have HB := n2_; clear n0_ n1_ n2_; (try clear hb); (try clear hb2); (try clear hk); (try clear hi); (try clear ho0)))
       go_roundg k1
       case measure => have := HK1.out; omega
       case rel => exact ⟨(t366), (t367), (t368), (ji6), (y362), (es_), (es_), (by first | rfl | (simp; done) | (simp only [← hji6] <;> (first | rfl | simp)) | (simp [*]; done)), H', ⟨by have := HK1.out; omega⟩, ⟨rl_ HO370.out⟩, ⟨by (with_reducible repeat (first | apply Kd.S_alloc | apply Kd.S_drewN | apply Kd.S_drew)); exact Kd.S_mono HO364.out (fun _ hk => hk.2)⟩, ⟨bl_ HB⟩⟩
      ·rw [if_neg c8] at H
       exact absurd H (by simp)
     ·rw [if_neg c7] at H
      exact absurd H (by simp)
    ·rw [if_neg c5] at H
     exact absurd H (by simp)
   ·rw [if_neg c4] at H
    have c4b0 : (x6_1 == 0) = false := beq_eq_false_iff_ne.mpr c4
    have c4b1 : (x6_1 != 0) = true := bne_iff_ne.mpr c4
    simp only [Option.some.injEq, Prod.mk.injEq] at H
    obtain ⟨rfl, rfl⟩ := H
    go_wp2
    go_ret2
    exact ⟨_, er_, by (with_reducible repeat (first | apply Kd.S_alloc | apply Kd.S_drewN | apply Kd.S_drew)); exact Kd.S_mono HO_8.out (fun _ hk => trivial), bl_ HB⟩
mutual
def r09_take.j0 : Nat → ByteArray → List Int → Int → Int → Bool → Option (ByteArray × Int × Int)
 | 0, _, _, _, _, _ => none
 | k + 1, x0, x1, x6, x7, x31 => if x31 = true then (some ((⟨#[]⟩ : ByteArray), 0, 0)) else (if 0 ≤ x7 then (if x7 ≤ (x1.length : Int) then ((r01_Get.f k (x1.drop (x7 : Int).toNat)).bind fun bt376 => (if bt376.2.2 = 0 then (r09_take.j1 k x0 x1 x6 bt376.1 (wrap64 (x7 + bt376.2.1)) (decide (bt376.1 > (IntKind.u64.wrap (wrap64 ((x1.length : Int) - (wrap64 (x7 + bt376.2.1)))))))) else (r09_take.j1 k x0 x1 x6 bt376.1 (wrap64 (x7 + bt376.2.1)) true))) else (none)) else (none))
def r09_take.j1 : Nat → ByteArray → List Int → Int → Int → Int → Bool → Option (ByteArray × Int × Int)
 | 0, _, _, _, _, _, _ => none
 | k + 1, x0, x1, x6, x9, x12, x54 => if x54 = true then (some ((⟨#[]⟩ : ByteArray), 0, 0)) else (if 0 ≤ x6 then (if x6 ≤ (x0.size : Int) then (if 0 ≤ x12 then (if x12 ≤ (wrap64 (x12 + (wrap64 (x9)))) then (if (wrap64 (x12 + (wrap64 (x9)))) ≤ (x1.length : Int) then (if (x0.extract 0 (x6 : Int).toNat).size + (strOfNums ((x1.take ((wrap64 (x12 + (wrap64 (x9)))) : Int).toNat).drop (x12 : Int).toNat)).size ≤ 9223372036854775807 then (if 0 ≤ (wrap64 (x12 + (wrap64 (x9)))) then ((r01_Get.f k (x1.drop ((wrap64 (x12 + (wrap64 (x9)))) : Int).toNat)).bind fun bt381 => (if bt381.2.2 = 0 then (some ((x0.extract 0 (x6 : Int).toNat) ++ (strOfNums ((x1.take ((wrap64 (x12 + (wrap64 (x9)))) : Int).toNat).drop (x12 : Int).toNat)), bt381.1, wrap64 ((wrap64 (x12 + (wrap64 (x9)))) + bt381.2.1))) else (some ((⟨#[]⟩ : ByteArray), 0, 0)))) else (none)) else (none)) else (none)) else (none)) else (none)) else (none)) else (none))
end
def r09_take.f (k : Nat) (a0 : ByteArray) (l1 : List Int) : Option (ByteArray × Int × Int) := (r01_Get.f k l1).bind fun bt372 => (if bt372.2.2 = 0 then (r09_take.j0 k a0 l1 bt372.1 bt372.2.1 (decide (bt372.1 > (IntKind.u64.wrap ((a0.size : Int)))))) else (r09_take.j0 k a0 l1 bt372.1 bt372.2.1 true))
theorem r09_take.mono_l : ∀ k, (∀ y0 y1 y2 y3 y4, LeO (r09_take.j0 k y0 y1 y2 y3 y4) (r09_take.j0 (k + 1) y0 y1 y2 y3 y4)) ∧ (∀ y0 y1 y2 y3 y4 y5, LeO (r09_take.j1 k y0 y1 y2 y3 y4 y5) (r09_take.j1 (k + 1) y0 y1 y2 y3 y4 y5))
 | 0 => ⟨fun _ _ _ _ _ r h => by simp [r09_take.j0] at h, fun _ _ _ _ _ _ r h => by simp [r09_take.j1] at h⟩
 | k + 1 => by
  obtain ⟨ih0, ih1⟩ := r09_take.mono_l k
  refine ⟨?_, ?_⟩
  ·intro y0 y1 y2 y3 y4
   unfold r09_take.j0
   repeat' first
   | (with_reducible exact ih0 _ _ _ _ _)
   | (with_reducible exact ih1 _ _ _ _ _ _)
   | (with_reducible exact r01_Get.mono _ _)
   | (with_reducible exact LeO.refl _)
   | (with_reducible exact LeO.none _)
   | (with_reducible refine LeO.ite ?_ ?_)
   | (with_reducible refine LeO.bind ?_ (fun _ => ?_))
   | exact ih0 _ _ _ _ _
   | exact ih1 _ _ _ _ _ _
   | exact r01_Get.mono _ _
   | exact LeO.none _
   | refine LeO.ite ?_ ?_
   | refine LeO.bind ?_ (fun _ => ?_)
  ·intro y0 y1 y2 y3 y4 y5
   unfold r09_take.j1
   repeat' first
   | (with_reducible exact ih0 _ _ _ _ _)
   | (with_reducible exact ih1 _ _ _ _ _ _)
   | (with_reducible exact r01_Get.mono _ _)
   | (with_reducible exact LeO.refl _)
   | (with_reducible exact LeO.none _)
   | (with_reducible refine LeO.ite ?_ ?_)
   | (with_reducible refine LeO.bind ?_ (fun _ => ?_))
   | exact ih0 _ _ _ _ _
   | exact ih1 _ _ _ _ _ _
   | exact r01_Get.mono _ _
   | exact LeO.none _
   | refine LeO.ite ?_ ?_
   | refine LeO.bind ?_ (fun _ => ?_)
theorem r09_take.mono : ∀ a0 a1 k, LeO (r09_take.f k a0 a1) (r09_take.f (k + 1) a0 a1) := by
 intro a0 a1 k
 obtain ⟨ih0, ih1⟩ := r09_take.mono_l k
 unfold r09_take.f
 repeat' first
   | (with_reducible exact ih0 _ _ _ _ _)
   | (with_reducible exact ih1 _ _ _ _ _ _)
   | (with_reducible exact r01_Get.mono _ _)
   | (with_reducible exact LeO.refl _)
   | (with_reducible exact LeO.none _)
   | (with_reducible refine LeO.ite ?_ ?_)
   | (with_reducible refine LeO.bind ?_ (fun _ => ?_))
   | exact ih0 _ _ _ _ _
   | exact ih1 _ _ _ _ _ _
   | exact r01_Get.mono _ _
   | exact LeO.none _
   | refine LeO.ite ?_ ?_
   | refine LeO.bind ?_ (fun _ => ?_)
theorem r09_take.calls (k : Nat) (a0 : ByteArray) (A1 : Option Addr) (c1 : Nat) (l1 : List Int) (r1 : ByteArray) (r2 : Int) (r3 : Int) (w : World) (hr1 : Kd.C (Kd.int .u8) w A1 l1.length l1) (hc1 : l1.length ≤ c1) (h : r09_take.f k a0 l1 = some (r1, r2, r3)) :
  Calls Try.prog 36 #[.string a0, .slice A1 l1.length c1] w fun e w' => e = .returned (.tuple #[.agg #[.string r1, .int .u64 r2], .int .i64 r3]) ∧ Below w.heap.size w w' := by
 have hu41 := Try.underlying41
 have HR1 := Az.mk hr1
 have HC1 := Az.mk hc1
 clear hr1 hc1
 have HB := Az.mk (Below.refl w.heap.size w)
 have H : ((r01_Get.f k l1).bind fun bt372 => (if bt372.2.2 = 0 then (r09_take.j0 k a0 l1 bt372.1 bt372.2.1 (decide (bt372.1 > (IntKind.u64.wrap ((a0.size : Int)))))) else (r09_take.j0 k a0 l1 bt372.1 bt372.2.1 true))) = some (r1, r2, r3) := h
 clear h
 replace H := Option.bind_eq_some_iff.mp H
 obtain ⟨⟨t372, t373, t374⟩, A30, H⟩ := H
 replace H : (if t374 = 0 then (r09_take.j0 k a0 l1 t372 t373 (decide (t372 > (IntKind.u64.wrap ((a0.size : Int)))))) else (r09_take.j0 k a0 l1 t372 t373 true)) = some (r1, r2, r3) := H
 have A3 := Az.mk A30
 clear A30
 have HC4 := Az.mk H
 clear H
 go_enter Try.func36, Try.ntmps36
 go_upto_region 2 with (first | ((with_reducible refine gate_dst (N := 4) rfl ?_); (try (refine gate_guard (by rfl) ?_; dsimp only)); refine box_event ?hg (N := 4) ?hd (cs := #[.string (⟨#[]⟩ : ByteArray), .int .u64 0]) (t := 41) ?hr ?_; (case hd => rfl); (case hg => rfl); (case hr => first | (go_simp; done) | (go_simp; rfl)); intro gb371 hg w5 hbox hb; have n0_ := Az.mk (below_step (bl_ HB) hb); have n1_ := Az.mk (hbox); have n2_ := Az.mk ((by rw [hg]; exact (below_size (bl_ HB)) : w.heap.size ≤ gb371)); have n3_ := Az.mk ((by rw [hg]; exact (below_size (bl_ HB)) : w.heap.size ≤ gb371)); clear HB; have HB := n0_; have BK371 := n1_; have GW371 := n2_; have GE371 := n3_; clear n0_ n1_ n2_ n3_; clear hb hbox hg) | (go_at_call 35; (with_reducible refine (r01_Get.calls k _ _ l1 t372 t373 t374 _ ?side1 ?side2 A3.out).mono ?_); (case side1 => exact cl_ (Kd.C_below HR1.out HB.out)); (case side2 => exact HC1.out); rintro e w' ⟨rfl, ⟨nd, rfl⟩⟩; (try first | exact ⟨rfl, _, World.drewN_drewN _ _ _⟩ | exact ⟨rfl, _, Eq.trans (World.drewN_drewN _ _ _) (congrArg (World.drewN _) (Nat.add_assoc _ _ _))⟩)))
 repeat (go_quiet (first | ((with_reducible refine gate_dst (N := 4) rfl ?_); (try (refine gate_guard (by rfl) ?_; dsimp only)); refine box_event ?hg (N := 4) ?hd (cs := #[.string (⟨#[]⟩ : ByteArray), .int .u64 0]) (t := 41) ?hr ?_; (case hd => rfl); (case hg => rfl); (case hr => first | (go_simp; done) | (go_simp; rfl)); intro gb371 hg w5 hbox hb; have n0_ := Az.mk (below_step (bl_ HB) hb); have n1_ := Az.mk (hbox); have n2_ := Az.mk ((by rw [hg]; exact (below_size (bl_ HB)) : w.heap.size ≤ gb371)); have n3_ := Az.mk ((by rw [hg]; exact (below_size (bl_ HB)) : w.heap.size ≤ gb371)); clear HB; have HB := n0_; have BK371 := n1_; have GW371 := n2_; have GE371 := n3_; clear n0_ n1_ n2_ n3_; clear hb hbox hg) | (go_at_call 35; (with_reducible refine (r01_Get.calls k _ _ l1 t372 t373 t374 _ ?side1 ?side2 A3.out).mono ?_); (case side1 => exact cl_ (Kd.C_below HR1.out HB.out)); (case side2 => exact HC1.out); rintro e w' ⟨rfl, ⟨nd, rfl⟩⟩; (try first | exact ⟨rfl, _, World.drewN_drewN _ _ _⟩ | exact ⟨rfl, _, Eq.trans (World.drewN_drewN _ _ _) (congrArg (World.drewN _) (Nat.add_assoc _ _ _))⟩))); go_upto_region 2 with (first | ((with_reducible refine gate_dst (N := 4) rfl ?_); (try (refine gate_guard (by rfl) ?_; dsimp only)); refine box_event ?hg (N := 4) ?hd (cs := #[.string (⟨#[]⟩ : ByteArray), .int .u64 0]) (t := 41) ?hr ?_; (case hd => rfl); (case hg => rfl); (case hr => first | (go_simp; done) | (go_simp; rfl)); intro gb371 hg w5 hbox hb; have n0_ := Az.mk (below_step (bl_ HB) hb); have n1_ := Az.mk (hbox); have n2_ := Az.mk ((by rw [hg]; exact (below_size (bl_ HB)) : w.heap.size ≤ gb371)); have n3_ := Az.mk ((by rw [hg]; exact (below_size (bl_ HB)) : w.heap.size ≤ gb371)); clear HB; have HB := n0_; have BK371 := n1_; have GW371 := n2_; have GE371 := n3_; clear n0_ n1_ n2_ n3_; clear hb hbox hg) | (go_at_call 35; (with_reducible refine (r01_Get.calls k _ _ l1 t372 t373 t374 _ ?side1 ?side2 A3.out).mono ?_); (case side1 => exact cl_ (Kd.C_below HR1.out HB.out)); (case side2 => exact HC1.out); rintro e w' ⟨rfl, ⟨nd, rfl⟩⟩; (try first | exact ⟨rfl, _, World.drewN_drewN _ _ _⟩ | exact ⟨rfl, _, Eq.trans (World.drewN_drewN _ _ _) (congrArg (World.drewN _) (Nat.add_assoc _ _ _))⟩))))
 (try simp only [Act.put, List.setIfInBounds_toArray, List.set_cons_zero, List.set_cons_succ])
 go_cut [31] (fun v31 wc => ∃ (kq : Nat) (x31_3 : Bool), v31 = .bool x31_3 ∧ Az (r09_take.j0 kq a0 l1 t372 t373 x31_3 = some (r1, r2, r3)) ∧ Az (kq ≤ k) ∧ Az (wc.heap[gb371]? = some (.cells #[.string (⟨#[]⟩ : ByteArray), .int .u64 0] 41 (0, 0))) ∧ Az (Below w.heap.size w wc))
 case first =>
  have H := HC4.out
  clear HC4
  by_cases c6 : t374 = 0
  ·rw [if_pos c6] at H
   have c6b0 : (t374 == 0) = true := beq_iff_eq.mpr c6
   have c6b1 : (t374 != 0) = false := bne_eq_false_iff_eq.mpr c6
   clear c6
   (first | rw [c6b0] | (simp only [i64_w, i32_w]; rw [c6b0]) | skip)
   have H' := Az.mk H
   clear H
   go_wp2
   repeat (go_quiet (fail); try go_wp2)
   go_meet
   case rel => exact ⟨_, (decide (t372 > (IntKind.u64.wrap ((a0.size : Int))))), (es_), H', ⟨by first | omega | exact Nat.le_refl _⟩, ⟨by (with_reducible repeat (first | refine blk_drewN ?_ _ | refine blk_drew ?_ | refine blk_alloc ?_ _)); exact BK371.out⟩, ⟨by repeat (first | (with_reducible first | exact HB.out | apply below_alloc | apply pw_below_drewN | apply below_drew1 | refine below_set ?_ GE371.out) | exact HB.out)⟩⟩
  ·rw [if_neg c6] at H
   have c6b0 : (t374 == 0) = false := beq_eq_false_iff_ne.mpr c6
   have c6b1 : (t374 != 0) = true := bne_iff_ne.mpr c6
   (first | rw [c6b0] | (simp only [i64_w, i32_w]; rw [c6b0]) | skip)
   have H' := Az.mk H
   clear H
   go_wp2
   repeat (go_quiet (fail); try go_wp2)
   go_meet
   case rel => exact ⟨_, (true), (es_), H', ⟨by first | omega | exact Nat.le_refl _⟩, ⟨by (with_reducible repeat (first | refine blk_drewN ?_ _ | refine blk_drew ?_ | refine blk_alloc ?_ _)); exact BK371.out⟩, ⟨by repeat (first | (with_reducible first | exact HB.out | apply below_alloc | apply pw_below_drewN | apply below_drew1 | refine below_set ?_ GE371.out) | exact HB.out)⟩⟩
 case rest =>
  clear HC4
  try clear c1
  try clear p2
  try clear c3
  try clear c6
  try clear c6b0
  try clear c6b1
  obtain ⟨kq, x31_3, rfl, HA, HJ3, BK371, HB⟩ := hcut
  cases kq with
  | zero => exact absurd HA.out (by simp [r09_take.j0])
  | succ kj3 =>
   have H := HA.out
   clear HA
   simp only [r09_take.j0] at H
   by_cases c7 : x31_3 = true
   ·subst c7
    have H1 : (some ((⟨#[]⟩ : ByteArray), 0, 0)) = some (r1, r2, r3) := by rw [if_pos rfl] at H; exact H
    clear H
    have H := H1
    clear H1
    simp only [Option.some.injEq, Prod.mk.injEq] at H
    obtain ⟨rfl, rfl, rfl⟩ := H
    have hcz8_0 : wc.cell? ⟨gb371, 0, none⟩ = some (.string (⟨#[]⟩ : ByteArray)) := (blk_cell BK371.out 0).trans rfl
    have hcz8_1 : wc.cell? ⟨gb371, 1, none⟩ = some (.int .u64 0) := (blk_cell BK371.out 1).trans rfl
    have hfz8_0 := blk_frozen BK371.out 0
    have hfz8_1 := blk_frozen BK371.out 1
    go_wp2
    repeat (go_quiet (fail); try go_wp2)
    refine bodyPost_ret (results_ct rfl _ _ gb371 41 #[.string (⟨#[]⟩ : ByteArray), .int .u64 0] (0, 0) _ rfl (by (with_reducible repeat (first | refine blk_drewN ?_ _ | refine blk_drew ?_ | refine blk_alloc ?_ _)); refine blk_put (cs := #[.string (⟨#[]⟩ : ByteArray), .int .u64 0]) ?_ 1 _ rfl; (with_reducible repeat (first | refine blk_drewN ?_ _ | refine blk_drew ?_ | refine blk_alloc ?_ _)); refine blk_put (cs := #[.string (⟨#[]⟩ : ByteArray), .int .u64 0]) ?_ 0 _ rfl; (with_reducible repeat (first | refine blk_drewN ?_ _ | refine blk_drew ?_ | refine blk_alloc ?_ _)); exact BK371.out) Try.underlying41 rfl (by kernel_rfl)) rfl ?_
    exact ⟨er_, by repeat (first | (with_reducible first | exact HB.out | apply below_alloc | apply pw_below_drewN | apply below_drew1 | refine below_set ?_ GE371.out) | exact HB.out)⟩
   ·replace c7 := Bool.eq_false_iff.mpr c7
    subst c7
    have H1 : (if 0 ≤ t373 then (if t373 ≤ (l1.length : Int) then ((r01_Get.f kj3 (l1.drop (t373 : Int).toNat)).bind fun bt376 => (if bt376.2.2 = 0 then (r09_take.j1 kj3 a0 l1 t372 bt376.1 (wrap64 (t373 + bt376.2.1)) (decide (bt376.1 > (IntKind.u64.wrap (wrap64 ((l1.length : Int) - (wrap64 (t373 + bt376.2.1)))))))) else (r09_take.j1 kj3 a0 l1 t372 bt376.1 (wrap64 (t373 + bt376.2.1)) true))) else (none)) else (none)) = some (r1, r2, r3) := by rw [if_neg (show ¬ (false = true) by decide)] at H; exact H
    clear H
    have H := H1
    clear H1
    by_cases c9 : 0 ≤ t373
    ·rw [if_pos c9] at H
     have c9b0 := eq_true c9
     have c9b1 := decide_eq_true c9
     clear c9
     by_cases c10 : t373 ≤ (l1.length : Int)
     ·rw [if_pos c10] at H
      have c10b0 := eq_true c10
      have c10b1 := decide_eq_true c10
      clear c10
      replace H := Option.bind_eq_some_iff.mp H
      obtain ⟨⟨t376, t377, t378⟩, A110, H⟩ := H
      replace H : (if t378 = 0 then (r09_take.j1 kj3 a0 l1 t372 t376 (wrap64 (t373 + t377)) (decide (t376 > (IntKind.u64.wrap (wrap64 ((l1.length : Int) - (wrap64 (t373 + t377)))))))) else (r09_take.j1 kj3 a0 l1 t372 t376 (wrap64 (t373 + t377)) true)) = some (r1, r2, r3) := H
      have A11 := Az.mk A110
      clear A110
      have HC12 := Az.mk H
      clear H
      obtain ⟨i013, hi013, _, hsz13, _⟩ := info_parts info5
      obtain ⟨A13, hcut13, hA13, hC13⟩ := print_drop_of (P := Try.prog) (Value.int .u8) 0 24 5 .i64 Try.underlying24 hi013 hsz13 A1 c1 l1 t373 (of_decide_eq_true as_) (of_decide_eq_true as_) HC1.out
      have HR375 := Az.mk (Kd.C_of_reads (h1 := fun _ => rfl) (hA13 _ (Kd.reads_of_C HR1.out)))
      have HC375 := Az.mk hC13
      clear hA13 hC13 hi013 hsz13
      go_upto_region 6 with (first | (go_at_call 35; refine calls_of_args (args' := #[.slice A13 (l1.drop (t373 : Int).toNat).length (c1 - t373.toNat)]) (by first | (rw [show (l1.drop (t373 : Int).toNat).length = (l1.length - t373.toNat) from List.length_drop] <;> rfl) | rfl) ?_; (with_reducible refine (r01_Get.calls kj3 _ _ (l1.drop (t373 : Int).toNat) t376 t377 t378 _ ?side1 ?side2 A11.out).mono ?_); (case side1 => exact cl_ (Kd.C_below HR375.out HB.out)); (case side2 => exact HC375.out); rintro e w' ⟨rfl, ⟨nd, rfl⟩⟩; (try first | exact ⟨rfl, _, World.drewN_drewN _ _ _⟩ | exact ⟨rfl, _, Eq.trans (World.drewN_drewN _ _ _) (congrArg (World.drewN _) (Nat.add_assoc _ _ _))⟩)))
      repeat (go_quiet (first | (go_at_call 35; refine calls_of_args (args' := #[.slice A13 (l1.drop (t373 : Int).toNat).length (c1 - t373.toNat)]) (by first | (rw [show (l1.drop (t373 : Int).toNat).length = (l1.length - t373.toNat) from List.length_drop] <;> rfl) | rfl) ?_; (with_reducible refine (r01_Get.calls kj3 _ _ (l1.drop (t373 : Int).toNat) t376 t377 t378 _ ?side1 ?side2 A11.out).mono ?_); (case side1 => exact cl_ (Kd.C_below HR375.out HB.out)); (case side2 => exact HC375.out); rintro e w' ⟨rfl, ⟨nd, rfl⟩⟩; (try first | exact ⟨rfl, _, World.drewN_drewN _ _ _⟩ | exact ⟨rfl, _, Eq.trans (World.drewN_drewN _ _ _) (congrArg (World.drewN _) (Nat.add_assoc _ _ _))⟩))); go_upto_region 6 with (first | (go_at_call 35; refine calls_of_args (args' := #[.slice A13 (l1.drop (t373 : Int).toNat).length (c1 - t373.toNat)]) (by first | (rw [show (l1.drop (t373 : Int).toNat).length = (l1.length - t373.toNat) from List.length_drop] <;> rfl) | rfl) ?_; (with_reducible refine (r01_Get.calls kj3 _ _ (l1.drop (t373 : Int).toNat) t376 t377 t378 _ ?side1 ?side2 A11.out).mono ?_); (case side1 => exact cl_ (Kd.C_below HR375.out HB.out)); (case side2 => exact HC375.out); rintro e w' ⟨rfl, ⟨nd, rfl⟩⟩; (try first | exact ⟨rfl, _, World.drewN_drewN _ _ _⟩ | exact ⟨rfl, _, Eq.trans (World.drewN_drewN _ _ _) (congrArg (World.drewN _) (Nat.add_assoc _ _ _))⟩))))
      (try simp only [Act.put, List.setIfInBounds_toArray, List.set_cons_zero, List.set_cons_succ])
      go_cut [54] (fun v54 wc => ∃ (kq : Nat) (x54_11 : Bool), v54 = .bool x54_11 ∧ Az (r09_take.j1 kq a0 l1 t372 t376 (wrap64 (t373 + t377)) x54_11 = some (r1, r2, r3)) ∧ Az (kq ≤ kj3) ∧ Az (wc.heap[gb371]? = some (.cells #[.string (⟨#[]⟩ : ByteArray), .int .u64 0] 41 (0, 0))) ∧ Az (Below w.heap.size w wc))
      case first =>
       have H := HC12.out
       clear HC12
       by_cases c14 : t378 = 0
       ·rw [if_pos c14] at H
        have c14b0 : (t378 == 0) = true := beq_iff_eq.mpr c14
        have c14b1 : (t378 != 0) = false := bne_eq_false_iff_eq.mpr c14
        clear c14
        (first | rw [c14b0] | (simp only [i64_w, i32_w]; rw [c14b0]) | skip)
        have H' := Az.mk H
        clear H
        go_wp2
        repeat (go_quiet (fail); try go_wp2)
        go_meet
        case rel => exact ⟨_, (decide (t376 > (IntKind.u64.wrap (wrap64 ((l1.length : Int) - (wrap64 (t373 + t377))))))), (es_), H', ⟨by have := HJ3.out; first | omega | exact Nat.le_refl _⟩, ⟨by (with_reducible repeat (first | refine blk_drewN ?_ _ | refine blk_drew ?_ | refine blk_alloc ?_ _)); exact BK371.out⟩, ⟨by repeat (first | (with_reducible first | exact HB.out | apply below_alloc | apply pw_below_drewN | apply below_drew1 | refine below_set ?_ GE371.out) | exact HB.out)⟩⟩
       ·rw [if_neg c14] at H
        have c14b0 : (t378 == 0) = false := beq_eq_false_iff_ne.mpr c14
        have c14b1 : (t378 != 0) = true := bne_iff_ne.mpr c14
        (first | rw [c14b0] | (simp only [i64_w, i32_w]; rw [c14b0]) | skip)
        have H' := Az.mk H
        clear H
        go_wp2
        repeat (go_quiet (fail); try go_wp2)
        go_meet
        case rel => exact ⟨_, (true), (es_), H', ⟨by have := HJ3.out; first | omega | exact Nat.le_refl _⟩, ⟨by (with_reducible repeat (first | refine blk_drewN ?_ _ | refine blk_drew ?_ | refine blk_alloc ?_ _)); exact BK371.out⟩, ⟨by repeat (first | (with_reducible first | exact HB.out | apply below_alloc | apply pw_below_drewN | apply below_drew1 | refine below_set ?_ GE371.out) | exact HB.out)⟩⟩
      case rest =>
       clear HC12
       try clear c1
       try clear p2
       try clear c3
       try clear c6
       try clear c6b0
       try clear c6b1
       try clear p6
       try clear c7
       try clear c9
       try clear c9b0
       try clear c9b1
       try clear c10
       try clear c10b0
       try clear c10b1
       try clear c14
       try clear c14b0
       try clear c14b1
       try clear hcz8_0
       try clear hcz8_1
       try clear hfz8_0
       try clear hfz8_1
       try clear p2
       obtain ⟨kq, x54_11, rfl, HA, HJ11, BK371, HB⟩ := hcut
       cases kq with
       | zero => exact absurd HA.out (by simp [r09_take.j1])
       | succ kj11 =>
        have H := HA.out
        clear HA
        simp only [r09_take.j1] at H
        by_cases c15 : x54_11 = true
        ·subst c15
         have H1 : (some ((⟨#[]⟩ : ByteArray), 0, 0)) = some (r1, r2, r3) := by rw [if_pos rfl] at H; exact H
         clear H
         have H := H1
         clear H1
         simp only [Option.some.injEq, Prod.mk.injEq] at H
         obtain ⟨rfl, rfl, rfl⟩ := H
         have hcz16_0 : wc.cell? ⟨gb371, 0, none⟩ = some (.string (⟨#[]⟩ : ByteArray)) := (blk_cell BK371.out 0).trans rfl
         have hcz16_1 : wc.cell? ⟨gb371, 1, none⟩ = some (.int .u64 0) := (blk_cell BK371.out 1).trans rfl
         have hfz16_0 := blk_frozen BK371.out 0
         have hfz16_1 := blk_frozen BK371.out 1
         go_wp2
         repeat (go_quiet (fail); try go_wp2)
         refine bodyPost_ret (results_ct rfl _ _ gb371 41 #[.string (⟨#[]⟩ : ByteArray), .int .u64 0] (0, 0) _ rfl (by (with_reducible repeat (first | refine blk_drewN ?_ _ | refine blk_drew ?_ | refine blk_alloc ?_ _)); refine blk_put (cs := #[.string (⟨#[]⟩ : ByteArray), .int .u64 0]) ?_ 1 _ rfl; (with_reducible repeat (first | refine blk_drewN ?_ _ | refine blk_drew ?_ | refine blk_alloc ?_ _)); refine blk_put (cs := #[.string (⟨#[]⟩ : ByteArray), .int .u64 0]) ?_ 0 _ rfl; (with_reducible repeat (first | refine blk_drewN ?_ _ | refine blk_drew ?_ | refine blk_alloc ?_ _)); exact BK371.out) Try.underlying41 rfl (by kernel_rfl)) rfl ?_
         exact ⟨by first | rfl | (simp [errW_none, errW_some] <;> rfl) | (have e_ := Option.some.inj (A3.out.symm.trans A11.out); subst e_; rfl) | (simp [*, errW_none, errW_some] <;> rfl), by repeat (first | (with_reducible first | exact HB.out | apply below_alloc | apply pw_below_drewN | apply below_drew1 | refine below_set ?_ GE371.out) | exact HB.out)⟩
        ·replace c15 := Bool.eq_false_iff.mpr c15
         subst c15
         have H1 : (if 0 ≤ t372 then (if t372 ≤ (a0.size : Int) then (if 0 ≤ (wrap64 (t373 + t377)) then (if (wrap64 (t373 + t377)) ≤ (wrap64 ((wrap64 (t373 + t377)) + (wrap64 (t376)))) then (if (wrap64 ((wrap64 (t373 + t377)) + (wrap64 (t376)))) ≤ (l1.length : Int) then (if (a0.extract 0 (t372 : Int).toNat).size + (strOfNums ((l1.take ((wrap64 ((wrap64 (t373 + t377)) + (wrap64 (t376)))) : Int).toNat).drop ((wrap64 (t373 + t377)) : Int).toNat)).size ≤ 9223372036854775807 then (if 0 ≤ (wrap64 ((wrap64 (t373 + t377)) + (wrap64 (t376)))) then ((r01_Get.f kj11 (l1.drop ((wrap64 ((wrap64 (t373 + t377)) + (wrap64 (t376)))) : Int).toNat)).bind fun bt381 => (if bt381.2.2 = 0 then (some ((a0.extract 0 (t372 : Int).toNat) ++ (strOfNums ((l1.take ((wrap64 ((wrap64 (t373 + t377)) + (wrap64 (t376)))) : Int).toNat).drop ((wrap64 (t373 + t377)) : Int).toNat)), bt381.1, wrap64 ((wrap64 ((wrap64 (t373 + t377)) + (wrap64 (t376)))) + bt381.2.1))) else (some ((⟨#[]⟩ : ByteArray), 0, 0)))) else (none)) else (none)) else (none)) else (none)) else (none)) else (none)) else (none)) = some (r1, r2, r3) := by rw [if_neg (show ¬ (false = true) by decide)] at H; exact H
         clear H
         have H := H1
         clear H1
         by_cases c17 : 0 ≤ t372
         ·rw [if_pos c17] at H
          have c17b0 := eq_true c17
          have c17b1 := decide_eq_true c17
          clear c17
          by_cases c18 : t372 ≤ (a0.size : Int)
          ·rw [if_pos c18] at H
           have c18b0 := eq_true c18
           have c18b1 := decide_eq_true c18
           clear c18
           obtain ⟨ji19, hji19⟩ : ∃ j_ : Int, (wrap64 (t373 + t377)) = j_ := ⟨_, rfl⟩
           replace H : (if 0 ≤ (ji19) then (if (ji19) ≤ (wrap64 ((ji19) + (wrap64 (t376)))) then (if (wrap64 ((ji19) + (wrap64 (t376)))) ≤ (l1.length : Int) then (if (a0.extract 0 (t372 : Int).toNat).size + (strOfNums ((l1.take ((wrap64 ((ji19) + (wrap64 (t376)))) : Int).toNat).drop ((ji19) : Int).toNat)).size ≤ 9223372036854775807 then (if 0 ≤ (wrap64 ((ji19) + (wrap64 (t376)))) then ((r01_Get.f kj11 (l1.drop ((wrap64 ((ji19) + (wrap64 (t376)))) : Int).toNat)).bind fun bt381 => (if bt381.2.2 = 0 then (some ((a0.extract 0 (t372 : Int).toNat) ++ (strOfNums ((l1.take ((wrap64 ((ji19) + (wrap64 (t376)))) : Int).toNat).drop ((ji19) : Int).toNat)), bt381.1, wrap64 ((wrap64 ((ji19) + (wrap64 (t376)))) + bt381.2.1))) else (some ((⟨#[]⟩ : ByteArray), 0, 0)))) else (none)) else (none)) else (none)) else (none)) else (none)) = some (r1, r2, r3) := by first | (rw [hji19] at H; exact H) | (simp only [hji19] at H ⊢; exact H)
           have hji19w : (IntKind.i64.wrap (t373 + t377)) = ji19 := (i64_w _).trans hji19
           by_cases c20 : 0 ≤ (ji19)
           ·rw [if_pos c20] at H
            have c20b0 := eq_true c20
            have c20b1 := decide_eq_true c20
            clear c20
            by_cases c21 : (ji19) ≤ (wrap64 ((ji19) + (wrap64 (t376))))
            ·rw [if_pos c21] at H
             have c21b0 := eq_true c21
             have c21b1 := decide_eq_true c21
             by_cases c22 : (wrap64 ((ji19) + (wrap64 (t376)))) ≤ (l1.length : Int)
             ·rw [if_pos c22] at H
              have c22b0 := eq_true c22
              have c22b1 := decide_eq_true c22
              by_cases c23 : (a0.extract 0 (t372 : Int).toNat).size + (strOfNums ((l1.take ((wrap64 ((ji19) + (wrap64 (t376)))) : Int).toNat).drop ((ji19) : Int).toNat)).size ≤ 9223372036854775807
              ·rw [if_pos c23] at H
               have c23b0 := eq_true c23
               have c23b1 := decide_eq_true c23
               try have c23b2 : (9223372036854775807 < (a0.extract 0 (t372 : Int).toNat).size + (strOfNums ((l1.take ((wrap64 ((ji19) + (wrap64 (t376)))) : Int).toNat).drop ((ji19) : Int).toNat)).size) = False := eq_false (Nat.not_lt.2 c23)
               obtain ⟨ji24, hji24⟩ : ∃ j_ : Int, (wrap64 ((ji19) + (wrap64 (t376)))) = j_ := ⟨_, rfl⟩
               replace H : (if 0 ≤ (ji24) then ((r01_Get.f kj11 (l1.drop ((ji24) : Int).toNat)).bind fun bt381 => (if bt381.2.2 = 0 then (some ((a0.extract 0 (t372 : Int).toNat) ++ (strOfNums ((l1.take ((ji24) : Int).toNat).drop ((ji19) : Int).toNat)), bt381.1, wrap64 ((ji24) + bt381.2.1))) else (some ((⟨#[]⟩ : ByteArray), 0, 0)))) else (none)) = some (r1, r2, r3) := by first | (rw [hji24] at H; exact H) | (simp only [hji24] at H ⊢; exact H)
               (try rw [hji24] at c21b0)
               (try rw [hji24] at c21b1)
               (try rw [hji24] at c21)
               (try rw [hji24] at c22b0)
               (try rw [hji24] at c22b1)
               (try rw [hji24] at c22)
               (try rw [hji24] at c23b0)
               (try rw [hji24] at c23b1)
               (try rw [hji24] at c23)
               have hji24w : (IntKind.i64.wrap ((ji19) + (wrap64 (t376)))) = ji24 := (i64_w _).trans hji24
               by_cases c25 : 0 ≤ (ji24)
               ·rw [if_pos c25] at H
                have c25b0 := eq_true c25
                have c25b1 := decide_eq_true c25
                clear c25
                have c26b0 := eq_true (of_decide_eq_true as_ : (ji24) ≤ (l1.length : Int))
                replace H := Option.bind_eq_some_iff.mp H
                obtain ⟨⟨t381, t382, t383⟩, A270, H⟩ := H
                replace H : (if t383 = 0 then (some ((a0.extract 0 (t372 : Int).toNat) ++ (strOfNums ((l1.take ((ji24) : Int).toNat).drop ((ji19) : Int).toNat)), t381, wrap64 ((ji24) + t382))) else (some ((⟨#[]⟩ : ByteArray), 0, 0))) = some (r1, r2, r3) := H
                have A27 := Az.mk A270
                clear A270
                by_cases c28 : t383 = 0
                ·rw [if_pos c28] at H
                 have c28b0 : (t383 == 0) = true := beq_iff_eq.mpr c28
                 have c28b1 : (t383 != 0) = false := bne_eq_false_iff_eq.mpr c28
                 clear c28
                 simp only [Option.some.injEq, Prod.mk.injEq] at H
                 obtain ⟨rfl, rfl, rfl⟩ := H
                 obtain ⟨i029, hi029, _, hsz29, _⟩ := info_parts info5
                 obtain ⟨A29, hcut29, hA29, hC29⟩ := print_mid_of (P := Try.prog) (Value.int .u8) 0 24 5 .i64 .i64 Try.underlying24 hi029 hsz29 A1 c1 l1 (ji19) (ji24) (of_decide_eq_true as_) (by first | omega | exact of_decide_eq_true as_) (of_decide_eq_true as_) HC1.out
                 have HR379 := Az.mk (Kd.C_of_reads (h1 := fun _ => rfl) (hA29 _ (Kd.reads_of_C HR1.out)))
                 have HC379 := Az.mk hC29
                 clear hA29 hC29 hi029 hsz29
                 have hcv30 := Kd.C_string (P := Try.prog) (A := A29) (c := (c1 - (ji19).toNat)) Try.underlying24 Try.underlying5 Try.underlying9 (Kd.C_below HR379.out HB.out)
                 have hcv30x := hcv30
                 (try rw [show ((l1.take ((ji24) : Int).toNat).drop ((ji19) : Int).toNat).length = ((ji24) : Int).toNat - ((ji19) : Int).toNat from by rw [List.length_drop, List.length_take]; exact congrArg (· - _) (Nat.min_eq_left (Int.toNat_le.mpr (of_decide_eq_true as_)))] at hcv30x)
                 have hcv30q := fun nq_ : Nat => Kd.C_string (P := Try.prog) (A := A29) (c := (c1 - (ji19).toNat)) Try.underlying24 Try.underlying5 Try.underlying9 (Kd.C_drewN (Kd.C_below HR379.out HB.out) nq_)
                 (try simp only [show ((l1.take ((ji24) : Int).toNat).drop ((ji19) : Int).toNat).length = ((ji24) : Int).toNat - ((ji19) : Int).toNat from by rw [List.length_drop, List.length_take]; exact congrArg (· - _) (Nat.min_eq_left (Int.toNat_le.mpr (of_decide_eq_true as_)))] at hcv30q)
                 obtain ⟨i031, hi031, _, hsz31, _⟩ := info_parts info5
                 obtain ⟨A31, hcut31, hA31, hC31⟩ := print_drop_of (P := Try.prog) (Value.int .u8) 0 24 5 .i64 Try.underlying24 hi031 hsz31 A1 c1 l1 (ji24) (of_decide_eq_true as_) (of_decide_eq_true as_) HC1.out
                 have HR380 := Az.mk (Kd.C_of_reads (h1 := fun _ => rfl) (hA31 _ (Kd.reads_of_C HR1.out)))
                 have HC380 := Az.mk hC31
                 clear hA31 hC31 hi031 hsz31
                 go_wp2_with (first | (go_at_call 35; refine calls_of_args (args' := #[.slice A31 (l1.drop ((ji24) : Int).toNat).length (c1 - (ji24).toNat)]) (by first | (rw [show (l1.drop ((ji24) : Int).toNat).length = (l1.length - (ji24).toNat) from List.length_drop] <;> rfl) | rfl) ?_; (with_reducible refine (r01_Get.calls kj11 _ _ (l1.drop ((ji24) : Int).toNat) t381 t382 t383 _ ?side1 ?side2 A27.out).mono ?_); (case side1 => exact cl_ (Kd.C_below HR380.out HB.out)); (case side2 => exact HC380.out); rintro e w' ⟨rfl, ⟨nd, rfl⟩⟩; (try first | exact ⟨rfl, _, World.drewN_drewN _ _ _⟩ | exact ⟨rfl, _, Eq.trans (World.drewN_drewN _ _ _) (congrArg (World.drewN _) (Nat.add_assoc _ _ _))⟩); have hcz32_0 : wc.cell? ⟨gb371, 0, none⟩ = some (.string (⟨#[]⟩ : ByteArray)) := (blk_cell BK371.out 0).trans rfl; have hcz32_1 : wc.cell? ⟨gb371, 1, none⟩ = some (.int .u64 0) := (blk_cell BK371.out 1).trans rfl; have hfz32_0 := blk_frozen BK371.out 0; have hfz32_1 := blk_frozen BK371.out 1))
                 repeat (go_quiet (first | (go_at_call 35; refine calls_of_args (args' := #[.slice A31 (l1.drop ((ji24) : Int).toNat).length (c1 - (ji24).toNat)]) (by first | (rw [show (l1.drop ((ji24) : Int).toNat).length = (l1.length - (ji24).toNat) from List.length_drop] <;> rfl) | rfl) ?_; (with_reducible refine (r01_Get.calls kj11 _ _ (l1.drop ((ji24) : Int).toNat) t381 t382 t383 _ ?side1 ?side2 A27.out).mono ?_); (case side1 => exact cl_ (Kd.C_below HR380.out HB.out)); (case side2 => exact HC380.out); rintro e w' ⟨rfl, ⟨nd, rfl⟩⟩; (try first | exact ⟨rfl, _, World.drewN_drewN _ _ _⟩ | exact ⟨rfl, _, Eq.trans (World.drewN_drewN _ _ _) (congrArg (World.drewN _) (Nat.add_assoc _ _ _))⟩); have hcz32_0 : wc.cell? ⟨gb371, 0, none⟩ = some (.string (⟨#[]⟩ : ByteArray)) := (blk_cell BK371.out 0).trans rfl; have hcz32_1 : wc.cell? ⟨gb371, 1, none⟩ = some (.int .u64 0) := (blk_cell BK371.out 1).trans rfl; have hfz32_0 := blk_frozen BK371.out 0; have hfz32_1 := blk_frozen BK371.out 1)); try go_wp2_with (first | (go_at_call 35; refine calls_of_args (args' := #[.slice A31 (l1.drop ((ji24) : Int).toNat).length (c1 - (ji24).toNat)]) (by first | (rw [show (l1.drop ((ji24) : Int).toNat).length = (l1.length - (ji24).toNat) from List.length_drop] <;> rfl) | rfl) ?_; (with_reducible refine (r01_Get.calls kj11 _ _ (l1.drop ((ji24) : Int).toNat) t381 t382 t383 _ ?side1 ?side2 A27.out).mono ?_); (case side1 => exact cl_ (Kd.C_below HR380.out HB.out)); (case side2 => exact HC380.out); rintro e w' ⟨rfl, ⟨nd, rfl⟩⟩; (try first | exact ⟨rfl, _, World.drewN_drewN _ _ _⟩ | exact ⟨rfl, _, Eq.trans (World.drewN_drewN _ _ _) (congrArg (World.drewN _) (Nat.add_assoc _ _ _))⟩); have hcz32_0 : wc.cell? ⟨gb371, 0, none⟩ = some (.string (⟨#[]⟩ : ByteArray)) := (blk_cell BK371.out 0).trans rfl; have hcz32_1 : wc.cell? ⟨gb371, 1, none⟩ = some (.int .u64 0) := (blk_cell BK371.out 1).trans rfl; have hfz32_0 := blk_frozen BK371.out 0; have hfz32_1 := blk_frozen BK371.out 1)))
                 refine bodyPost_ret (results_ct rfl _ _ gb371 41 #[.string ((a0.extract 0 (t372 : Int).toNat) ++ (strOfNums ((l1.take ((ji24) : Int).toNat).drop ((ji19) : Int).toNat))), .int .u64 t381] (0, 0) _ rfl (by (with_reducible repeat (first | refine blk_drewN ?_ _ | refine blk_drew ?_ | refine blk_alloc ?_ _)); refine blk_put (cs := #[.string ((a0.extract 0 (t372 : Int).toNat) ++ (strOfNums ((l1.take ((ji24) : Int).toNat).drop ((ji19) : Int).toNat))), .int .u64 0]) ?_ 1 _ rfl; (with_reducible repeat (first | refine blk_drewN ?_ _ | refine blk_drew ?_ | refine blk_alloc ?_ _)); refine blk_put (cs := #[.string (⟨#[]⟩ : ByteArray), .int .u64 0]) ?_ 0 _ rfl; (with_reducible repeat (first | refine blk_drewN ?_ _ | refine blk_drew ?_ | refine blk_alloc ?_ _)); exact BK371.out) Try.underlying41 rfl (by kernel_rfl)) rfl ?_
                 exact ⟨by first | rfl | (simp [errW_none, errW_some] <;> rfl) | (simp only [← hji19, ← hji24]; first | rfl | (simp [errW_none, errW_some] <;> rfl)) | (simp [*, errW_none, errW_some] <;> rfl), by repeat (first | (with_reducible first | exact HB.out | apply below_alloc | apply pw_below_drewN | apply below_drew1 | refine below_set ?_ GE371.out) | exact HB.out)⟩
                ·rw [if_neg c28] at H
                 have c28b0 : (t383 == 0) = false := beq_eq_false_iff_ne.mpr c28
                 have c28b1 : (t383 != 0) = true := bne_iff_ne.mpr c28
                 simp only [Option.some.injEq, Prod.mk.injEq] at H
                 obtain ⟨rfl, rfl, rfl⟩ := H
                 obtain ⟨i033, hi033, _, hsz33, _⟩ := info_parts info5
                 obtain ⟨A33, hcut33, hA33, hC33⟩ := print_mid_of (P := Try.prog) (Value.int .u8) 0 24 5 .i64 .i64 Try.underlying24 hi033 hsz33 A1 c1 l1 (ji19) (ji24) (of_decide_eq_true as_) (by first | omega | exact of_decide_eq_true as_) (of_decide_eq_true as_) HC1.out
                 have HR379 := Az.mk (Kd.C_of_reads (h1 := fun _ => rfl) (hA33 _ (Kd.reads_of_C HR1.out)))
                 have HC379 := Az.mk hC33
                 clear hA33 hC33 hi033 hsz33
                 have hcv34 := Kd.C_string (P := Try.prog) (A := A33) (c := (c1 - (ji19).toNat)) Try.underlying24 Try.underlying5 Try.underlying9 (Kd.C_below HR379.out HB.out)
                 have hcv34x := hcv34
                 (try rw [show ((l1.take ((ji24) : Int).toNat).drop ((ji19) : Int).toNat).length = ((ji24) : Int).toNat - ((ji19) : Int).toNat from by rw [List.length_drop, List.length_take]; exact congrArg (· - _) (Nat.min_eq_left (Int.toNat_le.mpr (of_decide_eq_true as_)))] at hcv34x)
                 have hcv34q := fun nq_ : Nat => Kd.C_string (P := Try.prog) (A := A33) (c := (c1 - (ji19).toNat)) Try.underlying24 Try.underlying5 Try.underlying9 (Kd.C_drewN (Kd.C_below HR379.out HB.out) nq_)
                 (try simp only [show ((l1.take ((ji24) : Int).toNat).drop ((ji19) : Int).toNat).length = ((ji24) : Int).toNat - ((ji19) : Int).toNat from by rw [List.length_drop, List.length_take]; exact congrArg (· - _) (Nat.min_eq_left (Int.toNat_le.mpr (of_decide_eq_true as_)))] at hcv34q)
                 obtain ⟨i035, hi035, _, hsz35, _⟩ := info_parts info5
                 obtain ⟨A35, hcut35, hA35, hC35⟩ := print_drop_of (P := Try.prog) (Value.int .u8) 0 24 5 .i64 Try.underlying24 hi035 hsz35 A1 c1 l1 (ji24) (of_decide_eq_true as_) (of_decide_eq_true as_) HC1.out
                 have HR380 := Az.mk (Kd.C_of_reads (h1 := fun _ => rfl) (hA35 _ (Kd.reads_of_C HR1.out)))
                 have HC380 := Az.mk hC35
                 clear hA35 hC35 hi035 hsz35
                 go_wp2_with (first | (go_at_call 35; refine calls_of_args (args' := #[.slice A35 (l1.drop ((ji24) : Int).toNat).length (c1 - (ji24).toNat)]) (by first | (rw [show (l1.drop ((ji24) : Int).toNat).length = (l1.length - (ji24).toNat) from List.length_drop] <;> rfl) | rfl) ?_; (with_reducible refine (r01_Get.calls kj11 _ _ (l1.drop ((ji24) : Int).toNat) t381 t382 t383 _ ?side1 ?side2 A27.out).mono ?_); (case side1 => exact cl_ (Kd.C_below HR380.out HB.out)); (case side2 => exact HC380.out); rintro e w' ⟨rfl, ⟨nd, rfl⟩⟩; (try first | exact ⟨rfl, _, World.drewN_drewN _ _ _⟩ | exact ⟨rfl, _, Eq.trans (World.drewN_drewN _ _ _) (congrArg (World.drewN _) (Nat.add_assoc _ _ _))⟩); have hcz36_0 : wc.cell? ⟨gb371, 0, none⟩ = some (.string (⟨#[]⟩ : ByteArray)) := (blk_cell BK371.out 0).trans rfl; have hcz36_1 : wc.cell? ⟨gb371, 1, none⟩ = some (.int .u64 0) := (blk_cell BK371.out 1).trans rfl; have hfz36_0 := blk_frozen BK371.out 0; have hfz36_1 := blk_frozen BK371.out 1))
                 repeat (go_quiet (first | (go_at_call 35; refine calls_of_args (args' := #[.slice A35 (l1.drop ((ji24) : Int).toNat).length (c1 - (ji24).toNat)]) (by first | (rw [show (l1.drop ((ji24) : Int).toNat).length = (l1.length - (ji24).toNat) from List.length_drop] <;> rfl) | rfl) ?_; (with_reducible refine (r01_Get.calls kj11 _ _ (l1.drop ((ji24) : Int).toNat) t381 t382 t383 _ ?side1 ?side2 A27.out).mono ?_); (case side1 => exact cl_ (Kd.C_below HR380.out HB.out)); (case side2 => exact HC380.out); rintro e w' ⟨rfl, ⟨nd, rfl⟩⟩; (try first | exact ⟨rfl, _, World.drewN_drewN _ _ _⟩ | exact ⟨rfl, _, Eq.trans (World.drewN_drewN _ _ _) (congrArg (World.drewN _) (Nat.add_assoc _ _ _))⟩); have hcz36_0 : wc.cell? ⟨gb371, 0, none⟩ = some (.string (⟨#[]⟩ : ByteArray)) := (blk_cell BK371.out 0).trans rfl; have hcz36_1 : wc.cell? ⟨gb371, 1, none⟩ = some (.int .u64 0) := (blk_cell BK371.out 1).trans rfl; have hfz36_0 := blk_frozen BK371.out 0; have hfz36_1 := blk_frozen BK371.out 1)); try go_wp2_with (first | (go_at_call 35; refine calls_of_args (args' := #[.slice A35 (l1.drop ((ji24) : Int).toNat).length (c1 - (ji24).toNat)]) (by first | (rw [show (l1.drop ((ji24) : Int).toNat).length = (l1.length - (ji24).toNat) from List.length_drop] <;> rfl) | rfl) ?_; (with_reducible refine (r01_Get.calls kj11 _ _ (l1.drop ((ji24) : Int).toNat) t381 t382 t383 _ ?side1 ?side2 A27.out).mono ?_); (case side1 => exact cl_ (Kd.C_below HR380.out HB.out)); (case side2 => exact HC380.out); rintro e w' ⟨rfl, ⟨nd, rfl⟩⟩; (try first | exact ⟨rfl, _, World.drewN_drewN _ _ _⟩ | exact ⟨rfl, _, Eq.trans (World.drewN_drewN _ _ _) (congrArg (World.drewN _) (Nat.add_assoc _ _ _))⟩); have hcz36_0 : wc.cell? ⟨gb371, 0, none⟩ = some (.string (⟨#[]⟩ : ByteArray)) := (blk_cell BK371.out 0).trans rfl; have hcz36_1 : wc.cell? ⟨gb371, 1, none⟩ = some (.int .u64 0) := (blk_cell BK371.out 1).trans rfl; have hfz36_0 := blk_frozen BK371.out 0; have hfz36_1 := blk_frozen BK371.out 1)))
                 refine bodyPost_ret (results_ct rfl _ _ gb371 41 #[.string (⟨#[]⟩ : ByteArray), .int .u64 0] (0, 0) _ rfl (by (with_reducible repeat (first | refine blk_drewN ?_ _ | refine blk_drew ?_ | refine blk_alloc ?_ _)); refine blk_put (cs := #[.string (⟨#[]⟩ : ByteArray), .int .u64 0]) ?_ 1 _ rfl; (with_reducible repeat (first | refine blk_drewN ?_ _ | refine blk_drew ?_ | refine blk_alloc ?_ _)); refine blk_put (cs := #[.string (⟨#[]⟩ : ByteArray), .int .u64 0]) ?_ 0 _ rfl; (with_reducible repeat (first | refine blk_drewN ?_ _ | refine blk_drew ?_ | refine blk_alloc ?_ _)); exact BK371.out) Try.underlying41 rfl (by kernel_rfl)) rfl ?_
                 exact ⟨by first | rfl | (simp [errW_none, errW_some] <;> rfl) | (simp only [← hji19, ← hji24]; first | rfl | (simp [errW_none, errW_some] <;> rfl)) | (simp [*, errW_none, errW_some] <;> rfl), by repeat (first | (with_reducible first | exact HB.out | apply below_alloc | apply pw_below_drewN | apply below_drew1 | refine below_set ?_ GE371.out) | exact HB.out)⟩
               ·rw [if_neg c25] at H
                exact absurd H (by simp)
              ·rw [if_neg c23] at H
               exact absurd H (by simp)
             ·rw [if_neg c22] at H
              exact absurd H (by simp)
            ·rw [if_neg c21] at H
             exact absurd H (by simp)
           ·rw [if_neg c20] at H
            exact absurd H (by simp)
          ·rw [if_neg c18] at H
           exact absurd H (by simp)
         ·rw [if_neg c17] at H
          exact absurd H (by simp)
     ·rw [if_neg c10] at H
      exact absurd H (by simp)
    ·rw [if_neg c9] at H
     exact absurd H (by simp)
end Go.Proofs.Ytiohnpphhepdfaa.PPa
end
section
namespace Go.Proofs.Ytiohnpphhepdfaa.PPa
open Go.RowKit Go.Proofs.YtiohnpphhepdfaaW.PrintWords Go.Proofs.YtiohnpphhepdfaaW.PrintLast Go.Proofs.YtiohnpphhepdfaaW.PrintMore
attribute [local go_sem] max2_int min2_int max_two min_two max_three min_three max_four min_four
attribute [local go_sem] Go.Proofs.Ytiohnpphhepdfaa.MoreWords.str_leq Go.Proofs.Ytiohnpphhepdfaa.MoreWords.str_gtr Go.Proofs.Ytiohnpphhepdfaa.MoreWords.str_geq
set_option maxHeartbeats 8000000
set_option maxRecDepth 100000
set_option linter.unusedVariables false
set_option linter.unusedSimpArgs false
mutual
def r09_Decode.j0 : Nat → List Int → List (List Int) → Int → Bool → Option ((List (S41)) × Int)
 | 0, _, _, _, _ => none
 | k + 1, x0, x4, x6, x41 => if x41 = true then (some (([] : List (S41)), 2)) else (r09_Decode.l0 k x0 x4 x6 ([] : List (S41)) 1)
def r09_Decode.l0 : Nat → List Int → List (List Int) → Int → List (S41) → Int → Option ((List (S41)) × Int)
 | 0, _, _, _, _, _ => none
 | k + 1, x0, x4, x6, x9, x10 => if x10 < (wrap64 ((x4.length : Int) - 1)) then (if 0 ≤ x10 then (if x10 < (x4.length : Int) then ((r01_Get.f k (rd_L5 x4 x10)).bind fun bt397 => (if bt397.2.2 = 0 then (r09_Decode.j2 k x0 x4 x6 x9 x10 bt397.1 bt397.2.1 (decide (bt397.1 > 255))) else (r09_Decode.j2 k x0 x4 x6 x9 x10 bt397.1 bt397.2.1 true))) else (none)) else (none)) else ((r09_Encode.f k x9 (wrap64 (x6))).bind fun bt392 => (if bt392.2 = 0 then (if (strOfNums bt392.1).toList = (strOfNums x0).toList then (some (x9, 0)) else (some (([] : List (S41)), 2))) else (some (([] : List (S41)), 2))))
def r09_Decode.j2 : Nat → List Int → List (List Int) → Int → List (S41) → Int → Int → Int → Bool → Option ((List (S41)) × Int)
 | 0, _, _, _, _, _, _, _, _ => none
 | k + 1, x0, x4, x6, x9, x10, x11, x12, x63 => if x63 = true then (some (([] : List (S41)), 2)) else (r09_Decode.l1 k x0 x4 x6 x9 x10 x11 x12 (⟨#[]⟩ : ByteArray) 0)
def r09_Decode.l1 : Nat → List Int → List (List Int) → Int → List (S41) → Int → Int → Int → ByteArray → Int → Option ((List (S41)) × Int)
 | 0, _, _, _, _, _, _, _, _, _ => none
 | k + 1, x0, x4, x6, x9, x10, x11, x12, x14, x15 => if x15 < (wrap64 (x11)) then (if 0 ≤ x10 then (if x10 < (x4.length : Int) then (if 0 ≤ x12 then (if x12 ≤ ((rd_L5 x4 x10).length : Int) then ((r09_take.f k x14 ((rd_L5 x4 x10).drop (x12 : Int).toNat)).bind fun bt405 => (if bt405.2.2 = 0 then (some (([] : List (S41)), 2)) else (if x9.length < 5864062014805 then (r09_Decode.l1 k x0 x4 x6 (x9 ++ [(⟨bt405.1, bt405.2.1⟩ : S41)]) x10 x11 (wrap64 (x12 + bt405.2.2)) bt405.1 (wrap64 (x15 + 1))) else (none)))) else (none)) else (none)) else (none)) else (none)) else (r09_Decode.l0 k x0 x4 x6 x9 (wrap64 (x10 + 1)))
end
def r09_Decode.f (k : Nat) (l0 : List Int) : Option ((List (S41)) × Int) := (r03_Scan.f k l0).bind fun bt384 => (if (bt384.1.length : Int) < 2 then (some (([] : List (S41)), 2)) else (if 0 < (bt384.1.length : Int) then ((r01_Get.f k (rd_L5 bt384.1 0)).bind fun bt389 => (if bt389.2.2 = 0 then (r09_Decode.j0 k l0 bt384.1 bt389.1 (decide (bt389.1 > 255))) else (r09_Decode.j0 k l0 bt384.1 bt389.1 true))) else (none)))
theorem r09_Decode.mono_l : ∀ k, (∀ y0 y1 y2 y3, LeO (r09_Decode.j0 k y0 y1 y2 y3) (r09_Decode.j0 (k + 1) y0 y1 y2 y3)) ∧ (∀ y0 y1 y2 y3 y4, LeO (r09_Decode.l0 k y0 y1 y2 y3 y4) (r09_Decode.l0 (k + 1) y0 y1 y2 y3 y4)) ∧ (∀ y0 y1 y2 y3 y4 y5 y6 y7, LeO (r09_Decode.j2 k y0 y1 y2 y3 y4 y5 y6 y7) (r09_Decode.j2 (k + 1) y0 y1 y2 y3 y4 y5 y6 y7)) ∧ (∀ y0 y1 y2 y3 y4 y5 y6 y7 y8, LeO (r09_Decode.l1 k y0 y1 y2 y3 y4 y5 y6 y7 y8) (r09_Decode.l1 (k + 1) y0 y1 y2 y3 y4 y5 y6 y7 y8))
 | 0 => ⟨fun _ _ _ _ r h => by simp [r09_Decode.j0] at h, fun _ _ _ _ _ r h => by simp [r09_Decode.l0] at h, fun _ _ _ _ _ _ _ _ r h => by simp [r09_Decode.j2] at h, fun _ _ _ _ _ _ _ _ _ r h => by simp [r09_Decode.l1] at h⟩
 | k + 1 => by
  obtain ⟨ih0, ih1, ih2, ih3⟩ := r09_Decode.mono_l k
  refine ⟨?_, ?_, ?_, ?_⟩
  ·intro y0 y1 y2 y3
   unfold r09_Decode.j0
   repeat' first
   | (with_reducible exact ih0 _ _ _ _)
   | (with_reducible exact ih1 _ _ _ _ _)
   | (with_reducible exact ih2 _ _ _ _ _ _ _ _)
   | (with_reducible exact ih3 _ _ _ _ _ _ _ _ _)
   | (with_reducible exact r01_Get.mono _ _)
   | (with_reducible exact r03_Scan.mono _ _)
   | (with_reducible exact r09_Encode.mono _ _ _)
   | (with_reducible exact r09_take.mono _ _ _)
   | (with_reducible exact LeO.refl _)
   | (with_reducible exact LeO.none _)
   | (with_reducible refine LeO.ite ?_ ?_)
   | (with_reducible refine LeO.bind ?_ (fun _ => ?_))
   | exact ih0 _ _ _ _
   | exact ih1 _ _ _ _ _
   | exact ih2 _ _ _ _ _ _ _ _
   | exact ih3 _ _ _ _ _ _ _ _ _
   | exact r01_Get.mono _ _
   | exact r03_Scan.mono _ _
   | exact r09_Encode.mono _ _ _
   | exact r09_take.mono _ _ _
   | exact LeO.none _
   | refine LeO.ite ?_ ?_
   | refine LeO.bind ?_ (fun _ => ?_)
  ·intro y0 y1 y2 y3 y4
   unfold r09_Decode.l0
   repeat' first
   | (with_reducible exact ih0 _ _ _ _)
   | (with_reducible exact ih1 _ _ _ _ _)
   | (with_reducible exact ih2 _ _ _ _ _ _ _ _)
   | (with_reducible exact ih3 _ _ _ _ _ _ _ _ _)
   | (with_reducible exact r01_Get.mono _ _)
   | (with_reducible exact r03_Scan.mono _ _)
   | (with_reducible exact r09_Encode.mono _ _ _)
   | (with_reducible exact r09_take.mono _ _ _)
   | (with_reducible exact LeO.refl _)
   | (with_reducible exact LeO.none _)
   | (with_reducible refine LeO.ite ?_ ?_)
   | (with_reducible refine LeO.bind ?_ (fun _ => ?_))
   | exact ih0 _ _ _ _
   | exact ih1 _ _ _ _ _
   | exact ih2 _ _ _ _ _ _ _ _
   | exact ih3 _ _ _ _ _ _ _ _ _
   | exact r01_Get.mono _ _
   | exact r03_Scan.mono _ _
   | exact r09_Encode.mono _ _ _
   | exact r09_take.mono _ _ _
   | exact LeO.none _
   | refine LeO.ite ?_ ?_
   | refine LeO.bind ?_ (fun _ => ?_)
  ·intro y0 y1 y2 y3 y4 y5 y6 y7
   unfold r09_Decode.j2
   repeat' first
   | (with_reducible exact ih0 _ _ _ _)
   | (with_reducible exact ih1 _ _ _ _ _)
   | (with_reducible exact ih2 _ _ _ _ _ _ _ _)
   | (with_reducible exact ih3 _ _ _ _ _ _ _ _ _)
   | (with_reducible exact r01_Get.mono _ _)
   | (with_reducible exact r03_Scan.mono _ _)
   | (with_reducible exact r09_Encode.mono _ _ _)
   | (with_reducible exact r09_take.mono _ _ _)
   | (with_reducible exact LeO.refl _)
   | (with_reducible exact LeO.none _)
   | (with_reducible refine LeO.ite ?_ ?_)
   | (with_reducible refine LeO.bind ?_ (fun _ => ?_))
   | exact ih0 _ _ _ _
   | exact ih1 _ _ _ _ _
   | exact ih2 _ _ _ _ _ _ _ _
   | exact ih3 _ _ _ _ _ _ _ _ _
   | exact r01_Get.mono _ _
   | exact r03_Scan.mono _ _
   | exact r09_Encode.mono _ _ _
   | exact r09_take.mono _ _ _
   | exact LeO.none _
   | refine LeO.ite ?_ ?_
   | refine LeO.bind ?_ (fun _ => ?_)
  ·intro y0 y1 y2 y3 y4 y5 y6 y7 y8
   unfold r09_Decode.l1
   repeat' first
   | (with_reducible exact ih0 _ _ _ _)
   | (with_reducible exact ih1 _ _ _ _ _)
   | (with_reducible exact ih2 _ _ _ _ _ _ _ _)
   | (with_reducible exact ih3 _ _ _ _ _ _ _ _ _)
   | (with_reducible exact r01_Get.mono _ _)
   | (with_reducible exact r03_Scan.mono _ _)
   | (with_reducible exact r09_Encode.mono _ _ _)
   | (with_reducible exact r09_take.mono _ _ _)
   | (with_reducible exact LeO.refl _)
   | (with_reducible exact LeO.none _)
   | (with_reducible refine LeO.ite ?_ ?_)
   | (with_reducible refine LeO.bind ?_ (fun _ => ?_))
   | exact ih0 _ _ _ _
   | exact ih1 _ _ _ _ _
   | exact ih2 _ _ _ _ _ _ _ _
   | exact ih3 _ _ _ _ _ _ _ _ _
   | exact r01_Get.mono _ _
   | exact r03_Scan.mono _ _
   | exact r09_Encode.mono _ _ _
   | exact r09_take.mono _ _ _
   | exact LeO.none _
   | refine LeO.ite ?_ ?_
   | refine LeO.bind ?_ (fun _ => ?_)
theorem r09_Decode.mono : ∀ a0 k, LeO (r09_Decode.f k a0) (r09_Decode.f (k + 1) a0) := by
 intro a0 k
 obtain ⟨ih0, ih1, ih2, ih3⟩ := r09_Decode.mono_l k
 unfold r09_Decode.f
 repeat' first
   | (with_reducible exact ih0 _ _ _ _)
   | (with_reducible exact ih1 _ _ _ _ _)
   | (with_reducible exact ih2 _ _ _ _ _ _ _ _)
   | (with_reducible exact ih3 _ _ _ _ _ _ _ _ _)
   | (with_reducible exact r01_Get.mono _ _)
   | (with_reducible exact r03_Scan.mono _ _)
   | (with_reducible exact r09_Encode.mono _ _ _)
   | (with_reducible exact r09_take.mono _ _ _)
   | (with_reducible exact LeO.refl _)
   | (with_reducible exact LeO.none _)
   | (with_reducible refine LeO.ite ?_ ?_)
   | (with_reducible refine LeO.bind ?_ (fun _ => ?_))
   | exact ih0 _ _ _ _
   | exact ih1 _ _ _ _ _
   | exact ih2 _ _ _ _ _ _ _ _
   | exact ih3 _ _ _ _ _ _ _ _ _
   | exact r01_Get.mono _ _
   | exact r03_Scan.mono _ _
   | exact r09_Encode.mono _ _ _
   | exact r09_take.mono _ _ _
   | exact LeO.none _
   | refine LeO.ite ?_ ?_
   | refine LeO.bind ?_ (fun _ => ?_)
theorem r09_Decode.calls (k : Nat) (A0 : Option Addr) (c0 : Nat) (l0 : List Int) (r1 : List (S41)) (r2 : Int) (w : World) (hr0 : Kd.C (Kd.int .u8) w A0 l0.length l0) (hc0 : l0.length ≤ c0) (h : r09_Decode.f k l0 = some (r1, r2)) :
  Calls Try.prog 17 #[.slice A0 l0.length c0] w fun e w' => ∃ v0_ : Value, e = .returned (.tuple #[v0_, .int .i64 r2]) ∧ Kd.R k41 41 w' w.heap.size (fun _ => True) v0_ r1 ∧ Below w.heap.size w w' := by
 have hu41 := Try.underlying41
 have HR0 := Az.mk hr0
 have HC0 := Az.mk hc0
 clear hr0 hc0
 have HB := Az.mk (Below.refl w.heap.size w)
 have H : ((r03_Scan.f k l0).bind fun bt384 => (if (bt384.1.length : Int) < 2 then (some (([] : List (S41)), 2)) else (if 0 < (bt384.1.length : Int) then ((r01_Get.f k (rd_L5 bt384.1 0)).bind fun bt389 => (if bt389.2.2 = 0 then (r09_Decode.j0 k l0 bt384.1 bt389.1 (decide (bt389.1 > 255))) else (r09_Decode.j0 k l0 bt384.1 bt389.1 true))) else (none)))) = some (r1, r2) := h
 clear h
 replace H := Option.bind_eq_some_iff.mp H
 obtain ⟨⟨t384, t385⟩, A20, H⟩ := H
 replace H : (if (t384.length : Int) < 2 then (some (([] : List (S41)), 2)) else (if 0 < (t384.length : Int) then ((r01_Get.f k (rd_L5 t384 0)).bind fun bt389 => (if bt389.2.2 = 0 then (r09_Decode.j0 k l0 t384 bt389.1 (decide (bt389.1 > 255))) else (r09_Decode.j0 k l0 t384 bt389.1 true))) else (none))) = some (r1, r2) := H
 have A2 := Az.mk A20
 clear A20
 by_cases c3 : (t384.length : Int) < 2
 ·rw [if_pos c3] at H
  have c3b0 := decide_eq_true c3
  have c3b1 : decide (t384.length < 2) = true := decide_eq_true (by omega)
  clear c3
  simp only [Option.some.injEq, Prod.mk.injEq] at H
  obtain ⟨rfl, rfl⟩ := H
  go_enter Try.func17, Try.ntmps17
  go_wp2_with (first | ((with_reducible refine gate_callee (f := 34) rfl ?_); refine goesL_ (some 22) rfl rfl Try.func34 (by kernel_rfl) rfl #[.slice A0 l0.length c0] rfl ar_ ?_; (with_reducible refine (r03_Scan.calls k _ _ l0 t384 t385 _ ?side1 ?side2 A2.out).mono ?_); (case side1 => exact cl_ HR0.out); (case side2 => exact HC0.out); rintro e w4 ⟨v386, rfl, ho0, hb⟩; refine ⟨_, rfl, ?_⟩; have n0_ := Az.mk (Kd.S_lower ho0 (below_size (bl_ HB))); have n1_ := Az.mk (below_step (bl_ HB) hb); clear HB; have HO387 := n0_; have HB := n1_; clear n0_ n1_; (try clear hb); (try clear hb2); (try clear hk); (try clear hi); (try clear ho0); obtain ⟨Ao5, co5, eo5⟩ := Kd.S_slice HO387.out; subst eo5))
  go_ret2
  exact ⟨_, er_, nl_, bl_ HB⟩
 ·rw [if_neg c3] at H
  have c3b0 := decide_eq_false c3
  have c3b1 : decide (t384.length < 2) = false := decide_eq_false (by omega)
  clear c3
  by_cases c6 : 0 < (t384.length : Int)
  ·rw [if_pos c6] at H
   have c6b0 := decide_eq_true c6
   have c6b1 : decide (0 < t384.length) = true := decide_eq_true (by omega)
   clear c6
   replace H := Option.bind_eq_some_iff.mp H
   obtain ⟨⟨t389, t390, t391⟩, A70, H⟩ := H
   replace H : (if t391 = 0 then (r09_Decode.j0 k l0 t384 t389 (decide (t389 > 255))) else (r09_Decode.j0 k l0 t384 t389 true)) = some (r1, r2) := H
   have A7 := Az.mk A70
   clear A70
   have HC8 := Az.mk H
   clear H
   go_enter Try.func17, Try.ntmps17
   go_upto_region 5 with (first | ((with_reducible refine gate_callee (f := 34) rfl ?_); refine goesL_ (some 22) rfl rfl Try.func34 (by kernel_rfl) rfl #[.slice A0 l0.length c0] rfl ar_ ?_; (with_reducible refine (r03_Scan.calls k _ _ l0 t384 t385 _ ?side1 ?side2 A2.out).mono ?_); (case side1 => exact cl_ HR0.out); (case side2 => exact HC0.out); rintro e w9 ⟨v386, rfl, ho0, hb⟩; refine ⟨_, rfl, ?_⟩; have n0_ := Az.mk (Kd.S_lower ho0 (below_size (bl_ HB))); have n1_ := Az.mk (below_step (bl_ HB) hb); clear HB; have HO387 := n0_; have HB := n1_; clear n0_ n1_; (try clear hb); (try clear hb2); (try clear hk); (try clear hi); (try clear ho0); obtain ⟨Ao10, co10, eo10⟩ := Kd.S_slice HO387.out; subst eo10; have p388 : 0 ≤ (0 : Int) := (by omega); have q388 : 0 < (t384.length : Int) := of_decide_eq_true as_; obtain ⟨ad388, A388_0, c388_0, e388, hx388_0, hl388_0, hi388_0⟩ := at_L5 (Kd.S_reads' HO387.out).2.2 0 p388 q388; cases e388; obtain ⟨ce388, hce388, hMe388, hcc388⟩ := Kd.S_get HO387.out [] 0 p388 (by first | exact q388 | exact of_decide_eq_true as_ | (have e_ := (Kd.S_reads' HO387.out).1; omega)); obtain ⟨ve388_0, rfl, ge388_0⟩ := hMe388; have hv388_0 := hcc388 0 _ rfl; rw [Nat.add_zero, show ((Kd.slice 5 (Kd.int .u8))).sz = 1 from rfl, Nat.mul_one] at hv388_0; replace hv388_0 := Option.some.inj (hv388_0.symm.trans hx388_0); rw [hv388_0] at ge388_0; have HL388_0 := Az.mk (show Kd.R (Kd.int .u8) 5 _ _ _ _ (rd_L5 t384 0) from ge388_0); clear hv388_0 ge388_0; clear hcc388 hce388; have qi388 : (0 < t384.length) = True := eq_true (by omega); (try rw [show ((0 : Int)).toNat = 0 from rfl] at hx388_0); (try rw [Addr.add_zero'] at hx388_0); have HR388_0 := Az.mk hi388_0; have HC388_0 := Az.mk hl388_0; clear hi388_0 hl388_0; replace p388 := eq_true p388; replace q388 := eq_true q388) | ((with_reducible refine gate_callee (f := 35) rfl ?_); refine goesL_ (some 32) rfl rfl Try.func35 (by kernel_rfl) rfl #[.slice A388_0 (rd_L5 t384 0).length c388_0] rfl ar_ ?_; (with_reducible refine (r01_Get.calls k _ _ (rd_L5 t384 0) t389 t390 t391 _ ?side1 ?side2 A7.out).mono ?_); (case side1 => repeat (first | exact (by repeat (first | (with_reducible exact HR388_0.out) | (with_reducible refine Kd.C_alloc ?_ _) | (with_reducible refine Kd.C_drewN ?_ _) | (with_reducible refine Kd.C_drew ?_) | exact HR388_0.out)) | (with_reducible refine Kd.C_alloc ?_ _) | (with_reducible refine Kd.C_drewN ?_ _) | (with_reducible refine Kd.C_drew ?_))); (case side2 => exact HC388_0.out); rintro e w' ⟨rfl, ⟨nd, rfl⟩⟩; refine ⟨_, rfl, ?_⟩))
   (try simp only [Act.put, List.setIfInBounds_toArray, List.set_cons_zero, List.set_cons_succ])
   go_cut [41] (fun v41 wc => ∃ (kq : Nat) (x41_7 : Bool), v41 = .bool x41_7 ∧ Az (r09_Decode.j0 kq l0 t384 t389 x41_7 = some (r1, r2)) ∧ Az (kq ≤ k) ∧ Az (Kd.S (Kd.slice 5 (Kd.int .u8)) 24 wc w.heap.size (fun _ => True) (.slice (some ad388) t384.length co10) t384) ∧ Az (Kd.C (Kd.int .u8) wc A388_0 (rd_L5 t384 0).length (rd_L5 t384 0)) ∧ Az (Below w.heap.size w wc))
   case first =>
    have H := HC8.out
    clear HC8
    by_cases c11 : t391 = 0
    ·rw [if_pos c11] at H
     have c11b0 : (t391 == 0) = true := beq_iff_eq.mpr c11
     have c11b1 : (t391 != 0) = false := bne_eq_false_iff_eq.mpr c11
     clear c11
     (first | rw [c11b0] | (simp only [i64_w, i32_w]; rw [c11b0]) | skip)
     have H' := Az.mk H
     clear H
     go_wp2
     go_meet
     case rel => exact ⟨_, (decide (t389 > 255)), (es_), H', ⟨by first | omega | exact Nat.le_refl _⟩, ⟨sl_ HO387.out⟩, ⟨by repeat (first | (with_reducible exact HR388_0.out) | (with_reducible refine Kd.C_alloc ?_ _) | (with_reducible refine Kd.C_drewN ?_ _) | (with_reducible refine Kd.C_drew ?_) | exact HR388_0.out)⟩, ⟨bl_ HB⟩⟩
    ·rw [if_neg c11] at H
     have c11b0 : (t391 == 0) = false := beq_eq_false_iff_ne.mpr c11
     have c11b1 : (t391 != 0) = true := bne_iff_ne.mpr c11
     (first | rw [c11b0] | (simp only [i64_w, i32_w]; rw [c11b0]) | skip)
     have H' := Az.mk H
     clear H
     go_wp2
     go_meet
     case rel => exact ⟨_, (true), (es_), H', ⟨by first | omega | exact Nat.le_refl _⟩, ⟨sl_ HO387.out⟩, ⟨by repeat (first | (with_reducible exact HR388_0.out) | (with_reducible refine Kd.C_alloc ?_ _) | (with_reducible refine Kd.C_drewN ?_ _) | (with_reducible refine Kd.C_drew ?_) | exact HR388_0.out)⟩, ⟨bl_ HB⟩⟩
   case rest =>
    clear HC8
    try clear c1
    try clear p2
    try clear c3
    try clear c3b0
    try clear c3b1
    try clear p3
    try clear q3
    try clear hx3
    try clear qi3
    try clear c6
    try clear c6b0
    try clear c6b1
    try clear c11
    try clear c11b0
    try clear c11b1
    try clear hx388_0
    try clear p388
    try clear q388
    obtain ⟨kq, x41_7, rfl, HA, HJ7, HO_4, HR388_0, HB⟩ := hcut
    cases kq with
    | zero => exact absurd HA.out (by simp [r09_Decode.j0])
    | succ kj7 =>
     have H := HA.out
     clear HA
     simp only [r09_Decode.j0] at H
     by_cases c12 : x41_7 = true
     ·subst c12
      have H1 : (some (([] : List (S41)), 2)) = some (r1, r2) := by rw [if_pos rfl] at H; exact H
      clear H
      have H := H1
      clear H1
      simp only [Option.some.injEq, Prod.mk.injEq] at H
      obtain ⟨rfl, rfl⟩ := H
      go_wp2
      go_ret2
      exact ⟨_, er_, nl_, bl_ HB⟩
     ·replace c12 := Bool.eq_false_iff.mpr c12
      subst c12
      have H1 : (r09_Decode.l0 kj7 l0 t384 t389 ([] : List (S41)) 1) = some (r1, r2) := by rw [if_neg (show ¬ (false = true) by decide)] at H; exact H
      clear H
      have H := H1
      clear H1
      have H' := Az.mk H
      clear H
      go_wp2
      go_loopg [9, 10] kj7 (fun kq v9 v10 w' => ∃ (x9_2 : List (S41)) (x10_2 : Int), v10 = .int .i64 x10_2 ∧ Az (r09_Decode.l0 kq l0 t384 t389 x9_2 x10_2 = some (r1, r2)) ∧ Az (kq ≤ kj7) ∧ Az (Kd.S (Kd.slice 5 (Kd.int .u8)) 24 w' w.heap.size (fun _ => True) (.slice (some ad388) t384.length co10) t384) ∧ Az (Kd.R k41 41 w' w.heap.size (fun _ => True) v9 x9_2) ∧ Az (Below w.heap.size w w'))
      case atStart => exact ⟨(([] : List (S41))), (1), (es_), H', ⟨Nat.le_refl _⟩, ⟨sl_ HO_4.out⟩, ⟨nl_⟩, ⟨bl_ HB⟩⟩
      case round =>
       clear H'
       try clear c1
       try clear p2
       try clear c3
       try clear c3b0
       try clear c3b1
       try clear p3
       try clear q3
       try clear hx3
       try clear qi3
       try clear c6
       try clear c6b0
       try clear c6b1
       try clear c11
       try clear c11b0
       try clear c11b1
       try clear c12
       try clear hx388_0
       try clear p2
       try clear p3
       try clear p388
       try clear q3
       try clear q388
       obtain ⟨x9_2, x10_2, rfl, HA, HK2, HO_4, HO_9, HB⟩ := hrel
       cases gk with
       | zero => exact absurd HA.out (by simp [r09_Decode.l0])
       | succ k2 =>
        have H := HA.out
        clear HA
        simp only [r09_Decode.l0] at H
        by_cases c13 : x10_2 < (wrap64 ((t384.length : Int) - 1))
        ·rw [if_pos c13] at H
         have c13b0 := decide_eq_true c13
         clear c13
         by_cases c14 : 0 ≤ x10_2
         ·rw [if_pos c14] at H
          have c14b0 := decide_eq_true c14
          clear c14
          by_cases c15 : x10_2 < (t384.length : Int)
          ·rw [if_pos c15] at H
           have c15b0 := decide_eq_true c15
           clear c15
           replace H := Option.bind_eq_some_iff.mp H
           obtain ⟨⟨t397, t398, t399⟩, A160, H⟩ := H
           replace H : (if t399 = 0 then (r09_Decode.j2 k2 l0 t384 t389 x9_2 x10_2 t397 t398 (decide (t397 > 255))) else (r09_Decode.j2 k2 l0 t384 t389 x9_2 x10_2 t397 t398 true)) = some (r1, r2) := H
           have A16 := Az.mk A160
           clear A160
           have HC17 := Az.mk H
           clear H
           have p396 : 0 ≤ (x10_2 : Int) := of_decide_eq_true as_
           have q396 : x10_2 < (t384.length : Int) := of_decide_eq_true as_
           obtain ⟨ad396, A396_0, c396_0, e396, hx396_0, hl396_0, hi396_0⟩ := at_L5 (Kd.S_reads' HO_4.out).2.2 x10_2 p396 q396
           obtain rfl : ad388 = ad396 := (by injection e396)
           obtain ⟨ce396, hce396, hMe396, hcc396⟩ := Kd.S_get HO_4.out [] x10_2 p396 (by first | exact q396 | exact of_decide_eq_true as_ | (have e_ := (Kd.S_reads' HO_4.out).1; omega))
           obtain ⟨ve396_0, rfl, ge396_0⟩ := hMe396
           have hv396_0 := hcc396 0 _ rfl
           rw [Nat.add_zero, show ((Kd.slice 5 (Kd.int .u8))).sz = 1 from rfl, Nat.mul_one] at hv396_0
           replace hv396_0 := Option.some.inj (hv396_0.symm.trans hx396_0)
           rw [hv396_0] at ge396_0
           have HL396_0 := Az.mk (show Kd.R (Kd.int .u8) 5 _ _ _ _ (rd_L5 t384 x10_2) from ge396_0)
           clear hv396_0 ge396_0
           clear hcc396 hce396
           have HR396_0 := Az.mk hi396_0
           have HC396_0 := Az.mk hl396_0
           clear hi396_0 hl396_0
           replace p396 := eq_true p396
           replace q396 := eq_true q396
           go_upto_region 12 with (first | ((with_reducible refine gate_callee (f := 35) rfl ?_); refine goesL_ (some 54) rfl rfl Try.func35 (by kernel_rfl) rfl #[.slice A396_0 (rd_L5 t384 x10_2).length c396_0] rfl ar_ ?_; (with_reducible refine (r01_Get.calls k2 _ _ (rd_L5 t384 x10_2) t397 t398 t399 _ ?side1 ?side2 A16.out).mono ?_); (case side1 => repeat (first | exact (by repeat (first | (with_reducible exact HR396_0.out) | (with_reducible refine Kd.C_alloc ?_ _) | (with_reducible refine Kd.C_drewN ?_ _) | (with_reducible refine Kd.C_drew ?_) | exact HR396_0.out)) | (with_reducible refine Kd.C_alloc ?_ _) | (with_reducible refine Kd.C_drewN ?_ _) | (with_reducible refine Kd.C_drew ?_))); (case side2 => exact HC396_0.out); rintro e w' ⟨rfl, ⟨nd, rfl⟩⟩; refine ⟨_, rfl, ?_⟩))
           (try simp only [Act.put, List.setIfInBounds_toArray, List.set_cons_zero, List.set_cons_succ])
           go_cut [63] (fun v63 wc => ∃ (kq : Nat) (x63_16 : Bool), v63 = .bool x63_16 ∧ Az (r09_Decode.j2 kq l0 t384 t389 x9_2 x10_2 t397 t398 x63_16 = some (r1, r2)) ∧ Az (kq ≤ k2) ∧ Az (Kd.S (Kd.slice 5 (Kd.int .u8)) 24 wc w.heap.size (fun _ => True) (.slice (some ad388) t384.length co10) t384) ∧ Az (Kd.R k41 41 wc w.heap.size (fun _ => True) u9 x9_2) ∧ Az (Kd.C (Kd.int .u8) wc A396_0 (rd_L5 t384 x10_2).length (rd_L5 t384 x10_2)) ∧ Az (Below w.heap.size w wc))
           case first =>
            have H := HC17.out
            clear HC17
            by_cases c18 : t399 = 0
            ·rw [if_pos c18] at H
             have c18b0 : (t399 == 0) = true := beq_iff_eq.mpr c18
             have c18b1 : (t399 != 0) = false := bne_eq_false_iff_eq.mpr c18
             clear c18
             (first | rw [c18b0] | (simp only [i64_w, i32_w]; rw [c18b0]) | skip)
             have H' := Az.mk H
             clear H
             go_wp2
             go_meet
             case rel => exact ⟨_, (decide (t397 > 255)), (es_), H', ⟨by have := HJ7.out; have := HK2.out; first | omega | exact Nat.le_refl _⟩, ⟨sl_ HO_4.out⟩, ⟨rl_ HO_9.out⟩, ⟨by repeat (first | (with_reducible exact HR396_0.out) | (with_reducible refine Kd.C_alloc ?_ _) | (with_reducible refine Kd.C_drewN ?_ _) | (with_reducible refine Kd.C_drew ?_) | exact HR396_0.out)⟩, ⟨bl_ HB⟩⟩
            ·rw [if_neg c18] at H
             have c18b0 : (t399 == 0) = false := beq_eq_false_iff_ne.mpr c18
             have c18b1 : (t399 != 0) = true := bne_iff_ne.mpr c18
             (first | rw [c18b0] | (simp only [i64_w, i32_w]; rw [c18b0]) | skip)
             have H' := Az.mk H
             clear H
             go_wp2
             go_meet
             case rel => exact ⟨_, (true), (es_), H', ⟨by have := HJ7.out; have := HK2.out; first | omega | exact Nat.le_refl _⟩, ⟨sl_ HO_4.out⟩, ⟨rl_ HO_9.out⟩, ⟨by repeat (first | (with_reducible exact HR396_0.out) | (with_reducible refine Kd.C_alloc ?_ _) | (with_reducible refine Kd.C_drewN ?_ _) | (with_reducible refine Kd.C_drew ?_) | exact HR396_0.out)⟩, ⟨bl_ HB⟩⟩
           case rest =>
            clear HC17
            try clear c1
            try clear p2
            try clear c3
            try clear c3b0
            try clear c3b1
            try clear p3
            try clear q3
            try clear hx3
            try clear qi3
            try clear c6
            try clear c6b0
            try clear c6b1
            try clear p6
            try clear c11
            try clear c11b0
            try clear c11b1
            try clear c12
            try clear c13
            try clear c13b0
            try clear c14
            try clear c14b0
            try clear c15
            try clear c15b0
            try clear c17
            try clear c18
            try clear c18b0
            try clear c18b1
            try clear hx388_0
            try clear hx396_0
            try clear p2
            try clear p3
            try clear p388
            try clear p396
            try clear q3
            try clear q388
            try clear q396
            obtain ⟨kq, x63_16, rfl, HA, HJ16, HO_4, HO_9, HR396_0, HB⟩ := hcut
            cases kq with
            | zero => exact absurd HA.out (by simp [r09_Decode.j2])
            | succ kj16 =>
             have H := HA.out
             clear HA
             simp only [r09_Decode.j2] at H
             by_cases c19 : x63_16 = true
             ·subst c19
              have H1 : (some (([] : List (S41)), 2)) = some (r1, r2) := by rw [if_pos rfl] at H; exact H
              clear H
              have H := H1
              clear H1
              simp only [Option.some.injEq, Prod.mk.injEq] at H
              obtain ⟨rfl, rfl⟩ := H
              go_wp2
              go_ret2
              exact ⟨_, er_, nl_, bl_ HB⟩
             ·replace c19 := Bool.eq_false_iff.mpr c19
              subst c19
              have H1 : (r09_Decode.l1 kj16 l0 t384 t389 x9_2 x10_2 t397 t398 (⟨#[]⟩ : ByteArray) 0) = some (r1, r2) := by rw [if_neg (show ¬ (false = true) by decide)] at H; exact H
              clear H
              have H := H1
              clear H1
              have H' := Az.mk H
              clear H
              go_wp2
              go_loopg [9, 12, 14, 15] kj16 (fun kq v9 v12 v14 v15 w' => ∃ (x9_4 : List (S41)) (x12_4 : Int) (x14_4 : ByteArray) (x15_4 : Int), v12 = .int .i64 x12_4 ∧ v14 = .string x14_4 ∧ v15 = .int .i64 x15_4 ∧ Az (r09_Decode.l1 kq l0 t384 t389 x9_4 x10_2 t397 x12_4 x14_4 x15_4 = some (r1, r2)) ∧ Az (kq ≤ kj16) ∧ Az (Kd.S (Kd.slice 5 (Kd.int .u8)) 24 w' w.heap.size (fun _ => True) (.slice (some ad388) t384.length co10) t384) ∧ Az (Kd.R k41 41 w' w.heap.size (fun _ => True) v9 x9_4) ∧ Az (Below w.heap.size w w'))
              case atStart => exact ⟨(x9_2), (t398), ((⟨#[]⟩ : ByteArray)), (0), (es_), (es_), (es_), H', ⟨Nat.le_refl _⟩, ⟨sl_ HO_4.out⟩, ⟨rl_ HO_9.out⟩, ⟨bl_ HB⟩⟩
              case round =>
               clear H'
               try clear c1
               try clear p2
               try clear c3
               try clear c3b0
               try clear c3b1
               try clear p3
               try clear q3
               try clear hx3
               try clear qi3
               try clear c6
               try clear c6b0
               try clear c6b1
               try clear p6
               try clear c11
               try clear c11b0
               try clear c11b1
               try clear c12
               try clear c13
               try clear c13b0
               try clear c14
               try clear c14b0
               try clear c15
               try clear c15b0
               try clear c17
               try clear c18
               try clear c18b0
               try clear c18b1
               try clear c19
               try clear hx388_0
               try clear hx396_0
               try clear p2
               try clear p3
               try clear p388
               try clear p396
               try clear p6
               try clear q3
               try clear q388
               try clear q396
               obtain ⟨x9_4, x12_4, x14_4, x15_4, rfl, rfl, rfl, HA, HK4, HO_4, HO_9, HB⟩ := hrel
               cases gk with
               | zero => exact absurd HA.out (by simp [r09_Decode.l1])
               | succ k4 =>
                have H := HA.out
                clear HA
                simp only [r09_Decode.l1] at H
                by_cases c20 : x15_4 < (wrap64 (t397))
                ·rw [if_pos c20] at H
                 have c20b0 := decide_eq_true c20
                 clear c20
                 by_cases c21 : 0 ≤ x10_2
                 ·rw [if_pos c21] at H
                  have c21b0 := decide_eq_true c21
                  clear c21
                  by_cases c22 : x10_2 < (t384.length : Int)
                  ·rw [if_pos c22] at H
                   have c22b0 := decide_eq_true c22
                   clear c22
                   by_cases c23 : 0 ≤ x12_4
                   ·rw [if_pos c23] at H
                    have c23b0 := eq_true c23
                    have c23b1 := decide_eq_true c23
                    clear c23
                    by_cases c24 : x12_4 ≤ ((rd_L5 t384 x10_2).length : Int)
                    ·rw [if_pos c24] at H
                     have c24b0 := eq_true c24
                     have c24b1 := decide_eq_true c24
                     clear c24
                     obtain ⟨y401, hy401⟩ : ∃ y_ : List Int, y_ = ((rd_L5 t384 x10_2).drop (x12_4 : Int).toNat) := ⟨_, rfl⟩
                     replace H : ((r09_take.f k4 x14_4 y401).bind fun bt405 => (if bt405.2.2 = 0 then (some (([] : List (S41)), 2)) else (if x9_4.length < 5864062014805 then (r09_Decode.l1 k4 l0 t384 t389 (x9_4 ++ [(⟨bt405.1, bt405.2.1⟩ : S41)]) x10_2 t397 (wrap64 (x12_4 + bt405.2.2)) bt405.1 (wrap64 (x15_4 + 1))) else (none)))) = some (r1, r2) := hr_ hy401 H
                     have Ny401 := Az.mk hy401
                     clear hy401
                     replace H := Option.bind_eq_some_iff.mp H
                     obtain ⟨⟨t405, t406, t407⟩, A250, H⟩ := H
                     replace H : (if t407 = 0 then (some (([] : List (S41)), 2)) else (if x9_4.length < 5864062014805 then (r09_Decode.l1 k4 l0 t384 t389 (x9_4 ++ [(⟨t405, t406⟩ : S41)]) x10_2 t397 (wrap64 (x12_4 + t407)) t405 (wrap64 (x15_4 + 1))) else (none))) = some (r1, r2) := H
                     have A25 := Az.mk A250
                     clear A250
                     by_cases c26 : t407 = 0
                     ·rw [if_pos c26] at H
                      have c26b0 : (t407 == 0) = true := beq_iff_eq.mpr c26
                      have c26b1 : (t407 != 0) = false := bne_eq_false_iff_eq.mpr c26
                      clear c26
                      simp only [Option.some.injEq, Prod.mk.injEq] at H
                      obtain ⟨rfl, rfl⟩ := H
                      have p400 : 0 ≤ (x10_2 : Int) := of_decide_eq_true as_
                      have q400 : x10_2 < (t384.length : Int) := of_decide_eq_true as_
                      obtain ⟨ad400, A400_0, c400_0, e400, hx400_0, hl400_0, hi400_0⟩ := at_L5 (Kd.S_reads' HO_4.out).2.2 x10_2 p400 q400
                      obtain rfl : ad388 = ad400 := (by injection e400)
                      obtain ⟨ce400, hce400, hMe400, hcc400⟩ := Kd.S_get HO_4.out [] x10_2 p400 (by first | exact q400 | exact of_decide_eq_true as_ | (have e_ := (Kd.S_reads' HO_4.out).1; omega))
                      obtain ⟨ve400_0, rfl, ge400_0⟩ := hMe400
                      have hv400_0 := hcc400 0 _ rfl
                      rw [Nat.add_zero, show ((Kd.slice 5 (Kd.int .u8))).sz = 1 from rfl, Nat.mul_one] at hv400_0
                      replace hv400_0 := Option.some.inj (hv400_0.symm.trans hx400_0)
                      rw [hv400_0] at ge400_0
                      have HL400_0 := Az.mk (show Kd.R (Kd.int .u8) 5 _ _ _ _ (rd_L5 t384 x10_2) from ge400_0)
                      clear hv400_0 ge400_0
                      clear hcc400 hce400
                      have HR400_0 := Az.mk hi400_0
                      have HC400_0 := Az.mk hl400_0
                      clear hi400_0 hl400_0
                      replace p400 := eq_true p400
                      replace q400 := eq_true q400
                      have q27 : (x12_4 : Int) ≤ (((rd_L5 t384 x10_2).length : Int) : Int) := of_decide_eq_true as_
                      obtain ⟨i027, hi027, _, hsz27, _⟩ := info_parts info5
                      have hroom27 : (rd_L5 t384 x10_2).length ≤ c400_0 := HC400_0.out
                      have hC27 : Kd.C (Kd.int .u8) _ A400_0 (rd_L5 t384 x10_2).length (rd_L5 t384 x10_2) := (by repeat (first | (with_reducible exact HR400_0.out) | (with_reducible refine Kd.C_alloc ?_ _) | (with_reducible refine Kd.C_drewN ?_ _) | (with_reducible refine Kd.C_drew ?_) | exact HR400_0.out))
                      have q027 : (0 : Int) ≤ (x12_4 : Int) := of_decide_eq_true as_
                      have hcut27 := cut_from (P := Try.prog) 24 5 .i64 Try.underlying24 hi027 1 hsz27 A400_0 (rd_L5 t384 x10_2).length c400_0 x12_4 q027 q27
                      have hr27 := Kd.C_drop (m := (x12_4 : Int).toNat) (c := c400_0) hC27 (by omega) hroom27
                      obtain ⟨A27, hA27⟩ : ∃ A1, A1 = (if c400_0 = (x12_4 : Int).toNat then A400_0 else (A400_0 : Option Addr).map (·.add ((x12_4 : Int).toNat * 1))) := ⟨_, rfl⟩
                      obtain ⟨c27, hc27⟩ : ∃ c1, c1 = c400_0 - (x12_4 : Int).toNat := ⟨_, rfl⟩
                      have hy27 : y401.length = (rd_L5 t384 x10_2).length - (x12_4 : Int).toNat := (by rw [Ny401.out, List.length_drop] <;> omega)
                      rw [show (rd_L5 t384 x10_2).drop (x12_4 : Int).toNat = y401 from Ny401.out.symm] at hr27
                      replace hr27 : Kd.C (Kd.int .u8) _ A27 y401.length y401 := (by rw [hA27]; exact hr27)
                      rw [← hy27, ← hA27, ← hc27] at hcut27
                      have HR404 := Az.mk hr27
                      have HC404 := Az.mk (show y401.length ≤ c27 from by rw [hy27, hc27]; exact Nat.sub_le_sub_right hroom27 _)
                      clear hr27 hC27 hroom27 hi027 hsz27 hc27
                      have KY27 := Az.mk hy27
                      have KA27 := Az.mk hA27
                      clear hy27 hA27
                      replace q27 := eq_true q27
                      go_wp2_with (first | ((with_reducible refine gate_callee (f := 36) rfl ?_); refine goesL_ (some 78) rfl rfl Try.func36 (by kernel_rfl) rfl #[.string x14_4, .slice A27 y401.length c27] rfl ar_ ?_; (with_reducible refine (r09_take.calls k4 x14_4 _ _ y401 t405 t406 t407 _ ?side1 ?side2 A25.out).mono ?_); (case side1 => repeat (first | exact (by repeat (first | (with_reducible exact HR404.out) | (with_reducible refine Kd.C_alloc ?_ _) | (with_reducible refine Kd.C_drewN ?_ _) | (with_reducible refine Kd.C_drew ?_) | exact HR404.out)) | (with_reducible refine Kd.C_alloc ?_ _) | (with_reducible refine Kd.C_drewN ?_ _) | (with_reducible refine Kd.C_drew ?_))); (case side2 => exact HC404.out); rintro e w28 ⟨rfl, hb⟩; refine ⟨_, rfl, ?_⟩; have n0_ := Az.mk (Kd.S_below (sl_ HO_4.out) hb); have n1_ := Az.mk (Kd.R_below (rl_ HO_9.out) hb); have n2_ := Az.mk (Kd.R_below (rl_ HL400_0.out) hb); have n3_ := Az.mk (Kd.C_below (by repeat (first | (with_reducible exact HR400_0.out) | (with_reducible refine Kd.C_alloc ?_ _) | (with_reducible refine Kd.C_drewN ?_ _) | (with_reducible refine Kd.C_drew ?_) | exact HR400_0.out)) hb); have n4_ := Az.mk (Kd.C_below (by repeat (first | (with_reducible exact HR404.out) | (with_reducible refine Kd.C_alloc ?_ _) | (with_reducible refine Kd.C_drewN ?_ _) | (with_reducible refine Kd.C_drew ?_) | exact HR404.out)) hb); have n5_ := Az.mk (below_step (bl_ HB) hb); clear HO_4; clear HO_9; clear HL400_0; clear HR400_0; clear HR404; clear HB; have HO_4 := n0_; have HO_9 := n1_; have HL400_0 := n2_; have HR400_0 := n3_; have HR404 := n4_; have HB := n5_; clear n0_ n1_ n2_ n3_ n4_ n5_; (try clear hb); (try clear hb2); (try clear hk); (try clear hi)) | ((with_reducible refine gate_dst (N := 16) rfl ?_); refine box_event ?hg (N := 16) ?hd (cs := #[.string (⟨#[]⟩ : ByteArray), .int .u64 0]) (t := 41) ?hr ?_; (case hd => rfl); (case hg => rfl); (case hr => first | (go_simp; done) | (go_simp; rfl)); intro gb408 hg w29 hbox hb; have n0_ := Az.mk (Kd.S_below (sl_ HO_4.out) hb); have n1_ := Az.mk (Kd.R_below (Kd.R_elderB (rl_ HO_9.out) gb408 (Nat.le_of_eq hg.symm)) hb); have n2_ := Az.mk (Kd.R_below (rl_ HL400_0.out) hb); have n3_ := Az.mk (Kd.C_below (by repeat (first | (with_reducible exact HR400_0.out) | (with_reducible refine Kd.C_alloc ?_ _) | (with_reducible refine Kd.C_drewN ?_ _) | (with_reducible refine Kd.C_drew ?_) | exact HR400_0.out)) hb); have n4_ := Az.mk (Kd.C_below (by repeat (first | (with_reducible exact HR404.out) | (with_reducible refine Kd.C_alloc ?_ _) | (with_reducible refine Kd.C_drewN ?_ _) | (with_reducible refine Kd.C_drew ?_) | exact HR404.out)) hb); have n5_ := Az.mk (below_step (bl_ HB) hb); have n6_ := Az.mk (hbox); have n7_ := Az.mk ((by rw [hg]; exact (below_size (bl_ HB)) : w.heap.size ≤ gb408)); have n8_ := Az.mk ((by rw [hg]; exact (below_size (bl_ HB)) : w.heap.size ≤ gb408)); clear HO_4; clear HO_9; clear HL400_0; clear HR400_0; clear HR404; clear HB; have HO_4 := n0_; have HO_9 := n1_; have HL400_0 := n2_; have HR400_0 := n3_; have HR404 := n4_; have HB := n5_; have BK408 := n6_; have GW408 := n7_; have GE408 := n8_; clear n0_ n1_ n2_ n3_ n4_ n5_ n6_ n7_ n8_; clear hb hbox hg; have hcz30_0 : w29.cell? ⟨gb408, 0, none⟩ = some (.string (⟨#[]⟩ : ByteArray)) := (blk_cell BK408.out 0).trans rfl; have hcz30_1 : w29.cell? ⟨gb408, 1, none⟩ = some (.int .u64 0) := (blk_cell BK408.out 1).trans rfl; have hfz30_0 := blk_frozen BK408.out 0; have hfz30_1 := blk_frozen BK408.out 1))
                      go_ret2
                      exact ⟨_, er_, nl_, by repeat (first | (with_reducible first | exact HB.out | apply below_alloc | apply pw_below_drewN | apply below_drew1 | refine below_set ?_ GE408.out) | exact HB.out)⟩
                     ·rw [if_neg c26] at H
                      have c26b0 : (t407 == 0) = false := beq_eq_false_iff_ne.mpr c26
                      have c26b1 : (t407 != 0) = true := bne_iff_ne.mpr c26
                      by_cases c31 : x9_4.length < 5864062014805
                      ·rw [if_pos c31] at H
                       have LMc31 := Az.mk c31
                       clear c31
                       obtain ⟨y409, hy409⟩ : ∃ y_ : List (S41), y_ = (x9_4 ++ [(⟨t405, t406⟩ : S41)]) := ⟨_, rfl⟩
                       replace H : (r09_Decode.l1 k4 l0 t384 t389 y409 x10_2 t397 (wrap64 (x12_4 + t407)) t405 (wrap64 (x15_4 + 1))) = some (r1, r2) := hr_ hy409 H
                       have Ny409 := Az.mk hy409
                       clear hy409
                       have H' := Az.mk H
                       clear H
                       have p400 : 0 ≤ (x10_2 : Int) := of_decide_eq_true as_
                       have q400 : x10_2 < (t384.length : Int) := of_decide_eq_true as_
                       obtain ⟨ad400, A400_0, c400_0, e400, hx400_0, hl400_0, hi400_0⟩ := at_L5 (Kd.S_reads' HO_4.out).2.2 x10_2 p400 q400
                       obtain rfl : ad388 = ad400 := (by injection e400)
                       obtain ⟨ce400, hce400, hMe400, hcc400⟩ := Kd.S_get HO_4.out [] x10_2 p400 (by first | exact q400 | exact of_decide_eq_true as_ | (have e_ := (Kd.S_reads' HO_4.out).1; omega))
                       obtain ⟨ve400_0, rfl, ge400_0⟩ := hMe400
                       have hv400_0 := hcc400 0 _ rfl
                       rw [Nat.add_zero, show ((Kd.slice 5 (Kd.int .u8))).sz = 1 from rfl, Nat.mul_one] at hv400_0
                       replace hv400_0 := Option.some.inj (hv400_0.symm.trans hx400_0)
                       rw [hv400_0] at ge400_0
                       have HL400_0 := Az.mk (show Kd.R (Kd.int .u8) 5 _ _ _ _ (rd_L5 t384 x10_2) from ge400_0)
                       clear hv400_0 ge400_0
                       clear hcc400 hce400
                       have HR400_0 := Az.mk hi400_0
                       have HC400_0 := Az.mk hl400_0
                       clear hi400_0 hl400_0
                       replace p400 := eq_true p400
                       replace q400 := eq_true q400
                       have q32 : (x12_4 : Int) ≤ (((rd_L5 t384 x10_2).length : Int) : Int) := of_decide_eq_true as_
                       obtain ⟨i032, hi032, _, hsz32, _⟩ := info_parts info5
                       have hroom32 : (rd_L5 t384 x10_2).length ≤ c400_0 := HC400_0.out
                       have hC32 : Kd.C (Kd.int .u8) _ A400_0 (rd_L5 t384 x10_2).length (rd_L5 t384 x10_2) := (by repeat (first | (with_reducible exact HR400_0.out) | (with_reducible refine Kd.C_alloc ?_ _) | (with_reducible refine Kd.C_drewN ?_ _) | (with_reducible refine Kd.C_drew ?_) | exact HR400_0.out))
                       have q032 : (0 : Int) ≤ (x12_4 : Int) := of_decide_eq_true as_
                       have hcut32 := cut_from (P := Try.prog) 24 5 .i64 Try.underlying24 hi032 1 hsz32 A400_0 (rd_L5 t384 x10_2).length c400_0 x12_4 q032 q32
                       have hr32 := Kd.C_drop (m := (x12_4 : Int).toNat) (c := c400_0) hC32 (by omega) hroom32
                       obtain ⟨A32, hA32⟩ : ∃ A1, A1 = (if c400_0 = (x12_4 : Int).toNat then A400_0 else (A400_0 : Option Addr).map (·.add ((x12_4 : Int).toNat * 1))) := ⟨_, rfl⟩
                       obtain ⟨c32, hc32⟩ : ∃ c1, c1 = c400_0 - (x12_4 : Int).toNat := ⟨_, rfl⟩
                       have hy32 : y401.length = (rd_L5 t384 x10_2).length - (x12_4 : Int).toNat := (by rw [Ny401.out, List.length_drop] <;> omega)
                       rw [show (rd_L5 t384 x10_2).drop (x12_4 : Int).toNat = y401 from Ny401.out.symm] at hr32
                       replace hr32 : Kd.C (Kd.int .u8) _ A32 y401.length y401 := (by rw [hA32]; exact hr32)
                       rw [← hy32, ← hA32, ← hc32] at hcut32
                       have HR404 := Az.mk hr32
                       have HC404 := Az.mk (show y401.length ≤ c32 from by rw [hy32, hc32]; exact Nat.sub_le_sub_right hroom32 _)
                       clear hr32 hC32 hroom32 hi032 hsz32 hc32
                       have KY32 := Az.mk hy32
                       have KA32 := Az.mk hA32
                       clear hy32 hA32
                       replace q32 := eq_true q32
                       go_wp2_with (first | ((with_reducible refine gate_callee (f := 36) rfl ?_); refine goesL_ (some 78) rfl rfl Try.func36 (by kernel_rfl) rfl #[.string x14_4, .slice A32 y401.length c32] rfl ar_ ?_; (with_reducible refine (r09_take.calls k4 x14_4 _ _ y401 t405 t406 t407 _ ?side1 ?side2 A25.out).mono ?_); (case side1 => repeat (first | exact (by repeat (first | (with_reducible exact HR404.out) | (with_reducible refine Kd.C_alloc ?_ _) | (with_reducible refine Kd.C_drewN ?_ _) | (with_reducible refine Kd.C_drew ?_) | exact HR404.out)) | (with_reducible refine Kd.C_alloc ?_ _) | (with_reducible refine Kd.C_drewN ?_ _) | (with_reducible refine Kd.C_drew ?_))); (case side2 => exact HC404.out); rintro e w33 ⟨rfl, hb⟩; refine ⟨_, rfl, ?_⟩; have n0_ := Az.mk (Kd.S_below (sl_ HO_4.out) hb); have n1_ := Az.mk (Kd.R_below (rl_ HO_9.out) hb); have n2_ := Az.mk (Kd.R_below (rl_ HL400_0.out) hb); have n3_ := Az.mk (Kd.C_below (by repeat (first | (with_reducible exact HR400_0.out) | (with_reducible refine Kd.C_alloc ?_ _) | (with_reducible refine Kd.C_drewN ?_ _) | (with_reducible refine Kd.C_drew ?_) | exact HR400_0.out)) hb); have n4_ := Az.mk (Kd.C_below (by repeat (first | (with_reducible exact HR404.out) | (with_reducible refine Kd.C_alloc ?_ _) | (with_reducible refine Kd.C_drewN ?_ _) | (with_reducible refine Kd.C_drew ?_) | exact HR404.out)) hb); have n5_ := Az.mk (below_step (bl_ HB) hb); clear HO_4; clear HO_9; clear HL400_0; clear HR400_0; clear HR404; clear HB; have HO_4 := n0_; have HO_9 := n1_; have HL400_0 := n2_; have HR400_0 := n3_; have HR404 := n4_; have HB := n5_; clear n0_ n1_ n2_ n3_ n4_ n5_; (try clear hb); (try clear hb2); (try clear hk); (try clear hi)) | ((with_reducible refine gate_dst (N := 16) rfl ?_); refine box_event ?hg (N := 16) ?hd (cs := #[.string (⟨#[]⟩ : ByteArray), .int .u64 0]) (t := 41) ?hr ?_; (case hd => rfl); (case hg => rfl); (case hr => first | (go_simp; done) | (go_simp; rfl)); intro gb408 hg w34 hbox hb; have n0_ := Az.mk (Kd.S_below (sl_ HO_4.out) hb); have n1_ := Az.mk (Kd.R_below (Kd.R_elderB (rl_ HO_9.out) gb408 (Nat.le_of_eq hg.symm)) hb); have n2_ := Az.mk (Kd.R_below (rl_ HL400_0.out) hb); have n3_ := Az.mk (Kd.C_below (by repeat (first | (with_reducible exact HR400_0.out) | (with_reducible refine Kd.C_alloc ?_ _) | (with_reducible refine Kd.C_drewN ?_ _) | (with_reducible refine Kd.C_drew ?_) | exact HR400_0.out)) hb); have n4_ := Az.mk (Kd.C_below (by repeat (first | (with_reducible exact HR404.out) | (with_reducible refine Kd.C_alloc ?_ _) | (with_reducible refine Kd.C_drewN ?_ _) | (with_reducible refine Kd.C_drew ?_) | exact HR404.out)) hb); have n5_ := Az.mk (below_step (bl_ HB) hb); have n6_ := Az.mk (hbox); have n7_ := Az.mk ((by rw [hg]; exact (below_size (bl_ HB)) : w.heap.size ≤ gb408)); have n8_ := Az.mk ((by rw [hg]; exact (below_size (bl_ HB)) : w.heap.size ≤ gb408)); clear HO_4; clear HO_9; clear HL400_0; clear HR400_0; clear HR404; clear HB; have HO_4 := n0_; have HO_9 := n1_; have HL400_0 := n2_; have HR400_0 := n3_; have HR404 := n4_; have HB := n5_; have BK408 := n6_; have GW408 := n7_; have GE408 := n8_; clear n0_ n1_ n2_ n3_ n4_ n5_ n6_ n7_ n8_; clear hb hbox hg; have hcz35_0 : w34.cell? ⟨gb408, 0, none⟩ = some (.string (⟨#[]⟩ : ByteArray)) := (blk_cell BK408.out 0).trans rfl; have hcz35_1 : w34.cell? ⟨gb408, 1, none⟩ = some (.int .u64 0) := (blk_cell BK408.out 1).trans rfl; have hfz35_0 := blk_frozen BK408.out 0; have hfz35_1 := blk_frozen BK408.out 1) | ((with_reducible refine gate_builtin (b := .append) (xs := #[.tmp 83, .tmp 85]) rfl ?_); at_builtin; refine Kd.R_append k41 (w0 := w) w.heap.size rfl (.tmp 83) (.tmp 85) 36 41 (.agg #[(.string ⟨#[]⟩), (.int .u64 0)]) 24 rfl Try.underlying36 info41 rfl (by decide) (by omega) u9 x9_4 (⟨t405, t406⟩ : S41) [.string t405, .int .u64 t406] (fun k_ => k_ ≠ gb408) (fun _ => False) rfl (by first | (go_simp; done) | (go_simp; rfl)) ?aP (fun _ hk => hk.elim) ?aF ?aO ?aB ?aS ?aL ?_; (case aP => exact k41_mkM _ _ _ (⟨t405, t406⟩ : S41)); (case aB => exact (by repeat (first | (with_reducible first | exact HB.out | apply below_alloc | apply pw_below_drewN | apply below_drew1 | refine below_set ?_ GE408.out) | exact HB.out))); (case aF => exact (fun k_ hk => Kd.freshB (g := gb408) (o := .cells #[.string t405, .int .u64 t406] 41 (0, 0)) (by (with_reducible repeat (first | refine blk_drewN ?_ _ | refine blk_drew ?_ | refine blk_alloc ?_ _)); refine blk_put (cs := #[.string t405, .int .u64 0]) ?_ 1 _ rfl; (with_reducible repeat (first | refine blk_drewN ?_ _ | refine blk_drew ?_ | refine blk_alloc ?_ _)); refine blk_put (cs := #[.string (⟨#[]⟩ : ByteArray), .int .u64 0]) ?_ 0 _ rfl; (with_reducible repeat (first | refine blk_drewN ?_ _ | refine blk_drew ?_ | refine blk_alloc ?_ _)); exact BK408.out) k_ hk)); (case aO => exact (by (with_reducible repeat (first | apply Kd.R_alloc | apply Kd.R_drewN | apply Kd.R_drew)); exact Kd.R_mono (Kd.R_far (p := ⟨gb408, 1, none⟩) (Kd.R_far (p := ⟨gb408, 0, none⟩) (Kd.R_mono HO_9.out (fun k_ hk => (⟨hk, hk.2⟩ : _ ∧ k_ ≠ gb408))) (fun _ hk => hk.2) (.string t405)) (fun _ hk => hk.2) (.int .u64 t406)) (fun _ hk => hk.1.2))); (case aS => exact (below_size (by repeat (first | (with_reducible first | exact HB.out | apply below_alloc | apply pw_below_drewN | apply below_drew1 | refine below_set ?_ GE408.out) | exact HB.out)))); (case aL => have := LMc31.out; omega); intro v410 w36 ho hb hg hat; rw [← Ny409.out] at ho; have n0_ := Az.mk (Kd.S_over' (by (with_reducible repeat (first | apply Kd.S_alloc | apply Kd.S_drewN | apply Kd.S_drew)); exact (Kd.S_mono (Kd.S_far (p := ⟨gb408, 1, none⟩) (Kd.S_far (p := ⟨gb408, 0, none⟩) (Kd.S_types HO_4.out BK408.out (by decide)) (fun _ hk => hk.2) (.string t405)) (fun _ hk => hk.2) (.int .u64 t406)) (fun _ h_ => h_.1))) (Kd.R_typed (by (with_reducible repeat (first | apply Kd.R_alloc | apply Kd.R_drewN | apply Kd.R_drew)); exact (Kd.R_mono (Kd.R_far (p := ⟨gb408, 1, none⟩) (Kd.R_far (p := ⟨gb408, 0, none⟩) (Kd.R_mono HO_9.out (fun k_ hk => (⟨hk, hk.2⟩ : _ ∧ k_ ≠ gb408))) (fun _ hk => hk.2) (.string t405)) (fun _ hk => hk.2) (.int .u64 t406)) (fun _ h_ => h_.1)))) (by decide) hg); have n1_ := Az.mk (Kd.R_over' (by (with_reducible repeat (first | apply Kd.R_alloc | apply Kd.R_drewN | apply Kd.R_drew)); exact (Kd.R_mono (Kd.R_far (p := ⟨gb408, 1, none⟩) (Kd.R_far (p := ⟨gb408, 0, none⟩) (Kd.R_types HL400_0.out BK408.out (by decide)) (fun _ hk => hk.2) (.string t405)) (fun _ hk => hk.2) (.int .u64 t406)) (fun _ h_ => h_.1))) (Kd.R_typed (by (with_reducible repeat (first | apply Kd.R_alloc | apply Kd.R_drewN | apply Kd.R_drew)); exact (Kd.R_mono (Kd.R_far (p := ⟨gb408, 1, none⟩) (Kd.R_far (p := ⟨gb408, 0, none⟩) (Kd.R_mono HO_9.out (fun k_ hk => (⟨hk, hk.2⟩ : _ ∧ k_ ≠ gb408))) (fun _ hk => hk.2) (.string t405)) (fun _ hk => hk.2) (.int .u64 t406)) (fun _ h_ => h_.1)))) (by decide) hg); have n2_ := Az.mk (blk_grown (g := gb408) (o := .cells #[.string t405, .int .u64 t406] 41 (0, 0)) (by (with_reducible repeat (first | refine blk_drewN ?_ _ | refine blk_drew ?_ | refine blk_alloc ?_ _)); refine blk_put (cs := #[.string t405, .int .u64 0]) ?_ 1 _ rfl; (with_reducible repeat (first | refine blk_drewN ?_ _ | refine blk_drew ?_ | refine blk_alloc ?_ _)); refine blk_put (cs := #[.string (⟨#[]⟩ : ByteArray), .int .u64 0]) ?_ 0 _ rfl; (with_reducible repeat (first | refine blk_drewN ?_ _ | refine blk_drew ?_ | refine blk_alloc ?_ _)); exact BK408.out) hg (Kd.R_away HO_9.out (fun _ hk => hk.2))); have n3_ := Az.mk (hb); have n4_ := Az.mk (ho); clear HO_4; clear HL400_0; clear BK408; clear HB; clear HO_9; have HO_4 := n0_; have HL400_0 := n1_; have BK408 := n2_; have HB := n3_; have HO411 := n4_; clear n0_ n1_ n2_ n3_ n4_; clear ho hb hg hat; have hcz37_0 : w36.cell? ⟨gb408, 0, none⟩ = some (.string t405) := (blk_cell BK408.out 0).trans rfl; have hcz37_1 : w36.cell? ⟨gb408, 1, none⟩ = some (.int .u64 t406) := (blk_cell BK408.out 1).trans rfl; have hfz37_0 := blk_frozen BK408.out 0; have hfz37_1 := blk_frozen BK408.out 1))
                       go_roundg k4
                       case measure => have := HJ7.out; have := HK2.out; have := HJ16.out; have := HK4.out; omega
                       case rel => exact ⟨(y409), (wrap64 (x12_4 + t407)), (t405), (wrap64 (x15_4 + 1)), (es_), (es_), (es_), H', ⟨by have := HJ7.out; have := HK2.out; have := HJ16.out; have := HK4.out; omega⟩, ⟨sl_ HO_4.out⟩, ⟨by (with_reducible repeat (first | apply Kd.R_alloc | apply Kd.R_drewN | apply Kd.R_drew)); exact Kd.R_mono HO411.out (fun _ hk => trivial)⟩, ⟨by repeat (first | (with_reducible first | exact HB.out | apply below_alloc | apply pw_below_drewN | apply below_drew1 | refine below_set ?_ GE408.out) | exact HB.out)⟩⟩
                      ·rw [if_neg c31] at H
                       exact absurd H (by simp)
                    ·rw [if_neg c24] at H
                     exact absurd H (by simp)
                   ·rw [if_neg c23] at H
                    exact absurd H (by simp)
                  ·rw [if_neg c22] at H
                   exact absurd H (by simp)
                 ·rw [if_neg c21] at H
                  exact absurd H (by simp)
                ·rw [if_neg c20] at H
                 have c20b0 := decide_eq_false c20
                 clear c20
                 have H' := Az.mk H
                 clear H
                 go_wp2
                 go_roundg k4
                 case measure => have := HJ7.out; have := HK2.out; have := HJ16.out; have := HK4.out; omega
                 case rel => exact ⟨(x9_4), (wrap64 (x10_2 + 1)), (es_), H', ⟨by have := HJ7.out; have := HK2.out; have := HJ16.out; have := HK4.out; omega⟩, ⟨sl_ HO_4.out⟩, ⟨rl_ HO_9.out⟩, ⟨bl_ HB⟩⟩
          ·rw [if_neg c15] at H
           exact absurd H (by simp)
         ·rw [if_neg c14] at H
          exact absurd H (by simp)
        ·rw [if_neg c13] at H
         have c13b0 := decide_eq_false c13
         clear c13
         replace H := Option.bind_eq_some_iff.mp H
         obtain ⟨⟨t392, t393⟩, A380, H⟩ := H
         replace H : (if t393 = 0 then (if (strOfNums t392).toList = (strOfNums l0).toList then (some (x9_2, 0)) else (some (([] : List (S41)), 2))) else (some (([] : List (S41)), 2))) = some (r1, r2) := H
         have A38 := Az.mk A380
         clear A380
         by_cases c39 : t393 = 0
         ·rw [if_pos c39] at H
          have c39b0 : (t393 == 0) = true := beq_iff_eq.mpr c39
          have c39b1 : (t393 != 0) = false := bne_eq_false_iff_eq.mpr c39
          clear c39
          by_cases c40 : (strOfNums t392).toList = (strOfNums l0).toList
          ·rw [if_pos c40] at H
           have c40b0 : ((strOfNums t392).toList == (strOfNums l0).toList) = true := beq_iff_eq.mpr c40
           have c40b1 : ((strOfNums t392).toList != (strOfNums l0).toList) = false := bne_eq_false_iff_eq.mpr c40
           clear c40
           simp only [Option.some.injEq, Prod.mk.injEq] at H
           obtain ⟨rfl, rfl⟩ := H
           obtain ⟨Ao41, co41, eo41⟩ := Kd.R_slice HO_9.out
           subst eo41
           go_wp2_with (first | ((with_reducible refine gate_callee (f := 19) rfl ?_); refine goesL_ (some 96) rfl rfl Try.func19 (by kernel_rfl) rfl #[.slice Ao41 x9_2.length co41, .int .i64 (wrap64 (t389))] rfl ar_ ?_; (with_reducible refine (r09_Encode.calls k2 _ _ x9_2 (wrap64 (t389)) t392 t393 _ ?side1 ?side2 A38.out).mono ?_); (case side1 => exact cl_ (Kd.R_reads' HO_9.out).2.2); (case side2 => exact (Kd.R_reads' HO_9.out).2.1); rintro e w42 ⟨v394, rfl, ho0, hb⟩; refine ⟨_, rfl, ?_⟩; have n0_ := Az.mk (Kd.S_elder' (sl_ HO_4.out) (Kd.R_base ho0) hb); have n1_ := Az.mk (Kd.R_below (rl_ HO_9.out) hb); have n2_ := Az.mk (Kd.R_lower ho0 (below_size (bl_ HB))); have n3_ := Az.mk (below_step (bl_ HB) hb); clear HO_4; clear HO_9; clear HB; have HO_4 := n0_; have HO_9 := n1_; have HO395 := n2_; have HB := n3_; clear n0_ n1_ n2_ n3_; (try clear hb); (try clear hb2); (try clear hk); (try clear hi); (try clear ho0); have hcv43 := own_string (P := Try.prog) Try.underlying24 Try.underlying5 Try.underlying9 (Kd.own_of_R HO395.out); have hcv44 := Kd.C_string (P := Try.prog) (A := A0) (c := c0) Try.underlying24 Try.underlying5 Try.underlying9 (Kd.C_below HR0.out HB.out)))
           go_ret2
           exact ⟨_, er_, by (with_reducible repeat (first | apply Kd.R_alloc | apply Kd.R_drewN | apply Kd.R_drew)); exact HO_9.out, bl_ HB⟩
          ·rw [if_neg c40] at H
           have c40b0 : ((strOfNums t392).toList == (strOfNums l0).toList) = false := beq_eq_false_iff_ne.mpr c40
           have c40b1 : ((strOfNums t392).toList != (strOfNums l0).toList) = true := bne_iff_ne.mpr c40
           simp only [Option.some.injEq, Prod.mk.injEq] at H
           obtain ⟨rfl, rfl⟩ := H
           obtain ⟨Ao45, co45, eo45⟩ := Kd.R_slice HO_9.out
           subst eo45
           go_wp2_with (first | ((with_reducible refine gate_callee (f := 19) rfl ?_); refine goesL_ (some 96) rfl rfl Try.func19 (by kernel_rfl) rfl #[.slice Ao45 x9_2.length co45, .int .i64 (wrap64 (t389))] rfl ar_ ?_; (with_reducible refine (r09_Encode.calls k2 _ _ x9_2 (wrap64 (t389)) t392 t393 _ ?side1 ?side2 A38.out).mono ?_); (case side1 => exact cl_ (Kd.R_reads' HO_9.out).2.2); (case side2 => exact (Kd.R_reads' HO_9.out).2.1); rintro e w46 ⟨v394, rfl, ho0, hb⟩; refine ⟨_, rfl, ?_⟩; have n0_ := Az.mk (Kd.S_elder' (sl_ HO_4.out) (Kd.R_base ho0) hb); have n1_ := Az.mk (Kd.R_below (rl_ HO_9.out) hb); have n2_ := Az.mk (Kd.R_lower ho0 (below_size (bl_ HB))); have n3_ := Az.mk (below_step (bl_ HB) hb); clear HO_4; clear HO_9; clear HB; have HO_4 := n0_; have HO_9 := n1_; have HO395 := n2_; have HB := n3_; clear n0_ n1_ n2_ n3_; (try clear hb); (try clear hb2); (try clear hk); (try clear hi); (try clear ho0); have hcv47 := own_string (P := Try.prog) Try.underlying24 Try.underlying5 Try.underlying9 (Kd.own_of_R HO395.out); have hcv48 := Kd.C_string (P := Try.prog) (A := A0) (c := c0) Try.underlying24 Try.underlying5 Try.underlying9 (Kd.C_below HR0.out HB.out)))
           go_ret2
           exact ⟨_, er_, nl_, bl_ HB⟩
         ·rw [if_neg c39] at H
          have c39b0 : (t393 == 0) = false := beq_eq_false_iff_ne.mpr c39
          have c39b1 : (t393 != 0) = true := bne_iff_ne.mpr c39
          simp only [Option.some.injEq, Prod.mk.injEq] at H
          obtain ⟨rfl, rfl⟩ := H
          obtain ⟨Ao49, co49, eo49⟩ := Kd.R_slice HO_9.out
          subst eo49
          go_wp2_with (first | ((with_reducible refine gate_callee (f := 19) rfl ?_); refine goesL_ (some 96) rfl rfl Try.func19 (by kernel_rfl) rfl #[.slice Ao49 x9_2.length co49, .int .i64 (wrap64 (t389))] rfl ar_ ?_; (with_reducible refine (r09_Encode.calls k2 _ _ x9_2 (wrap64 (t389)) t392 t393 _ ?side1 ?side2 A38.out).mono ?_); (case side1 => exact cl_ (Kd.R_reads' HO_9.out).2.2); (case side2 => exact (Kd.R_reads' HO_9.out).2.1); rintro e w50 ⟨v394, rfl, ho0, hb⟩; refine ⟨_, rfl, ?_⟩; have n0_ := Az.mk (Kd.S_elder' (sl_ HO_4.out) (Kd.R_base ho0) hb); have n1_ := Az.mk (Kd.R_below (rl_ HO_9.out) hb); have n2_ := Az.mk (Kd.R_lower ho0 (below_size (bl_ HB))); have n3_ := Az.mk (below_step (bl_ HB) hb); clear HO_4; clear HO_9; clear HB; have HO_4 := n0_; have HO_9 := n1_; have HO395 := n2_; have HB := n3_; clear n0_ n1_ n2_ n3_; (try clear hb); (try clear hb2); (try clear hk); (try clear hi); (try clear ho0)))
          go_ret2
          exact ⟨_, er_, nl_, bl_ HB⟩
  ·rw [if_neg c6] at H
   exact absurd H (by simp)
def r08_At.l0 : Nat → List (S41) → ByteArray → Int → Option (Int)
 | 0, _, _, _ => none
 | k + 1, x0, x1, x5 => if x5 < (x0.length : Int) then (if 0 ≤ x5 then (if (Op.bytesLess (((rd_T41 x0 x5).f0).toList) x1.toList) = true then (r08_At.l0 k x0 x1 (wrap64 (x5 + 1))) else (some x5)) else (none)) else (some x5)
def r08_At.f (k : Nat) (l0 : List (S41)) (a1 : ByteArray) : Option (Int) := r08_At.l0 k l0 a1 0
theorem r08_At.mono_l : ∀ k, (∀ y0 y1 y2, LeO (r08_At.l0 k y0 y1 y2) (r08_At.l0 (k + 1) y0 y1 y2))
 | 0 => fun _ _ _ r h => by simp [r08_At.l0] at h
 | k + 1 => by
  have ih0 := r08_At.mono_l k
  ·intro y0 y1 y2
   unfold r08_At.l0
   repeat' first
   | (with_reducible exact ih0 _ _ _)
   | (with_reducible exact LeO.refl _)
   | (with_reducible exact LeO.none _)
   | (with_reducible refine LeO.ite ?_ ?_)
   | (with_reducible refine LeO.bind ?_ (fun _ => ?_))
   | exact ih0 _ _ _
   | exact LeO.none _
   | refine LeO.ite ?_ ?_
   | refine LeO.bind ?_ (fun _ => ?_)
theorem r08_At.mono : ∀ a0 a1 k, LeO (r08_At.f k a0 a1) (r08_At.f (k + 1) a0 a1) := by
 intro a0 a1 k
 have ih0 := r08_At.mono_l k
 unfold r08_At.f
 repeat' first
   | (with_reducible exact ih0 _ _ _)
   | (with_reducible exact LeO.refl _)
   | (with_reducible exact LeO.none _)
   | (with_reducible refine LeO.ite ?_ ?_)
   | (with_reducible refine LeO.bind ?_ (fun _ => ?_))
   | exact ih0 _ _ _
   | exact LeO.none _
   | refine LeO.ite ?_ ?_
   | refine LeO.bind ?_ (fun _ => ?_)
theorem r08_At.calls (k : Nat) (A0 : Option Addr) (c0 : Nat) (l0 : List (S41)) (a1 : ByteArray) (r : Int) (w : World) (hr0 : Kd.C k41 w A0 l0.length l0) (hc0 : l0.length ≤ c0) (h : r08_At.f k l0 a1 = some r) :
  Calls Try.prog 55 #[.slice A0 l0.length c0, .string a1] w fun e w' => e = .returned (.int .i64 r) ∧ Drawn0 w w' := by
 have HR0 := Az.mk hr0
 have HC0 := Az.mk hc0
 clear hr0 hc0
 have H : (r08_At.l0 k l0 a1 0) = some r := h
 clear h
 have H' := Az.mk H
 clear H
 go_enter Try.func55, Try.ntmps55
 go_wp2
 go_loopg [5] k (fun kq v5 w' => ∃ (x5_1 : Int), v5 = .int .i64 x5_1 ∧ Az (r08_At.l0 kq l0 a1 x5_1 = some r) ∧ Az (kq ≤ k) ∧ Drawn0 w w')
 case atStart => exact ⟨(0), (es_), H', ⟨Nat.le_refl _⟩, dw_⟩
 case round =>
  clear H'
  try clear p2
  obtain ⟨x5_1, rfl, HA, HK1, ⟨m1, rfl⟩⟩ := hrel
  cases gk with
  | zero => exact absurd HA.out (by simp [r08_At.l0])
  | succ k1 =>
   have H := HA.out
   clear HA
   simp only [r08_At.l0] at H
   by_cases c3 : x5_1 < (l0.length : Int)
   ·rw [if_pos c3] at H
    have c3b0 := decide_eq_true c3
    clear c3
    by_cases c4 : 0 ≤ x5_1
    ·rw [if_pos c4] at H
     have c4b0 := decide_eq_true c4
     clear c4
     by_cases c5 : (Op.bytesLess (((rd_T41 l0 x5_1).f0).toList) a1.toList) = true
     ·rw [if_pos c5] at H
      have c5b0 : (Op.bytesLess (((rd_T41 l0 x5_1).f0).toList) a1.toList) = true := c5
      clear c5
      have H' := Az.mk H
      clear H
      have p412 : 0 ≤ (x5_1 : Int) := of_decide_eq_true as_
      have q412 : x5_1 < (l0.length : Int) := of_decide_eq_true as_
      obtain ⟨ad412, e412, hx412_0, hx412_1⟩ := at_T41 HR0.out x5_1 p412 q412
      cases e412
      replace p412 := eq_true p412
      replace q412 := eq_true q412
      go_wp2
      go_roundg k1
      case measure => have := HK1.out; omega
      case rel => exact ⟨(wrap64 (x5_1 + 1)), (es_), H', ⟨by have := HK1.out; omega⟩, dw_⟩
     ·rw [if_neg c5] at H
      have c5b0 : (Op.bytesLess (((rd_T41 l0 x5_1).f0).toList) a1.toList) = false := by simpa using c5
      clear c5
      obtain rfl := Option.some.inj H
      have p412 : 0 ≤ (x5_1 : Int) := of_decide_eq_true as_
      have q412 : x5_1 < (l0.length : Int) := of_decide_eq_true as_
      obtain ⟨ad412, e412, hx412_0, hx412_1⟩ := at_T41 HR0.out x5_1 p412 q412
      cases e412
      replace p412 := eq_true p412
      replace q412 := eq_true q412
      go_wp2
      go_ret
      exact ⟨es_, dw_⟩
    ·rw [if_neg c4] at H
     exact absurd H (by simp)
   ·rw [if_neg c3] at H
    have c3b0 := decide_eq_false c3
    clear c3
    obtain rfl := Option.some.inj H
    go_wp2
    go_ret
    exact ⟨es_, dw_⟩
def r08_Get.f (k : Nat) (l0 : List (S41)) (a1 : ByteArray) : Option (Int) := (r08_At.f k l0 a1).bind fun t413 => (if t413 < (l0.length : Int) then (if 0 ≤ t413 then (if ((rd_T41 l0 t413).f0).toList = a1.toList then (some ((rd_T41 l0 t413).f1)) else (some 0)) else (none)) else (some 0))
theorem r08_Get.mono : ∀ a0 a1 k, LeO (r08_Get.f k a0 a1) (r08_Get.f (k + 1) a0 a1) := by
 intro a0 a1 k
 unfold r08_Get.f
 repeat' first
   | (with_reducible exact r08_At.mono _ _ _)
   | (with_reducible exact LeO.refl _)
   | (with_reducible exact LeO.none _)
   | (with_reducible refine LeO.ite ?_ ?_)
   | (with_reducible refine LeO.bind ?_ (fun _ => ?_))
   | exact r08_At.mono _ _ _
   | exact LeO.none _
   | refine LeO.ite ?_ ?_
   | refine LeO.bind ?_ (fun _ => ?_)
theorem r08_Get.calls (k : Nat) (A0 : Option Addr) (c0 : Nat) (l0 : List (S41)) (a1 : ByteArray) (r : Int) (w : World) (hr0 : Kd.C k41 w A0 l0.length l0) (hc0 : l0.length ≤ c0) (h : r08_Get.f k l0 a1 = some r) :
  Calls Try.prog 53 #[.slice A0 l0.length c0, .string a1] w fun e w' => e = .returned (.int .u64 r) ∧ Drawn0 w w' := by
 have HR0 := Az.mk hr0
 have HC0 := Az.mk hc0
 clear hr0 hc0
 have H : ((r08_At.f k l0 a1).bind fun t413 => (if t413 < (l0.length : Int) then (if 0 ≤ t413 then (if ((rd_T41 l0 t413).f0).toList = a1.toList then (some ((rd_T41 l0 t413).f1)) else (some 0)) else (none)) else (some 0))) = some r := h
 clear h
 replace H := Option.bind_eq_some_iff.mp H
 obtain ⟨t413, A30, H⟩ := H
 replace H : (if t413 < (l0.length : Int) then (if 0 ≤ t413 then (if ((rd_T41 l0 t413).f0).toList = a1.toList then (some ((rd_T41 l0 t413).f1)) else (some 0)) else (none)) else (some 0)) = some r := H
 have A3 := Az.mk A30
 clear A30
 by_cases c4 : t413 < (l0.length : Int)
 ·rw [if_pos c4] at H
  have c4b0 := decide_eq_true c4
  clear c4
  by_cases c5 : 0 ≤ t413
  ·rw [if_pos c5] at H
   have c5b0 := decide_eq_true c5
   clear c5
   by_cases c6 : ((rd_T41 l0 t413).f0).toList = a1.toList
   ·rw [if_pos c6] at H
    have c6b0 : (((rd_T41 l0 t413).f0).toList == a1.toList) = true := beq_iff_eq.mpr c6
    have c6b1 : (((rd_T41 l0 t413).f0).toList != a1.toList) = false := bne_eq_false_iff_eq.mpr c6
    clear c6
    obtain rfl := Option.some.inj H
    go_enter Try.func53, Try.ntmps53
    go_wp2_with (first | ((with_reducible refine gate_callee (f := 55) rfl ?_); refine goesL_ (some 8) rfl rfl Try.func55 (by kernel_rfl) rfl #[.slice A0 l0.length c0, .string a1] rfl ar_ ?_; (with_reducible refine (r08_At.calls k _ _ l0 a1 t413 _ ?side1 ?side2 A3.out).mono ?_); (case side1 => exact cl_ HR0.out); (case side2 => exact HC0.out); rintro e w' ⟨rfl, ⟨nd, rfl⟩⟩; refine ⟨_, rfl, ?_⟩; have p414 : 0 ≤ (t413 : Int) := of_decide_eq_true as_; have q414 : t413 < (l0.length : Int) := of_decide_eq_true as_; obtain ⟨ad414, e414, hx414_0, hx414_1⟩ := at_T41 HR0.out t413 p414 q414; cases e414; replace p414 := eq_true p414; replace q414 := eq_true q414; have p415 : 0 ≤ (t413 : Int) := of_decide_eq_true as_; have q415 : t413 < (l0.length : Int) := of_decide_eq_true as_; obtain ⟨ad415, e415, hx415_0, hx415_1⟩ := at_T41 HR0.out t413 p415 q415; obtain rfl : ad414 = ad415 := (by injection e415); replace p415 := eq_true p415; replace q415 := eq_true q415))
    go_ret
    exact ⟨es_, dw_⟩
   ·rw [if_neg c6] at H
    have c6b0 : (((rd_T41 l0 t413).f0).toList == a1.toList) = false := beq_eq_false_iff_ne.mpr c6
    have c6b1 : (((rd_T41 l0 t413).f0).toList != a1.toList) = true := bne_iff_ne.mpr c6
    obtain rfl := Option.some.inj H
    go_enter Try.func53, Try.ntmps53
    go_wp2_with (first | ((with_reducible refine gate_callee (f := 55) rfl ?_); refine goesL_ (some 8) rfl rfl Try.func55 (by kernel_rfl) rfl #[.slice A0 l0.length c0, .string a1] rfl ar_ ?_; (with_reducible refine (r08_At.calls k _ _ l0 a1 t413 _ ?side1 ?side2 A3.out).mono ?_); (case side1 => exact cl_ HR0.out); (case side2 => exact HC0.out); rintro e w' ⟨rfl, ⟨nd, rfl⟩⟩; refine ⟨_, rfl, ?_⟩; have p414 : 0 ≤ (t413 : Int) := of_decide_eq_true as_; have q414 : t413 < (l0.length : Int) := of_decide_eq_true as_; obtain ⟨ad414, e414, hx414_0, hx414_1⟩ := at_T41 HR0.out t413 p414 q414; cases e414; replace p414 := eq_true p414; replace q414 := eq_true q414))
    go_ret
    exact ⟨es_, dw_⟩
  ·rw [if_neg c5] at H
   exact absurd H (by simp)
 ·rw [if_neg c4] at H
  have c4b0 := decide_eq_false c4
  clear c4
  obtain rfl := Option.some.inj H
  go_enter Try.func53, Try.ntmps53
  go_wp2_with (first | ((with_reducible refine gate_callee (f := 55) rfl ?_); refine goesL_ (some 8) rfl rfl Try.func55 (by kernel_rfl) rfl #[.slice A0 l0.length c0, .string a1] rfl ar_ ?_; (with_reducible refine (r08_At.calls k _ _ l0 a1 t413 _ ?side1 ?side2 A3.out).mono ?_); (case side1 => exact cl_ HR0.out); (case side2 => exact HC0.out); rintro e w' ⟨rfl, ⟨nd, rfl⟩⟩; refine ⟨_, rfl, ?_⟩))
  go_ret
  exact ⟨es_, dw_⟩
end Go.Proofs.Ytiohnpphhepdfaa.PPa
end
section
namespace Go.Proofs.Ytiohnpphhepdfaa.PPa
open Go.RowKit Go.Proofs.YtiohnpphhepdfaaW.PrintWords Go.Proofs.YtiohnpphhepdfaaW.PrintLast Go.Proofs.YtiohnpphhepdfaaW.PrintMore
attribute [local go_sem] max2_int min2_int max_two min_two max_three min_three max_four min_four
attribute [local go_sem] Go.Proofs.Ytiohnpphhepdfaa.MoreWords.str_leq Go.Proofs.Ytiohnpphhepdfaa.MoreWords.str_gtr Go.Proofs.Ytiohnpphhepdfaa.MoreWords.str_geq
set_option maxHeartbeats 8000000
set_option maxRecDepth 100000
set_option linter.unusedVariables false
set_option linter.unusedSimpArgs false
def r01_Add.f (a0 : Int) (a1 : Int) : Option (Int × Bool) := if a0 > 4611686018427387904 then (some (0, false)) else (if a1 > 4611686018427387904 then (some (0, false)) else (if (IntKind.u64.wrap (a0 + a1)) > 4611686018427387904 then (some (0, false)) else (some (IntKind.u64.wrap (a0 + a1), true))))
theorem r01_Add.calls (a0 : Int) (a1 : Int) (r1 : Int) (r2 : Bool) (w : World) (h : r01_Add.f a0 a1 = some (r1, r2)) :
  Calls Try.prog 54 #[.int .u64 a0, .int .u64 a1] w fun e w' => e = .returned (.tuple #[.int .u64 r1, .bool r2]) ∧ Drawn0 w w' := by
 have H : (if a0 > 4611686018427387904 then (some (0, false)) else (if a1 > 4611686018427387904 then (some (0, false)) else (if (IntKind.u64.wrap (a0 + a1)) > 4611686018427387904 then (some (0, false)) else (some (IntKind.u64.wrap (a0 + a1), true))))) = some (r1, r2) := h
 clear h
 by_cases c3 : a0 > 4611686018427387904
 ·rw [if_pos c3] at H
  have c3b0 := decide_eq_true c3
  clear c3
  simp only [Option.some.injEq, Prod.mk.injEq] at H
  obtain ⟨rfl, rfl⟩ := H
  go_enter Try.func54, Try.ntmps54
  go_wp2
  go_ret2
  exact ⟨es_, dw_⟩
 ·rw [if_neg c3] at H
  have c3b0 := decide_eq_false c3
  clear c3
  by_cases c4 : a1 > 4611686018427387904
  ·rw [if_pos c4] at H
   have c4b0 := decide_eq_true c4
   clear c4
   simp only [Option.some.injEq, Prod.mk.injEq] at H
   obtain ⟨rfl, rfl⟩ := H
   go_enter Try.func54, Try.ntmps54
   go_wp2
   go_ret2
   exact ⟨es_, dw_⟩
  ·rw [if_neg c4] at H
   have c4b0 := decide_eq_false c4
   clear c4
   by_cases c5 : (IntKind.u64.wrap (a0 + a1)) > 4611686018427387904
   ·rw [if_pos c5] at H
    have c5b0 := decide_eq_true c5
    clear c5
    simp only [Option.some.injEq, Prod.mk.injEq] at H
    obtain ⟨rfl, rfl⟩ := H
    go_enter Try.func54, Try.ntmps54
    go_wp2
    go_ret2
    exact ⟨es_, dw_⟩
   ·rw [if_neg c5] at H
    have c5b0 := decide_eq_false c5
    clear c5
    simp only [Option.some.injEq, Prod.mk.injEq] at H
    obtain ⟨rfl, rfl⟩ := H
    go_enter Try.func54, Try.ntmps54
    go_wp2
    go_ret2
    exact ⟨es_, dw_⟩
def r08_Add.j0 : Nat → List (S41) → Int → ByteArray → Int → Bool → Option ((List (S41)) × Int)
 | 0, _, _, _, _, _ => none
 | k + 1, x0, x1, x2, x3, x22 => if x22 = true then (some (x0, 1)) else ((r08_Get.f k x0 x2).bind fun t416 => ((r01_Add.f t416 x3).bind fun bt417 => (if bt417.2 = true then ((r08_At.f k x0 x2).bind fun t419 => (if t416 > 0 then ((some (([] : List (S41)) : List (S41))).bind fun y420 => (if y420.length + x0.length < 5864062014805 then ((some (y420 ++ x0 : List (S41))).bind fun y423 => (if 0 ≤ t419 then (if t419 < (y423.length : Int) then (some ((y423.set (t419 : Int).toNat (⟨(rd_T41 y423 t419).f0, bt417.1⟩ : S41)), 0)) else (none)) else (none))) else (none))) else (if (x0.length : Int) ≥ x1 then (some (x0, 6)) else ((some (([] : List (S41)) : List (S41))).bind fun y427 => (if 0 ≤ t419 then (if t419 ≤ (x0.length : Int) then ((some (x0.take (t419 : Int).toNat : List (S41))).bind fun y430 => (if y427.length + y430.length < 5864062014805 then ((some (y427 ++ y430 : List (S41))).bind fun y434 => (if y434.length < 5864062014805 then ((some (y434 ++ [(⟨x2, bt417.1⟩ : S41)] : List (S41))).bind fun y437 => ((some (x0.drop (t419 : Int).toNat : List (S41))).bind fun y440 => (if y437.length + y440.length < 5864062014805 then (some ((y437 ++ y440), 0)) else (none)))) else (none))) else (none))) else (none)) else (none)))))) else (some (x0, 5)))))
def r08_Add.f (k : Nat) (l0 : List (S41)) (a1 : Int) (a2 : ByteArray) (a3 : Int) : Option ((List (S41)) × Int) := if (a2.size : Int) = 0 then (r08_Add.j0 k l0 a1 a2 a3 true) else (r08_Add.j0 k l0 a1 a2 a3 (a3 == 0))
theorem r08_Add.mono_l : ∀ k, (∀ y0 y1 y2 y3 y4, LeO (r08_Add.j0 k y0 y1 y2 y3 y4) (r08_Add.j0 (k + 1) y0 y1 y2 y3 y4))
 | 0 => fun _ _ _ _ _ r h => by simp [r08_Add.j0] at h
 | k + 1 => by
  have ih0 := r08_Add.mono_l k
  ·intro y0 y1 y2 y3 y4
   unfold r08_Add.j0
   repeat' first
   | (with_reducible exact ih0 _ _ _ _ _)
   | (with_reducible exact r08_At.mono _ _ _)
   | (with_reducible exact r08_Get.mono _ _ _)
   | (with_reducible exact LeO.refl _)
   | (with_reducible exact LeO.none _)
   | (with_reducible refine LeO.ite ?_ ?_)
   | (with_reducible refine LeO.bind ?_ (fun _ => ?_))
   | exact ih0 _ _ _ _ _
   | exact r08_At.mono _ _ _
   | exact r08_Get.mono _ _ _
   | exact LeO.none _
   | refine LeO.ite ?_ ?_
   | refine LeO.bind ?_ (fun _ => ?_)
theorem r08_Add.mono : ∀ a0 a1 a2 a3 k, LeO (r08_Add.f k a0 a1 a2 a3) (r08_Add.f (k + 1) a0 a1 a2 a3) := by
 intro a0 a1 a2 a3 k
 have ih0 := r08_Add.mono_l k
 unfold r08_Add.f
 repeat' first
   | (with_reducible exact ih0 _ _ _ _ _)
   | (with_reducible exact r08_At.mono _ _ _)
   | (with_reducible exact r08_Get.mono _ _ _)
   | (with_reducible exact LeO.refl _)
   | (with_reducible exact LeO.none _)
   | (with_reducible refine LeO.ite ?_ ?_)
   | (with_reducible refine LeO.bind ?_ (fun _ => ?_))
   | exact ih0 _ _ _ _ _
   | exact r08_At.mono _ _ _
   | exact r08_Get.mono _ _ _
   | exact LeO.none _
   | refine LeO.ite ?_ ?_
   | refine LeO.bind ?_ (fun _ => ?_)
theorem r08_Add.calls (k : Nat) (P0_ : Nat → Prop) (u9000_ : Value) (l0 : List (S41)) (a1 : Int) (a2 : ByteArray) (a3 : Int) (r1 : List (S41)) (r2 : Int) (w0 w : World) (hB : Below w0.heap.size w0 w) (ho0 : Kd.R k41 41 w w0.heap.size P0_ u9000_ l0) (h : r08_Add.f k l0 a1 a2 a3 = some (r1, r2)) :
  Calls Try.prog 38 #[u9000_, .int .i64 a1, .string a2, .int .u64 a3] w fun e w' => ∃ v0_ : Value, e = .returned (.tuple #[v0_, .int .i64 r2]) ∧ Kd.R k41 41 w' w0.heap.size (fun k_ => (P0_ k_ ∨ w.heap.size ≤ k_)) v0_ r1 ∧ Below w0.heap.size w0 w' ∧ Kept w w' (fun k_ => P0_ k_) := by
 have hu41 := Try.underlying41
 have HO0 := Az.mk (show Kd.R k41 41 w w0.heap.size (fun k_ => (P0_ k_ ∨ w.heap.size ≤ k_)) u9000_ l0 from Kd.R_mono ho0 (fun k_ hk => (.inl hk)))
 have HK := Az.mk (Kept.refl w (fun k_ => P0_ k_))
 have HW0 := Az.mk hB.size
 have HB := Az.mk hB
 clear hB
 have H : (if (a2.size : Int) = 0 then (r08_Add.j0 k l0 a1 a2 a3 true) else (r08_Add.j0 k l0 a1 a2 a3 (a3 == 0))) = some (r1, r2) := h
 clear h
 have HC5 := Az.mk H
 clear H
 go_enter Try.func38, Try.ntmps38
 go_upto_region 1 with (fail)
 go_cut [22] (fun v22 wc => ∃ (kq : Nat) (x22_4 : Bool), v22 = .bool x22_4 ∧ Az (r08_Add.j0 kq l0 a1 a2 a3 x22_4 = some (r1, r2)) ∧ Az (kq ≤ k) ∧ Az (Kd.R k41 41 wc w0.heap.size (fun k_ => (P0_ k_ ∨ w.heap.size ≤ k_)) u9000_ l0) ∧ Az (Kept w wc (fun k_ => P0_ k_)) ∧ Az (Below w0.heap.size w0 wc))
 case first =>
  have H := HC5.out
  clear HC5
  by_cases c6 : (a2.size : Int) = 0
  ·rw [if_pos c6] at H
   have c6b0 : ((a2.size : Int) == 0) = true := beq_iff_eq.mpr c6
   have c6b1 : ((a2.size : Int) != 0) = false := bne_eq_false_iff_eq.mpr c6
   clear c6
   (first | rw [c6b0] | (simp only [i64_w, i32_w]; rw [c6b0]) | skip)
   have H' := Az.mk H
   clear H
   go_wp2
   go_meet
   case rel => exact ⟨_, (true), (es_), H', ⟨by first | omega | exact Nat.le_refl _⟩, ⟨rl_ HO0.out⟩, ⟨by repeat (first | (with_reducible first | exact HK.out | apply Kept.alloc | apply Kept.drewN | apply Kept.drew) | exact HK.out)⟩, ⟨bl_ HB⟩⟩
  ·rw [if_neg c6] at H
   have c6b0 : ((a2.size : Int) == 0) = false := beq_eq_false_iff_ne.mpr c6
   have c6b1 : ((a2.size : Int) != 0) = true := bne_iff_ne.mpr c6
   (first | rw [c6b0] | (simp only [i64_w, i32_w]; rw [c6b0]) | skip)
   have H' := Az.mk H
   clear H
   go_wp2
   go_meet
   case rel => exact ⟨_, ((a3 == 0)), (es_), H', ⟨by first | omega | exact Nat.le_refl _⟩, ⟨rl_ HO0.out⟩, ⟨by repeat (first | (with_reducible first | exact HK.out | apply Kept.alloc | apply Kept.drewN | apply Kept.drew) | exact HK.out)⟩, ⟨bl_ HB⟩⟩
 case rest =>
  clear HC5
  try clear p2
  try clear c3
  try clear c6
  try clear c6b0
  try clear c6b1
  obtain ⟨kq, x22_4, rfl, HA, HJ4, HO_0, HK, HB⟩ := hcut
  cases kq with
  | zero => exact absurd HA.out (by simp [r08_Add.j0])
  | succ kj4 =>
   have H := HA.out
   clear HA
   simp only [r08_Add.j0] at H
   by_cases c7 : x22_4 = true
   ·subst c7
    have H1 : (some (l0, 1)) = some (r1, r2) := by rw [if_pos rfl] at H; exact H
    clear H
    have H := H1
    clear H1
    simp only [Option.some.injEq, Prod.mk.injEq] at H
    obtain ⟨rfl, rfl⟩ := H
    go_wp2
    go_ret2
    exact ⟨_, er_, by (with_reducible repeat (first | apply Kd.R_alloc | apply Kd.R_drewN | apply Kd.R_drew)); exact HO_0.out, bl_ HB, by repeat (first | (with_reducible first | exact HK.out | apply Kept.alloc | apply Kept.drewN | apply Kept.drew) | exact HK.out)⟩
   ·replace c7 := Bool.eq_false_iff.mpr c7
    subst c7
    have H1 : ((r08_Get.f kj4 l0 a2).bind fun t416 => ((r01_Add.f t416 a3).bind fun bt417 => (if bt417.2 = true then ((r08_At.f kj4 l0 a2).bind fun t419 => (if t416 > 0 then ((some (([] : List (S41)) : List (S41))).bind fun y420 => (if y420.length + l0.length < 5864062014805 then ((some (y420 ++ l0 : List (S41))).bind fun y423 => (if 0 ≤ t419 then (if t419 < (y423.length : Int) then (some ((y423.set (t419 : Int).toNat (⟨(rd_T41 y423 t419).f0, bt417.1⟩ : S41)), 0)) else (none)) else (none))) else (none))) else (if (l0.length : Int) ≥ a1 then (some (l0, 6)) else ((some (([] : List (S41)) : List (S41))).bind fun y427 => (if 0 ≤ t419 then (if t419 ≤ (l0.length : Int) then ((some (l0.take (t419 : Int).toNat : List (S41))).bind fun y430 => (if y427.length + y430.length < 5864062014805 then ((some (y427 ++ y430 : List (S41))).bind fun y434 => (if y434.length < 5864062014805 then ((some (y434 ++ [(⟨a2, bt417.1⟩ : S41)] : List (S41))).bind fun y437 => ((some (l0.drop (t419 : Int).toNat : List (S41))).bind fun y440 => (if y437.length + y440.length < 5864062014805 then (some ((y437 ++ y440), 0)) else (none)))) else (none))) else (none))) else (none)) else (none)))))) else (some (l0, 5))))) = some (r1, r2) := by rw [if_neg (show ¬ (false = true) by decide)] at H; exact H
    clear H
    have H := H1
    clear H1
    replace H := Option.bind_eq_some_iff.mp H
    obtain ⟨t416, A80, H⟩ := H
    replace H : ((r01_Add.f t416 a3).bind fun bt417 => (if bt417.2 = true then ((r08_At.f kj4 l0 a2).bind fun t419 => (if t416 > 0 then ((some (([] : List (S41)) : List (S41))).bind fun y420 => (if y420.length + l0.length < 5864062014805 then ((some (y420 ++ l0 : List (S41))).bind fun y423 => (if 0 ≤ t419 then (if t419 < (y423.length : Int) then (some ((y423.set (t419 : Int).toNat (⟨(rd_T41 y423 t419).f0, bt417.1⟩ : S41)), 0)) else (none)) else (none))) else (none))) else (if (l0.length : Int) ≥ a1 then (some (l0, 6)) else ((some (([] : List (S41)) : List (S41))).bind fun y427 => (if 0 ≤ t419 then (if t419 ≤ (l0.length : Int) then ((some (l0.take (t419 : Int).toNat : List (S41))).bind fun y430 => (if y427.length + y430.length < 5864062014805 then ((some (y427 ++ y430 : List (S41))).bind fun y434 => (if y434.length < 5864062014805 then ((some (y434 ++ [(⟨a2, bt417.1⟩ : S41)] : List (S41))).bind fun y437 => ((some (l0.drop (t419 : Int).toNat : List (S41))).bind fun y440 => (if y437.length + y440.length < 5864062014805 then (some ((y437 ++ y440), 0)) else (none)))) else (none))) else (none))) else (none)) else (none)))))) else (some (l0, 5)))) = some (r1, r2) := H
    have A8 := Az.mk A80
    clear A80
    replace H := Option.bind_eq_some_iff.mp H
    obtain ⟨⟨t417, t418⟩, A90, H⟩ := H
    replace H : (if t418 = true then ((r08_At.f kj4 l0 a2).bind fun t419 => (if t416 > 0 then ((some (([] : List (S41)) : List (S41))).bind fun y420 => (if y420.length + l0.length < 5864062014805 then ((some (y420 ++ l0 : List (S41))).bind fun y423 => (if 0 ≤ t419 then (if t419 < (y423.length : Int) then (some ((y423.set (t419 : Int).toNat (⟨(rd_T41 y423 t419).f0, t417⟩ : S41)), 0)) else (none)) else (none))) else (none))) else (if (l0.length : Int) ≥ a1 then (some (l0, 6)) else ((some (([] : List (S41)) : List (S41))).bind fun y427 => (if 0 ≤ t419 then (if t419 ≤ (l0.length : Int) then ((some (l0.take (t419 : Int).toNat : List (S41))).bind fun y430 => (if y427.length + y430.length < 5864062014805 then ((some (y427 ++ y430 : List (S41))).bind fun y434 => (if y434.length < 5864062014805 then ((some (y434 ++ [(⟨a2, t417⟩ : S41)] : List (S41))).bind fun y437 => ((some (l0.drop (t419 : Int).toNat : List (S41))).bind fun y440 => (if y437.length + y440.length < 5864062014805 then (some ((y437 ++ y440), 0)) else (none)))) else (none))) else (none))) else (none)) else (none)))))) else (some (l0, 5))) = some (r1, r2) := H
    have A9 := Az.mk A90
    clear A90
    by_cases c10 : t418 = true
    ·subst c10
     have H1 : ((r08_At.f kj4 l0 a2).bind fun t419 => (if t416 > 0 then ((some (([] : List (S41)) : List (S41))).bind fun y420 => (if y420.length + l0.length < 5864062014805 then ((some (y420 ++ l0 : List (S41))).bind fun y423 => (if 0 ≤ t419 then (if t419 < (y423.length : Int) then (some ((y423.set (t419 : Int).toNat (⟨(rd_T41 y423 t419).f0, t417⟩ : S41)), 0)) else (none)) else (none))) else (none))) else (if (l0.length : Int) ≥ a1 then (some (l0, 6)) else ((some (([] : List (S41)) : List (S41))).bind fun y427 => (if 0 ≤ t419 then (if t419 ≤ (l0.length : Int) then ((some (l0.take (t419 : Int).toNat : List (S41))).bind fun y430 => (if y427.length + y430.length < 5864062014805 then ((some (y427 ++ y430 : List (S41))).bind fun y434 => (if y434.length < 5864062014805 then ((some (y434 ++ [(⟨a2, t417⟩ : S41)] : List (S41))).bind fun y437 => ((some (l0.drop (t419 : Int).toNat : List (S41))).bind fun y440 => (if y437.length + y440.length < 5864062014805 then (some ((y437 ++ y440), 0)) else (none)))) else (none))) else (none))) else (none)) else (none)))))) = some (r1, r2) := by rw [if_pos rfl] at H; exact H
     clear H
     have H := H1
     clear H1
     replace H := Option.bind_eq_some_iff.mp H
     obtain ⟨t419, A110, H⟩ := H
     replace H : (if t416 > 0 then ((some (([] : List (S41)) : List (S41))).bind fun y420 => (if y420.length + l0.length < 5864062014805 then ((some (y420 ++ l0 : List (S41))).bind fun y423 => (if 0 ≤ t419 then (if t419 < (y423.length : Int) then (some ((y423.set (t419 : Int).toNat (⟨(rd_T41 y423 t419).f0, t417⟩ : S41)), 0)) else (none)) else (none))) else (none))) else (if (l0.length : Int) ≥ a1 then (some (l0, 6)) else ((some (([] : List (S41)) : List (S41))).bind fun y427 => (if 0 ≤ t419 then (if t419 ≤ (l0.length : Int) then ((some (l0.take (t419 : Int).toNat : List (S41))).bind fun y430 => (if y427.length + y430.length < 5864062014805 then ((some (y427 ++ y430 : List (S41))).bind fun y434 => (if y434.length < 5864062014805 then ((some (y434 ++ [(⟨a2, t417⟩ : S41)] : List (S41))).bind fun y437 => ((some (l0.drop (t419 : Int).toNat : List (S41))).bind fun y440 => (if y437.length + y440.length < 5864062014805 then (some ((y437 ++ y440), 0)) else (none)))) else (none))) else (none))) else (none)) else (none))))) = some (r1, r2) := H
     have A11 := Az.mk A110
     clear A110
     by_cases c12 : t416 > 0
     ·rw [if_pos c12] at H
      have c12b0 := decide_eq_true c12
      clear c12
      obtain ⟨y420, hy420⟩ : ∃ y_ : List (S41), y_ = (([] : List (S41))) := ⟨_, rfl⟩
      replace H : (if y420.length + l0.length < 5864062014805 then ((some (y420 ++ l0 : List (S41))).bind fun y423 => (if 0 ≤ t419 then (if t419 < (y423.length : Int) then (some ((y423.set (t419 : Int).toNat (⟨(rd_T41 y423 t419).f0, t417⟩ : S41)), 0)) else (none)) else (none))) else (none)) = some (r1, r2) := hr_ hy420 H
      have Ny420 := Az.mk hy420
      clear hy420
      by_cases c13 : y420.length + l0.length < 5864062014805
      ·rw [if_pos c13] at H
       have LMc13 := Az.mk c13
       clear c13
       obtain ⟨y423, hy423⟩ : ∃ y_ : List (S41), y_ = (y420 ++ l0) := ⟨_, rfl⟩
       replace H : (if 0 ≤ t419 then (if t419 < (y423.length : Int) then (some ((y423.set (t419 : Int).toNat (⟨(rd_T41 y423 t419).f0, t417⟩ : S41)), 0)) else (none)) else (none)) = some (r1, r2) := hr_ hy423 H
       have Ny423 := Az.mk hy423
       clear hy423
       by_cases c14 : 0 ≤ t419
       ·rw [if_pos c14] at H
        have c14b0 := decide_eq_true c14
        clear c14
        by_cases c15 : t419 < (y423.length : Int)
        ·rw [if_pos c15] at H
         have c15b0 := decide_eq_true c15
         clear c15
         obtain ⟨y426, hy426⟩ : ∃ y_ : List (S41), y_ = (y423.set (t419 : Int).toNat (⟨(rd_T41 y423 t419).f0, t417⟩ : S41)) := ⟨_, rfl⟩
         replace H : (some (y426, 0)) = some (r1, r2) := hr_ hy426 H
         have Ny426 := Az.mk hy426
         clear hy426
         simp only [Option.some.injEq, Prod.mk.injEq] at H
         obtain ⟨rfl, rfl⟩ := H
         obtain ⟨Ao17, co17, eo17⟩ := Kd.R_slice HO_0.out
         subst eo17
         go_wp2_with (first | ((with_reducible refine gate_callee (f := 53) rfl ?_); refine goesL_ (some 26) rfl rfl Try.func53 (by kernel_rfl) rfl #[.slice Ao17 l0.length co17, .string a2] rfl ar_ ?_; (with_reducible refine (r08_Get.calls kj4 _ _ l0 a2 t416 _ ?side1 ?side2 A8.out).mono ?_); (case side1 => exact cl_ (Kd.R_reads' HO_0.out).2.2); (case side2 => exact (Kd.R_reads' HO_0.out).2.1); rintro e w' ⟨rfl, ⟨nd, rfl⟩⟩; refine ⟨_, rfl, ?_⟩; (try (rw [drewN_self wc]; generalize hq_ : World.drewN wc _ = wc; have n0_ : Az (Kd.R k41 41 wc w0.heap.size (fun k_ => (P0_ k_ ∨ w.heap.size ≤ k_)) (.slice Ao17 l0.length co17) l0) := ⟨by rw [← hq_]; exact (rl_ HO_0.out)⟩; have n1_ : Az (Kept w wc (fun k_ => P0_ k_)) := ⟨by rw [← hq_]; exact (by repeat (first | (with_reducible first | exact HK.out | apply Kept.alloc | apply Kept.drewN | apply Kept.drew) | exact HK.out))⟩; have n2_ : Az (Below w0.heap.size w0 wc) := ⟨by rw [← hq_]; exact (bl_ HB)⟩; clear HO_0 HK HB hq_; have HO_0 := n0_; have HK := n1_; have HB := n2_; clear n0_ n1_ n2_))) | ((with_reducible refine gate_callee (f := 54) rfl ?_); refine goesL_ (some 30) rfl rfl Try.func54 (by kernel_rfl) rfl #[.int .u64 t416, .int .u64 a3] rfl ar_ ?_; (with_reducible refine (r01_Add.calls t416 a3 t417 true _ A9.out).mono ?_); rintro e w' ⟨rfl, ⟨nd, rfl⟩⟩; refine ⟨_, rfl, ?_⟩; (try (rw [drewN_self wc]; generalize hq_ : World.drewN wc _ = wc; have n0_ : Az (Kd.R k41 41 wc w0.heap.size (fun k_ => (P0_ k_ ∨ w.heap.size ≤ k_)) (.slice Ao17 l0.length co17) l0) := ⟨by rw [← hq_]; exact (rl_ HO_0.out)⟩; have n1_ : Az (Kept w wc (fun k_ => P0_ k_)) := ⟨by rw [← hq_]; exact (by repeat (first | (with_reducible first | exact HK.out | apply Kept.alloc | apply Kept.drewN | apply Kept.drew) | exact HK.out))⟩; have n2_ : Az (Below w0.heap.size w0 wc) := ⟨by rw [← hq_]; exact (bl_ HB)⟩; clear HO_0 HK HB hq_; have HO_0 := n0_; have HK := n1_; have HB := n2_; clear n0_ n1_ n2_))) | ((with_reducible refine gate_callee (f := 55) rfl ?_); refine goesL_ (some 38) rfl rfl Try.func55 (by kernel_rfl) rfl #[.slice Ao17 l0.length co17, .string a2] rfl ar_ ?_; (with_reducible refine (r08_At.calls kj4 _ _ l0 a2 t419 _ ?side1 ?side2 A11.out).mono ?_); (case side1 => exact cl_ (Kd.R_reads' HO_0.out).2.2); (case side2 => exact (Kd.R_reads' HO_0.out).2.1); rintro e w' ⟨rfl, ⟨nd, rfl⟩⟩; refine ⟨_, rfl, ?_⟩; (try (rw [drewN_self wc]; generalize hq_ : World.drewN wc _ = wc; have n0_ : Az (Kd.R k41 41 wc w0.heap.size (fun k_ => (P0_ k_ ∨ w.heap.size ≤ k_)) (.slice Ao17 l0.length co17) l0) := ⟨by rw [← hq_]; exact (rl_ HO_0.out)⟩; have n1_ : Az (Kept w wc (fun k_ => P0_ k_)) := ⟨by rw [← hq_]; exact (by repeat (first | (with_reducible first | exact HK.out | apply Kept.alloc | apply Kept.drewN | apply Kept.drew) | exact HK.out))⟩; have n2_ : Az (Below w0.heap.size w0 wc) := ⟨by rw [← hq_]; exact (bl_ HB)⟩; clear HO_0 HK HB hq_; have HO_0 := n0_; have HK := n1_; have HB := n2_; clear n0_ n1_ n2_))) | ((with_reducible refine gate_dst (N := 41) rfl ?_); refine Kd.R_lit k41 _ 41 ?hg (N := 41) ?hd (xs := ([] : List (S41))) (inner := []) (ok := fun _ => True) (okp := fun _ => True) ?hr ?hp (fun _ hk => hk) trivial (Below.refl _ _) (Nat.le_refl _) (by simp) ?_; (case hd => rfl); (case hg => rfl); (case hr => first | (go_simp; done) | (go_simp; rfl)); (case hp => exact (Reps.none _ _)); intro v421 w18 ho19 hb hg_ hnew_; clear hg_ hnew_; (first | rw [← Ny420.out] at ho19 | (simp only [Int.reduceToNat] at ho19; rw [← Ny420.out] at ho19)); have n0_ := Az.mk (Kd.R_elder' (rl_ HO_0.out) (Kd.R_base ho19) hb); have n1_ := Az.mk (Kd.R_lower (Kd.R_new' (Kd.R_newM (M := fun k_ => (P0_ k_ ∨ w.heap.size ≤ k_)) ho19 (by first | exact HK.out.1 | exact (show Kept w _ (fun k_ => P0_ k_) from by repeat (first | (with_reducible first | exact HK.out | apply Kept.alloc | apply Kept.drewN | apply Kept.drew) | exact HK.out)).1) (fun k_ h_ => .inr h_)) (Kd.R_lt (rl_ HO_0.out))) (below_size (bl_ HB))); have n2_ := Az.mk (Kept.below (S := (fun k_ => P0_ k_)) (by repeat (first | (with_reducible first | exact HK.out | apply Kept.alloc | apply Kept.drewN | apply Kept.drew) | exact HK.out)) hb); have n3_ := Az.mk (below_step (bl_ HB) hb); clear HO_0; clear HK; clear HB; have HO_0 := n0_; have HO422 := n1_; have HK := n2_; have HB := n3_; clear n0_ n1_ n2_ n3_; clear hb ho19) | ((with_reducible refine gate_builtin (b := .append) (xs := #[.tmp 41, .tmp 42]) rfl ?_); at_builtin; refine Kd.R_append_rows k41 (w0 := w0) w0.heap.size rfl (.tmp 41) (.tmp 42) 36 41 (.agg #[(.string ⟨#[]⟩), (.int .u64 0)]) 24 rfl Try.underlying36 info41 rfl (by decide) (by omega) v421 y420 l0 _ _ _ (fun k_ => (P0_ k_ ∨ w.heap.size ≤ k_) ∧ some k_ ≠ (.slice Ao17 l0.length co17 : Value).ownBlock) (fun _ => False) rfl rfl ?aO ?aR (fun _ _ h => h) (fun _ h => h.elim) ?aF ?aB ?aS ?aL ?_; (case aR => exact cl_ (Kd.R_reads' HO_0.out).2.2); (case aB => exact (bl_ HB)); (case aF => exact (fun k_ hk => ⟨(.inr (Nat.le_trans (by first | exact HK.out.1 | exact (show Kept w _ (fun k_ => P0_ k_) from by repeat (first | (with_reducible first | exact HK.out | apply Kept.alloc | apply Kept.drewN | apply Kept.drew) | exact HK.out)).1) hk)), Kd.fresh' (Kd.R_lt (rl_ HO_0.out)) k_ hk⟩)); (case aO => exact (by (with_reducible repeat (first | apply Kd.R_alloc | apply Kd.R_drewN | apply Kd.R_drew)); exact Kd.R_mono HO422.out (fun _ hk => ⟨hk.1.1, hk.2⟩))); (case aS => exact (below_size (bl_ HB))); (case aL => have := LMc13.out; omega); intro v424 w20 ho hb hg hat; rw [← Ny423.out] at ho; have n0_ := Az.mk (Kd.R_after (ok := (fun k_ => (P0_ k_ ∨ w.heap.size ≤ k_))) (rl_ HO_0.out) hg hat); have n1_ := Az.mk (hb); have n2_ := Az.mk (Kept.of_grown (S := (fun k_ => P0_ k_)) hg (by repeat (first | (with_reducible first | exact HK.out | apply Kept.alloc | apply Kept.drewN | apply Kept.drew) | exact HK.out)) (fun k_ e_ => (HO422.out.1 k_ e_).1.1)); have n3_ := Az.mk (ho); clear HO_0; clear HB; clear HK; clear HO422; have HO_0 := n0_; have HB := n1_; have HK := n2_; have HO425 := n3_; clear n0_ n1_ n2_ n3_; clear ho hb hg hat; have p16 : 0 ≤ (t419 : Int) := of_decide_eq_true as_; have q16 : (t419 : Int) < ((y423.length : Int) : Int) := of_decide_eq_true as_; obtain ⟨go16, co16, eo16, gb16, gl16, cl16, HG16⟩ := Kd.R_form HO425.out (by omega); (first | cases eo16 | (injection eo16 with ea_ en_ ec_; (first | subst ea_ | (injection ea_ with ea_; subst ea_)); subst ec_; clear en_)); have GB16 := Az.mk gb16; have GG16 := Az.mk HG16; clear gb16 gl16 HG16; have HMgo16 := Az.mk (show (P0_ go16 ∨ w.heap.size ≤ go16) from (HO425.out.1 _ rfl).1); obtain ⟨ce16, hcl16, hM16, hcc16, hfr16⟩ := Kd.R_elem HO425.out z41 (t419 : Int) p16 q16; obtain rfl := k41_openM hM16; have hx16_0 : w20.cell? ⟨go16, (t419 : Int).toNat * 2, none⟩ = some (.string ((rd_T41 y423 t419).f0)) := hcc16 0 _ rfl; have hx16_1 : w20.cell? ⟨go16, (t419 : Int).toNat * 2 + 1, none⟩ = some (.int .u64 ((rd_T41 y423 t419).f1)) := hcc16 1 _ rfl; have hf16_0 : w20.frozen? ⟨go16, (t419 : Int).toNat * 2, none⟩ = false := hfr16 0; have hf16_1 : w20.frozen? ⟨go16, (t419 : Int).toNat * 2 + 1, none⟩ = false := hfr16 1; clear hcl16 hcc16 hfr16 hM16; replace p16 := eq_true p16; replace q16 := eq_true q16; have HX21 := Az.mk (show Kd.R k41 41 w20 w0.heap.size (fun k_ => (P0_ k_ ∨ w.heap.size ≤ k_) ∧ some k_ ≠ (.slice Ao17 l0.length co17 : Value).ownBlock) (.slice (some ⟨go16, 0, none⟩) y423.length co16) y423 from (rl_ HO425.out)); obtain ⟨ce21, hcl21, hM21, hcc21, hfr21⟩ := Kd.R_elem HX21.out z41 (t419 : Int) (of_decide_eq_true as_) (by have h_ : (t419 : Int) < ((y423.length : Int) : Int) := of_decide_eq_true as_; first | exact h_ | (have e_ := (Kd.R_reads' HO425.out).1; omega) | simpa using h_); obtain rfl := k41_openM hM21; have HP21 := Kd.R_seg HX21.out (t419 : Int) (of_decide_eq_true as_) (by have h_ : (t419 : Int) < ((y423.length : Int) : Int) := of_decide_eq_true as_; first | exact h_ | (have e_ := (Kd.R_reads' HO425.out).1; omega) | simpa using h_) (seg := [.int .u64 t417]) (j := 1) hcl21 hcc21 (show 2 ≤ 2 from by decide) (x' := (⟨(rd_T41 y423 t419).f0, t417⟩ : S41)) (k41_mkM _ _ _ (⟨(rd_T41 y423 t419).f0, t417⟩ : S41) ) (fun _ hk => hk); have hx21_1 := hcc21 1 _ rfl; (try simp only [show (k41).sz = 2 from rfl, Nat.mul_one, Nat.add_zero] at hx21_1); have hf21_1 := hfr21 1; (try simp only [show (k41).sz = 2 from rfl, Nat.mul_one, Nat.add_zero] at hf21_1); clear hcl21 hcc21 hfr21 hM21) | ((with_reducible refine gate_store (t := 39) (p := 48) rfl ?_); refine store_event (t := 39) (p := 48) (v := ?vo_w22) (w1 := (w20.setCell ⟨go16, (t419 : Int).toNat * 2 + 1, none⟩ (.int .u64 t417))) ?hg ?ho ?hn ?hr ?_; (case ho => rfl); (case hg => rfl); (case hn => rfl); (case hr => first | (go_simp; done) | (go_simp; rfl)); intro w22 hw; have hg : w20.grownBy w22 (some go16) := (by rw [hw]; exact HP21.2); have hp_ : Kd.R k41 41 w22 w0.heap.size (fun k_ => (P0_ k_ ∨ w.heap.size ≤ k_) ∧ some k_ ≠ (.slice Ao17 l0.length co17 : Value).ownBlock) (.slice (some ⟨go16, 0, none⟩) y423.length co16) y426 := (by rw [hw, Ny426.out]; exact HP21.1); clear HP21; have n0_ := Az.mk (Kd.R_after (v := (.slice (some ⟨go16, 0, none⟩) y423.length co16)) (v1 := (.slice (some ⟨go16, 0, none⟩) y423.length co16)) (ok := (fun k_ => (P0_ k_ ∨ w.heap.size ≤ k_))) (rl_ HO_0.out) hg (.inl rfl)); have n1_ := Az.mk (hp_); have n2_ := Az.mk ((by rw [hw]; exact below_set (HB.out) GB16.out : Below w0.heap.size w0 w22)); have n3_ := Az.mk (Kept.of_grown (S := (fun k_ => P0_ k_)) hg (by repeat (first | (with_reducible first | exact HK.out | apply Kept.alloc | apply Kept.drewN | apply Kept.drew) | exact HK.out)) (fun k_ e_ => (HO425.out.1 k_ e_).1)); clear HO_0; clear HO425; clear HB; clear HK; have HO_0 := n0_; have HO425 := n1_; have HB := n2_; have HK := n3_; clear n0_ n1_ n2_ n3_; clear hg hw hp_))
         go_ret2
         exact ⟨_, er_, by (with_reducible repeat (first | apply Kd.R_alloc | apply Kd.R_drewN | apply Kd.R_drew)); exact Kd.R_mono HO425.out (fun _ hk => hk.1), bl_ HB, by repeat (first | (with_reducible first | exact HK.out | apply Kept.alloc | apply Kept.drewN | apply Kept.drew) | exact HK.out)⟩
        ·rw [if_neg c15] at H
         exact absurd H (by simp)
       ·rw [if_neg c14] at H
        exact absurd H (by simp)
      ·rw [if_neg c13] at H
       exact absurd H (by simp)
     ·rw [if_neg c12] at H
      have c12b0 := decide_eq_false c12
      clear c12
      by_cases c23 : (l0.length : Int) ≥ a1
      ·rw [if_pos c23] at H
       have c23b0 := decide_eq_true c23
       clear c23
       simp only [Option.some.injEq, Prod.mk.injEq] at H
       obtain ⟨rfl, rfl⟩ := H
       obtain ⟨Ao24, co24, eo24⟩ := Kd.R_slice HO_0.out
       subst eo24
       go_wp2_with (first | ((with_reducible refine gate_callee (f := 53) rfl ?_); refine goesL_ (some 26) rfl rfl Try.func53 (by kernel_rfl) rfl #[.slice Ao24 l0.length co24, .string a2] rfl ar_ ?_; (with_reducible refine (r08_Get.calls kj4 _ _ l0 a2 t416 _ ?side1 ?side2 A8.out).mono ?_); (case side1 => exact cl_ (Kd.R_reads' HO_0.out).2.2); (case side2 => exact (Kd.R_reads' HO_0.out).2.1); rintro e w' ⟨rfl, ⟨nd, rfl⟩⟩; refine ⟨_, rfl, ?_⟩) | ((with_reducible refine gate_callee (f := 54) rfl ?_); refine goesL_ (some 30) rfl rfl Try.func54 (by kernel_rfl) rfl #[.int .u64 t416, .int .u64 a3] rfl ar_ ?_; (with_reducible refine (r01_Add.calls t416 a3 t417 true _ A9.out).mono ?_); rintro e w' ⟨rfl, ⟨nd, rfl⟩⟩; refine ⟨_, rfl, ?_⟩) | ((with_reducible refine gate_callee (f := 55) rfl ?_); refine goesL_ (some 38) rfl rfl Try.func55 (by kernel_rfl) rfl #[.slice Ao24 l0.length co24, .string a2] rfl ar_ ?_; (with_reducible refine (r08_At.calls kj4 _ _ l0 a2 t419 _ ?side1 ?side2 A11.out).mono ?_); (case side1 => exact cl_ (Kd.R_reads' HO_0.out).2.2); (case side2 => exact (Kd.R_reads' HO_0.out).2.1); rintro e w' ⟨rfl, ⟨nd, rfl⟩⟩; refine ⟨_, rfl, ?_⟩))
       go_ret2
       exact ⟨_, er_, by (with_reducible repeat (first | apply Kd.R_alloc | apply Kd.R_drewN | apply Kd.R_drew)); exact HO_0.out, bl_ HB, by repeat (first | (with_reducible first | exact HK.out | apply Kept.alloc | apply Kept.drewN | apply Kept.drew) | exact HK.out)⟩
      ·rw [if_neg c23] at H
       have c23b0 := decide_eq_false c23
       clear c23
       obtain ⟨y427, hy427⟩ : ∃ y_ : List (S41), y_ = (([] : List (S41))) := ⟨_, rfl⟩
       replace H : (if 0 ≤ t419 then (if t419 ≤ (l0.length : Int) then ((some (l0.take (t419 : Int).toNat : List (S41))).bind fun y430 => (if y427.length + y430.length < 5864062014805 then ((some (y427 ++ y430 : List (S41))).bind fun y434 => (if y434.length < 5864062014805 then ((some (y434 ++ [(⟨a2, t417⟩ : S41)] : List (S41))).bind fun y437 => ((some (l0.drop (t419 : Int).toNat : List (S41))).bind fun y440 => (if y437.length + y440.length < 5864062014805 then (some ((y437 ++ y440), 0)) else (none)))) else (none))) else (none))) else (none)) else (none)) = some (r1, r2) := hr_ hy427 H
       have Ny427 := Az.mk hy427
       clear hy427
       by_cases c25 : 0 ≤ t419
       ·rw [if_pos c25] at H
        have c25b0 := eq_true c25
        have c25b1 := decide_eq_true c25
        clear c25
        by_cases c26 : t419 ≤ (l0.length : Int)
        ·rw [if_pos c26] at H
         have c26b0 := eq_true c26
         have c26b1 := decide_eq_true c26
         clear c26
         obtain ⟨y430, hy430⟩ : ∃ y_ : List (S41), y_ = (l0.take (t419 : Int).toNat) := ⟨_, rfl⟩
         replace H : (if y427.length + y430.length < 5864062014805 then ((some (y427 ++ y430 : List (S41))).bind fun y434 => (if y434.length < 5864062014805 then ((some (y434 ++ [(⟨a2, t417⟩ : S41)] : List (S41))).bind fun y437 => ((some (l0.drop (t419 : Int).toNat : List (S41))).bind fun y440 => (if y437.length + y440.length < 5864062014805 then (some ((y437 ++ y440), 0)) else (none)))) else (none))) else (none)) = some (r1, r2) := hr_ hy430 H
         have Ny430 := Az.mk hy430
         clear hy430
         by_cases c27 : y427.length + y430.length < 5864062014805
         ·rw [if_pos c27] at H
          have LMc27 := Az.mk c27
          clear c27
          obtain ⟨y434, hy434⟩ : ∃ y_ : List (S41), y_ = (y427 ++ y430) := ⟨_, rfl⟩
          replace H : (if y434.length < 5864062014805 then ((some (y434 ++ [(⟨a2, t417⟩ : S41)] : List (S41))).bind fun y437 => ((some (l0.drop (t419 : Int).toNat : List (S41))).bind fun y440 => (if y437.length + y440.length < 5864062014805 then (some ((y437 ++ y440), 0)) else (none)))) else (none)) = some (r1, r2) := hr_ hy434 H
          have Ny434 := Az.mk hy434
          clear hy434
          by_cases c28 : y434.length < 5864062014805
          ·rw [if_pos c28] at H
           have LMc28 := Az.mk c28
           clear c28
           obtain ⟨y437, hy437⟩ : ∃ y_ : List (S41), y_ = (y434 ++ [(⟨a2, t417⟩ : S41)]) := ⟨_, rfl⟩
           replace H : ((some (l0.drop (t419 : Int).toNat : List (S41))).bind fun y440 => (if y437.length + y440.length < 5864062014805 then (some ((y437 ++ y440), 0)) else (none))) = some (r1, r2) := hr_ hy437 H
           have Ny437 := Az.mk hy437
           clear hy437
           have c29b0 := eq_true (of_decide_eq_true as_ : 0 ≤ t419)
           have c30b0 := eq_true (of_decide_eq_true as_ : t419 ≤ (l0.length : Int))
           obtain ⟨y440, hy440⟩ : ∃ y_ : List (S41), y_ = (l0.drop (t419 : Int).toNat) := ⟨_, rfl⟩
           replace H : (if y437.length + y440.length < 5864062014805 then (some ((y437 ++ y440), 0)) else (none)) = some (r1, r2) := hr_ hy440 H
           have Ny440 := Az.mk hy440
           clear hy440
           by_cases c31 : y437.length + y440.length < 5864062014805
           ·rw [if_pos c31] at H
            have LMc31 := Az.mk c31
            clear c31
            obtain ⟨y444, hy444⟩ : ∃ y_ : List (S41), y_ = (y437 ++ y440) := ⟨_, rfl⟩
            replace H : (some (y444, 0)) = some (r1, r2) := hr_ hy444 H
            have Ny444 := Az.mk hy444
            clear hy444
            simp only [Option.some.injEq, Prod.mk.injEq] at H
            obtain ⟨rfl, rfl⟩ := H
            obtain ⟨Ao32, co32, eo32⟩ := Kd.R_slice HO_0.out
            subst eo32
            go_wp2_with (first | ((with_reducible refine gate_callee (f := 53) rfl ?_); refine goesL_ (some 26) rfl rfl Try.func53 (by kernel_rfl) rfl #[.slice Ao32 l0.length co32, .string a2] rfl ar_ ?_; (with_reducible refine (r08_Get.calls kj4 _ _ l0 a2 t416 _ ?side1 ?side2 A8.out).mono ?_); (case side1 => exact cl_ (Kd.R_reads' HO_0.out).2.2); (case side2 => exact (Kd.R_reads' HO_0.out).2.1); rintro e w' ⟨rfl, ⟨nd, rfl⟩⟩; refine ⟨_, rfl, ?_⟩) | ((with_reducible refine gate_callee (f := 54) rfl ?_); refine goesL_ (some 30) rfl rfl Try.func54 (by kernel_rfl) rfl #[.int .u64 t416, .int .u64 a3] rfl ar_ ?_; (with_reducible refine (r01_Add.calls t416 a3 t417 true _ A9.out).mono ?_); rintro e w' ⟨rfl, ⟨nd, rfl⟩⟩; refine ⟨_, rfl, ?_⟩) | ((with_reducible refine gate_callee (f := 55) rfl ?_); refine goesL_ (some 38) rfl rfl Try.func55 (by kernel_rfl) rfl #[.slice Ao32 l0.length co32, .string a2] rfl ar_ ?_; (with_reducible refine (r08_At.calls kj4 _ _ l0 a2 t419 _ ?side1 ?side2 A11.out).mono ?_); (case side1 => exact cl_ (Kd.R_reads' HO_0.out).2.2); (case side2 => exact (Kd.R_reads' HO_0.out).2.1); rintro e w' ⟨rfl, ⟨nd, rfl⟩⟩; refine ⟨_, rfl, ?_⟩) | ((with_reducible refine gate_dst (N := 55) rfl ?_); refine Kd.R_lit k41 _ 41 ?hg (N := 55) ?hd (xs := ([] : List (S41))) (inner := []) (ok := fun _ => True) (okp := fun _ => True) ?hr ?hp (fun _ hk => hk) trivial (Below.refl _ _) (Nat.le_refl _) (by simp) ?_; (case hd => rfl); (case hg => rfl); (case hr => first | (go_simp; done) | (go_simp; rfl)); (case hp => exact (Reps.none _ _)); intro v428 w33 ho34 hb hg_ hnew_; clear hg_ hnew_; (first | rw [← Ny427.out] at ho34 | (simp only [Int.reduceToNat] at ho34; rw [← Ny427.out] at ho34)); have n0_ := Az.mk (Kd.R_elder' (rl_ HO_0.out) (Kd.R_base ho34) hb); have n1_ := Az.mk (Kd.R_lower (Kd.R_new' (Kd.R_newM (M := fun k_ => (P0_ k_ ∨ w.heap.size ≤ k_)) ho34 (by first | exact HK.out.1 | exact (show Kept w _ (fun k_ => P0_ k_) from by repeat (first | (with_reducible first | exact HK.out | apply Kept.alloc | apply Kept.drewN | apply Kept.drew) | exact HK.out)).1) (fun k_ h_ => .inr h_)) (Kd.R_lt (rl_ HO_0.out))) (below_size (bl_ HB))); have n2_ := Az.mk (Kept.below (S := (fun k_ => P0_ k_)) (by repeat (first | (with_reducible first | exact HK.out | apply Kept.alloc | apply Kept.drewN | apply Kept.drew) | exact HK.out)) hb); have n3_ := Az.mk (below_step (bl_ HB) hb); clear HO_0; clear HK; clear HB; have HO_0 := n0_; have HO429 := n1_; have HK := n2_; have HB := n3_; clear n0_ n1_ n2_ n3_; clear hb ho34; have q35 : (t419 : Int) ≤ ((l0.length : Int) : Int) := of_decide_eq_true as_; obtain ⟨i035, hi035, _, hsz35, _⟩ := info_parts info41; have hroom35 : l0.length ≤ co32 := (Kd.R_reads' HO_0.out).2.1; have hC35 : Kd.C k41 _ Ao32 l0.length l0 := (Kd.R_reads' HO_0.out).2.2; have hcut35 := cut_to (P := Try.prog) 36 41 .i64 Try.underlying36 hi035 Ao32 l0.length co32 t419 (of_decide_eq_true as_) q35 hroom35; have hr35 := Kd.C_take (m := (t419 : Int).toNat) hC35 (by omega); have hy35 : y430.length = (t419 : Int).toNat := (by rw [Ny430.out, List.length_take]; omega); rw [← Ny430.out] at hr35; rw [← hy35] at hcut35; have HR433 := Az.mk hr35; have HC433 := Az.mk (show y430.length ≤ co32 from by omega); clear hr35 hC35 hroom35 hi035 hsz35; have KY35 := Az.mk hy35; clear hy35; have KL35 := Az.mk (show (t419 : Int).toNat ≤ l0.length from by omega); replace q35 := eq_true q35) | ((with_reducible refine gate_builtin (b := .append) (xs := #[.tmp 55, .tmp 58]) rfl ?_); at_builtin; refine Kd.R_append_rows k41 (w0 := w0) w0.heap.size rfl (.tmp 55) (.tmp 58) 36 41 (.agg #[(.string ⟨#[]⟩), (.int .u64 0)]) 24 rfl Try.underlying36 info41 rfl (by decide) (by omega) v428 y427 y430 _ _ _ (fun k_ => (P0_ k_ ∨ w.heap.size ≤ k_) ∧ some k_ ≠ (.slice Ao32 l0.length co32 : Value).ownBlock) (fun _ => False) rfl rfl ?aO ?aR (fun _ _ h => h) (fun _ h => h.elim) ?aF ?aB ?aS ?aL ?_; (case aR => repeat (first | exact (by repeat (first | (with_reducible exact HR433.out) | (with_reducible refine Kd.C_alloc ?_ _) | (with_reducible refine Kd.C_drewN ?_ _) | (with_reducible refine Kd.C_drew ?_) | exact HR433.out)) | (with_reducible refine Kd.C_alloc ?_ _) | (with_reducible refine Kd.C_drewN ?_ _) | (with_reducible refine Kd.C_drew ?_))); (case aB => exact (bl_ HB)); (case aF => exact (fun k_ hk => ⟨(.inr (Nat.le_trans (by first | exact HK.out.1 | exact (show Kept w _ (fun k_ => P0_ k_) from by repeat (first | (with_reducible first | exact HK.out | apply Kept.alloc | apply Kept.drewN | apply Kept.drew) | exact HK.out)).1) hk)), Kd.fresh' (Kd.R_lt (rl_ HO_0.out)) k_ hk⟩)); (case aO => exact (by (with_reducible repeat (first | apply Kd.R_alloc | apply Kd.R_drewN | apply Kd.R_drew)); exact Kd.R_mono HO429.out (fun _ hk => ⟨hk.1.1, hk.2⟩))); (case aS => exact (below_size (bl_ HB))); (case aL => have := LMc27.out; omega); intro v435 w36 ho hb hg hat; rw [← Ny434.out] at ho; have n0_ := Az.mk (Kd.R_after (ok := (fun k_ => (P0_ k_ ∨ w.heap.size ≤ k_))) (rl_ HO_0.out) hg hat); have n1_ := Az.mk (hb); have n2_ := Az.mk (Kept.of_grown (S := (fun k_ => P0_ k_)) hg (by repeat (first | (with_reducible first | exact HK.out | apply Kept.alloc | apply Kept.drewN | apply Kept.drew) | exact HK.out)) (fun k_ e_ => (HO429.out.1 k_ e_).1.1)); have n3_ := Az.mk ((show Kd.C k41 w36 Ao32 y430.length y430 from by rw [Ny430.out]; exact Kd.C_take (m := (t419 : Int).toNat) ((Kd.R_reads' (Kd.R_after (ok := (fun k_ => (P0_ k_ ∨ w.heap.size ≤ k_))) (rl_ HO_0.out) hg hat)).2.2) KL35.out)); have n4_ := Az.mk (ho); clear HO_0; clear HB; clear HK; clear HR433; clear HO429; have HO_0 := n0_; have HB := n1_; have HK := n2_; have HR433 := n3_; have HO436 := n4_; clear n0_ n1_ n2_ n3_ n4_; clear ho hb hg hat) | ((with_reducible refine gate_builtin (b := .append) (xs := #[.tmp 60, .tmp 64]) rfl ?_); at_builtin; refine Kd.R_append k41 (w0 := w0) w0.heap.size rfl (.tmp 60) (.tmp 64) 36 41 (.agg #[(.string ⟨#[]⟩), (.int .u64 0)]) 24 rfl Try.underlying36 info41 rfl (by decide) (by omega) v435 y434 (⟨a2, t417⟩ : S41) [.string a2, .int .u64 t417] (fun k_ => (P0_ k_ ∨ w.heap.size ≤ k_) ∧ some k_ ≠ (.slice Ao32 l0.length co32 : Value).ownBlock) (fun _ => False) rfl rfl ?aP (fun _ hk => hk.elim) ?aF ?aO ?aB ?aS ?aL ?_; (case aP => exact k41_mkM _ _ _ (⟨a2, t417⟩ : S41)); (case aB => exact (bl_ HB)); (case aF => exact (fun k_ hk => ⟨(.inr (Nat.le_trans (by first | exact HK.out.1 | exact (show Kept w _ (fun k_ => P0_ k_) from by repeat (first | (with_reducible first | exact HK.out | apply Kept.alloc | apply Kept.drewN | apply Kept.drew) | exact HK.out)).1) hk)), Kd.fresh' (Kd.R_lt (rl_ HO_0.out)) k_ hk⟩)); (case aO => exact (rl_ HO436.out)); (case aS => exact (below_size (bl_ HB))); (case aL => have := LMc28.out; omega); intro v438 w37 ho hb hg hat; rw [← Ny437.out] at ho; have n0_ := Az.mk (Kd.R_after (ok := (fun k_ => (P0_ k_ ∨ w.heap.size ≤ k_))) (rl_ HO_0.out) hg hat); have n1_ := Az.mk (hb); have n2_ := Az.mk (Kept.of_grown (S := (fun k_ => P0_ k_)) hg (by repeat (first | (with_reducible first | exact HK.out | apply Kept.alloc | apply Kept.drewN | apply Kept.drew) | exact HK.out)) (fun k_ e_ => (HO436.out.1 k_ e_).1)); have n3_ := Az.mk ((show Kd.C k41 w37 Ao32 y430.length y430 from by rw [Ny430.out]; exact Kd.C_take (m := (t419 : Int).toNat) ((Kd.R_reads' (Kd.R_after (ok := (fun k_ => (P0_ k_ ∨ w.heap.size ≤ k_))) (rl_ HO_0.out) hg hat)).2.2) KL35.out)); have n4_ := Az.mk (ho); clear HO_0; clear HB; clear HK; clear HR433; clear HO436; have HO_0 := n0_; have HB := n1_; have HK := n2_; have HR433 := n3_; have HO439 := n4_; clear n0_ n1_ n2_ n3_ n4_; clear ho hb hg hat; have q38 : (t419 : Int) ≤ ((l0.length : Int) : Int) := of_decide_eq_true as_; obtain ⟨i038, hi038, _, hsz38, _⟩ := info_parts info41; have hroom38 : l0.length ≤ co32 := (Kd.R_reads' HO_0.out).2.1; have hC38 : Kd.C k41 _ Ao32 l0.length l0 := (Kd.R_reads' HO_0.out).2.2; have q038 : (0 : Int) ≤ (t419 : Int) := of_decide_eq_true as_; have hcut38 := cut_from (P := Try.prog) 36 41 .i64 Try.underlying36 hi038 2 hsz38 Ao32 l0.length co32 t419 q038 q38; have hr38 := Kd.C_drop (m := (t419 : Int).toNat) (c := co32) hC38 (by omega) hroom38; obtain ⟨A38, hA38⟩ : ∃ A1, A1 = (if co32 = (t419 : Int).toNat then Ao32 else (Ao32 : Option Addr).map (·.add ((t419 : Int).toNat * 2))) := ⟨_, rfl⟩; obtain ⟨c38, hc38⟩ : ∃ c1, c1 = co32 - (t419 : Int).toNat := ⟨_, rfl⟩; have hy38 : y440.length = l0.length - (t419 : Int).toNat := (by rw [Ny440.out, List.length_drop] <;> omega); rw [show (l0).drop (t419 : Int).toNat = y440 from Ny440.out.symm] at hr38; replace hr38 : Kd.C k41 _ A38 y440.length y440 := (by rw [hA38]; exact hr38); rw [← hy38, ← hA38, ← hc38] at hcut38; have HR443 := Az.mk hr38; have HC443 := Az.mk (show y440.length ≤ c38 from by rw [hy38, hc38]; exact Nat.sub_le_sub_right hroom38 _); clear hr38 hC38 hroom38 hi038 hsz38 hc38; have KY38 := Az.mk hy38; have KA38 := Az.mk hA38; clear hy38 hA38; have KL38 := Az.mk (show (t419 : Int).toNat ≤ l0.length from by omega); replace q38 := eq_true q38) | ((with_reducible refine gate_builtin (b := .append) (xs := #[.tmp 66, .tmp 69]) rfl ?_); at_builtin; refine Kd.R_append_rows k41 (w0 := w0) w0.heap.size rfl (.tmp 66) (.tmp 69) 36 41 (.agg #[(.string ⟨#[]⟩), (.int .u64 0)]) 24 rfl Try.underlying36 info41 rfl (by decide) (by omega) v438 y437 y440 _ _ _ (fun k_ => (P0_ k_ ∨ w.heap.size ≤ k_) ∧ some k_ ≠ (.slice Ao32 l0.length co32 : Value).ownBlock) (fun _ => False) rfl rfl ?aO ?aR (fun _ _ h => h) (fun _ h => h.elim) ?aF ?aB ?aS ?aL ?_; (case aR => repeat (first | exact (by repeat (first | (with_reducible exact HR443.out) | (with_reducible refine Kd.C_alloc ?_ _) | (with_reducible refine Kd.C_drewN ?_ _) | (with_reducible refine Kd.C_drew ?_) | exact HR443.out)) | (with_reducible refine Kd.C_alloc ?_ _) | (with_reducible refine Kd.C_drewN ?_ _) | (with_reducible refine Kd.C_drew ?_))); (case aB => exact (bl_ HB)); (case aF => exact (fun k_ hk => ⟨(.inr (Nat.le_trans (by first | exact HK.out.1 | exact (show Kept w _ (fun k_ => P0_ k_) from by repeat (first | (with_reducible first | exact HK.out | apply Kept.alloc | apply Kept.drewN | apply Kept.drew) | exact HK.out)).1) hk)), Kd.fresh' (Kd.R_lt (rl_ HO_0.out)) k_ hk⟩)); (case aO => exact (rl_ HO439.out)); (case aS => exact (below_size (bl_ HB))); (case aL => have := LMc31.out; omega); intro v445 w39 ho hb hg hat; rw [← Ny444.out] at ho; have n0_ := Az.mk (Kd.R_after (ok := (fun k_ => (P0_ k_ ∨ w.heap.size ≤ k_))) (rl_ HO_0.out) hg hat); have n1_ := Az.mk (hb); have n2_ := Az.mk (Kept.of_grown (S := (fun k_ => P0_ k_)) hg (by repeat (first | (with_reducible first | exact HK.out | apply Kept.alloc | apply Kept.drewN | apply Kept.drew) | exact HK.out)) (fun k_ e_ => (HO439.out.1 k_ e_).1)); have n3_ := Az.mk ((show Kd.C k41 w39 Ao32 y430.length y430 from by rw [Ny430.out]; exact Kd.C_take (m := (t419 : Int).toNat) ((Kd.R_reads' (Kd.R_after (ok := (fun k_ => (P0_ k_ ∨ w.heap.size ≤ k_))) (rl_ HO_0.out) hg hat)).2.2) KL35.out)); have n4_ := Az.mk ((show Kd.C k41 w39 A38 y440.length y440 from by rw [Ny440.out, KA38.out]; exact Kd.C_drop (m := (t419 : Int).toNat) (c := co32) ((Kd.R_reads' (Kd.R_after (ok := (fun k_ => (P0_ k_ ∨ w.heap.size ≤ k_))) (rl_ HO_0.out) hg hat)).2.2) KL38.out ((Kd.R_reads' (Kd.R_after (ok := (fun k_ => (P0_ k_ ∨ w.heap.size ≤ k_))) (rl_ HO_0.out) hg hat)).2.1))); have n5_ := Az.mk (ho); clear HO_0; clear HB; clear HK; clear HR433; clear HR443; clear HO439; have HO_0 := n0_; have HB := n1_; have HK := n2_; have HR433 := n3_; have HR443 := n4_; have HO446 := n5_; clear n0_ n1_ n2_ n3_ n4_ n5_; clear ho hb hg hat))
            go_ret2
            exact ⟨_, er_, by (with_reducible repeat (first | apply Kd.R_alloc | apply Kd.R_drewN | apply Kd.R_drew)); exact Kd.R_mono HO446.out (fun _ hk => hk.1), bl_ HB, by repeat (first | (with_reducible first | exact HK.out | apply Kept.alloc | apply Kept.drewN | apply Kept.drew) | exact HK.out)⟩
           ·rw [if_neg c31] at H
            exact absurd H (by simp)
          ·rw [if_neg c28] at H
           exact absurd H (by simp)
         ·rw [if_neg c27] at H
          exact absurd H (by simp)
        ·rw [if_neg c26] at H
         exact absurd H (by simp)
       ·rw [if_neg c25] at H
        exact absurd H (by simp)
    ·replace c10 := Bool.eq_false_iff.mpr c10
     subst c10
     have H1 : (some (l0, 5)) = some (r1, r2) := by rw [if_neg (show ¬ (false = true) by decide)] at H; exact H
     clear H
     have H := H1
     clear H1
     simp only [Option.some.injEq, Prod.mk.injEq] at H
     obtain ⟨rfl, rfl⟩ := H
     obtain ⟨Ao40, co40, eo40⟩ := Kd.R_slice HO_0.out
     subst eo40
     go_wp2_with (first | ((with_reducible refine gate_callee (f := 53) rfl ?_); refine goesL_ (some 26) rfl rfl Try.func53 (by kernel_rfl) rfl #[.slice Ao40 l0.length co40, .string a2] rfl ar_ ?_; (with_reducible refine (r08_Get.calls kj4 _ _ l0 a2 t416 _ ?side1 ?side2 A8.out).mono ?_); (case side1 => exact cl_ (Kd.R_reads' HO_0.out).2.2); (case side2 => exact (Kd.R_reads' HO_0.out).2.1); rintro e w' ⟨rfl, ⟨nd, rfl⟩⟩; refine ⟨_, rfl, ?_⟩) | ((with_reducible refine gate_callee (f := 54) rfl ?_); refine goesL_ (some 30) rfl rfl Try.func54 (by kernel_rfl) rfl #[.int .u64 t416, .int .u64 a3] rfl ar_ ?_; (with_reducible refine (r01_Add.calls t416 a3 t417 false _ A9.out).mono ?_); rintro e w' ⟨rfl, ⟨nd, rfl⟩⟩; refine ⟨_, rfl, ?_⟩))
     go_ret2
     exact ⟨_, er_, by (with_reducible repeat (first | apply Kd.R_alloc | apply Kd.R_drewN | apply Kd.R_drew)); exact HO_0.out, bl_ HB, by repeat (first | (with_reducible first | exact HK.out | apply Kept.alloc | apply Kept.drewN | apply Kept.drew) | exact HK.out)⟩
end Go.Proofs.Ytiohnpphhepdfaa.PPa
end
