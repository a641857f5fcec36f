/- Parts of the proof, merged by a program of this session. -/
import Derived.Test.YtnabhfegbnfabaaPkReaderPlaysa
import Derived.Test.YtnabhfegbnfabaaPkReaderPlaysb
section
namespace Go.Proofs.Ytnabhfegbnfabaa.PRd
open Go.RowKit Go.Proofs.YtnabhfegbnfabaaW.PrintWords Go.Proofs.YtnabhfegbnfabaaW.PrintLast Go.Proofs.YtnabhfegbnfabaaW.PrintMore
attribute [local go_sem] max2_int min2_int max_two min_two max_three min_three max_four min_four
attribute [local go_sem] Go.Proofs.Ytnabhfegbnfabaa.MoreWords.str_leq Go.Proofs.Ytnabhfegbnfabaa.MoreWords.str_gtr Go.Proofs.Ytnabhfegbnfabaa.MoreWords.str_geq
set_option maxHeartbeats 8000000
set_option maxRecDepth 100000
set_option linter.unusedVariables false
set_option linter.unusedSimpArgs false
mutual
def r02_More.l0 : Nat → Int → List Int → Int → Option (Int)
 | 0, _, _, _ => none
 | k + 1, x0, x1, x5 => if x5 < (x1.length : Int) then (if 0 ≤ x5 then (r02_More.l1 k (Go.bits .xor .u32 x0 ((rd x1 x5) % 4294967296)) x1 x5 0) else (none)) else (some ((4294967295 - x0) % 4294967296))
def r02_More.l1 : Nat → Int → List Int → Int → Int → Option (Int)
 | 0, _, _, _, _ => none
 | k + 1, x0, x1, x5, x6 => if x6 < 8 then (if (Int.tmod x0 2) = 1 then (r02_More.l1 k (Go.bits .xor .u32 ((Int.tdiv x0 2) % 4294967296) 3988292384) x1 x5 (wrap64 (x6 + 1))) else (r02_More.l1 k ((Int.tdiv x0 2) % 4294967296) x1 x5 (wrap64 (x6 + 1)))) else (r02_More.l0 k x0 x1 (wrap64 (x5 + 1)))
end
def r02_More.f (k : Nat) (a0 : Int) (l1 : List Int) : Option (Int) := r02_More.l0 k ((4294967295 - a0) % 4294967296) l1 0
theorem r02_More.mono_l : ∀ k, (∀ y0 y1 y2, LeO (r02_More.l0 k y0 y1 y2) (r02_More.l0 (k + 1) y0 y1 y2)) ∧ (∀ y0 y1 y2 y3, LeO (r02_More.l1 k y0 y1 y2 y3) (r02_More.l1 (k + 1) y0 y1 y2 y3))
 | 0 => ⟨fun _ _ _ r h => by simp [r02_More.l0] at h, fun _ _ _ _ r h => by simp [r02_More.l1] at h⟩
 | k + 1 => by
  obtain ⟨ih0, ih1⟩ := r02_More.mono_l k
  refine ⟨?_, ?_⟩
  ·intro y0 y1 y2
   unfold r02_More.l0
   repeat' first
   | (with_reducible exact ih0 _ _ _)
   | (with_reducible exact ih1 _ _ _ _)
   | (with_reducible exact LeO.refl _)
   | (with_reducible exact LeO.none _)
   | (with_reducible refine LeO.ite ?_ ?_)
   | (with_reducible refine LeO.bind ?_ (fun _ => ?_))
   | exact ih0 _ _ _
   | exact ih1 _ _ _ _
   | exact LeO.none _
   | refine LeO.ite ?_ ?_
   | refine LeO.bind ?_ (fun _ => ?_)
  ·intro y0 y1 y2 y3
   unfold r02_More.l1
   repeat' first
   | (with_reducible exact ih0 _ _ _)
   | (with_reducible exact ih1 _ _ _ _)
   | (with_reducible exact LeO.refl _)
   | (with_reducible exact LeO.none _)
   | (with_reducible refine LeO.ite ?_ ?_)
   | (with_reducible refine LeO.bind ?_ (fun _ => ?_))
   | exact ih0 _ _ _
   | exact ih1 _ _ _ _
   | exact LeO.none _
   | refine LeO.ite ?_ ?_
   | refine LeO.bind ?_ (fun _ => ?_)
theorem r02_More.mono : ∀ a0 a1 k, LeO (r02_More.f k a0 a1) (r02_More.f (k + 1) a0 a1) := by
 intro a0 a1 k
 obtain ⟨ih0, ih1⟩ := r02_More.mono_l k
 unfold r02_More.f
 repeat' first
   | (with_reducible exact ih0 _ _ _)
   | (with_reducible exact ih1 _ _ _ _)
   | (with_reducible exact LeO.refl _)
   | (with_reducible exact LeO.none _)
   | (with_reducible refine LeO.ite ?_ ?_)
   | (with_reducible refine LeO.bind ?_ (fun _ => ?_))
   | exact ih0 _ _ _
   | exact ih1 _ _ _ _
   | exact LeO.none _
   | refine LeO.ite ?_ ?_
   | refine LeO.bind ?_ (fun _ => ?_)
theorem r02_More.calls (k : Nat) (a0 : Int) (A1 : Option Addr) (c1 : Nat) (l1 : List Int) (r : Int) (w : World) (hr1 : Kd.C (Kd.int .u8) w A1 l1.length l1) (hc1 : l1.length ≤ c1) (h : r02_More.f k a0 l1 = some r) :
  Calls Try.prog 52 #[.int .u32 a0, .slice A1 l1.length c1] w fun e w' => e = .returned (.int .u32 r) ∧ Drawn0 w w' := by
 have HR1 := Az.mk hr1
 have HC1 := Az.mk hc1
 clear hr1 hc1
 have H : (r02_More.l0 k ((4294967295 - a0) % 4294967296) l1 0) = some r := h
 clear h
 have H' := Az.mk H
 clear H
 go_enter Try.func52, Try.ntmps52
 go_wp2
 go_loopg [0, 5] k (fun kq v0 v5 w' => ∃ (x0_1 : Int) (x5_1 : Int), v0 = .int .u32 x0_1 ∧ v5 = .int .i64 x5_1 ∧ Az (r02_More.l0 kq x0_1 l1 x5_1 = some r) ∧ Az (kq ≤ k) ∧ Drawn0 w w')
 case atStart => exact ⟨((4294967295 - a0) % 4294967296), (0), (es_), (es_), H', ⟨Nat.le_refl _⟩, dw_⟩
 case round =>
  clear H'
  try clear c1
  try clear p2
  obtain ⟨x0_1, x5_1, rfl, rfl, HA, HK1, ⟨m1, rfl⟩⟩ := hrel
  cases gk with
  | zero => exact absurd HA.out (by simp [r02_More.l0])
  | succ k1 =>
   have H := HA.out
   clear HA
   simp only [r02_More.l0] at H
   by_cases c3 : x5_1 < (l1.length : Int)
   ·rw [if_pos c3] at H
    have c3b0 := decide_eq_true c3
    clear c3
    by_cases c4 : 0 ≤ x5_1
    ·rw [if_pos c4] at H
     have c4b0 := decide_eq_true c4
     clear c4
     have H' := Az.mk H
     clear H
     have p222 : 0 ≤ (x5_1 : Int) := of_decide_eq_true as_
     have q222 : x5_1 < (l1.length : Int) := of_decide_eq_true as_
     obtain ⟨ad222, e222, hx222_0⟩ := Kd.at_int HR1.out x5_1 p222 q222
     cases e222
     replace p222 := eq_true p222
     replace q222 := eq_true q222
     go_wp2
     go_loopg [0, 6] k1 (fun kq v0 v6 w' => ∃ (x0_2 : Int) (x6_2 : Int), v0 = .int .u32 x0_2 ∧ v6 = .int .i64 x6_2 ∧ Az (r02_More.l1 kq x0_2 l1 x5_1 x6_2 = some r) ∧ Az (kq ≤ k1) ∧ Drawn0 w w')
     case atStart => exact ⟨(Go.bits .xor .u32 x0_1 ((rd l1 x5_1) % 4294967296)), (0), (es_), (es_), H', ⟨Nat.le_refl _⟩, dw_⟩
     case round =>
      clear H'
      try clear c1
      try clear p2
      try clear q2
      try clear hx2
      try clear c3
      try clear c3b0
      try clear c4
      try clear c4b0
      try clear hx222_0
      try clear p2
      try clear p222
      try clear q222
      obtain ⟨x0_2, x6_2, rfl, rfl, HA, HK2, ⟨m2, rfl⟩⟩ := hrel
      cases gk with
      | zero => exact absurd HA.out (by simp [r02_More.l1])
      | succ k2 =>
       have H := HA.out
       clear HA
       simp only [r02_More.l1] at H
       by_cases c5 : x6_2 < 8
       ·rw [if_pos c5] at H
        have c5b0 := decide_eq_true c5
        clear c5
        by_cases c6 : (Int.tmod x0_2 2) = 1
        ·rw [if_pos c6] at H
         have c6b0 : ((Int.tmod x0_2 2) == 1) = true := beq_iff_eq.mpr c6
         have c6b1 : ((Int.tmod x0_2 2) != 1) = false := bne_eq_false_iff_eq.mpr c6
         clear c6
         have H' := Az.mk H
         clear H
         go_wp2
         go_roundg k2
         case measure => have := HK1.out; have := HK2.out; omega
         case rel => exact ⟨(Go.bits .xor .u32 ((Int.tdiv x0_2 2) % 4294967296) 3988292384), (wrap64 (x6_2 + 1)), (es_), (es_), H', ⟨by have := HK1.out; have := HK2.out; omega⟩, dw_⟩
        ·rw [if_neg c6] at H
         have c6b0 : ((Int.tmod x0_2 2) == 1) = false := beq_eq_false_iff_ne.mpr c6
         have c6b1 : ((Int.tmod x0_2 2) != 1) = true := bne_iff_ne.mpr c6
         have H' := Az.mk H
         clear H
         go_wp2
         go_roundg k2
         case measure => have := HK1.out; have := HK2.out; omega
         case rel => exact ⟨((Int.tdiv x0_2 2) % 4294967296), (wrap64 (x6_2 + 1)), (es_), (es_), H', ⟨by have := HK1.out; have := HK2.out; omega⟩, dw_⟩
       ·rw [if_neg c5] at H
        have c5b0 := decide_eq_false c5
        clear c5
        have H' := Az.mk H
        clear H
        go_wp2
        go_roundg k2
        case measure => have := HK1.out; have := HK2.out; omega
        case rel => exact ⟨(x0_2), (wrap64 (x5_1 + 1)), (es_), (es_), H', ⟨by have := HK1.out; have := HK2.out; omega⟩, dw_⟩
    ·rw [if_neg c4] at H
     exact absurd H (by simp)
   ·rw [if_neg c3] at H
    have c3b0 := decide_eq_false c3
    clear c3
    obtain rfl := Option.some.inj H
    go_wp2
    go_ret
    exact ⟨es_, dw_⟩
def r02_Of.f (k : Nat) (l0 : List Int) : Option (Int) := (r02_More.f k 0 l0).bind fun t223 => (some t223)
theorem r02_Of.mono : ∀ a0 k, LeO (r02_Of.f k a0) (r02_Of.f (k + 1) a0) := by
 intro a0 k
 unfold r02_Of.f
 repeat' first
   | (with_reducible exact r02_More.mono _ _ _)
   | (with_reducible exact LeO.refl _)
   | (with_reducible exact LeO.none _)
   | (with_reducible refine LeO.ite ?_ ?_)
   | (with_reducible refine LeO.bind ?_ (fun _ => ?_))
   | exact r02_More.mono _ _ _
   | exact LeO.none _
   | refine LeO.ite ?_ ?_
   | refine LeO.bind ?_ (fun _ => ?_)
theorem r02_Of.calls (k : Nat) (A0 : Option Addr) (c0 : Nat) (l0 : List Int) (r : Int) (w : World) (hr0 : Kd.C (Kd.int .u8) w A0 l0.length l0) (hc0 : l0.length ≤ c0) (h : r02_Of.f k l0 = some r) :
  Calls Try.prog 49 #[.slice A0 l0.length c0] w fun e w' => e = .returned (.int .u32 r) ∧ Drawn0 w w' := by
 have HR0 := Az.mk hr0
 have HC0 := Az.mk hc0
 clear hr0 hc0
 have H : ((r02_More.f k 0 l0).bind fun t223 => (some t223)) = some r := h
 clear h
 replace H := Option.bind_eq_some_iff.mp H
 obtain ⟨t223, A20, H⟩ := H
 replace H : (some t223) = some r := H
 have A2 := Az.mk A20
 clear A20
 obtain rfl := Option.some.inj H
 go_enter Try.func49, Try.ntmps49
 go_wp2_with (first | ((with_reducible refine gate_callee (f := 52) rfl ?_); refine goesL_ (some 4) rfl rfl Try.func52 (by kernel_rfl) rfl #[.int .u32 0, .slice A0 l0.length c0] rfl ar_ ?_; (with_reducible refine (r02_More.calls k 0 _ _ l0 t223 _ ?side1 ?side2 A2.out).mono ?_); (case side1 => exact cl_ HR0.out); (case side2 => exact HC0.out); rintro e w' ⟨rfl, ⟨nd, rfl⟩⟩; refine ⟨_, rfl, ?_⟩))
 go_ret
 exact ⟨es_, dw_⟩
def r03_Put.f (k : Nat) (l0 : List Int) (l1 : List Int) : Option (List Int × Int) := if (l1.length : Int) > 1048576 then (some (([] : List Int), 6)) else ((r01_Put.f k l0 (IntKind.u64.wrap ((l1.length : Int)))).bind fun t224 => (if t224.length + l1.length < 140737488355328 then ((some (t224 ++ l1 : List Int)).bind fun y227 => ((r02_Of.f k l1).bind fun t230 => ((some (([(Int.tmod t230 256) % 256, ((Int.tdiv t230 256) % 4294967296) % 256, ((Int.tdiv t230 65536) % 4294967296) % 256, ((Int.tdiv t230 16777216) % 4294967296) % 256] : List Int) : List Int)).bind fun y231 => (if y227.length + y231.length < 140737488355328 then (some ((y227 ++ y231), 0)) else (none))))) else (none)))
theorem r03_Put.mono : ∀ a0 a1 k, LeO (r03_Put.f k a0 a1) (r03_Put.f (k + 1) a0 a1) := by
 intro a0 a1 k
 unfold r03_Put.f
 repeat' first
   | (with_reducible exact r01_Put.mono _ _ _)
   | (with_reducible exact r02_Of.mono _ _)
   | (with_reducible exact LeO.refl _)
   | (with_reducible exact LeO.none _)
   | (with_reducible refine LeO.ite ?_ ?_)
   | (with_reducible refine LeO.bind ?_ (fun _ => ?_))
   | exact r01_Put.mono _ _ _
   | exact r02_Of.mono _ _
   | exact LeO.none _
   | refine LeO.ite ?_ ?_
   | refine LeO.bind ?_ (fun _ => ?_)
theorem r03_Put.calls (k : Nat) (A0 : Option Addr) (c0 : Nat) (l0 : List Int) (A1 : Option Addr) (c1 : Nat) (l1 : List Int) (r1 : List Int) (r2 : Int) (w : World) (hr0 : Kd.C (Kd.int .u8) w A0 l0.length l0) (hc0 : l0.length ≤ c0) (hr1 : Kd.C (Kd.int .u8) w A1 l1.length l1) (hc1 : l1.length ≤ c1) (h : r03_Put.f k l0 l1 = some (r1, r2)) :
  Calls Try.prog 43 #[.slice A0 l0.length c0, .slice A1 l1.length c1] w fun e w' => ∃ v0_ : Value, e = .returned (.tuple #[v0_, .int .i64 r2]) ∧ Kd.R (Kd.int .u8) 5 w' w.heap.size (fun _ => True) v0_ r1 ∧ Below w.heap.size w w' := by
 have HR0 := Az.mk hr0
 have HC0 := Az.mk hc0
 clear hr0 hc0
 have HR1 := Az.mk hr1
 have HC1 := Az.mk hc1
 clear hr1 hc1
 have HB := Az.mk (Below.refl w.heap.size w)
 have H : (if (l1.length : Int) > 1048576 then (some (([] : List Int), 6)) else ((r01_Put.f k l0 (IntKind.u64.wrap ((l1.length : Int)))).bind fun t224 => (if t224.length + l1.length < 140737488355328 then ((some (t224 ++ l1 : List Int)).bind fun y227 => ((r02_Of.f k l1).bind fun t230 => ((some (([(Int.tmod t230 256) % 256, ((Int.tdiv t230 256) % 4294967296) % 256, ((Int.tdiv t230 65536) % 4294967296) % 256, ((Int.tdiv t230 16777216) % 4294967296) % 256] : List Int) : List Int)).bind fun y231 => (if y227.length + y231.length < 140737488355328 then (some ((y227 ++ y231), 0)) else (none))))) else (none)))) = some (r1, r2) := h
 clear h
 by_cases c3 : (l1.length : Int) > 1048576
 ·rw [if_pos c3] at H
  have c3b0 := decide_eq_true c3
  have c3b1 : decide (1048576 < l1.length) = true := decide_eq_true (by omega)
  clear c3
  simp only [Option.some.injEq, Prod.mk.injEq] at H
  obtain ⟨rfl, rfl⟩ := H
  go_enter Try.func43, Try.ntmps43
  go_wp2
  go_ret2
  exact ⟨_, er_, nl_, bl_ HB⟩
 ·rw [if_neg c3] at H
  have c3b0 := decide_eq_false c3
  have c3b1 : decide (1048576 < l1.length) = false := decide_eq_false (by omega)
  clear c3
  replace H := Option.bind_eq_some_iff.mp H
  obtain ⟨t224, A40, H⟩ := H
  replace H : (if t224.length + l1.length < 140737488355328 then ((some (t224 ++ l1 : List Int)).bind fun y227 => ((r02_Of.f k l1).bind fun t230 => ((some (([(Int.tmod t230 256) % 256, ((Int.tdiv t230 256) % 4294967296) % 256, ((Int.tdiv t230 65536) % 4294967296) % 256, ((Int.tdiv t230 16777216) % 4294967296) % 256] : List Int) : List Int)).bind fun y231 => (if y227.length + y231.length < 140737488355328 then (some ((y227 ++ y231), 0)) else (none))))) else (none)) = some (r1, r2) := H
  have A4 := Az.mk A40
  clear A40
  by_cases c5 : t224.length + l1.length < 140737488355328
  ·rw [if_pos c5] at H
   have LMc5 := Az.mk c5
   clear c5
   obtain ⟨y227, hy227⟩ : ∃ y_ : List Int, y_ = (t224 ++ l1) := ⟨_, rfl⟩
   replace H : ((r02_Of.f k l1).bind fun t230 => ((some (([(Int.tmod t230 256) % 256, ((Int.tdiv t230 256) % 4294967296) % 256, ((Int.tdiv t230 65536) % 4294967296) % 256, ((Int.tdiv t230 16777216) % 4294967296) % 256] : List Int) : List Int)).bind fun y231 => (if y227.length + y231.length < 140737488355328 then (some ((y227 ++ y231), 0)) else (none)))) = some (r1, r2) := hr_ hy227 H
   have Ny227 := Az.mk hy227
   clear hy227
   replace H := Option.bind_eq_some_iff.mp H
   obtain ⟨t230, A60, H⟩ := H
   replace H : ((some (([(Int.tmod t230 256) % 256, ((Int.tdiv t230 256) % 4294967296) % 256, ((Int.tdiv t230 65536) % 4294967296) % 256, ((Int.tdiv t230 16777216) % 4294967296) % 256] : List Int) : List Int)).bind fun y231 => (if y227.length + y231.length < 140737488355328 then (some ((y227 ++ y231), 0)) else (none))) = some (r1, r2) := H
   have A6 := Az.mk A60
   clear A60
   obtain ⟨y231, hy231⟩ : ∃ y_ : List Int, y_ = (([(Int.tmod t230 256) % 256, ((Int.tdiv t230 256) % 4294967296) % 256, ((Int.tdiv t230 65536) % 4294967296) % 256, ((Int.tdiv t230 16777216) % 4294967296) % 256] : List Int)) := ⟨_, rfl⟩
   replace H : (if y227.length + y231.length < 140737488355328 then (some ((y227 ++ y231), 0)) else (none)) = some (r1, r2) := hr_ hy231 H
   have Ny231 := Az.mk hy231
   clear hy231
   by_cases c7 : y227.length + y231.length < 140737488355328
   ·rw [if_pos c7] at H
    have LMc7 := Az.mk c7
    clear c7
    obtain ⟨y234, hy234⟩ : ∃ y_ : List Int, y_ = (y227 ++ y231) := ⟨_, rfl⟩
    replace H : (some (y234, 0)) = some (r1, r2) := hr_ hy234 H
    have Ny234 := Az.mk hy234
    clear hy234
    simp only [Option.some.injEq, Prod.mk.injEq] at H
    obtain ⟨rfl, rfl⟩ := H
    go_enter Try.func43, Try.ntmps43
    go_wp2_with (first | ((with_reducible refine gate_callee (f := 44) rfl ?_); refine goesL_ (some 15) rfl rfl Try.func44 (by kernel_rfl) rfl #[.slice A0 l0.length c0, .int .u64 (IntKind.u64.wrap ((l1.length : Int)))] rfl ar_ ?_; (with_reducible refine (r01_Put.calls k _ _ l0 (IntKind.u64.wrap ((l1.length : Int))) t224 _ ?side1 ?side2 A4.out).mono ?_); (case side1 => exact cl_ HR0.out); (case side2 => exact HC0.out); rintro e w8 ⟨v225, rfl, ho0, hb⟩; refine ⟨_, rfl, ?_⟩; have n0_ := Az.mk (Kd.R_lower ho0 (below_size (bl_ HB))); have n1_ := Az.mk (below_step (bl_ HB) hb); clear HB; have HO226 := n0_; have HB := n1_; clear n0_ n1_; (try clear hb); (try clear hb2); (try clear hk); (try clear hi); (try clear ho0)) | ((with_reducible refine gate_builtin (b := .append) (xs := #[.tmp 16, .tmp 17]) rfl ?_); at_builtin; refine Kd.R_append_rows (Kd.int .u8) (w0 := w) w.heap.size rfl (.tmp 16) (.tmp 17) 22 5 (.int .u8 0) 1 rfl Try.underlying22 info5 rfl (by decide) (by omega) v225 t224 l1 _ _ _ (fun _ => True) (fun _ => False) rfl rfl ?aO ?aR (fun _ _ h => h) (fun _ h => h.elim) ?aF ?aB ?aS ?aL ?_; (case aR => exact cl_ (Kd.C_below HR1.out HB.out)); (case aB => exact (bl_ HB)); (case aF => exact (fun _ _ => trivial)); (case aO => exact (rl_ HO226.out)); (case aS => exact (below_size (bl_ HB))); (case aL => have := LMc5.out; omega); intro v228 w9 ho hb hg hat; rw [← Ny227.out] at ho; have n0_ := Az.mk (hb); have n1_ := Az.mk (ho); clear HB; clear HO226; have HB := n0_; have HO229 := n1_; clear n0_ n1_; clear ho hb hg hat) | ((with_reducible refine gate_callee (f := 49) rfl ?_); refine goesL_ (some 20) rfl rfl Try.func49 (by kernel_rfl) rfl #[.slice A1 l1.length c1] rfl ar_ ?_; (with_reducible refine (r02_Of.calls k _ _ l1 t230 _ ?side1 ?side2 A6.out).mono ?_); (case side1 => exact cl_ (Kd.C_below HR1.out HB.out)); (case side2 => exact HC1.out); rintro e w' ⟨rfl, ⟨nd, rfl⟩⟩; refine ⟨_, rfl, ?_⟩) | ((with_reducible refine gate_dst (N := 36) rfl ?_); refine Kd.R_lit (Kd.int .u8) _ 5 ?hg (N := 36) ?hd (xs := ([(Int.tmod t230 256) % 256, ((Int.tdiv t230 256) % 4294967296) % 256, ((Int.tdiv t230 65536) % 4294967296) % 256, ((Int.tdiv t230 16777216) % 4294967296) % 256] : List Int)) (inner := [.int .u8 ((Int.tmod t230 256) % 256), .int .u8 (((Int.tdiv t230 256) % 4294967296) % 256), .int .u8 (((Int.tdiv t230 65536) % 4294967296) % 256), .int .u8 (((Int.tdiv t230 16777216) % 4294967296) % 256)]) (ok := fun _ => True) (okp := fun _ => True) ?hr ?hp (fun _ hk => hk) trivial (Below.refl _ _) (Nat.le_refl _) (by simp) ?_; (case hd => rfl); (case hg => rfl); (case hr => first | (go_simp; done) | (go_simp; rfl)); (case hp => exact (Reps.one (show Kd.M (Kd.int .u8) _ _ _ ((Int.tmod t230 256) % 256) [.int .u8 ((Int.tmod t230 256) % 256)] from rfl) (Reps.one (show Kd.M (Kd.int .u8) _ _ _ (((Int.tdiv t230 256) % 4294967296) % 256) [.int .u8 (((Int.tdiv t230 256) % 4294967296) % 256)] from rfl) (Reps.one (show Kd.M (Kd.int .u8) _ _ _ (((Int.tdiv t230 65536) % 4294967296) % 256) [.int .u8 (((Int.tdiv t230 65536) % 4294967296) % 256)] from rfl) (Reps.one (show Kd.M (Kd.int .u8) _ _ _ (((Int.tdiv t230 16777216) % 4294967296) % 256) [.int .u8 (((Int.tdiv t230 16777216) % 4294967296) % 256)] from rfl) (Reps.none _ _)))))); intro v232 w10 ho11 hb hg_ hnew_; clear hg_ hnew_; (first | rw [← Ny231.out] at ho11 | (simp only [Int.reduceToNat] at ho11; rw [← Ny231.out] at ho11)); have n0_ := Az.mk (Kd.R_elder' (rl_ HO229.out) (Kd.R_base ho11) hb); have n1_ := Az.mk (Kd.R_lower (Kd.R_new' ho11 (Kd.R_lt (rl_ HO229.out))) (below_size (bl_ HB))); have n2_ := Az.mk (below_step (bl_ HB) hb); clear HO229; clear HB; have HO229 := n0_; have HO233 := n1_; have HB := n2_; clear n0_ n1_ n2_; clear hb ho11; obtain ⟨Ao13, co13, eo13⟩ := Kd.R_slice HO233.out; subst eo13) | ((with_reducible refine gate_builtin (b := .append) (xs := #[.tmp 21, .tmp 36]) rfl ?_); at_builtin; refine Kd.R_append_rows (Kd.int .u8) (w0 := w) w.heap.size rfl (.tmp 21) (.tmp 36) 22 5 (.int .u8 0) 1 rfl Try.underlying22 info5 rfl (by decide) (by omega) v228 y227 y231 _ _ _ (fun k_ => some k_ ≠ (.slice Ao13 y231.length co13 : Value).ownBlock) (fun _ => False) rfl rfl ?aO ?aR (fun _ _ h => h) (fun _ h => h.elim) ?aF ?aB ?aS ?aL ?_; (case aR => exact cl_ (Kd.R_reads' HO233.out).2.2); (case aB => exact (bl_ HB)); (case aF => exact (fun k_ hk => Kd.fresh' (Kd.R_lt (rl_ HO233.out)) k_ hk)); (case aO => exact (by (with_reducible repeat (first | apply Kd.R_alloc | apply Kd.R_drewN | apply Kd.R_drew)); exact Kd.R_mono HO229.out (fun _ hk => hk.2))); (case aS => exact (below_size (bl_ HB))); (case aL => have := LMc7.out; omega); intro v235 w12 ho hb hg hat; rw [← Ny234.out] at ho; have n0_ := Az.mk (Kd.R_after (ok := (fun _ => True)) (rl_ HO233.out) hg hat); have n1_ := Az.mk (hb); have n2_ := Az.mk (ho); clear HO233; clear HB; clear HO229; have HO233 := n0_; have HB := n1_; have HO236 := n2_; clear n0_ n1_ n2_; clear ho hb hg hat))
    go_ret2
    exact ⟨_, er_, by (with_reducible repeat (first | apply Kd.R_alloc | apply Kd.R_drewN | apply Kd.R_drew)); exact Kd.R_mono HO236.out (fun _ hk => trivial), bl_ HB⟩
   ·rw [if_neg c7] at H
    exact absurd H (by simp)
  ·rw [if_neg c5] at H
   exact absurd H (by simp)
def r03_Get.f (k : Nat) (l0 : List Int) : Option (List Int × Int × Int) := (r01_Get.f k l0).bind fun bt237 => (if bt237.2.2 = 0 then (if bt237.1 > 1048576 then (some (([] : List Int), 0, 2)) else (if (wrap64 ((wrap64 (bt237.2.1 + (wrap64 (bt237.1)))) + 4)) > (l0.length : Int) then (some (([] : List Int), 0, 3)) else ((some (([] : List Int) : List Int)).bind fun y240 => (if 0 ≤ bt237.2.1 then (if bt237.2.1 ≤ (wrap64 ((wrap64 ((wrap64 (bt237.2.1 + (wrap64 (bt237.1)))) + 4)) - 4)) then (if (wrap64 ((wrap64 ((wrap64 (bt237.2.1 + (wrap64 (bt237.1)))) + 4)) - 4)) ≤ (l0.length : Int) then (if y240.length + ((l0.take ((wrap64 ((wrap64 ((wrap64 (bt237.2.1 + (wrap64 (bt237.1)))) + 4)) - 4)) : Int).toNat).drop (bt237.2.1 : Int).toNat).length < 140737488355328 then ((some (y240 ++ ((l0.take ((wrap64 ((wrap64 ((wrap64 (bt237.2.1 + (wrap64 (bt237.1)))) + 4)) - 4)) : Int).toNat).drop (bt237.2.1 : Int).toNat) : List Int)).bind fun y244 => ((r03_Put.f k ([] : List Int) y244).bind fun bt247 => (if 0 ≤ (wrap64 ((wrap64 (bt237.2.1 + (wrap64 (bt237.1)))) + 4)) then (if (wrap64 ((wrap64 (bt237.2.1 + (wrap64 (bt237.1)))) + 4)) ≤ (l0.length : Int) then (if (strOfNums bt247.1).toList = (strOfNums (l0.take ((wrap64 ((wrap64 (bt237.2.1 + (wrap64 (bt237.1)))) + 4)) : Int).toNat)).toList then (some (y244, wrap64 ((wrap64 (bt237.2.1 + (wrap64 (bt237.1)))) + 4), 0)) else (some (([] : List Int), 0, 4))) else (none)) else (none)))) else (none)) else (none)) else (none)) else (none))))) else (some (([] : List Int), 0, bt237.2.2)))
theorem r03_Get.mono : ∀ a0 k, LeO (r03_Get.f k a0) (r03_Get.f (k + 1) a0) := by
 intro a0 k
 unfold r03_Get.f
 repeat' first
   | (with_reducible exact r01_Get.mono _ _)
   | (with_reducible exact r03_Put.mono _ _ _)
   | (with_reducible exact LeO.refl _)
   | (with_reducible exact LeO.none _)
   | (with_reducible refine LeO.ite ?_ ?_)
   | (with_reducible refine LeO.bind ?_ (fun _ => ?_))
   | exact r01_Get.mono _ _
   | exact r03_Put.mono _ _ _
   | exact LeO.none _
   | refine LeO.ite ?_ ?_
   | refine LeO.bind ?_ (fun _ => ?_)
theorem r03_Get.calls (k : Nat) (A0 : Option Addr) (c0 : Nat) (l0 : List Int) (r1 : List Int) (r2 : Int) (r3 : Int) (w : World) (hr0 : Kd.C (Kd.int .u8) w A0 l0.length l0) (hc0 : l0.length ≤ c0) (h : r03_Get.f k l0 = some (r1, r2, r3)) :
  Calls Try.prog 41 #[.slice A0 l0.length c0] w fun e w' => ∃ v0_ : Value, e = .returned (.tuple #[v0_, .int .i64 r2, .int .i64 r3]) ∧ Kd.R (Kd.int .u8) 5 w' w.heap.size (fun _ => True) v0_ r1 ∧ Below w.heap.size w w' := by
 have HR0 := Az.mk hr0
 have HC0 := Az.mk hc0
 clear hr0 hc0
 have HB := Az.mk (Below.refl w.heap.size w)
 have H : ((r01_Get.f k l0).bind fun bt237 => (if bt237.2.2 = 0 then (if bt237.1 > 1048576 then (some (([] : List Int), 0, 2)) else (if (wrap64 ((wrap64 (bt237.2.1 + (wrap64 (bt237.1)))) + 4)) > (l0.length : Int) then (some (([] : List Int), 0, 3)) else ((some (([] : List Int) : List Int)).bind fun y240 => (if 0 ≤ bt237.2.1 then (if bt237.2.1 ≤ (wrap64 ((wrap64 ((wrap64 (bt237.2.1 + (wrap64 (bt237.1)))) + 4)) - 4)) then (if (wrap64 ((wrap64 ((wrap64 (bt237.2.1 + (wrap64 (bt237.1)))) + 4)) - 4)) ≤ (l0.length : Int) then (if y240.length + ((l0.take ((wrap64 ((wrap64 ((wrap64 (bt237.2.1 + (wrap64 (bt237.1)))) + 4)) - 4)) : Int).toNat).drop (bt237.2.1 : Int).toNat).length < 140737488355328 then ((some (y240 ++ ((l0.take ((wrap64 ((wrap64 ((wrap64 (bt237.2.1 + (wrap64 (bt237.1)))) + 4)) - 4)) : Int).toNat).drop (bt237.2.1 : Int).toNat) : List Int)).bind fun y244 => ((r03_Put.f k ([] : List Int) y244).bind fun bt247 => (if 0 ≤ (wrap64 ((wrap64 (bt237.2.1 + (wrap64 (bt237.1)))) + 4)) then (if (wrap64 ((wrap64 (bt237.2.1 + (wrap64 (bt237.1)))) + 4)) ≤ (l0.length : Int) then (if (strOfNums bt247.1).toList = (strOfNums (l0.take ((wrap64 ((wrap64 (bt237.2.1 + (wrap64 (bt237.1)))) + 4)) : Int).toNat)).toList then (some (y244, wrap64 ((wrap64 (bt237.2.1 + (wrap64 (bt237.1)))) + 4), 0)) else (some (([] : List Int), 0, 4))) else (none)) else (none)))) else (none)) else (none)) else (none)) else (none))))) else (some (([] : List Int), 0, bt237.2.2)))) = some (r1, r2, r3) := h
 clear h
 replace H := Option.bind_eq_some_iff.mp H
 obtain ⟨⟨t237, t238, t239⟩, A20, H⟩ := H
 replace H : (if t239 = 0 then (if t237 > 1048576 then (some (([] : List Int), 0, 2)) else (if (wrap64 ((wrap64 (t238 + (wrap64 (t237)))) + 4)) > (l0.length : Int) then (some (([] : List Int), 0, 3)) else ((some (([] : List Int) : List Int)).bind fun y240 => (if 0 ≤ t238 then (if t238 ≤ (wrap64 ((wrap64 ((wrap64 (t238 + (wrap64 (t237)))) + 4)) - 4)) then (if (wrap64 ((wrap64 ((wrap64 (t238 + (wrap64 (t237)))) + 4)) - 4)) ≤ (l0.length : Int) then (if y240.length + ((l0.take ((wrap64 ((wrap64 ((wrap64 (t238 + (wrap64 (t237)))) + 4)) - 4)) : Int).toNat).drop (t238 : Int).toNat).length < 140737488355328 then ((some (y240 ++ ((l0.take ((wrap64 ((wrap64 ((wrap64 (t238 + (wrap64 (t237)))) + 4)) - 4)) : Int).toNat).drop (t238 : Int).toNat) : List Int)).bind fun y244 => ((r03_Put.f k ([] : List Int) y244).bind fun bt247 => (if 0 ≤ (wrap64 ((wrap64 (t238 + (wrap64 (t237)))) + 4)) then (if (wrap64 ((wrap64 (t238 + (wrap64 (t237)))) + 4)) ≤ (l0.length : Int) then (if (strOfNums bt247.1).toList = (strOfNums (l0.take ((wrap64 ((wrap64 (t238 + (wrap64 (t237)))) + 4)) : Int).toNat)).toList then (some (y244, wrap64 ((wrap64 (t238 + (wrap64 (t237)))) + 4), 0)) else (some (([] : List Int), 0, 4))) else (none)) else (none)))) else (none)) else (none)) else (none)) else (none))))) else (some (([] : List Int), 0, t239))) = some (r1, r2, r3) := H
 have A2 := Az.mk A20
 clear A20
 by_cases c3 : t239 = 0
 ·rw [if_pos c3] at H
  have c3b0 : (t239 == 0) = true := beq_iff_eq.mpr c3
  have c3b1 : (t239 != 0) = false := bne_eq_false_iff_eq.mpr c3
  clear c3
  by_cases c4 : t237 > 1048576
  ·rw [if_pos c4] at H
   have c4b0 := decide_eq_true c4
   clear c4
   simp only [Option.some.injEq, Prod.mk.injEq] at H
   obtain ⟨rfl, rfl, rfl⟩ := H
   go_enter Try.func41, Try.ntmps41
   go_wp2_with (first | (go_at_call 32; (with_reducible refine (r01_Get.calls k _ _ l0 t237 t238 t239 _ ?side1 ?side2 A2.out).mono ?_); (case side1 => exact cl_ HR0.out); (case side2 => exact HC0.out); rintro e w' ⟨rfl, ⟨nd, rfl⟩⟩; (try first | exact ⟨rfl, _, World.drewN_drewN _ _ _⟩ | exact ⟨rfl, _, Eq.trans (World.drewN_drewN _ _ _) (congrArg (World.drewN _) (Nat.add_assoc _ _ _))⟩)))
   repeat (go_quiet (first | (go_at_call 32; (with_reducible refine (r01_Get.calls k _ _ l0 t237 t238 t239 _ ?side1 ?side2 A2.out).mono ?_); (case side1 => exact cl_ HR0.out); (case side2 => exact HC0.out); rintro e w' ⟨rfl, ⟨nd, rfl⟩⟩; (try first | exact ⟨rfl, _, World.drewN_drewN _ _ _⟩ | exact ⟨rfl, _, Eq.trans (World.drewN_drewN _ _ _) (congrArg (World.drewN _) (Nat.add_assoc _ _ _))⟩))); try go_wp2_with (first | (go_at_call 32; (with_reducible refine (r01_Get.calls k _ _ l0 t237 t238 t239 _ ?side1 ?side2 A2.out).mono ?_); (case side1 => exact cl_ HR0.out); (case side2 => exact HC0.out); rintro e w' ⟨rfl, ⟨nd, rfl⟩⟩; (try first | exact ⟨rfl, _, World.drewN_drewN _ _ _⟩ | exact ⟨rfl, _, Eq.trans (World.drewN_drewN _ _ _) (congrArg (World.drewN _) (Nat.add_assoc _ _ _))⟩))))
   go_ret3
   exact ⟨_, er_, nl_, bl_ HB⟩
  ·rw [if_neg c4] at H
   have c4b0 := decide_eq_false c4
   clear c4
   by_cases c5 : (wrap64 ((wrap64 (t238 + (wrap64 (t237)))) + 4)) > (l0.length : Int)
   ·rw [if_pos c5] at H
    have c5b0 := decide_eq_true c5
    clear c5
    simp only [Option.some.injEq, Prod.mk.injEq] at H
    obtain ⟨rfl, rfl, rfl⟩ := H
    go_enter Try.func41, Try.ntmps41
    go_wp2_with (first | (go_at_call 32; (with_reducible refine (r01_Get.calls k _ _ l0 t237 t238 t239 _ ?side1 ?side2 A2.out).mono ?_); (case side1 => exact cl_ HR0.out); (case side2 => exact HC0.out); rintro e w' ⟨rfl, ⟨nd, rfl⟩⟩; (try first | exact ⟨rfl, _, World.drewN_drewN _ _ _⟩ | exact ⟨rfl, _, Eq.trans (World.drewN_drewN _ _ _) (congrArg (World.drewN _) (Nat.add_assoc _ _ _))⟩)))
    repeat (go_quiet (first | (go_at_call 32; (with_reducible refine (r01_Get.calls k _ _ l0 t237 t238 t239 _ ?side1 ?side2 A2.out).mono ?_); (case side1 => exact cl_ HR0.out); (case side2 => exact HC0.out); rintro e w' ⟨rfl, ⟨nd, rfl⟩⟩; (try first | exact ⟨rfl, _, World.drewN_drewN _ _ _⟩ | exact ⟨rfl, _, Eq.trans (World.drewN_drewN _ _ _) (congrArg (World.drewN _) (Nat.add_assoc _ _ _))⟩))); try go_wp2_with (first | (go_at_call 32; (with_reducible refine (r01_Get.calls k _ _ l0 t237 t238 t239 _ ?side1 ?side2 A2.out).mono ?_); (case side1 => exact cl_ HR0.out); (case side2 => exact HC0.out); rintro e w' ⟨rfl, ⟨nd, rfl⟩⟩; (try first | exact ⟨rfl, _, World.drewN_drewN _ _ _⟩ | exact ⟨rfl, _, Eq.trans (World.drewN_drewN _ _ _) (congrArg (World.drewN _) (Nat.add_assoc _ _ _))⟩))))
    go_ret3
    exact ⟨_, er_, nl_, bl_ HB⟩
   ·rw [if_neg c5] at H
    have c5b0 := decide_eq_false c5
    clear c5
    obtain ⟨y240, hy240⟩ : ∃ y_ : List Int, y_ = (([] : List Int)) := ⟨_, rfl⟩
    replace H : (if 0 ≤ t238 then (if t238 ≤ (wrap64 ((wrap64 ((wrap64 (t238 + (wrap64 (t237)))) + 4)) - 4)) then (if (wrap64 ((wrap64 ((wrap64 (t238 + (wrap64 (t237)))) + 4)) - 4)) ≤ (l0.length : Int) then (if y240.length + ((l0.take ((wrap64 ((wrap64 ((wrap64 (t238 + (wrap64 (t237)))) + 4)) - 4)) : Int).toNat).drop (t238 : Int).toNat).length < 140737488355328 then ((some (y240 ++ ((l0.take ((wrap64 ((wrap64 ((wrap64 (t238 + (wrap64 (t237)))) + 4)) - 4)) : Int).toNat).drop (t238 : Int).toNat) : List Int)).bind fun y244 => ((r03_Put.f k ([] : List Int) y244).bind fun bt247 => (if 0 ≤ (wrap64 ((wrap64 (t238 + (wrap64 (t237)))) + 4)) then (if (wrap64 ((wrap64 (t238 + (wrap64 (t237)))) + 4)) ≤ (l0.length : Int) then (if (strOfNums bt247.1).toList = (strOfNums (l0.take ((wrap64 ((wrap64 (t238 + (wrap64 (t237)))) + 4)) : Int).toNat)).toList then (some (y244, wrap64 ((wrap64 (t238 + (wrap64 (t237)))) + 4), 0)) else (some (([] : List Int), 0, 4))) else (none)) else (none)))) else (none)) else (none)) else (none)) else (none)) = some (r1, r2, r3) := hr_ hy240 H
    have Ny240 := Az.mk hy240
    clear hy240
    by_cases c6 : 0 ≤ t238
    ·rw [if_pos c6] at H
     have c6b0 := eq_true c6
     have c6b1 := decide_eq_true c6
     clear c6
     by_cases c7 : t238 ≤ (wrap64 ((wrap64 ((wrap64 (t238 + (wrap64 (t237)))) + 4)) - 4))
     ·rw [if_pos c7] at H
      have c7b0 := eq_true c7
      have c7b1 := decide_eq_true c7
      by_cases c8 : (wrap64 ((wrap64 ((wrap64 (t238 + (wrap64 (t237)))) + 4)) - 4)) ≤ (l0.length : Int)
      ·rw [if_pos c8] at H
       have c8b0 := eq_true c8
       have c8b1 := decide_eq_true c8
       by_cases c9 : y240.length + ((l0.take ((wrap64 ((wrap64 ((wrap64 (t238 + (wrap64 (t237)))) + 4)) - 4)) : Int).toNat).drop (t238 : Int).toNat).length < 140737488355328
       ·rw [if_pos c9] at H
        have LMc9 := Az.mk c9
        clear c9
        obtain ⟨y244, hy244⟩ : ∃ y_ : List Int, y_ = (y240 ++ ((l0.take ((wrap64 ((wrap64 ((wrap64 (t238 + (wrap64 (t237)))) + 4)) - 4)) : Int).toNat).drop (t238 : Int).toNat)) := ⟨_, rfl⟩
        replace H : ((r03_Put.f k ([] : List Int) y244).bind fun bt247 => (if 0 ≤ (wrap64 ((wrap64 (t238 + (wrap64 (t237)))) + 4)) then (if (wrap64 ((wrap64 (t238 + (wrap64 (t237)))) + 4)) ≤ (l0.length : Int) then (if (strOfNums bt247.1).toList = (strOfNums (l0.take ((wrap64 ((wrap64 (t238 + (wrap64 (t237)))) + 4)) : Int).toNat)).toList then (some (y244, wrap64 ((wrap64 (t238 + (wrap64 (t237)))) + 4), 0)) else (some (([] : List Int), 0, 4))) else (none)) else (none))) = some (r1, r2, r3) := hr_ hy244 H
        have Ny244 := Az.mk hy244
        clear hy244
        replace H := Option.bind_eq_some_iff.mp H
        obtain ⟨⟨t247, t248⟩, A100, H⟩ := H
        replace H : (if 0 ≤ (wrap64 ((wrap64 (t238 + (wrap64 (t237)))) + 4)) then (if (wrap64 ((wrap64 (t238 + (wrap64 (t237)))) + 4)) ≤ (l0.length : Int) then (if (strOfNums t247).toList = (strOfNums (l0.take ((wrap64 ((wrap64 (t238 + (wrap64 (t237)))) + 4)) : Int).toNat)).toList then (some (y244, wrap64 ((wrap64 (t238 + (wrap64 (t237)))) + 4), 0)) else (some (([] : List Int), 0, 4))) else (none)) else (none)) = some (r1, r2, r3) := H
        have A10 := Az.mk A100
        clear A100
        obtain ⟨ji11, hji11⟩ : ∃ j_ : Int, (wrap64 ((wrap64 (t238 + (wrap64 (t237)))) + 4)) = j_ := ⟨_, rfl⟩
        (try rw [hji11] at LMc9)
        replace H : (if 0 ≤ (ji11) then (if (ji11) ≤ (l0.length : Int) then (if (strOfNums t247).toList = (strOfNums (l0.take ((ji11) : Int).toNat)).toList then (some (y244, ji11, 0)) else (some (([] : List Int), 0, 4))) else (none)) else (none)) = some (r1, r2, r3) := by first | (rw [hji11] at H; exact H) | (simp only [hji11] at H ⊢; exact H)
        (try rw [hji11] at c5b0)
        (try rw [hji11] at c7b0)
        (try rw [hji11] at c7b1)
        (try rw [hji11] at c7)
        (try rw [hji11] at c8b0)
        (try rw [hji11] at c8b1)
        (try rw [hji11] at c8)
        (try rw [hji11] at A2)
        (try rw [hji11] at Ny244)
        (try rw [hji11] at A10)
        have hji11w : (IntKind.i64.wrap ((wrap64 (t238 + (wrap64 (t237)))) + 4)) = ji11 := (i64_w _).trans hji11
        by_cases c12 : 0 ≤ (ji11)
        ·rw [if_pos c12] at H
         have c12b0 := eq_true c12
         have c12b1 := decide_eq_true c12
         clear c12
         by_cases c13 : (ji11) ≤ (l0.length : Int)
         ·rw [if_pos c13] at H
          have c13b0 := eq_true c13
          have c13b1 := decide_eq_true c13
          clear c13
          by_cases c14 : (strOfNums t247).toList = (strOfNums (l0.take ((ji11) : Int).toNat)).toList
          ·rw [if_pos c14] at H
           have c14b0 : ((strOfNums t247).toList == (strOfNums (l0.take ((ji11) : Int).toNat)).toList) = true := beq_iff_eq.mpr c14
           have c14b1 : ((strOfNums t247).toList != (strOfNums (l0.take ((ji11) : Int).toNat)).toList) = false := bne_eq_false_iff_eq.mpr c14
           clear c14
           simp only [Option.some.injEq, Prod.mk.injEq] at H
           obtain ⟨rfl, rfl, rfl⟩ := H
           go_enter Try.func41, Try.ntmps41
           go_wp2_with (first | (go_at_call 32; (with_reducible refine (r01_Get.calls k _ _ l0 t237 t238 t239 _ ?side1 ?side2 A2.out).mono ?_); (case side1 => exact cl_ HR0.out); (case side2 => exact HC0.out); rintro e w' ⟨rfl, ⟨nd, rfl⟩⟩; (try first | exact ⟨rfl, _, World.drewN_drewN _ _ _⟩ | exact ⟨rfl, _, Eq.trans (World.drewN_drewN _ _ _) (congrArg (World.drewN _) (Nat.add_assoc _ _ _))⟩)) | ((with_reducible refine gate_dst (N := 32) rfl ?_); refine Kd.R_lit (Kd.int .u8) _ 5 ?hg (N := 32) ?hd (xs := ([] : List Int)) (inner := []) (ok := fun _ => True) (okp := fun _ => True) ?hr ?hp (fun _ hk => hk) trivial (Below.refl _ _) (Nat.le_refl _) (by simp) ?_; (case hd => rfl); (case hg => rfl); (case hr => first | (go_simp; done) | (go_simp; rfl)); (case hp => exact (Reps.none _ _)); intro v241 w15 ho16 hb hg_ hnew_; clear hg_ hnew_; (first | rw [← Ny240.out] at ho16 | (simp only [Int.reduceToNat] at ho16; rw [← Ny240.out] at ho16)); have n0_ := Az.mk (Kd.R_lower ho16 (below_size (bl_ HB))); have n1_ := Az.mk (below_step (bl_ HB) hb); clear HB; have HO242 := n0_; have HB := n1_; clear n0_ n1_; clear hb ho16; obtain ⟨i017, hi017, _, hsz17, _⟩ := info_parts info5; obtain ⟨A17, hcut17, hA17, hC17⟩ := print_mid_of (P := Try.prog) (Value.int .u8) 0 22 5 .i64 .i64 Try.underlying22 hi017 hsz17 A0 c0 l0 t238 (wrap64 ((ji11) - 4)) (of_decide_eq_true as_) (by first | omega | exact of_decide_eq_true as_) (of_decide_eq_true as_) HC0.out; have HR243 := Az.mk (Kd.C_of_reads (h1 := fun _ => rfl) (hA17 _ (Kd.reads_of_C HR0.out))); have HC243 := Az.mk hC17; clear hA17 hC17 hi017 hsz17) | ((with_reducible refine gate_builtin (b := .append) (xs := #[.tmp 32, .tmp 37]) rfl ?_); at_builtin; refine Kd.R_append_rows (Kd.int .u8) (w0 := w) w.heap.size rfl (.tmp 32) (.tmp 37) 22 5 (.int .u8 0) 1 rfl Try.underlying22 info5 rfl (by decide) (by omega) v241 y240 ((l0.take ((wrap64 ((ji11) - 4)) : Int).toNat).drop (t238 : Int).toNat) _ _ _ (fun _ => True) (fun _ => False) rfl rfl ?aO ?aR (fun _ _ h => h) (fun _ h => h.elim) ?aF ?aB ?aS ?aL ?_; (case aR => first | (rw [← show ((l0.take ((wrap64 ((ji11) - 4)) : Int).toNat).drop (t238 : Int).toNat).length = ((wrap64 ((ji11) - 4)).toNat - t238.toNat) from (by rw [List.length_drop, List.length_take]; have h_ : ((wrap64 ((ji11) - 4)) : Int) ≤ (l0.length : Int) := of_decide_eq_true as_; omega)]; exact cl_ (Kd.C_below HR243.out HB.out)) | (exact cl_ (Kd.C_below HR243.out HB.out))); (case aB => exact (bl_ HB)); (case aF => exact (fun _ _ => trivial)); (case aO => exact (rl_ HO242.out)); (case aS => exact (below_size (bl_ HB))); (case aL => have := LMc9.out; have hlx_ := (show ((l0.take ((wrap64 ((ji11) - 4)) : Int).toNat).drop (t238 : Int).toNat).length = ((wrap64 ((ji11) - 4)).toNat - t238.toNat) from (by rw [List.length_drop, List.length_take]; have h_ : ((wrap64 ((ji11) - 4)) : Int) ≤ (l0.length : Int) := of_decide_eq_true as_; omega)); omega); intro v245 w18 ho hb hg hat; rw [← Ny244.out] at ho; have n0_ := Az.mk (hb); have n1_ := Az.mk (ho); clear HB; clear HO242; have HB := n0_; have HO246 := n1_; clear n0_ n1_; clear ho hb hg hat; obtain ⟨Ao19, co19, eo19⟩ := Kd.R_slice HO246.out; subst eo19) | (go_at_call 43; (refine (r03_Put.calls k _ _ ([] : List Int) _ _ y244 t247 t248 _ ?side1 ?side2 ?side3 ?side4 A10.out).mono ?_); (case side1 => exact Kd.C_nil _ _); (case side2 => exact Nat.le_refl _); (case side3 => exact cl_ (Kd.R_reads' HO246.out).2.2); (case side4 => exact (Kd.R_reads' HO246.out).2.1); rintro e w20 ⟨v249, rfl, ho0, hb⟩; have n0_ := Az.mk (Kd.R_elder' (rl_ HO246.out) (Kd.R_base ho0) hb); have n1_ := Az.mk (Kd.R_lower (Kd.R_new' ho0 (Kd.R_lt (rl_ HO246.out))) (below_size (bl_ HB))); have n2_ := Az.mk (below_step (bl_ HB) hb); clear HO246; clear HB; have HO246 := n0_; have HO250 := n1_; have HB := n2_; clear n0_ n1_ n2_; (try clear hb); (try clear hb2); (try clear hk); (try clear hi); (try clear ho0); have hcv21 := own_string (P := Try.prog) Try.underlying22 Try.underlying5 Try.underlying9 (Kd.own_of_R HO250.out); have hcv22q := fun nq_ : Nat => own_string (P := Try.prog) Try.underlying22 Try.underlying5 Try.underlying9 (Kd.own_of_R (Kd.R_drewN HO250.out nq_)); obtain ⟨i023, hi023, _, hsz23, _⟩ := info_parts info5; obtain ⟨hcut23, hA23, hC23⟩ := print_take_of (P := Try.prog) (Value.int .u8) 0 22 5 .i64 Try.underlying22 hi023 hsz23 A0 c0 l0 (ji11) (of_decide_eq_true as_) (of_decide_eq_true as_) HC0.out; have HR251 := Az.mk (Kd.C_of_reads (h1 := fun _ => rfl) (hA23 _ (Kd.reads_of_C HR0.out))); have HC251 := Az.mk hC23; clear hA23 hC23 hi023 hsz23; have hcv24 := Kd.C_string (P := Try.prog) (A := A0) (c := c0) Try.underlying22 Try.underlying5 Try.underlying9 (Kd.C_below HR251.out HB.out); have hcv24x := hcv24; (try rw [show (l0.take ((ji11) : Int).toNat).length = ((ji11) : Int).toNat from by rw [List.length_take]; exact Nat.min_eq_left (Int.toNat_le.mpr (of_decide_eq_true as_))] at hcv24x); have hcv24q := fun nq_ : Nat => Kd.C_string (P := Try.prog) (A := A0) (c := c0) Try.underlying22 Try.underlying5 Try.underlying9 (Kd.C_drewN (Kd.C_below HR251.out HB.out) nq_); (try simp only [show (l0.take ((ji11) : Int).toNat).length = ((ji11) : Int).toNat from by rw [List.length_take]; exact Nat.min_eq_left (Int.toNat_le.mpr (of_decide_eq_true as_))] at hcv24q)))
           repeat (go_quiet (first | (go_at_call 32; (with_reducible refine (r01_Get.calls k _ _ l0 t237 t238 t239 _ ?side1 ?side2 A2.out).mono ?_); (case side1 => exact cl_ HR0.out); (case side2 => exact HC0.out); rintro e w' ⟨rfl, ⟨nd, rfl⟩⟩; (try first | exact ⟨rfl, _, World.drewN_drewN _ _ _⟩ | exact ⟨rfl, _, Eq.trans (World.drewN_drewN _ _ _) (congrArg (World.drewN _) (Nat.add_assoc _ _ _))⟩)) | ((with_reducible refine gate_dst (N := 32) rfl ?_); refine Kd.R_lit (Kd.int .u8) _ 5 ?hg (N := 32) ?hd (xs := ([] : List Int)) (inner := []) (ok := fun _ => True) (okp := fun _ => True) ?hr ?hp (fun _ hk => hk) trivial (Below.refl _ _) (Nat.le_refl _) (by simp) ?_; (case hd => rfl); (case hg => rfl); (case hr => first | (go_simp; done) | (go_simp; rfl)); (case hp => exact (Reps.none _ _)); intro v241 w15 ho16 hb hg_ hnew_; clear hg_ hnew_; (first | rw [← Ny240.out] at ho16 | (simp only [Int.reduceToNat] at ho16; rw [← Ny240.out] at ho16)); have n0_ := Az.mk (Kd.R_lower ho16 (below_size (bl_ HB))); have n1_ := Az.mk (below_step (bl_ HB) hb); clear HB; have HO242 := n0_; have HB := n1_; clear n0_ n1_; clear hb ho16; obtain ⟨i017, hi017, _, hsz17, _⟩ := info_parts info5; obtain ⟨A17, hcut17, hA17, hC17⟩ := print_mid_of (P := Try.prog) (Value.int .u8) 0 22 5 .i64 .i64 Try.underlying22 hi017 hsz17 A0 c0 l0 t238 (wrap64 ((ji11) - 4)) (of_decide_eq_true as_) (by first | omega | exact of_decide_eq_true as_) (of_decide_eq_true as_) HC0.out; have HR243 := Az.mk (Kd.C_of_reads (h1 := fun _ => rfl) (hA17 _ (Kd.reads_of_C HR0.out))); have HC243 := Az.mk hC17; clear hA17 hC17 hi017 hsz17) | ((with_reducible refine gate_builtin (b := .append) (xs := #[.tmp 32, .tmp 37]) rfl ?_); at_builtin; refine Kd.R_append_rows (Kd.int .u8) (w0 := w) w.heap.size rfl (.tmp 32) (.tmp 37) 22 5 (.int .u8 0) 1 rfl Try.underlying22 info5 rfl (by decide) (by omega) v241 y240 ((l0.take ((wrap64 ((ji11) - 4)) : Int).toNat).drop (t238 : Int).toNat) _ _ _ (fun _ => True) (fun _ => False) rfl rfl ?aO ?aR (fun _ _ h => h) (fun _ h => h.elim) ?aF ?aB ?aS ?aL ?_; (case aR => first | (rw [← show ((l0.take ((wrap64 ((ji11) - 4)) : Int).toNat).drop (t238 : Int).toNat).length = ((wrap64 ((ji11) - 4)).toNat - t238.toNat) from (by rw [List.length_drop, List.length_take]; have h_ : ((wrap64 ((ji11) - 4)) : Int) ≤ (l0.length : Int) := of_decide_eq_true as_; omega)]; exact cl_ (Kd.C_below HR243.out HB.out)) | (exact cl_ (Kd.C_below HR243.out HB.out))); (case aB => exact (bl_ HB)); (case aF => exact (fun _ _ => trivial)); (case aO => exact (rl_ HO242.out)); (case aS => exact (below_size (bl_ HB))); (case aL => have := LMc9.out; have hlx_ := (show ((l0.take ((wrap64 ((ji11) - 4)) : Int).toNat).drop (t238 : Int).toNat).length = ((wrap64 ((ji11) - 4)).toNat - t238.toNat) from (by rw [List.length_drop, List.length_take]; have h_ : ((wrap64 ((ji11) - 4)) : Int) ≤ (l0.length : Int) := of_decide_eq_true as_; omega)); omega); intro v245 w18 ho hb hg hat; rw [← Ny244.out] at ho; have n0_ := Az.mk (hb); have n1_ := Az.mk (ho); clear HB; clear HO242; have HB := n0_; have HO246 := n1_; clear n0_ n1_; clear ho hb hg hat; obtain ⟨Ao19, co19, eo19⟩ := Kd.R_slice HO246.out; subst eo19) | (go_at_call 43; (refine (r03_Put.calls k _ _ ([] : List Int) _ _ y244 t247 t248 _ ?side1 ?side2 ?side3 ?side4 A10.out).mono ?_); (case side1 => exact Kd.C_nil _ _); (case side2 => exact Nat.le_refl _); (case side3 => exact cl_ (Kd.R_reads' HO246.out).2.2); (case side4 => exact (Kd.R_reads' HO246.out).2.1); rintro e w20 ⟨v249, rfl, ho0, hb⟩; have n0_ := Az.mk (Kd.R_elder' (rl_ HO246.out) (Kd.R_base ho0) hb); have n1_ := Az.mk (Kd.R_lower (Kd.R_new' ho0 (Kd.R_lt (rl_ HO246.out))) (below_size (bl_ HB))); have n2_ := Az.mk (below_step (bl_ HB) hb); clear HO246; clear HB; have HO246 := n0_; have HO250 := n1_; have HB := n2_; clear n0_ n1_ n2_; (try clear hb); (try clear hb2); (try clear hk); (try clear hi); (try clear ho0); have hcv21 := own_string (P := Try.prog) Try.underlying22 Try.underlying5 Try.underlying9 (Kd.own_of_R HO250.out); have hcv22q := fun nq_ : Nat => own_string (P := Try.prog) Try.underlying22 Try.underlying5 Try.underlying9 (Kd.own_of_R (Kd.R_drewN HO250.out nq_)); obtain ⟨i023, hi023, _, hsz23, _⟩ := info_parts info5; obtain ⟨hcut23, hA23, hC23⟩ := print_take_of (P := Try.prog) (Value.int .u8) 0 22 5 .i64 Try.underlying22 hi023 hsz23 A0 c0 l0 (ji11) (of_decide_eq_true as_) (of_decide_eq_true as_) HC0.out; have HR251 := Az.mk (Kd.C_of_reads (h1 := fun _ => rfl) (hA23 _ (Kd.reads_of_C HR0.out))); have HC251 := Az.mk hC23; clear hA23 hC23 hi023 hsz23; have hcv24 := Kd.C_string (P := Try.prog) (A := A0) (c := c0) Try.underlying22 Try.underlying5 Try.underlying9 (Kd.C_below HR251.out HB.out); have hcv24x := hcv24; (try rw [show (l0.take ((ji11) : Int).toNat).length = ((ji11) : Int).toNat from by rw [List.length_take]; exact Nat.min_eq_left (Int.toNat_le.mpr (of_decide_eq_true as_))] at hcv24x); have hcv24q := fun nq_ : Nat => Kd.C_string (P := Try.prog) (A := A0) (c := c0) Try.underlying22 Try.underlying5 Try.underlying9 (Kd.C_drewN (Kd.C_below HR251.out HB.out) nq_); (try simp only [show (l0.take ((ji11) : Int).toNat).length = ((ji11) : Int).toNat from by rw [List.length_take]; exact Nat.min_eq_left (Int.toNat_le.mpr (of_decide_eq_true as_))] at hcv24q))); try go_wp2_with (first | (go_at_call 32; (with_reducible refine (r01_Get.calls k _ _ l0 t237 t238 t239 _ ?side1 ?side2 A2.out).mono ?_); (case side1 => exact cl_ HR0.out); (case side2 => exact HC0.out); rintro e w' ⟨rfl, ⟨nd, rfl⟩⟩; (try first | exact ⟨rfl, _, World.drewN_drewN _ _ _⟩ | exact ⟨rfl, _, Eq.trans (World.drewN_drewN _ _ _) (congrArg (World.drewN _) (Nat.add_assoc _ _ _))⟩)) | ((with_reducible refine gate_dst (N := 32) rfl ?_); refine Kd.R_lit (Kd.int .u8) _ 5 ?hg (N := 32) ?hd (xs := ([] : List Int)) (inner := []) (ok := fun _ => True) (okp := fun _ => True) ?hr ?hp (fun _ hk => hk) trivial (Below.refl _ _) (Nat.le_refl _) (by simp) ?_; (case hd => rfl); (case hg => rfl); (case hr => first | (go_simp; done) | (go_simp; rfl)); (case hp => exact (Reps.none _ _)); intro v241 w15 ho16 hb hg_ hnew_; clear hg_ hnew_; (first | rw [← Ny240.out] at ho16 | (simp only [Int.reduceToNat] at ho16; rw [← Ny240.out] at ho16)); have n0_ := Az.mk (Kd.R_lower ho16 (below_size (bl_ HB))); have n1_ := Az.mk (below_step (bl_ HB) hb); clear HB; have HO242 := n0_; have HB := n1_; clear n0_ n1_; clear hb ho16; obtain ⟨i017, hi017, _, hsz17, _⟩ := info_parts info5; obtain ⟨A17, hcut17, hA17, hC17⟩ := print_mid_of (P := Try.prog) (Value.int .u8) 0 22 5 .i64 .i64 Try.underlying22 hi017 hsz17 A0 c0 l0 t238 (wrap64 ((ji11) - 4)) (of_decide_eq_true as_) (by first | omega | exact of_decide_eq_true as_) (of_decide_eq_true as_) HC0.out; have HR243 := Az.mk (Kd.C_of_reads (h1 := fun _ => rfl) (hA17 _ (Kd.reads_of_C HR0.out))); have HC243 := Az.mk hC17; clear hA17 hC17 hi017 hsz17) | ((with_reducible refine gate_builtin (b := .append) (xs := #[.tmp 32, .tmp 37]) rfl ?_); at_builtin; refine Kd.R_append_rows (Kd.int .u8) (w0 := w) w.heap.size rfl (.tmp 32) (.tmp 37) 22 5 (.int .u8 0) 1 rfl Try.underlying22 info5 rfl (by decide) (by omega) v241 y240 ((l0.take ((wrap64 ((ji11) - 4)) : Int).toNat).drop (t238 : Int).toNat) _ _ _ (fun _ => True) (fun _ => False) rfl rfl ?aO ?aR (fun _ _ h => h) (fun _ h => h.elim) ?aF ?aB ?aS ?aL ?_; (case aR => first | (rw [← show ((l0.take ((wrap64 ((ji11) - 4)) : Int).toNat).drop (t238 : Int).toNat).length = ((wrap64 ((ji11) - 4)).toNat - t238.toNat) from (by rw [List.length_drop, List.length_take]; have h_ : ((wrap64 ((ji11) - 4)) : Int) ≤ (l0.length : Int) := of_decide_eq_true as_; omega)]; exact cl_ (Kd.C_below HR243.out HB.out)) | (exact cl_ (Kd.C_below HR243.out HB.out))); (case aB => exact (bl_ HB)); (case aF => exact (fun _ _ => trivial)); (case aO => exact (rl_ HO242.out)); (case aS => exact (below_size (bl_ HB))); (case aL => have := LMc9.out; have hlx_ := (show ((l0.take ((wrap64 ((ji11) - 4)) : Int).toNat).drop (t238 : Int).toNat).length = ((wrap64 ((ji11) - 4)).toNat - t238.toNat) from (by rw [List.length_drop, List.length_take]; have h_ : ((wrap64 ((ji11) - 4)) : Int) ≤ (l0.length : Int) := of_decide_eq_true as_; omega)); omega); intro v245 w18 ho hb hg hat; rw [← Ny244.out] at ho; have n0_ := Az.mk (hb); have n1_ := Az.mk (ho); clear HB; clear HO242; have HB := n0_; have HO246 := n1_; clear n0_ n1_; clear ho hb hg hat; obtain ⟨Ao19, co19, eo19⟩ := Kd.R_slice HO246.out; subst eo19) | (go_at_call 43; (refine (r03_Put.calls k _ _ ([] : List Int) _ _ y244 t247 t248 _ ?side1 ?side2 ?side3 ?side4 A10.out).mono ?_); (case side1 => exact Kd.C_nil _ _); (case side2 => exact Nat.le_refl _); (case side3 => exact cl_ (Kd.R_reads' HO246.out).2.2); (case side4 => exact (Kd.R_reads' HO246.out).2.1); rintro e w20 ⟨v249, rfl, ho0, hb⟩; have n0_ := Az.mk (Kd.R_elder' (rl_ HO246.out) (Kd.R_base ho0) hb); have n1_ := Az.mk (Kd.R_lower (Kd.R_new' ho0 (Kd.R_lt (rl_ HO246.out))) (below_size (bl_ HB))); have n2_ := Az.mk (below_step (bl_ HB) hb); clear HO246; clear HB; have HO246 := n0_; have HO250 := n1_; have HB := n2_; clear n0_ n1_ n2_; (try clear hb); (try clear hb2); (try clear hk); (try clear hi); (try clear ho0); have hcv21 := own_string (P := Try.prog) Try.underlying22 Try.underlying5 Try.underlying9 (Kd.own_of_R HO250.out); have hcv22q := fun nq_ : Nat => own_string (P := Try.prog) Try.underlying22 Try.underlying5 Try.underlying9 (Kd.own_of_R (Kd.R_drewN HO250.out nq_)); obtain ⟨i023, hi023, _, hsz23, _⟩ := info_parts info5; obtain ⟨hcut23, hA23, hC23⟩ := print_take_of (P := Try.prog) (Value.int .u8) 0 22 5 .i64 Try.underlying22 hi023 hsz23 A0 c0 l0 (ji11) (of_decide_eq_true as_) (of_decide_eq_true as_) HC0.out; have HR251 := Az.mk (Kd.C_of_reads (h1 := fun _ => rfl) (hA23 _ (Kd.reads_of_C HR0.out))); have HC251 := Az.mk hC23; clear hA23 hC23 hi023 hsz23; have hcv24 := Kd.C_string (P := Try.prog) (A := A0) (c := c0) Try.underlying22 Try.underlying5 Try.underlying9 (Kd.C_below HR251.out HB.out); have hcv24x := hcv24; (try rw [show (l0.take ((ji11) : Int).toNat).length = ((ji11) : Int).toNat from by rw [List.length_take]; exact Nat.min_eq_left (Int.toNat_le.mpr (of_decide_eq_true as_))] at hcv24x); have hcv24q := fun nq_ : Nat => Kd.C_string (P := Try.prog) (A := A0) (c := c0) Try.underlying22 Try.underlying5 Try.underlying9 (Kd.C_drewN (Kd.C_below HR251.out HB.out) nq_); (try simp only [show (l0.take ((ji11) : Int).toNat).length = ((ji11) : Int).toNat from by rw [List.length_take]; exact Nat.min_eq_left (Int.toNat_le.mpr (of_decide_eq_true as_))] at hcv24q))))
           go_ret3
           exact ⟨_, by first | rfl | (simp [errW_none, errW_some] <;> rfl) | (simp only [← hji11]; first | rfl | (simp [errW_none, errW_some] <;> rfl)) | (simp [*, errW_none, errW_some] <;> rfl), by (with_reducible repeat (first | apply Kd.R_alloc | apply Kd.R_drewN | apply Kd.R_drew)); exact Kd.R_mono HO246.out (fun _ hk => trivial), bl_ HB⟩
          ·rw [if_neg c14] at H
           have c14b0 : ((strOfNums t247).toList == (strOfNums (l0.take ((ji11) : Int).toNat)).toList) = false := beq_eq_false_iff_ne.mpr c14
           have c14b1 : ((strOfNums t247).toList != (strOfNums (l0.take ((ji11) : Int).toNat)).toList) = true := bne_iff_ne.mpr c14
           simp only [Option.some.injEq, Prod.mk.injEq] at H
           obtain ⟨rfl, rfl, rfl⟩ := H
           go_enter Try.func41, Try.ntmps41
           go_wp2_with (first | (go_at_call 32; (with_reducible refine (r01_Get.calls k _ _ l0 t237 t238 t239 _ ?side1 ?side2 A2.out).mono ?_); (case side1 => exact cl_ HR0.out); (case side2 => exact HC0.out); rintro e w' ⟨rfl, ⟨nd, rfl⟩⟩; (try first | exact ⟨rfl, _, World.drewN_drewN _ _ _⟩ | exact ⟨rfl, _, Eq.trans (World.drewN_drewN _ _ _) (congrArg (World.drewN _) (Nat.add_assoc _ _ _))⟩)) | ((with_reducible refine gate_dst (N := 32) rfl ?_); refine Kd.R_lit (Kd.int .u8) _ 5 ?hg (N := 32) ?hd (xs := ([] : List Int)) (inner := []) (ok := fun _ => True) (okp := fun _ => True) ?hr ?hp (fun _ hk => hk) trivial (Below.refl _ _) (Nat.le_refl _) (by simp) ?_; (case hd => rfl); (case hg => rfl); (case hr => first | (go_simp; done) | (go_simp; rfl)); (case hp => exact (Reps.none _ _)); intro v241 w25 ho26 hb hg_ hnew_; clear hg_ hnew_; (first | rw [← Ny240.out] at ho26 | (simp only [Int.reduceToNat] at ho26; rw [← Ny240.out] at ho26)); have n0_ := Az.mk (Kd.R_lower ho26 (below_size (bl_ HB))); have n1_ := Az.mk (below_step (bl_ HB) hb); clear HB; have HO242 := n0_; have HB := n1_; clear n0_ n1_; clear hb ho26; obtain ⟨i027, hi027, _, hsz27, _⟩ := info_parts info5; obtain ⟨A27, hcut27, hA27, hC27⟩ := print_mid_of (P := Try.prog) (Value.int .u8) 0 22 5 .i64 .i64 Try.underlying22 hi027 hsz27 A0 c0 l0 t238 (wrap64 ((ji11) - 4)) (of_decide_eq_true as_) (by first | omega | exact of_decide_eq_true as_) (of_decide_eq_true as_) HC0.out; have HR243 := Az.mk (Kd.C_of_reads (h1 := fun _ => rfl) (hA27 _ (Kd.reads_of_C HR0.out))); have HC243 := Az.mk hC27; clear hA27 hC27 hi027 hsz27) | ((with_reducible refine gate_builtin (b := .append) (xs := #[.tmp 32, .tmp 37]) rfl ?_); at_builtin; refine Kd.R_append_rows (Kd.int .u8) (w0 := w) w.heap.size rfl (.tmp 32) (.tmp 37) 22 5 (.int .u8 0) 1 rfl Try.underlying22 info5 rfl (by decide) (by omega) v241 y240 ((l0.take ((wrap64 ((ji11) - 4)) : Int).toNat).drop (t238 : Int).toNat) _ _ _ (fun _ => True) (fun _ => False) rfl rfl ?aO ?aR (fun _ _ h => h) (fun _ h => h.elim) ?aF ?aB ?aS ?aL ?_; (case aR => first | (rw [← show ((l0.take ((wrap64 ((ji11) - 4)) : Int).toNat).drop (t238 : Int).toNat).length = ((wrap64 ((ji11) - 4)).toNat - t238.toNat) from (by rw [List.length_drop, List.length_take]; have h_ : ((wrap64 ((ji11) - 4)) : Int) ≤ (l0.length : Int) := of_decide_eq_true as_; omega)]; exact cl_ (Kd.C_below HR243.out HB.out)) | (exact cl_ (Kd.C_below HR243.out HB.out))); (case aB => exact (bl_ HB)); (case aF => exact (fun _ _ => trivial)); (case aO => exact (rl_ HO242.out)); (case aS => exact (below_size (bl_ HB))); (case aL => have := LMc9.out; have hlx_ := (show ((l0.take ((wrap64 ((ji11) - 4)) : Int).toNat).drop (t238 : Int).toNat).length = ((wrap64 ((ji11) - 4)).toNat - t238.toNat) from (by rw [List.length_drop, List.length_take]; have h_ : ((wrap64 ((ji11) - 4)) : Int) ≤ (l0.length : Int) := of_decide_eq_true as_; omega)); omega); intro v245 w28 ho hb hg hat; rw [← Ny244.out] at ho; have n0_ := Az.mk (hb); have n1_ := Az.mk (ho); clear HB; clear HO242; have HB := n0_; have HO246 := n1_; clear n0_ n1_; clear ho hb hg hat; obtain ⟨Ao29, co29, eo29⟩ := Kd.R_slice HO246.out; subst eo29) | (go_at_call 43; (refine (r03_Put.calls k _ _ ([] : List Int) _ _ y244 t247 t248 _ ?side1 ?side2 ?side3 ?side4 A10.out).mono ?_); (case side1 => exact Kd.C_nil _ _); (case side2 => exact Nat.le_refl _); (case side3 => exact cl_ (Kd.R_reads' HO246.out).2.2); (case side4 => exact (Kd.R_reads' HO246.out).2.1); rintro e w30 ⟨v249, rfl, ho0, hb⟩; have n0_ := Az.mk (Kd.R_elder' (rl_ HO246.out) (Kd.R_base ho0) hb); have n1_ := Az.mk (Kd.R_lower (Kd.R_new' ho0 (Kd.R_lt (rl_ HO246.out))) (below_size (bl_ HB))); have n2_ := Az.mk (below_step (bl_ HB) hb); clear HO246; clear HB; have HO246 := n0_; have HO250 := n1_; have HB := n2_; clear n0_ n1_ n2_; (try clear hb); (try clear hb2); (try clear hk); (try clear hi); (try clear ho0); have hcv31 := own_string (P := Try.prog) Try.underlying22 Try.underlying5 Try.underlying9 (Kd.own_of_R HO250.out); have hcv32q := fun nq_ : Nat => own_string (P := Try.prog) Try.underlying22 Try.underlying5 Try.underlying9 (Kd.own_of_R (Kd.R_drewN HO250.out nq_)); obtain ⟨i033, hi033, _, hsz33, _⟩ := info_parts info5; obtain ⟨hcut33, hA33, hC33⟩ := print_take_of (P := Try.prog) (Value.int .u8) 0 22 5 .i64 Try.underlying22 hi033 hsz33 A0 c0 l0 (ji11) (of_decide_eq_true as_) (of_decide_eq_true as_) HC0.out; have HR251 := Az.mk (Kd.C_of_reads (h1 := fun _ => rfl) (hA33 _ (Kd.reads_of_C HR0.out))); have HC251 := Az.mk hC33; clear hA33 hC33 hi033 hsz33; have hcv34 := Kd.C_string (P := Try.prog) (A := A0) (c := c0) Try.underlying22 Try.underlying5 Try.underlying9 (Kd.C_below HR251.out HB.out); have hcv34x := hcv34; (try rw [show (l0.take ((ji11) : Int).toNat).length = ((ji11) : Int).toNat from by rw [List.length_take]; exact Nat.min_eq_left (Int.toNat_le.mpr (of_decide_eq_true as_))] at hcv34x); have hcv34q := fun nq_ : Nat => Kd.C_string (P := Try.prog) (A := A0) (c := c0) Try.underlying22 Try.underlying5 Try.underlying9 (Kd.C_drewN (Kd.C_below HR251.out HB.out) nq_); (try simp only [show (l0.take ((ji11) : Int).toNat).length = ((ji11) : Int).toNat from by rw [List.length_take]; exact Nat.min_eq_left (Int.toNat_le.mpr (of_decide_eq_true as_))] at hcv34q)))
           repeat (go_quiet (first | (go_at_call 32; (with_reducible refine (r01_Get.calls k _ _ l0 t237 t238 t239 _ ?side1 ?side2 A2.out).mono ?_); (case side1 => exact cl_ HR0.out); (case side2 => exact HC0.out); rintro e w' ⟨rfl, ⟨nd, rfl⟩⟩; (try first | exact ⟨rfl, _, World.drewN_drewN _ _ _⟩ | exact ⟨rfl, _, Eq.trans (World.drewN_drewN _ _ _) (congrArg (World.drewN _) (Nat.add_assoc _ _ _))⟩)) | ((with_reducible refine gate_dst (N := 32) rfl ?_); refine Kd.R_lit (Kd.int .u8) _ 5 ?hg (N := 32) ?hd (xs := ([] : List Int)) (inner := []) (ok := fun _ => True) (okp := fun _ => True) ?hr ?hp (fun _ hk => hk) trivial (Below.refl _ _) (Nat.le_refl _) (by simp) ?_; (case hd => rfl); (case hg => rfl); (case hr => first | (go_simp; done) | (go_simp; rfl)); (case hp => exact (Reps.none _ _)); intro v241 w25 ho26 hb hg_ hnew_; clear hg_ hnew_; (first | rw [← Ny240.out] at ho26 | (simp only [Int.reduceToNat] at ho26; rw [← Ny240.out] at ho26)); have n0_ := Az.mk (Kd.R_lower ho26 (below_size (bl_ HB))); have n1_ := Az.mk (below_step (bl_ HB) hb); clear HB; have HO242 := n0_; have HB := n1_; clear n0_ n1_; clear hb ho26; obtain ⟨i027, hi027, _, hsz27, _⟩ := info_parts info5; obtain ⟨A27, hcut27, hA27, hC27⟩ := print_mid_of (P := Try.prog) (Value.int .u8) 0 22 5 .i64 .i64 Try.underlying22 hi027 hsz27 A0 c0 l0 t238 (wrap64 ((ji11) - 4)) (of_decide_eq_true as_) (by first | omega | exact of_decide_eq_true as_) (of_decide_eq_true as_) HC0.out; have HR243 := Az.mk (Kd.C_of_reads (h1 := fun _ => rfl) (hA27 _ (Kd.reads_of_C HR0.out))); have HC243 := Az.mk hC27; clear hA27 hC27 hi027 hsz27) | ((with_reducible refine gate_builtin (b := .append) (xs := #[.tmp 32, .tmp 37]) rfl ?_); at_builtin; refine Kd.R_append_rows (Kd.int .u8) (w0 := w) w.heap.size rfl (.tmp 32) (.tmp 37) 22 5 (.int .u8 0) 1 rfl Try.underlying22 info5 rfl (by decide) (by omega) v241 y240 ((l0.take ((wrap64 ((ji11) - 4)) : Int).toNat).drop (t238 : Int).toNat) _ _ _ (fun _ => True) (fun _ => False) rfl rfl ?aO ?aR (fun _ _ h => h) (fun _ h => h.elim) ?aF ?aB ?aS ?aL ?_; (case aR => first | (rw [← show ((l0.take ((wrap64 ((ji11) - 4)) : Int).toNat).drop (t238 : Int).toNat).length = ((wrap64 ((ji11) - 4)).toNat - t238.toNat) from (by rw [List.length_drop, List.length_take]; have h_ : ((wrap64 ((ji11) - 4)) : Int) ≤ (l0.length : Int) := of_decide_eq_true as_; omega)]; exact cl_ (Kd.C_below HR243.out HB.out)) | (exact cl_ (Kd.C_below HR243.out HB.out))); (case aB => exact (bl_ HB)); (case aF => exact (fun _ _ => trivial)); (case aO => exact (rl_ HO242.out)); (case aS => exact (below_size (bl_ HB))); (case aL => have := LMc9.out; have hlx_ := (show ((l0.take ((wrap64 ((ji11) - 4)) : Int).toNat).drop (t238 : Int).toNat).length = ((wrap64 ((ji11) - 4)).toNat - t238.toNat) from (by rw [List.length_drop, List.length_take]; have h_ : ((wrap64 ((ji11) - 4)) : Int) ≤ (l0.length : Int) := of_decide_eq_true as_; omega)); omega); intro v245 w28 ho hb hg hat; rw [← Ny244.out] at ho; have n0_ := Az.mk (hb); have n1_ := Az.mk (ho); clear HB; clear HO242; have HB := n0_; have HO246 := n1_; clear n0_ n1_; clear ho hb hg hat; obtain ⟨Ao29, co29, eo29⟩ := Kd.R_slice HO246.out; subst eo29) | (go_at_call 43; (refine (r03_Put.calls k _ _ ([] : List Int) _ _ y244 t247 t248 _ ?side1 ?side2 ?side3 ?side4 A10.out).mono ?_); (case side1 => exact Kd.C_nil _ _); (case side2 => exact Nat.le_refl _); (case side3 => exact cl_ (Kd.R_reads' HO246.out).2.2); (case side4 => exact (Kd.R_reads' HO246.out).2.1); rintro e w30 ⟨v249, rfl, ho0, hb⟩; have n0_ := Az.mk (Kd.R_elder' (rl_ HO246.out) (Kd.R_base ho0) hb); have n1_ := Az.mk (Kd.R_lower (Kd.R_new' ho0 (Kd.R_lt (rl_ HO246.out))) (below_size (bl_ HB))); have n2_ := Az.mk (below_step (bl_ HB) hb); clear HO246; clear HB; have HO246 := n0_; have HO250 := n1_; have HB := n2_; clear n0_ n1_ n2_; (try clear hb); (try clear hb2); (try clear hk); (try clear hi); (try clear ho0); have hcv31 := own_string (P := Try.prog) Try.underlying22 Try.underlying5 Try.underlying9 (Kd.own_of_R HO250.out); have hcv32q := fun nq_ : Nat => own_string (P := Try.prog) Try.underlying22 Try.underlying5 Try.underlying9 (Kd.own_of_R (Kd.R_drewN HO250.out nq_)); obtain ⟨i033, hi033, _, hsz33, _⟩ := info_parts info5; obtain ⟨hcut33, hA33, hC33⟩ := print_take_of (P := Try.prog) (Value.int .u8) 0 22 5 .i64 Try.underlying22 hi033 hsz33 A0 c0 l0 (ji11) (of_decide_eq_true as_) (of_decide_eq_true as_) HC0.out; have HR251 := Az.mk (Kd.C_of_reads (h1 := fun _ => rfl) (hA33 _ (Kd.reads_of_C HR0.out))); have HC251 := Az.mk hC33; clear hA33 hC33 hi033 hsz33; have hcv34 := Kd.C_string (P := Try.prog) (A := A0) (c := c0) Try.underlying22 Try.underlying5 Try.underlying9 (Kd.C_below HR251.out HB.out); have hcv34x := hcv34; (try rw [show (l0.take ((ji11) : Int).toNat).length = ((ji11) : Int).toNat from by rw [List.length_take]; exact Nat.min_eq_left (Int.toNat_le.mpr (of_decide_eq_true as_))] at hcv34x); have hcv34q := fun nq_ : Nat => Kd.C_string (P := Try.prog) (A := A0) (c := c0) Try.underlying22 Try.underlying5 Try.underlying9 (Kd.C_drewN (Kd.C_below HR251.out HB.out) nq_); (try simp only [show (l0.take ((ji11) : Int).toNat).length = ((ji11) : Int).toNat from by rw [List.length_take]; exact Nat.min_eq_left (Int.toNat_le.mpr (of_decide_eq_true as_))] at hcv34q))); try go_wp2_with (first | (go_at_call 32; (with_reducible refine (r01_Get.calls k _ _ l0 t237 t238 t239 _ ?side1 ?side2 A2.out).mono ?_); (case side1 => exact cl_ HR0.out); (case side2 => exact HC0.out); rintro e w' ⟨rfl, ⟨nd, rfl⟩⟩; (try first | exact ⟨rfl, _, World.drewN_drewN _ _ _⟩ | exact ⟨rfl, _, Eq.trans (World.drewN_drewN _ _ _) (congrArg (World.drewN _) (Nat.add_assoc _ _ _))⟩)) | ((with_reducible refine gate_dst (N := 32) rfl ?_); refine Kd.R_lit (Kd.int .u8) _ 5 ?hg (N := 32) ?hd (xs := ([] : List Int)) (inner := []) (ok := fun _ => True) (okp := fun _ => True) ?hr ?hp (fun _ hk => hk) trivial (Below.refl _ _) (Nat.le_refl _) (by simp) ?_; (case hd => rfl); (case hg => rfl); (case hr => first | (go_simp; done) | (go_simp; rfl)); (case hp => exact (Reps.none _ _)); intro v241 w25 ho26 hb hg_ hnew_; clear hg_ hnew_; (first | rw [← Ny240.out] at ho26 | (simp only [Int.reduceToNat] at ho26; rw [← Ny240.out] at ho26)); have n0_ := Az.mk (Kd.R_lower ho26 (below_size (bl_ HB))); have n1_ := Az.mk (below_step (bl_ HB) hb); clear HB; have HO242 := n0_; have HB := n1_; clear n0_ n1_; clear hb ho26; obtain ⟨i027, hi027, _, hsz27, _⟩ := info_parts info5; obtain ⟨A27, hcut27, hA27, hC27⟩ := print_mid_of (P := Try.prog) (Value.int .u8) 0 22 5 .i64 .i64 Try.underlying22 hi027 hsz27 A0 c0 l0 t238 (wrap64 ((ji11) - 4)) (of_decide_eq_true as_) (by first | omega | exact of_decide_eq_true as_) (of_decide_eq_true as_) HC0.out; have HR243 := Az.mk (Kd.C_of_reads (h1 := fun _ => rfl) (hA27 _ (Kd.reads_of_C HR0.out))); have HC243 := Az.mk hC27; clear hA27 hC27 hi027 hsz27) | ((with_reducible refine gate_builtin (b := .append) (xs := #[.tmp 32, .tmp 37]) rfl ?_); at_builtin; refine Kd.R_append_rows (Kd.int .u8) (w0 := w) w.heap.size rfl (.tmp 32) (.tmp 37) 22 5 (.int .u8 0) 1 rfl Try.underlying22 info5 rfl (by decide) (by omega) v241 y240 ((l0.take ((wrap64 ((ji11) - 4)) : Int).toNat).drop (t238 : Int).toNat) _ _ _ (fun _ => True) (fun _ => False) rfl rfl ?aO ?aR (fun _ _ h => h) (fun _ h => h.elim) ?aF ?aB ?aS ?aL ?_; (case aR => first | (rw [← show ((l0.take ((wrap64 ((ji11) - 4)) : Int).toNat).drop (t238 : Int).toNat).length = ((wrap64 ((ji11) - 4)).toNat - t238.toNat) from (by rw [List.length_drop, List.length_take]; have h_ : ((wrap64 ((ji11) - 4)) : Int) ≤ (l0.length : Int) := of_decide_eq_true as_; omega)]; exact cl_ (Kd.C_below HR243.out HB.out)) | (exact cl_ (Kd.C_below HR243.out HB.out))); (case aB => exact (bl_ HB)); (case aF => exact (fun _ _ => trivial)); (case aO => exact (rl_ HO242.out)); (case aS => exact (below_size (bl_ HB))); (case aL => have := LMc9.out; have hlx_ := (show ((l0.take ((wrap64 ((ji11) - 4)) : Int).toNat).drop (t238 : Int).toNat).length = ((wrap64 ((ji11) - 4)).toNat - t238.toNat) from (by rw [List.length_drop, List.length_take]; have h_ : ((wrap64 ((ji11) - 4)) : Int) ≤ (l0.length : Int) := of_decide_eq_true as_; omega)); omega); intro v245 w28 ho hb hg hat; rw [← Ny244.out] at ho; have n0_ := Az.mk (hb); have n1_ := Az.mk (ho); clear HB; clear HO242; have HB := n0_; have HO246 := n1_; clear n0_ n1_; clear ho hb hg hat; obtain ⟨Ao29, co29, eo29⟩ := Kd.R_slice HO246.out; subst eo29) | (go_at_call 43; (refine (r03_Put.calls k _ _ ([] : List Int) _ _ y244 t247 t248 _ ?side1 ?side2 ?side3 ?side4 A10.out).mono ?_); (case side1 => exact Kd.C_nil _ _); (case side2 => exact Nat.le_refl _); (case side3 => exact cl_ (Kd.R_reads' HO246.out).2.2); (case side4 => exact (Kd.R_reads' HO246.out).2.1); rintro e w30 ⟨v249, rfl, ho0, hb⟩; have n0_ := Az.mk (Kd.R_elder' (rl_ HO246.out) (Kd.R_base ho0) hb); have n1_ := Az.mk (Kd.R_lower (Kd.R_new' ho0 (Kd.R_lt (rl_ HO246.out))) (below_size (bl_ HB))); have n2_ := Az.mk (below_step (bl_ HB) hb); clear HO246; clear HB; have HO246 := n0_; have HO250 := n1_; have HB := n2_; clear n0_ n1_ n2_; (try clear hb); (try clear hb2); (try clear hk); (try clear hi); (try clear ho0); have hcv31 := own_string (P := Try.prog) Try.underlying22 Try.underlying5 Try.underlying9 (Kd.own_of_R HO250.out); have hcv32q := fun nq_ : Nat => own_string (P := Try.prog) Try.underlying22 Try.underlying5 Try.underlying9 (Kd.own_of_R (Kd.R_drewN HO250.out nq_)); obtain ⟨i033, hi033, _, hsz33, _⟩ := info_parts info5; obtain ⟨hcut33, hA33, hC33⟩ := print_take_of (P := Try.prog) (Value.int .u8) 0 22 5 .i64 Try.underlying22 hi033 hsz33 A0 c0 l0 (ji11) (of_decide_eq_true as_) (of_decide_eq_true as_) HC0.out; have HR251 := Az.mk (Kd.C_of_reads (h1 := fun _ => rfl) (hA33 _ (Kd.reads_of_C HR0.out))); have HC251 := Az.mk hC33; clear hA33 hC33 hi033 hsz33; have hcv34 := Kd.C_string (P := Try.prog) (A := A0) (c := c0) Try.underlying22 Try.underlying5 Try.underlying9 (Kd.C_below HR251.out HB.out); have hcv34x := hcv34; (try rw [show (l0.take ((ji11) : Int).toNat).length = ((ji11) : Int).toNat from by rw [List.length_take]; exact Nat.min_eq_left (Int.toNat_le.mpr (of_decide_eq_true as_))] at hcv34x); have hcv34q := fun nq_ : Nat => Kd.C_string (P := Try.prog) (A := A0) (c := c0) Try.underlying22 Try.underlying5 Try.underlying9 (Kd.C_drewN (Kd.C_below HR251.out HB.out) nq_); (try simp only [show (l0.take ((ji11) : Int).toNat).length = ((ji11) : Int).toNat from by rw [List.length_take]; exact Nat.min_eq_left (Int.toNat_le.mpr (of_decide_eq_true as_))] at hcv34q))))
           go_ret3
           exact ⟨_, by first | rfl | (simp [errW_none, errW_some] <;> rfl) | (simp only [← hji11]; first | rfl | (simp [errW_none, errW_some] <;> rfl)) | (simp [*, errW_none, errW_some] <;> rfl), nl_, bl_ HB⟩
         ·rw [if_neg c13] at H
          exact absurd H (by simp)
        ·rw [if_neg c12] at H
         exact absurd H (by simp)
       ·rw [if_neg c9] at H
        exact absurd H (by simp)
      ·rw [if_neg c8] at H
       exact absurd H (by simp)
     ·rw [if_neg c7] at H
      exact absurd H (by simp)
    ·rw [if_neg c6] at H
     exact absurd H (by simp)
 ·rw [if_neg c3] at H
  have c3b0 : (t239 == 0) = false := beq_eq_false_iff_ne.mpr c3
  have c3b1 : (t239 != 0) = true := bne_iff_ne.mpr c3
  simp only [Option.some.injEq, Prod.mk.injEq] at H
  obtain ⟨rfl, rfl, rfl⟩ := H
  go_enter Try.func41, Try.ntmps41
  go_wp2_with (first | (go_at_call 32; (with_reducible refine (r01_Get.calls k _ _ l0 t237 t238 t239 _ ?side1 ?side2 A2.out).mono ?_); (case side1 => exact cl_ HR0.out); (case side2 => exact HC0.out); rintro e w' ⟨rfl, ⟨nd, rfl⟩⟩; (try first | exact ⟨rfl, _, World.drewN_drewN _ _ _⟩ | exact ⟨rfl, _, Eq.trans (World.drewN_drewN _ _ _) (congrArg (World.drewN _) (Nat.add_assoc _ _ _))⟩)))
  repeat (go_quiet (first | (go_at_call 32; (with_reducible refine (r01_Get.calls k _ _ l0 t237 t238 t239 _ ?side1 ?side2 A2.out).mono ?_); (case side1 => exact cl_ HR0.out); (case side2 => exact HC0.out); rintro e w' ⟨rfl, ⟨nd, rfl⟩⟩; (try first | exact ⟨rfl, _, World.drewN_drewN _ _ _⟩ | exact ⟨rfl, _, Eq.trans (World.drewN_drewN _ _ _) (congrArg (World.drewN _) (Nat.add_assoc _ _ _))⟩))); try go_wp2_with (first | (go_at_call 32; (with_reducible refine (r01_Get.calls k _ _ l0 t237 t238 t239 _ ?side1 ?side2 A2.out).mono ?_); (case side1 => exact cl_ HR0.out); (case side2 => exact HC0.out); rintro e w' ⟨rfl, ⟨nd, rfl⟩⟩; (try first | exact ⟨rfl, _, World.drewN_drewN _ _ _⟩ | exact ⟨rfl, _, Eq.trans (World.drewN_drewN _ _ _) (congrArg (World.drewN _) (Nat.add_assoc _ _ _))⟩))))
  go_ret3
  exact ⟨_, er_, nl_, bl_ HB⟩
def r03_Scan.l0 : Nat → List Int → List Int → Int → Int → Int → List (List Int) → Option ((List (List Int)) × Int)
 | 0, _, _, _, _, _, _ => none
 | k + 1, x0, x4, x5, x6, x7, x8 => if x6 = 0 then (if x8.length < 5864062014805 then (if 0 ≤ (wrap64 (x7 + x5)) then (if (wrap64 (x7 + x5)) ≤ (x0.length : Int) then ((r03_Get.f k (x0.drop ((wrap64 (x7 + x5)) : Int).toNat)).bind fun bt261 => (r03_Scan.l0 k x0 bt261.1 bt261.2.1 bt261.2.2 (wrap64 (x7 + x5)) (x8 ++ [x4]))) else (none)) else (none)) else (none)) else (some (x8, x7))
def r03_Scan.f (k : Nat) (l0 : List Int) : Option ((List (List Int)) × Int) := (r03_Get.f k l0).bind fun bt252 => (r03_Scan.l0 k l0 bt252.1 bt252.2.1 bt252.2.2 0 ([] : List (List Int)))
theorem r03_Scan.mono_l : ∀ k, (∀ y0 y1 y2 y3 y4 y5, LeO (r03_Scan.l0 k y0 y1 y2 y3 y4 y5) (r03_Scan.l0 (k + 1) y0 y1 y2 y3 y4 y5))
 | 0 => fun _ _ _ _ _ _ r h => by simp [r03_Scan.l0] at h
 | k + 1 => by
  have ih0 := r03_Scan.mono_l k
  ·intro y0 y1 y2 y3 y4 y5
   unfold r03_Scan.l0
   repeat' first
   | (with_reducible exact ih0 _ _ _ _ _ _)
   | (with_reducible exact r03_Get.mono _ _)
   | (with_reducible exact LeO.refl _)
   | (with_reducible exact LeO.none _)
   | (with_reducible refine LeO.ite ?_ ?_)
   | (with_reducible refine LeO.bind ?_ (fun _ => ?_))
   | exact ih0 _ _ _ _ _ _
   | exact r03_Get.mono _ _
   | exact LeO.none _
   | refine LeO.ite ?_ ?_
   | refine LeO.bind ?_ (fun _ => ?_)
theorem r03_Scan.mono : ∀ a0 k, LeO (r03_Scan.f k a0) (r03_Scan.f (k + 1) a0) := by
 intro a0 k
 have ih0 := r03_Scan.mono_l k
 unfold r03_Scan.f
 repeat' first
   | (with_reducible exact ih0 _ _ _ _ _ _)
   | (with_reducible exact r03_Get.mono _ _)
   | (with_reducible exact LeO.refl _)
   | (with_reducible exact LeO.none _)
   | (with_reducible refine LeO.ite ?_ ?_)
   | (with_reducible refine LeO.bind ?_ (fun _ => ?_))
   | exact ih0 _ _ _ _ _ _
   | exact r03_Get.mono _ _
   | exact LeO.none _
   | refine LeO.ite ?_ ?_
   | refine LeO.bind ?_ (fun _ => ?_)
theorem r03_Scan.calls (k : Nat) (A0 : Option Addr) (c0 : Nat) (l0 : List Int) (r1 : List (List Int)) (r2 : Int) (w : World) (hr0 : Kd.C (Kd.int .u8) w A0 l0.length l0) (hc0 : l0.length ≤ c0) (h : r03_Scan.f k l0 = some (r1, r2)) :
  Calls Try.prog 31 #[.slice A0 l0.length c0] w fun e w' => ∃ v0_ : Value, e = .returned (.tuple #[v0_, .int .i64 r2]) ∧ Kd.S (Kd.slice 5 (Kd.int .u8)) 22 w' w.heap.size (fun _ => True) v0_ r1 ∧ Below w.heap.size w w' := by
 have HR0 := Az.mk hr0
 have HC0 := Az.mk hc0
 clear hr0 hc0
 have HB := Az.mk (Below.refl w.heap.size w)
 have H : ((r03_Get.f k l0).bind fun bt252 => (r03_Scan.l0 k l0 bt252.1 bt252.2.1 bt252.2.2 0 ([] : List (List Int)))) = some (r1, r2) := h
 clear h
 replace H := Option.bind_eq_some_iff.mp H
 obtain ⟨⟨t252, t253, t254⟩, A20, H⟩ := H
 replace H : (r03_Scan.l0 k l0 t252 t253 t254 0 ([] : List (List Int))) = some (r1, r2) := H
 have A2 := Az.mk A20
 clear A20
 have H' := Az.mk H
 clear H
 go_enter Try.func31, Try.ntmps31
 go_wp2_with (first | ((with_reducible refine gate_callee (f := 41) rfl ?_); refine goesL_ (some 11) rfl rfl Try.func41 (by kernel_rfl) rfl #[.slice A0 l0.length c0] rfl ar_ ?_; (with_reducible refine (r03_Get.calls k _ _ l0 t252 t253 t254 _ ?side1 ?side2 A2.out).mono ?_); (case side1 => exact cl_ HR0.out); (case side2 => exact HC0.out); rintro e w3 ⟨v255, rfl, ho0, hb⟩; refine ⟨_, rfl, ?_⟩; have n0_ := Az.mk (Kd.R_lower ho0 (below_size (bl_ HB))); have n1_ := Az.mk (below_step (bl_ HB) hb); clear HB; have HO256 := n0_; have HB := n1_; clear n0_ n1_; (try clear hb); (try clear hb2); (try clear hk); (try clear hi); (try clear ho0)))
 go_loopg [4, 5, 6, 7, 8] k (fun kq v4 v5 v6 v7 v8 w' => ∃ (x4_1 : List Int) (x5_1 : Int) (x6_1 : Int) (x7_1 : Int) (x8_1 : List (List Int)), v5 = .int .i64 x5_1 ∧ v6 = .int .i64 x6_1 ∧ v7 = .int .i64 x7_1 ∧ Az (r03_Scan.l0 kq l0 x4_1 x5_1 x6_1 x7_1 x8_1 = some (r1, r2)) ∧ Az (kq ≤ k) ∧ Az (Kd.R (Kd.int .u8) 5 w' w.heap.size (fun _ => True) v4 x4_1) ∧ Az (Kd.S (Kd.slice 5 (Kd.int .u8)) 22 w' w.heap.size (fun k_ => some k_ ≠ (v4 : Value).ownBlock) v8 x8_1) ∧ Az (Below w.heap.size w w'))
 case atStart => exact ⟨(t252), (t253), (t254), (0), (([] : List (List Int))), (es_), (es_), (es_), H', ⟨Nat.le_refl _⟩, ⟨rl_ HO256.out⟩, ⟨by first | exact Kd.S_nil _ _ _ _ _ | exact Kd.N_nil _ _ _ _ _ | exact Kd.V_nil _ _ _ _ _ | exact Kd.Q_nil _ _ _ _ _ | exact Kd.R_nil _ _ _ _ _⟩, ⟨bl_ HB⟩⟩
 case round =>
  clear H'
  try clear p2
  try clear c3
  obtain ⟨x4_1, x5_1, x6_1, x7_1, x8_1, rfl, rfl, rfl, HA, HK1, HO_4, HO_8, HB⟩ := hrel
  cases gk with
  | zero => exact absurd HA.out (by simp [r03_Scan.l0])
  | succ k1 =>
   have H := HA.out
   clear HA
   simp only [r03_Scan.l0] at H
   by_cases c4 : x6_1 = 0
   ·rw [if_pos c4] at H
    have c4b0 : (x6_1 == 0) = true := beq_iff_eq.mpr c4
    have c4b1 : (x6_1 != 0) = false := bne_eq_false_iff_eq.mpr c4
    clear c4
    by_cases c5 : x8_1.length < 5864062014805
    ·rw [if_pos c5] at H
     have LMc5 := Az.mk c5
     clear c5
     obtain ⟨y257, hy257⟩ : ∃ y_ : List (List Int), y_ = (x8_1 ++ [x4_1]) := ⟨_, rfl⟩
     replace H : (if 0 ≤ (wrap64 (x7_1 + x5_1)) then (if (wrap64 (x7_1 + x5_1)) ≤ (l0.length : Int) then ((r03_Get.f k1 (l0.drop ((wrap64 (x7_1 + x5_1)) : Int).toNat)).bind fun bt261 => (r03_Scan.l0 k1 l0 bt261.1 bt261.2.1 bt261.2.2 (wrap64 (x7_1 + x5_1)) y257)) else (none)) else (none)) = some (r1, r2) := hr_ hy257 H
     have Ny257 := Az.mk hy257
     clear hy257
     obtain ⟨ji6, hji6⟩ : ∃ j_ : Int, (wrap64 (x7_1 + x5_1)) = j_ := ⟨_, rfl⟩
     (try rw [hji6] at LMc5)
     replace H : (if 0 ≤ (ji6) then (if (ji6) ≤ (l0.length : Int) then ((r03_Get.f k1 (l0.drop ((ji6) : Int).toNat)).bind fun bt261 => (r03_Scan.l0 k1 l0 bt261.1 bt261.2.1 bt261.2.2 ji6 y257)) else (none)) else (none)) = some (r1, r2) := by first | (rw [hji6] at H; exact H) | (simp only [hji6] at H ⊢; exact H)
     have hji6w : (IntKind.i64.wrap (x7_1 + x5_1)) = ji6 := (i64_w _).trans hji6
     by_cases c7 : 0 ≤ (ji6)
     ·rw [if_pos c7] at H
      have c7b0 := eq_true c7
      have c7b1 := decide_eq_true c7
      clear c7
      by_cases c8 : (ji6) ≤ (l0.length : Int)
      ·rw [if_pos c8] at H
       have c8b0 := eq_true c8
       have c8b1 := decide_eq_true c8
       clear c8
       replace H := Option.bind_eq_some_iff.mp H
       obtain ⟨⟨t261, t262, t263⟩, A90, H⟩ := H
       replace H : (r03_Scan.l0 k1 l0 t261 t262 t263 ji6 y257) = some (r1, r2) := H
       have A9 := Az.mk A90
       clear A90
       have H' := Az.mk H
       clear H
       obtain ⟨Ao11, co11, eo11⟩ := Kd.R_slice HO_4.out
       subst eo11
       go_wp2_with (first | ((with_reducible refine gate_builtin (b := .append) (xs := #[.tmp 17, .tmp 19]) rfl ?_); at_builtin; refine Kd.S_append (Kd.slice 5 (Kd.int .u8)) (w0 := w) w.heap.size rfl (.tmp 17) (.tmp 19) 58 22 (.slice none 0 0) 24 rfl Try.underlying58 info22 rfl (by decide) (by omega) u8 x8_1 x4_1 [.slice Ao11 x4_1.length co11] (fun _ => True) (fun k_ => some k_ = (.slice Ao11 x4_1.length co11 : Value).ownBlock) rfl rfl ?aP (fun k_ hk_ => ((Kd.R_mono (ok' := fun k_ => ((fun _ => True)) k_ ∧ some k_ ≠ (u8 : Value).ownBlock) (Kd.R_apart' (HO_4.out) (Kd.S_typed HO_8.out) (by decide)) (fun k_ hk => ⟨trivial, hk.2⟩))).1 k_ hk_.symm) ?aF ?aO ?aB ?aS ?aL ?_; (case aP => exact Kd.M_row (Kd.R_mono (Kd.R_tight rfl (Kd.R_mono (ok' := fun k_ => ((fun _ => True)) k_ ∧ some k_ ≠ (u8 : Value).ownBlock) (Kd.R_apart' (HO_4.out) (Kd.S_typed HO_8.out) (by decide)) (fun k_ hk => ⟨trivial, hk.2⟩))) (fun _ h_ => h_))); (case aB => exact (bl_ HB)); (case aF => exact (fun _ _ => trivial)); (case aO => exact (by (with_reducible repeat (first | apply Kd.S_alloc | apply Kd.S_drewN | apply Kd.S_drew)); exact Kd.S_mono HO_8.out (fun k_ hk => ⟨trivial, fun e_ => hk e_⟩))); (case aS => exact (below_size (bl_ HB))); (case aL => have := LMc5.out; omega); intro v258 w10 ho hb hg hat; rw [← Ny257.out] at ho; have n0_ := Az.mk (hb); have n1_ := Az.mk (ho); clear HB; clear HO_8; clear HO_4; have HB := n0_; have HO259 := n1_; clear n0_ n1_; clear ho hb hg hat; obtain ⟨i012, hi012, _, hsz12, _⟩ := info_parts info5; obtain ⟨A12, hcut12, hA12, hC12⟩ := print_drop_of (P := Try.prog) (Value.int .u8) 0 22 5 .i64 Try.underlying22 hi012 hsz12 A0 c0 l0 (ji6) (of_decide_eq_true as_) (of_decide_eq_true as_) HC0.out; have HR260 := Az.mk (Kd.C_of_reads (h1 := fun _ => rfl) (hA12 _ (Kd.reads_of_C HR0.out))); have HC260 := Az.mk hC12; clear hA12 hC12 hi012 hsz12) | ((with_reducible refine gate_callee (f := 41) rfl ?_); refine goesL_ (some 28) rfl rfl Try.func41 (by kernel_rfl) rfl #[.slice A12 (l0.drop ((ji6) : Int).toNat).length (c0 - (ji6).toNat)] rfl (by (try simp only [List.map_toArray, List.map_cons, List.map_nil]); first | done | (rw [show (l0.drop ((ji6) : Int).toNat).length = (l0.length - (ji6).toNat) from List.length_drop] <;> rfl) | (simp only [hji6]; rfl) | rfl | (simp only [List.length_drop, List.length_take]; rfl)) ?_; (with_reducible refine (r03_Get.calls k1 _ _ (l0.drop ((ji6) : Int).toNat) t261 t262 t263 _ ?side1 ?side2 A9.out).mono ?_); (case side1 => exact cl_ (Kd.C_below HR260.out HB.out)); (case side2 => exact HC260.out); rintro e w13 ⟨v264, rfl, ho0, hb⟩; refine ⟨_, rfl, ?_⟩; have n0_ := Az.mk (Kd.S_elder' (sl_ HO259.out) (Kd.R_base ho0) hb); have n1_ := Az.mk (Kd.R_lower ho0 (below_size (bl_ HB))); have n2_ := Az.mk (below_step (bl_ HB) hb); clear HO259; clear HB; have HO259 := n0_; have HO265 := n1_; have HB := n2_; clear n0_ n1_ n2_; (try clear hb); (try clear hb2); (try clear hk); (try clear hi); (try clear ho0)))
       go_roundg k1
       case measure => have := HK1.out; omega
       case rel => exact ⟨(t261), (t262), (t263), (ji6), (y257), (es_), (es_), (by first | rfl | (simp; done) | (simp only [← hji6] <;> (first | rfl | simp)) | (simp [*]; done)), H', ⟨by have := HK1.out; omega⟩, ⟨rl_ HO265.out⟩, ⟨by (with_reducible repeat (first | apply Kd.S_alloc | apply Kd.S_drewN | apply Kd.S_drew)); exact Kd.S_mono HO259.out (fun _ hk => hk.2)⟩, ⟨bl_ HB⟩⟩
      ·rw [if_neg c8] at H
       exact absurd H (by simp)
     ·rw [if_neg c7] at H
      exact absurd H (by simp)
    ·rw [if_neg c5] at H
     exact absurd H (by simp)
   ·rw [if_neg c4] at H
    have c4b0 : (x6_1 == 0) = false := beq_eq_false_iff_ne.mpr c4
    have c4b1 : (x6_1 != 0) = true := bne_iff_ne.mpr c4
    simp only [Option.some.injEq, Prod.mk.injEq] at H
    obtain ⟨rfl, rfl⟩ := H
    go_wp2
    go_ret2
    exact ⟨_, er_, by (with_reducible repeat (first | apply Kd.S_alloc | apply Kd.S_drewN | apply Kd.S_drew)); exact Kd.S_mono HO_8.out (fun _ hk => trivial), bl_ HB⟩
end Go.Proofs.Ytnabhfegbnfabaa.PRd
end
section
namespace Go.Proofs.Ytnabhfegbnfabaa.PRd
open Go.RowKit Go.Proofs.YtnabhfegbnfabaaW.PrintWords Go.Proofs.YtnabhfegbnfabaaW.PrintLast Go.Proofs.YtnabhfegbnfabaaW.PrintMore
attribute [local go_sem] max2_int min2_int max_two min_two max_three min_three max_four min_four
attribute [local go_sem] Go.Proofs.Ytnabhfegbnfabaa.MoreWords.str_leq Go.Proofs.Ytnabhfegbnfabaa.MoreWords.str_gtr Go.Proofs.Ytnabhfegbnfabaa.MoreWords.str_geq
set_option maxHeartbeats 8000000
set_option maxRecDepth 100000
set_option linter.unusedVariables false
set_option linter.unusedSimpArgs false
mutual
def r09_take.j0 : Nat → ByteArray → List Int → Int → Int → Bool → Option (ByteArray × Int × Int)
 | 0, _, _, _, _, _ => none
 | k + 1, x0, x1, x6, x7, x31 => if x31 = true then (some ((⟨#[]⟩ : ByteArray), 0, 0)) else (if 0 ≤ x7 then (if x7 ≤ (x1.length : Int) then ((r01_Get.f k (x1.drop (x7 : Int).toNat)).bind fun bt271 => (if bt271.2.2 = 0 then (r09_take.j1 k x0 x1 x6 bt271.1 (wrap64 (x7 + bt271.2.1)) (decide (bt271.1 > (IntKind.u64.wrap (wrap64 ((x1.length : Int) - (wrap64 (x7 + bt271.2.1)))))))) else (r09_take.j1 k x0 x1 x6 bt271.1 (wrap64 (x7 + bt271.2.1)) true))) else (none)) else (none))
def r09_take.j1 : Nat → ByteArray → List Int → Int → Int → Int → Bool → Option (ByteArray × Int × Int)
 | 0, _, _, _, _, _, _ => none
 | k + 1, x0, x1, x6, x9, x12, x54 => if x54 = true then (some ((⟨#[]⟩ : ByteArray), 0, 0)) else (if 0 ≤ x6 then (if x6 ≤ (x0.size : Int) then (if 0 ≤ x12 then (if x12 ≤ (wrap64 (x12 + (wrap64 (x9)))) then (if (wrap64 (x12 + (wrap64 (x9)))) ≤ (x1.length : Int) then (if (x0.extract 0 (x6 : Int).toNat).size + (strOfNums ((x1.take ((wrap64 (x12 + (wrap64 (x9)))) : Int).toNat).drop (x12 : Int).toNat)).size ≤ 9223372036854775807 then (if 0 ≤ (wrap64 (x12 + (wrap64 (x9)))) then ((r01_Get.f k (x1.drop ((wrap64 (x12 + (wrap64 (x9)))) : Int).toNat)).bind fun bt276 => (if bt276.2.2 = 0 then (some ((x0.extract 0 (x6 : Int).toNat) ++ (strOfNums ((x1.take ((wrap64 (x12 + (wrap64 (x9)))) : Int).toNat).drop (x12 : Int).toNat)), bt276.1, wrap64 ((wrap64 (x12 + (wrap64 (x9)))) + bt276.2.1))) else (some ((⟨#[]⟩ : ByteArray), 0, 0)))) else (none)) else (none)) else (none)) else (none)) else (none)) else (none)) else (none))
end
def r09_take.f (k : Nat) (a0 : ByteArray) (l1 : List Int) : Option (ByteArray × Int × Int) := (r01_Get.f k l1).bind fun bt267 => (if bt267.2.2 = 0 then (r09_take.j0 k a0 l1 bt267.1 bt267.2.1 (decide (bt267.1 > (IntKind.u64.wrap ((a0.size : Int)))))) else (r09_take.j0 k a0 l1 bt267.1 bt267.2.1 true))
theorem r09_take.mono_l : ∀ k, (∀ y0 y1 y2 y3 y4, LeO (r09_take.j0 k y0 y1 y2 y3 y4) (r09_take.j0 (k + 1) y0 y1 y2 y3 y4)) ∧ (∀ y0 y1 y2 y3 y4 y5, LeO (r09_take.j1 k y0 y1 y2 y3 y4 y5) (r09_take.j1 (k + 1) y0 y1 y2 y3 y4 y5))
 | 0 => ⟨fun _ _ _ _ _ r h => by simp [r09_take.j0] at h, fun _ _ _ _ _ _ r h => by simp [r09_take.j1] at h⟩
 | k + 1 => by
  obtain ⟨ih0, ih1⟩ := r09_take.mono_l k
  refine ⟨?_, ?_⟩
  ·intro y0 y1 y2 y3 y4
   unfold r09_take.j0
   repeat' first
   | (with_reducible exact ih0 _ _ _ _ _)
   | (with_reducible exact ih1 _ _ _ _ _ _)
   | (with_reducible exact r01_Get.mono _ _)
   | (with_reducible exact LeO.refl _)
   | (with_reducible exact LeO.none _)
   | (with_reducible refine LeO.ite ?_ ?_)
   | (with_reducible refine LeO.bind ?_ (fun _ => ?_))
   | exact ih0 _ _ _ _ _
   | exact ih1 _ _ _ _ _ _
   | exact r01_Get.mono _ _
   | exact LeO.none _
   | refine LeO.ite ?_ ?_
   | refine LeO.bind ?_ (fun _ => ?_)
  ·intro y0 y1 y2 y3 y4 y5
   unfold r09_take.j1
   repeat' first
   | (with_reducible exact ih0 _ _ _ _ _)
   | (with_reducible exact ih1 _ _ _ _ _ _)
   | (with_reducible exact r01_Get.mono _ _)
   | (with_reducible exact LeO.refl _)
   | (with_reducible exact LeO.none _)
   | (with_reducible refine LeO.ite ?_ ?_)
   | (with_reducible refine LeO.bind ?_ (fun _ => ?_))
   | exact ih0 _ _ _ _ _
   | exact ih1 _ _ _ _ _ _
   | exact r01_Get.mono _ _
   | exact LeO.none _
   | refine LeO.ite ?_ ?_
   | refine LeO.bind ?_ (fun _ => ?_)
theorem r09_take.mono : ∀ a0 a1 k, LeO (r09_take.f k a0 a1) (r09_take.f (k + 1) a0 a1) := by
 intro a0 a1 k
 obtain ⟨ih0, ih1⟩ := r09_take.mono_l k
 unfold r09_take.f
 repeat' first
   | (with_reducible exact ih0 _ _ _ _ _)
   | (with_reducible exact ih1 _ _ _ _ _ _)
   | (with_reducible exact r01_Get.mono _ _)
   | (with_reducible exact LeO.refl _)
   | (with_reducible exact LeO.none _)
   | (with_reducible refine LeO.ite ?_ ?_)
   | (with_reducible refine LeO.bind ?_ (fun _ => ?_))
   | exact ih0 _ _ _ _ _
   | exact ih1 _ _ _ _ _ _
   | exact r01_Get.mono _ _
   | exact LeO.none _
   | refine LeO.ite ?_ ?_
   | refine LeO.bind ?_ (fun _ => ?_)
theorem r09_take.calls (k : Nat) (a0 : ByteArray) (A1 : Option Addr) (c1 : Nat) (l1 : List Int) (r1 : ByteArray) (r2 : Int) (r3 : Int) (w : World) (hr1 : Kd.C (Kd.int .u8) w A1 l1.length l1) (hc1 : l1.length ≤ c1) (h : r09_take.f k a0 l1 = some (r1, r2, r3)) :
  Calls Try.prog 33 #[.string a0, .slice A1 l1.length c1] w fun e w' => e = .returned (.tuple #[.agg #[.string r1, .int .u64 r2], .int .i64 r3]) ∧ Below w.heap.size w w' := by
 have hu36 := Try.underlying36
 have HR1 := Az.mk hr1
 have HC1 := Az.mk hc1
 clear hr1 hc1
 have HB := Az.mk (Below.refl w.heap.size w)
 have H : ((r01_Get.f k l1).bind fun bt267 => (if bt267.2.2 = 0 then (r09_take.j0 k a0 l1 bt267.1 bt267.2.1 (decide (bt267.1 > (IntKind.u64.wrap ((a0.size : Int)))))) else (r09_take.j0 k a0 l1 bt267.1 bt267.2.1 true))) = some (r1, r2, r3) := h
 clear h
 replace H := Option.bind_eq_some_iff.mp H
 obtain ⟨⟨t267, t268, t269⟩, A30, H⟩ := H
 replace H : (if t269 = 0 then (r09_take.j0 k a0 l1 t267 t268 (decide (t267 > (IntKind.u64.wrap ((a0.size : Int)))))) else (r09_take.j0 k a0 l1 t267 t268 true)) = some (r1, r2, r3) := H
 have A3 := Az.mk A30
 clear A30
 have HC4 := Az.mk H
 clear H
 go_enter Try.func33, Try.ntmps33
 go_upto_region 2 with (first | ((with_reducible refine gate_dst (N := 4) rfl ?_); (try (refine gate_guard (by rfl) ?_; dsimp only)); refine box_event ?hg (N := 4) ?hd (cs := #[.string (⟨#[]⟩ : ByteArray), .int .u64 0]) (t := 36) ?hr ?_; (case hd => rfl); (case hg => rfl); (case hr => first | (go_simp; done) | (go_simp; rfl)); intro gb266 hg w5 hbox hb; have n0_ := Az.mk (below_step (bl_ HB) hb); have n1_ := Az.mk (hbox); have n2_ := Az.mk ((by rw [hg]; exact (below_size (bl_ HB)) : w.heap.size ≤ gb266)); have n3_ := Az.mk ((by rw [hg]; exact (below_size (bl_ HB)) : w.heap.size ≤ gb266)); clear HB; have HB := n0_; have BK266 := n1_; have GW266 := n2_; have GE266 := n3_; clear n0_ n1_ n2_ n3_; clear hb hbox hg) | (go_at_call 32; (with_reducible refine (r01_Get.calls k _ _ l1 t267 t268 t269 _ ?side1 ?side2 A3.out).mono ?_); (case side1 => exact cl_ (Kd.C_below HR1.out HB.out)); (case side2 => exact HC1.out); rintro e w' ⟨rfl, ⟨nd, rfl⟩⟩; (try first | exact ⟨rfl, _, World.drewN_drewN _ _ _⟩ | exact ⟨rfl, _, Eq.trans (World.drewN_drewN _ _ _) (congrArg (World.drewN _) (Nat.add_assoc _ _ _))⟩)))
 repeat (go_quiet (first | ((with_reducible refine gate_dst (N := 4) rfl ?_); (try (refine gate_guard (by rfl) ?_; dsimp only)); refine box_event ?hg (N := 4) ?hd (cs := #[.string (⟨#[]⟩ : ByteArray), .int .u64 0]) (t := 36) ?hr ?_; (case hd => rfl); (case hg => rfl); (case hr => first | (go_simp; done) | (go_simp; rfl)); intro gb266 hg w5 hbox hb; have n0_ := Az.mk (below_step (bl_ HB) hb); have n1_ := Az.mk (hbox); have n2_ := Az.mk ((by rw [hg]; exact (below_size (bl_ HB)) : w.heap.size ≤ gb266)); have n3_ := Az.mk ((by rw [hg]; exact (below_size (bl_ HB)) : w.heap.size ≤ gb266)); clear HB; have HB := n0_; have BK266 := n1_; have GW266 := n2_; have GE266 := n3_; clear n0_ n1_ n2_ n3_; clear hb hbox hg) | (go_at_call 32; (with_reducible refine (r01_Get.calls k _ _ l1 t267 t268 t269 _ ?side1 ?side2 A3.out).mono ?_); (case side1 => exact cl_ (Kd.C_below HR1.out HB.out)); (case side2 => exact HC1.out); rintro e w' ⟨rfl, ⟨nd, rfl⟩⟩; (try first | exact ⟨rfl, _, World.drewN_drewN _ _ _⟩ | exact ⟨rfl, _, Eq.trans (World.drewN_drewN _ _ _) (congrArg (World.drewN _) (Nat.add_assoc _ _ _))⟩))); go_upto_region 2 with (first | ((with_reducible refine gate_dst (N := 4) rfl ?_); (try (refine gate_guard (by rfl) ?_; dsimp only)); refine box_event ?hg (N := 4) ?hd (cs := #[.string (⟨#[]⟩ : ByteArray), .int .u64 0]) (t := 36) ?hr ?_; (case hd => rfl); (case hg => rfl); (case hr => first | (go_simp; done) | (go_simp; rfl)); intro gb266 hg w5 hbox hb; have n0_ := Az.mk (below_step (bl_ HB) hb); have n1_ := Az.mk (hbox); have n2_ := Az.mk ((by rw [hg]; exact (below_size (bl_ HB)) : w.heap.size ≤ gb266)); have n3_ := Az.mk ((by rw [hg]; exact (below_size (bl_ HB)) : w.heap.size ≤ gb266)); clear HB; have HB := n0_; have BK266 := n1_; have GW266 := n2_; have GE266 := n3_; clear n0_ n1_ n2_ n3_; clear hb hbox hg) | (go_at_call 32; (with_reducible refine (r01_Get.calls k _ _ l1 t267 t268 t269 _ ?side1 ?side2 A3.out).mono ?_); (case side1 => exact cl_ (Kd.C_below HR1.out HB.out)); (case side2 => exact HC1.out); rintro e w' ⟨rfl, ⟨nd, rfl⟩⟩; (try first | exact ⟨rfl, _, World.drewN_drewN _ _ _⟩ | exact ⟨rfl, _, Eq.trans (World.drewN_drewN _ _ _) (congrArg (World.drewN _) (Nat.add_assoc _ _ _))⟩))))
 (try simp only [Act.put, List.setIfInBounds_toArray, List.set_cons_zero, List.set_cons_succ])
 go_cut [31] (fun v31 wc => ∃ (kq : Nat) (x31_3 : Bool), v31 = .bool x31_3 ∧ Az (r09_take.j0 kq a0 l1 t267 t268 x31_3 = some (r1, r2, r3)) ∧ Az (kq ≤ k) ∧ Az (wc.heap[gb266]? = some (.cells #[.string (⟨#[]⟩ : ByteArray), .int .u64 0] 36 (0, 0))) ∧ Az (Below w.heap.size w wc))
 case first =>
  have H := HC4.out
  clear HC4
  by_cases c6 : t269 = 0
  ·rw [if_pos c6] at H
   have c6b0 : (t269 == 0) = true := beq_iff_eq.mpr c6
   have c6b1 : (t269 != 0) = false := bne_eq_false_iff_eq.mpr c6
   clear c6
   (first | rw [c6b0] | (simp only [i64_w, i32_w]; rw [c6b0]) | skip)
   have H' := Az.mk H
   clear H
   go_wp2
   repeat (go_quiet (fail); try go_wp2)
   go_meet
   case rel => exact ⟨_, (decide (t267 > (IntKind.u64.wrap ((a0.size : Int))))), (es_), H', ⟨by first | omega | exact Nat.le_refl _⟩, ⟨by (with_reducible repeat (first | refine blk_drewN ?_ _ | refine blk_drew ?_ | refine blk_alloc ?_ _)); exact BK266.out⟩, ⟨by repeat (first | (with_reducible first | exact HB.out | apply below_alloc | apply pw_below_drewN | apply below_drew1 | refine below_set ?_ GE266.out) | exact HB.out)⟩⟩
  ·rw [if_neg c6] at H
   have c6b0 : (t269 == 0) = false := beq_eq_false_iff_ne.mpr c6
   have c6b1 : (t269 != 0) = true := bne_iff_ne.mpr c6
   (first | rw [c6b0] | (simp only [i64_w, i32_w]; rw [c6b0]) | skip)
   have H' := Az.mk H
   clear H
   go_wp2
   repeat (go_quiet (fail); try go_wp2)
   go_meet
   case rel => exact ⟨_, (true), (es_), H', ⟨by first | omega | exact Nat.le_refl _⟩, ⟨by (with_reducible repeat (first | refine blk_drewN ?_ _ | refine blk_drew ?_ | refine blk_alloc ?_ _)); exact BK266.out⟩, ⟨by repeat (first | (with_reducible first | exact HB.out | apply below_alloc | apply pw_below_drewN | apply below_drew1 | refine below_set ?_ GE266.out) | exact HB.out)⟩⟩
 case rest =>
  clear HC4
  try clear c1
  try clear p2
  try clear c3
  try clear c6
  try clear c6b0
  try clear c6b1
  obtain ⟨kq, x31_3, rfl, HA, HJ3, BK266, HB⟩ := hcut
  cases kq with
  | zero => exact absurd HA.out (by simp [r09_take.j0])
  | succ kj3 =>
   have H := HA.out
   clear HA
   simp only [r09_take.j0] at H
   by_cases c7 : x31_3 = true
   ·subst c7
    have H1 : (some ((⟨#[]⟩ : ByteArray), 0, 0)) = some (r1, r2, r3) := by rw [if_pos rfl] at H; exact H
    clear H
    have H := H1
    clear H1
    simp only [Option.some.injEq, Prod.mk.injEq] at H
    obtain ⟨rfl, rfl, rfl⟩ := H
    have hcz8_0 : wc.cell? ⟨gb266, 0, none⟩ = some (.string (⟨#[]⟩ : ByteArray)) := (blk_cell BK266.out 0).trans rfl
    have hcz8_1 : wc.cell? ⟨gb266, 1, none⟩ = some (.int .u64 0) := (blk_cell BK266.out 1).trans rfl
    have hfz8_0 := blk_frozen BK266.out 0
    have hfz8_1 := blk_frozen BK266.out 1
    go_wp2
    repeat (go_quiet (fail); try go_wp2)
    refine bodyPost_ret (results_ct rfl _ _ gb266 36 #[.string (⟨#[]⟩ : ByteArray), .int .u64 0] (0, 0) _ rfl (by (with_reducible repeat (first | refine blk_drewN ?_ _ | refine blk_drew ?_ | refine blk_alloc ?_ _)); refine blk_put (cs := #[.string (⟨#[]⟩ : ByteArray), .int .u64 0]) ?_ 1 _ rfl; (with_reducible repeat (first | refine blk_drewN ?_ _ | refine blk_drew ?_ | refine blk_alloc ?_ _)); refine blk_put (cs := #[.string (⟨#[]⟩ : ByteArray), .int .u64 0]) ?_ 0 _ rfl; (with_reducible repeat (first | refine blk_drewN ?_ _ | refine blk_drew ?_ | refine blk_alloc ?_ _)); exact BK266.out) Try.underlying36 rfl (by kernel_rfl)) rfl ?_
    exact ⟨er_, by repeat (first | (with_reducible first | exact HB.out | apply below_alloc | apply pw_below_drewN | apply below_drew1 | refine below_set ?_ GE266.out) | exact HB.out)⟩
   ·replace c7 := Bool.eq_false_iff.mpr c7
    subst c7
    have H1 : (if 0 ≤ t268 then (if t268 ≤ (l1.length : Int) then ((r01_Get.f kj3 (l1.drop (t268 : Int).toNat)).bind fun bt271 => (if bt271.2.2 = 0 then (r09_take.j1 kj3 a0 l1 t267 bt271.1 (wrap64 (t268 + bt271.2.1)) (decide (bt271.1 > (IntKind.u64.wrap (wrap64 ((l1.length : Int) - (wrap64 (t268 + bt271.2.1)))))))) else (r09_take.j1 kj3 a0 l1 t267 bt271.1 (wrap64 (t268 + bt271.2.1)) true))) else (none)) else (none)) = some (r1, r2, r3) := by rw [if_neg (show ¬ (false = true) by decide)] at H; exact H
    clear H
    have H := H1
    clear H1
    by_cases c9 : 0 ≤ t268
    ·rw [if_pos c9] at H
     have c9b0 := eq_true c9
     have c9b1 := decide_eq_true c9
     clear c9
     by_cases c10 : t268 ≤ (l1.length : Int)
     ·rw [if_pos c10] at H
      have c10b0 := eq_true c10
      have c10b1 := decide_eq_true c10
      clear c10
      replace H := Option.bind_eq_some_iff.mp H
      obtain ⟨⟨t271, t272, t273⟩, A110, H⟩ := H
      replace H : (if t273 = 0 then (r09_take.j1 kj3 a0 l1 t267 t271 (wrap64 (t268 + t272)) (decide (t271 > (IntKind.u64.wrap (wrap64 ((l1.length : Int) - (wrap64 (t268 + t272)))))))) else (r09_take.j1 kj3 a0 l1 t267 t271 (wrap64 (t268 + t272)) true)) = some (r1, r2, r3) := H
      have A11 := Az.mk A110
      clear A110
      have HC12 := Az.mk H
      clear H
      obtain ⟨i013, hi013, _, hsz13, _⟩ := info_parts info5
      obtain ⟨A13, hcut13, hA13, hC13⟩ := print_drop_of (P := Try.prog) (Value.int .u8) 0 22 5 .i64 Try.underlying22 hi013 hsz13 A1 c1 l1 t268 (of_decide_eq_true as_) (of_decide_eq_true as_) HC1.out
      have HR270 := Az.mk (Kd.C_of_reads (h1 := fun _ => rfl) (hA13 _ (Kd.reads_of_C HR1.out)))
      have HC270 := Az.mk hC13
      clear hA13 hC13 hi013 hsz13
      go_upto_region 6 with (first | (go_at_call 32; refine calls_of_args (args' := #[.slice A13 (l1.drop (t268 : Int).toNat).length (c1 - t268.toNat)]) (by first | (rw [show (l1.drop (t268 : Int).toNat).length = (l1.length - t268.toNat) from List.length_drop] <;> rfl) | rfl) ?_; (with_reducible refine (r01_Get.calls kj3 _ _ (l1.drop (t268 : Int).toNat) t271 t272 t273 _ ?side1 ?side2 A11.out).mono ?_); (case side1 => exact cl_ (Kd.C_below HR270.out HB.out)); (case side2 => exact HC270.out); rintro e w' ⟨rfl, ⟨nd, rfl⟩⟩; (try first | exact ⟨rfl, _, World.drewN_drewN _ _ _⟩ | exact ⟨rfl, _, Eq.trans (World.drewN_drewN _ _ _) (congrArg (World.drewN _) (Nat.add_assoc _ _ _))⟩)))
      repeat (go_quiet (first | (go_at_call 32; refine calls_of_args (args' := #[.slice A13 (l1.drop (t268 : Int).toNat).length (c1 - t268.toNat)]) (by first | (rw [show (l1.drop (t268 : Int).toNat).length = (l1.length - t268.toNat) from List.length_drop] <;> rfl) | rfl) ?_; (with_reducible refine (r01_Get.calls kj3 _ _ (l1.drop (t268 : Int).toNat) t271 t272 t273 _ ?side1 ?side2 A11.out).mono ?_); (case side1 => exact cl_ (Kd.C_below HR270.out HB.out)); (case side2 => exact HC270.out); rintro e w' ⟨rfl, ⟨nd, rfl⟩⟩; (try first | exact ⟨rfl, _, World.drewN_drewN _ _ _⟩ | exact ⟨rfl, _, Eq.trans (World.drewN_drewN _ _ _) (congrArg (World.drewN _) (Nat.add_assoc _ _ _))⟩))); go_upto_region 6 with (first | (go_at_call 32; refine calls_of_args (args' := #[.slice A13 (l1.drop (t268 : Int).toNat).length (c1 - t268.toNat)]) (by first | (rw [show (l1.drop (t268 : Int).toNat).length = (l1.length - t268.toNat) from List.length_drop] <;> rfl) | rfl) ?_; (with_reducible refine (r01_Get.calls kj3 _ _ (l1.drop (t268 : Int).toNat) t271 t272 t273 _ ?side1 ?side2 A11.out).mono ?_); (case side1 => exact cl_ (Kd.C_below HR270.out HB.out)); (case side2 => exact HC270.out); rintro e w' ⟨rfl, ⟨nd, rfl⟩⟩; (try first | exact ⟨rfl, _, World.drewN_drewN _ _ _⟩ | exact ⟨rfl, _, Eq.trans (World.drewN_drewN _ _ _) (congrArg (World.drewN _) (Nat.add_assoc _ _ _))⟩))))
      (try simp only [Act.put, List.setIfInBounds_toArray, List.set_cons_zero, List.set_cons_succ])
      go_cut [54] (fun v54 wc => ∃ (kq : Nat) (x54_11 : Bool), v54 = .bool x54_11 ∧ Az (r09_take.j1 kq a0 l1 t267 t271 (wrap64 (t268 + t272)) x54_11 = some (r1, r2, r3)) ∧ Az (kq ≤ kj3) ∧ Az (wc.heap[gb266]? = some (.cells #[.string (⟨#[]⟩ : ByteArray), .int .u64 0] 36 (0, 0))) ∧ Az (Below w.heap.size w wc))
      case first =>
       have H := HC12.out
       clear HC12
       by_cases c14 : t273 = 0
       ·rw [if_pos c14] at H
        have c14b0 : (t273 == 0) = true := beq_iff_eq.mpr c14
        have c14b1 : (t273 != 0) = false := bne_eq_false_iff_eq.mpr c14
        clear c14
        (first | rw [c14b0] | (simp only [i64_w, i32_w]; rw [c14b0]) | skip)
        have H' := Az.mk H
        clear H
        go_wp2
        repeat (go_quiet (fail); try go_wp2)
        go_meet
        case rel => exact ⟨_, (decide (t271 > (IntKind.u64.wrap (wrap64 ((l1.length : Int) - (wrap64 (t268 + t272))))))), (es_), H', ⟨by have := HJ3.out; first | omega | exact Nat.le_refl _⟩, ⟨by (with_reducible repeat (first | refine blk_drewN ?_ _ | refine blk_drew ?_ | refine blk_alloc ?_ _)); exact BK266.out⟩, ⟨by repeat (first | (with_reducible first | exact HB.out | apply below_alloc | apply pw_below_drewN | apply below_drew1 | refine below_set ?_ GE266.out) | exact HB.out)⟩⟩
       ·rw [if_neg c14] at H
        have c14b0 : (t273 == 0) = false := beq_eq_false_iff_ne.mpr c14
        have c14b1 : (t273 != 0) = true := bne_iff_ne.mpr c14
        (first | rw [c14b0] | (simp only [i64_w, i32_w]; rw [c14b0]) | skip)
        have H' := Az.mk H
        clear H
        go_wp2
        repeat (go_quiet (fail); try go_wp2)
        go_meet
        case rel => exact ⟨_, (true), (es_), H', ⟨by have := HJ3.out; first | omega | exact Nat.le_refl _⟩, ⟨by (with_reducible repeat (first | refine blk_drewN ?_ _ | refine blk_drew ?_ | refine blk_alloc ?_ _)); exact BK266.out⟩, ⟨by repeat (first | (with_reducible first | exact HB.out | apply below_alloc | apply pw_below_drewN | apply below_drew1 | refine below_set ?_ GE266.out) | exact HB.out)⟩⟩
      case rest =>
       clear HC12
       try clear c1
       try clear p2
       try clear c3
       try clear c6
       try clear c6b0
       try clear c6b1
       try clear p6
       try clear c7
       try clear c9
       try clear c9b0
       try clear c9b1
       try clear c10
       try clear c10b0
       try clear c10b1
       try clear c14
       try clear c14b0
       try clear c14b1
       try clear hcz8_0
       try clear hcz8_1
       try clear hfz8_0
       try clear hfz8_1
       try clear p2
       obtain ⟨kq, x54_11, rfl, HA, HJ11, BK266, HB⟩ := hcut
       cases kq with
       | zero => exact absurd HA.out (by simp [r09_take.j1])
       | succ kj11 =>
        have H := HA.out
        clear HA
        simp only [r09_take.j1] at H
        by_cases c15 : x54_11 = true
        ·subst c15
         have H1 : (some ((⟨#[]⟩ : ByteArray), 0, 0)) = some (r1, r2, r3) := by rw [if_pos rfl] at H; exact H
         clear H
         have H := H1
         clear H1
         simp only [Option.some.injEq, Prod.mk.injEq] at H
         obtain ⟨rfl, rfl, rfl⟩ := H
         have hcz16_0 : wc.cell? ⟨gb266, 0, none⟩ = some (.string (⟨#[]⟩ : ByteArray)) := (blk_cell BK266.out 0).trans rfl
         have hcz16_1 : wc.cell? ⟨gb266, 1, none⟩ = some (.int .u64 0) := (blk_cell BK266.out 1).trans rfl
         have hfz16_0 := blk_frozen BK266.out 0
         have hfz16_1 := blk_frozen BK266.out 1
         go_wp2
         repeat (go_quiet (fail); try go_wp2)
         refine bodyPost_ret (results_ct rfl _ _ gb266 36 #[.string (⟨#[]⟩ : ByteArray), .int .u64 0] (0, 0) _ rfl (by (with_reducible repeat (first | refine blk_drewN ?_ _ | refine blk_drew ?_ | refine blk_alloc ?_ _)); refine blk_put (cs := #[.string (⟨#[]⟩ : ByteArray), .int .u64 0]) ?_ 1 _ rfl; (with_reducible repeat (first | refine blk_drewN ?_ _ | refine blk_drew ?_ | refine blk_alloc ?_ _)); refine blk_put (cs := #[.string (⟨#[]⟩ : ByteArray), .int .u64 0]) ?_ 0 _ rfl; (with_reducible repeat (first | refine blk_drewN ?_ _ | refine blk_drew ?_ | refine blk_alloc ?_ _)); exact BK266.out) Try.underlying36 rfl (by kernel_rfl)) rfl ?_
         exact ⟨by first | rfl | (simp [errW_none, errW_some] <;> rfl) | (have e_ := Option.some.inj (A3.out.symm.trans A11.out); subst e_; rfl) | (simp [*, errW_none, errW_some] <;> rfl), by repeat (first | (with_reducible first | exact HB.out | apply below_alloc | apply pw_below_drewN | apply below_drew1 | refine below_set ?_ GE266.out) | exact HB.out)⟩
        ·replace c15 := Bool.eq_false_iff.mpr c15
         subst c15
         have H1 : (if 0 ≤ t267 then (if t267 ≤ (a0.size : Int) then (if 0 ≤ (wrap64 (t268 + t272)) then (if (wrap64 (t268 + t272)) ≤ (wrap64 ((wrap64 (t268 + t272)) + (wrap64 (t271)))) then (if (wrap64 ((wrap64 (t268 + t272)) + (wrap64 (t271)))) ≤ (l1.length : Int) then (if (a0.extract 0 (t267 : Int).toNat).size + (strOfNums ((l1.take ((wrap64 ((wrap64 (t268 + t272)) + (wrap64 (t271)))) : Int).toNat).drop ((wrap64 (t268 + t272)) : Int).toNat)).size ≤ 9223372036854775807 then (if 0 ≤ (wrap64 ((wrap64 (t268 + t272)) + (wrap64 (t271)))) then ((r01_Get.f kj11 (l1.drop ((wrap64 ((wrap64 (t268 + t272)) + (wrap64 (t271)))) : Int).toNat)).bind fun bt276 => (if bt276.2.2 = 0 then (some ((a0.extract 0 (t267 : Int).toNat) ++ (strOfNums ((l1.take ((wrap64 ((wrap64 (t268 + t272)) + (wrap64 (t271)))) : Int).toNat).drop ((wrap64 (t268 + t272)) : Int).toNat)), bt276.1, wrap64 ((wrap64 ((wrap64 (t268 + t272)) + (wrap64 (t271)))) + bt276.2.1))) else (some ((⟨#[]⟩ : ByteArray), 0, 0)))) else (none)) else (none)) else (none)) else (none)) else (none)) else (none)) else (none)) = some (r1, r2, r3) := by rw [if_neg (show ¬ (false = true) by decide)] at H; exact H
         clear H
         have H := H1
         clear H1
         by_cases c17 : 0 ≤ t267
         ·rw [if_pos c17] at H
          have c17b0 := eq_true c17
          have c17b1 := decide_eq_true c17
          clear c17
          by_cases c18 : t267 ≤ (a0.size : Int)
          ·rw [if_pos c18] at H
           have c18b0 := eq_true c18
           have c18b1 := decide_eq_true c18
           clear c18
           obtain ⟨ji19, hji19⟩ : ∃ j_ : Int, (wrap64 (t268 + t272)) = j_ := ⟨_, rfl⟩
           replace H : (if 0 ≤ (ji19) then (if (ji19) ≤ (wrap64 ((ji19) + (wrap64 (t271)))) then (if (wrap64 ((ji19) + (wrap64 (t271)))) ≤ (l1.length : Int) then (if (a0.extract 0 (t267 : Int).toNat).size + (strOfNums ((l1.take ((wrap64 ((ji19) + (wrap64 (t271)))) : Int).toNat).drop ((ji19) : Int).toNat)).size ≤ 9223372036854775807 then (if 0 ≤ (wrap64 ((ji19) + (wrap64 (t271)))) then ((r01_Get.f kj11 (l1.drop ((wrap64 ((ji19) + (wrap64 (t271)))) : Int).toNat)).bind fun bt276 => (if bt276.2.2 = 0 then (some ((a0.extract 0 (t267 : Int).toNat) ++ (strOfNums ((l1.take ((wrap64 ((ji19) + (wrap64 (t271)))) : Int).toNat).drop ((ji19) : Int).toNat)), bt276.1, wrap64 ((wrap64 ((ji19) + (wrap64 (t271)))) + bt276.2.1))) else (some ((⟨#[]⟩ : ByteArray), 0, 0)))) else (none)) else (none)) else (none)) else (none)) else (none)) = some (r1, r2, r3) := by first | (rw [hji19] at H; exact H) | (simp only [hji19] at H ⊢; exact H)
           have hji19w : (IntKind.i64.wrap (t268 + t272)) = ji19 := (i64_w _).trans hji19
           by_cases c20 : 0 ≤ (ji19)
           ·rw [if_pos c20] at H
            have c20b0 := eq_true c20
            have c20b1 := decide_eq_true c20
            clear c20
            by_cases c21 : (ji19) ≤ (wrap64 ((ji19) + (wrap64 (t271))))
            ·rw [if_pos c21] at H
             have c21b0 := eq_true c21
             have c21b1 := decide_eq_true c21
             by_cases c22 : (wrap64 ((ji19) + (wrap64 (t271)))) ≤ (l1.length : Int)
             ·rw [if_pos c22] at H
              have c22b0 := eq_true c22
              have c22b1 := decide_eq_true c22
              by_cases c23 : (a0.extract 0 (t267 : Int).toNat).size + (strOfNums ((l1.take ((wrap64 ((ji19) + (wrap64 (t271)))) : Int).toNat).drop ((ji19) : Int).toNat)).size ≤ 9223372036854775807
              ·rw [if_pos c23] at H
               have c23b0 := eq_true c23
               have c23b1 := decide_eq_true c23
               try have c23b2 : (9223372036854775807 < (a0.extract 0 (t267 : Int).toNat).size + (strOfNums ((l1.take ((wrap64 ((ji19) + (wrap64 (t271)))) : Int).toNat).drop ((ji19) : Int).toNat)).size) = False := eq_false (Nat.not_lt.2 c23)
               obtain ⟨ji24, hji24⟩ : ∃ j_ : Int, (wrap64 ((ji19) + (wrap64 (t271)))) = j_ := ⟨_, rfl⟩
               replace H : (if 0 ≤ (ji24) then ((r01_Get.f kj11 (l1.drop ((ji24) : Int).toNat)).bind fun bt276 => (if bt276.2.2 = 0 then (some ((a0.extract 0 (t267 : Int).toNat) ++ (strOfNums ((l1.take ((ji24) : Int).toNat).drop ((ji19) : Int).toNat)), bt276.1, wrap64 ((ji24) + bt276.2.1))) else (some ((⟨#[]⟩ : ByteArray), 0, 0)))) else (none)) = some (r1, r2, r3) := by first | (rw [hji24] at H; exact H) | (simp only [hji24] at H ⊢; exact H)
               (try rw [hji24] at c21b0)
               (try rw [hji24] at c21b1)
               (try rw [hji24] at c21)
               (try rw [hji24] at c22b0)
               (try rw [hji24] at c22b1)
               (try rw [hji24] at c22)
               (try rw [hji24] at c23b0)
               (try rw [hji24] at c23b1)
               (try rw [hji24] at c23)
               have hji24w : (IntKind.i64.wrap ((ji19) + (wrap64 (t271)))) = ji24 := (i64_w _).trans hji24
               by_cases c25 : 0 ≤ (ji24)
               ·rw [if_pos c25] at H
                have c25b0 := eq_true c25
                have c25b1 := decide_eq_true c25
                clear c25
                have c26b0 := eq_true (of_decide_eq_true as_ : (ji24) ≤ (l1.length : Int))
                replace H := Option.bind_eq_some_iff.mp H
                obtain ⟨⟨t276, t277, t278⟩, A270, H⟩ := H
                replace H : (if t278 = 0 then (some ((a0.extract 0 (t267 : Int).toNat) ++ (strOfNums ((l1.take ((ji24) : Int).toNat).drop ((ji19) : Int).toNat)), t276, wrap64 ((ji24) + t277))) else (some ((⟨#[]⟩ : ByteArray), 0, 0))) = some (r1, r2, r3) := H
                have A27 := Az.mk A270
                clear A270
                by_cases c28 : t278 = 0
                ·rw [if_pos c28] at H
                 have c28b0 : (t278 == 0) = true := beq_iff_eq.mpr c28
                 have c28b1 : (t278 != 0) = false := bne_eq_false_iff_eq.mpr c28
                 clear c28
                 simp only [Option.some.injEq, Prod.mk.injEq] at H
                 obtain ⟨rfl, rfl, rfl⟩ := H
                 obtain ⟨i029, hi029, _, hsz29, _⟩ := info_parts info5
                 obtain ⟨A29, hcut29, hA29, hC29⟩ := print_mid_of (P := Try.prog) (Value.int .u8) 0 22 5 .i64 .i64 Try.underlying22 hi029 hsz29 A1 c1 l1 (ji19) (ji24) (of_decide_eq_true as_) (by first | omega | exact of_decide_eq_true as_) (of_decide_eq_true as_) HC1.out
                 have HR274 := Az.mk (Kd.C_of_reads (h1 := fun _ => rfl) (hA29 _ (Kd.reads_of_C HR1.out)))
                 have HC274 := Az.mk hC29
                 clear hA29 hC29 hi029 hsz29
                 have hcv30 := Kd.C_string (P := Try.prog) (A := A29) (c := (c1 - (ji19).toNat)) Try.underlying22 Try.underlying5 Try.underlying9 (Kd.C_below HR274.out HB.out)
                 have hcv30x := hcv30
                 (try rw [show ((l1.take ((ji24) : Int).toNat).drop ((ji19) : Int).toNat).length = ((ji24) : Int).toNat - ((ji19) : Int).toNat from by rw [List.length_drop, List.length_take]; exact congrArg (· - _) (Nat.min_eq_left (Int.toNat_le.mpr (of_decide_eq_true as_)))] at hcv30x)
                 have hcv30q := fun nq_ : Nat => Kd.C_string (P := Try.prog) (A := A29) (c := (c1 - (ji19).toNat)) Try.underlying22 Try.underlying5 Try.underlying9 (Kd.C_drewN (Kd.C_below HR274.out HB.out) nq_)
                 (try simp only [show ((l1.take ((ji24) : Int).toNat).drop ((ji19) : Int).toNat).length = ((ji24) : Int).toNat - ((ji19) : Int).toNat from by rw [List.length_drop, List.length_take]; exact congrArg (· - _) (Nat.min_eq_left (Int.toNat_le.mpr (of_decide_eq_true as_)))] at hcv30q)
                 obtain ⟨i031, hi031, _, hsz31, _⟩ := info_parts info5
                 obtain ⟨A31, hcut31, hA31, hC31⟩ := print_drop_of (P := Try.prog) (Value.int .u8) 0 22 5 .i64 Try.underlying22 hi031 hsz31 A1 c1 l1 (ji24) (of_decide_eq_true as_) (of_decide_eq_true as_) HC1.out
                 have HR275 := Az.mk (Kd.C_of_reads (h1 := fun _ => rfl) (hA31 _ (Kd.reads_of_C HR1.out)))
                 have HC275 := Az.mk hC31
                 clear hA31 hC31 hi031 hsz31
                 go_wp2_with (first | (go_at_call 32; refine calls_of_args (args' := #[.slice A31 (l1.drop ((ji24) : Int).toNat).length (c1 - (ji24).toNat)]) (by first | (rw [show (l1.drop ((ji24) : Int).toNat).length = (l1.length - (ji24).toNat) from List.length_drop] <;> rfl) | rfl) ?_; (with_reducible refine (r01_Get.calls kj11 _ _ (l1.drop ((ji24) : Int).toNat) t276 t277 t278 _ ?side1 ?side2 A27.out).mono ?_); (case side1 => exact cl_ (Kd.C_below HR275.out HB.out)); (case side2 => exact HC275.out); rintro e w' ⟨rfl, ⟨nd, rfl⟩⟩; (try first | exact ⟨rfl, _, World.drewN_drewN _ _ _⟩ | exact ⟨rfl, _, Eq.trans (World.drewN_drewN _ _ _) (congrArg (World.drewN _) (Nat.add_assoc _ _ _))⟩); have hcz32_0 : wc.cell? ⟨gb266, 0, none⟩ = some (.string (⟨#[]⟩ : ByteArray)) := (blk_cell BK266.out 0).trans rfl; have hcz32_1 : wc.cell? ⟨gb266, 1, none⟩ = some (.int .u64 0) := (blk_cell BK266.out 1).trans rfl; have hfz32_0 := blk_frozen BK266.out 0; have hfz32_1 := blk_frozen BK266.out 1))
                 repeat (go_quiet (first | (go_at_call 32; refine calls_of_args (args' := #[.slice A31 (l1.drop ((ji24) : Int).toNat).length (c1 - (ji24).toNat)]) (by first | (rw [show (l1.drop ((ji24) : Int).toNat).length = (l1.length - (ji24).toNat) from List.length_drop] <;> rfl) | rfl) ?_; (with_reducible refine (r01_Get.calls kj11 _ _ (l1.drop ((ji24) : Int).toNat) t276 t277 t278 _ ?side1 ?side2 A27.out).mono ?_); (case side1 => exact cl_ (Kd.C_below HR275.out HB.out)); (case side2 => exact HC275.out); rintro e w' ⟨rfl, ⟨nd, rfl⟩⟩; (try first | exact ⟨rfl, _, World.drewN_drewN _ _ _⟩ | exact ⟨rfl, _, Eq.trans (World.drewN_drewN _ _ _) (congrArg (World.drewN _) (Nat.add_assoc _ _ _))⟩); have hcz32_0 : wc.cell? ⟨gb266, 0, none⟩ = some (.string (⟨#[]⟩ : ByteArray)) := (blk_cell BK266.out 0).trans rfl; have hcz32_1 : wc.cell? ⟨gb266, 1, none⟩ = some (.int .u64 0) := (blk_cell BK266.out 1).trans rfl; have hfz32_0 := blk_frozen BK266.out 0; have hfz32_1 := blk_frozen BK266.out 1)); try go_wp2_with (first | (go_at_call 32; refine calls_of_args (args' := #[.slice A31 (l1.drop ((ji24) : Int).toNat).length (c1 - (ji24).toNat)]) (by first | (rw [show (l1.drop ((ji24) : Int).toNat).length = (l1.length - (ji24).toNat) from List.length_drop] <;> rfl) | rfl) ?_; (with_reducible refine (r01_Get.calls kj11 _ _ (l1.drop ((ji24) : Int).toNat) t276 t277 t278 _ ?side1 ?side2 A27.out).mono ?_); (case side1 => exact cl_ (Kd.C_below HR275.out HB.out)); (case side2 => exact HC275.out); rintro e w' ⟨rfl, ⟨nd, rfl⟩⟩; (try first | exact ⟨rfl, _, World.drewN_drewN _ _ _⟩ | exact ⟨rfl, _, Eq.trans (World.drewN_drewN _ _ _) (congrArg (World.drewN _) (Nat.add_assoc _ _ _))⟩); have hcz32_0 : wc.cell? ⟨gb266, 0, none⟩ = some (.string (⟨#[]⟩ : ByteArray)) := (blk_cell BK266.out 0).trans rfl; have hcz32_1 : wc.cell? ⟨gb266, 1, none⟩ = some (.int .u64 0) := (blk_cell BK266.out 1).trans rfl; have hfz32_0 := blk_frozen BK266.out 0; have hfz32_1 := blk_frozen BK266.out 1)))
                 refine bodyPost_ret (results_ct rfl _ _ gb266 36 #[.string ((a0.extract 0 (t267 : Int).toNat) ++ (strOfNums ((l1.take ((ji24) : Int).toNat).drop ((ji19) : Int).toNat))), .int .u64 t276] (0, 0) _ rfl (by (with_reducible repeat (first | refine blk_drewN ?_ _ | refine blk_drew ?_ | refine blk_alloc ?_ _)); refine blk_put (cs := #[.string ((a0.extract 0 (t267 : Int).toNat) ++ (strOfNums ((l1.take ((ji24) : Int).toNat).drop ((ji19) : Int).toNat))), .int .u64 0]) ?_ 1 _ rfl; (with_reducible repeat (first | refine blk_drewN ?_ _ | refine blk_drew ?_ | refine blk_alloc ?_ _)); refine blk_put (cs := #[.string (⟨#[]⟩ : ByteArray), .int .u64 0]) ?_ 0 _ rfl; (with_reducible repeat (first | refine blk_drewN ?_ _ | refine blk_drew ?_ | refine blk_alloc ?_ _)); exact BK266.out) Try.underlying36 rfl (by kernel_rfl)) rfl ?_
                 exact ⟨by first | rfl | (simp [errW_none, errW_some] <;> rfl) | (simp only [← hji19, ← hji24]; first | rfl | (simp [errW_none, errW_some] <;> rfl)) | (simp [*, errW_none, errW_some] <;> rfl), by repeat (first | (with_reducible first | exact HB.out | apply below_alloc | apply pw_below_drewN | apply below_drew1 | refine below_set ?_ GE266.out) | exact HB.out)⟩
                ·rw [if_neg c28] at H
                 have c28b0 : (t278 == 0) = false := beq_eq_false_iff_ne.mpr c28
                 have c28b1 : (t278 != 0) = true := bne_iff_ne.mpr c28
                 simp only [Option.some.injEq, Prod.mk.injEq] at H
                 obtain ⟨rfl, rfl, rfl⟩ := H
                 obtain ⟨i033, hi033, _, hsz33, _⟩ := info_parts info5
                 obtain ⟨A33, hcut33, hA33, hC33⟩ := print_mid_of (P := Try.prog) (Value.int .u8) 0 22 5 .i64 .i64 Try.underlying22 hi033 hsz33 A1 c1 l1 (ji19) (ji24) (of_decide_eq_true as_) (by first | omega | exact of_decide_eq_true as_) (of_decide_eq_true as_) HC1.out
                 have HR274 := Az.mk (Kd.C_of_reads (h1 := fun _ => rfl) (hA33 _ (Kd.reads_of_C HR1.out)))
                 have HC274 := Az.mk hC33
                 clear hA33 hC33 hi033 hsz33
                 have hcv34 := Kd.C_string (P := Try.prog) (A := A33) (c := (c1 - (ji19).toNat)) Try.underlying22 Try.underlying5 Try.underlying9 (Kd.C_below HR274.out HB.out)
                 have hcv34x := hcv34
                 (try rw [show ((l1.take ((ji24) : Int).toNat).drop ((ji19) : Int).toNat).length = ((ji24) : Int).toNat - ((ji19) : Int).toNat from by rw [List.length_drop, List.length_take]; exact congrArg (· - _) (Nat.min_eq_left (Int.toNat_le.mpr (of_decide_eq_true as_)))] at hcv34x)
                 have hcv34q := fun nq_ : Nat => Kd.C_string (P := Try.prog) (A := A33) (c := (c1 - (ji19).toNat)) Try.underlying22 Try.underlying5 Try.underlying9 (Kd.C_drewN (Kd.C_below HR274.out HB.out) nq_)
                 (try simp only [show ((l1.take ((ji24) : Int).toNat).drop ((ji19) : Int).toNat).length = ((ji24) : Int).toNat - ((ji19) : Int).toNat from by rw [List.length_drop, List.length_take]; exact congrArg (· - _) (Nat.min_eq_left (Int.toNat_le.mpr (of_decide_eq_true as_)))] at hcv34q)
                 obtain ⟨i035, hi035, _, hsz35, _⟩ := info_parts info5
                 obtain ⟨A35, hcut35, hA35, hC35⟩ := print_drop_of (P := Try.prog) (Value.int .u8) 0 22 5 .i64 Try.underlying22 hi035 hsz35 A1 c1 l1 (ji24) (of_decide_eq_true as_) (of_decide_eq_true as_) HC1.out
                 have HR275 := Az.mk (Kd.C_of_reads (h1 := fun _ => rfl) (hA35 _ (Kd.reads_of_C HR1.out)))
                 have HC275 := Az.mk hC35
                 clear hA35 hC35 hi035 hsz35
                 go_wp2_with (first | (go_at_call 32; refine calls_of_args (args' := #[.slice A35 (l1.drop ((ji24) : Int).toNat).length (c1 - (ji24).toNat)]) (by first | (rw [show (l1.drop ((ji24) : Int).toNat).length = (l1.length - (ji24).toNat) from List.length_drop] <;> rfl) | rfl) ?_; (with_reducible refine (r01_Get.calls kj11 _ _ (l1.drop ((ji24) : Int).toNat) t276 t277 t278 _ ?side1 ?side2 A27.out).mono ?_); (case side1 => exact cl_ (Kd.C_below HR275.out HB.out)); (case side2 => exact HC275.out); rintro e w' ⟨rfl, ⟨nd, rfl⟩⟩; (try first | exact ⟨rfl, _, World.drewN_drewN _ _ _⟩ | exact ⟨rfl, _, Eq.trans (World.drewN_drewN _ _ _) (congrArg (World.drewN _) (Nat.add_assoc _ _ _))⟩); have hcz36_0 : wc.cell? ⟨gb266, 0, none⟩ = some (.string (⟨#[]⟩ : ByteArray)) := (blk_cell BK266.out 0).trans rfl; have hcz36_1 : wc.cell? ⟨gb266, 1, none⟩ = some (.int .u64 0) := (blk_cell BK266.out 1).trans rfl; have hfz36_0 := blk_frozen BK266.out 0; have hfz36_1 := blk_frozen BK266.out 1))
                 repeat (go_quiet (first | (go_at_call 32; refine calls_of_args (args' := #[.slice A35 (l1.drop ((ji24) : Int).toNat).length (c1 - (ji24).toNat)]) (by first | (rw [show (l1.drop ((ji24) : Int).toNat).length = (l1.length - (ji24).toNat) from List.length_drop] <;> rfl) | rfl) ?_; (with_reducible refine (r01_Get.calls kj11 _ _ (l1.drop ((ji24) : Int).toNat) t276 t277 t278 _ ?side1 ?side2 A27.out).mono ?_); (case side1 => exact cl_ (Kd.C_below HR275.out HB.out)); (case side2 => exact HC275.out); rintro e w' ⟨rfl, ⟨nd, rfl⟩⟩; (try first | exact ⟨rfl, _, World.drewN_drewN _ _ _⟩ | exact ⟨rfl, _, Eq.trans (World.drewN_drewN _ _ _) (congrArg (World.drewN _) (Nat.add_assoc _ _ _))⟩); have hcz36_0 : wc.cell? ⟨gb266, 0, none⟩ = some (.string (⟨#[]⟩ : ByteArray)) := (blk_cell BK266.out 0).trans rfl; have hcz36_1 : wc.cell? ⟨gb266, 1, none⟩ = some (.int .u64 0) := (blk_cell BK266.out 1).trans rfl; have hfz36_0 := blk_frozen BK266.out 0; have hfz36_1 := blk_frozen BK266.out 1)); try go_wp2_with (first | (go_at_call 32; refine calls_of_args (args' := #[.slice A35 (l1.drop ((ji24) : Int).toNat).length (c1 - (ji24).toNat)]) (by first | (rw [show (l1.drop ((ji24) : Int).toNat).length = (l1.length - (ji24).toNat) from List.length_drop] <;> rfl) | rfl) ?_; (with_reducible refine (r01_Get.calls kj11 _ _ (l1.drop ((ji24) : Int).toNat) t276 t277 t278 _ ?side1 ?side2 A27.out).mono ?_); (case side1 => exact cl_ (Kd.C_below HR275.out HB.out)); (case side2 => exact HC275.out); rintro e w' ⟨rfl, ⟨nd, rfl⟩⟩; (try first | exact ⟨rfl, _, World.drewN_drewN _ _ _⟩ | exact ⟨rfl, _, Eq.trans (World.drewN_drewN _ _ _) (congrArg (World.drewN _) (Nat.add_assoc _ _ _))⟩); have hcz36_0 : wc.cell? ⟨gb266, 0, none⟩ = some (.string (⟨#[]⟩ : ByteArray)) := (blk_cell BK266.out 0).trans rfl; have hcz36_1 : wc.cell? ⟨gb266, 1, none⟩ = some (.int .u64 0) := (blk_cell BK266.out 1).trans rfl; have hfz36_0 := blk_frozen BK266.out 0; have hfz36_1 := blk_frozen BK266.out 1)))
                 refine bodyPost_ret (results_ct rfl _ _ gb266 36 #[.string (⟨#[]⟩ : ByteArray), .int .u64 0] (0, 0) _ rfl (by (with_reducible repeat (first | refine blk_drewN ?_ _ | refine blk_drew ?_ | refine blk_alloc ?_ _)); refine blk_put (cs := #[.string (⟨#[]⟩ : ByteArray), .int .u64 0]) ?_ 1 _ rfl; (with_reducible repeat (first | refine blk_drewN ?_ _ | refine blk_drew ?_ | refine blk_alloc ?_ _)); refine blk_put (cs := #[.string (⟨#[]⟩ : ByteArray), .int .u64 0]) ?_ 0 _ rfl; (with_reducible repeat (first | refine blk_drewN ?_ _ | refine blk_drew ?_ | refine blk_alloc ?_ _)); exact BK266.out) Try.underlying36 rfl (by kernel_rfl)) rfl ?_
                 exact ⟨by first | rfl | (simp [errW_none, errW_some] <;> rfl) | (simp only [← hji19, ← hji24]; first | rfl | (simp [errW_none, errW_some] <;> rfl)) | (simp [*, errW_none, errW_some] <;> rfl), by repeat (first | (with_reducible first | exact HB.out | apply below_alloc | apply pw_below_drewN | apply below_drew1 | refine below_set ?_ GE266.out) | exact HB.out)⟩
               ·rw [if_neg c25] at H
                exact absurd H (by simp)
              ·rw [if_neg c23] at H
               exact absurd H (by simp)
             ·rw [if_neg c22] at H
              exact absurd H (by simp)
            ·rw [if_neg c21] at H
             exact absurd H (by simp)
           ·rw [if_neg c20] at H
            exact absurd H (by simp)
          ·rw [if_neg c18] at H
           exact absurd H (by simp)
         ·rw [if_neg c17] at H
          exact absurd H (by simp)
     ·rw [if_neg c10] at H
      exact absurd H (by simp)
    ·rw [if_neg c9] at H
     exact absurd H (by simp)
mutual
def r09_May.l0 : Nat → List (S36) → Int → Option (Int)
 | 0, _, _ => none
 | k + 1, x0, x3 => if x3 < (x0.length : Int) then (if 0 ≤ x3 then (if (((rd_T36 x0 x3).f0).size : Int) < 1 then (some 1) else (if (((rd_T36 x0 x3).f0).size : Int) > 255 then (some 1) else (if ((rd_T36 x0 x3).f1) < 1 then (some 1) else (if ((rd_T36 x0 x3).f1) > 4611686018427387904 then (some 1) else (r09_May.l0 k x0 (wrap64 (x3 + 1))))))) else (none)) else (r09_May.l1 k x0 1)
def r09_May.l1 : Nat → List (S36) → Int → Option (Int)
 | 0, _, _ => none
 | k + 1, x0, x5 => if x5 < (x0.length : Int) then (if 0 ≤ (wrap64 (x5 - 1)) then (if (wrap64 (x5 - 1)) < (x0.length : Int) then (if 0 ≤ x5 then (if ((Op.bytesLess (((rd_T36 x0 (wrap64 (x5 - 1))).f0).toList) (((rd_T36 x0 x5).f0).toList)) = true) then (r09_May.l1 k x0 (wrap64 (x5 + 1))) else (some 9)) else (none)) else (none)) else (none)) else (some 0)
end
def r09_May.f (k : Nat) (l0 : List (S36)) : Option (Int) := r09_May.l0 k l0 0
theorem r09_May.mono_l : ∀ k, (∀ y0 y1, LeO (r09_May.l0 k y0 y1) (r09_May.l0 (k + 1) y0 y1)) ∧ (∀ y0 y1, LeO (r09_May.l1 k y0 y1) (r09_May.l1 (k + 1) y0 y1))
 | 0 => ⟨fun _ _ r h => by simp [r09_May.l0] at h, fun _ _ r h => by simp [r09_May.l1] at h⟩
 | k + 1 => by
  obtain ⟨ih0, ih1⟩ := r09_May.mono_l k
  refine ⟨?_, ?_⟩
  ·intro y0 y1
   unfold r09_May.l0
   repeat' first
   | (with_reducible exact ih0 _ _)
   | (with_reducible exact ih1 _ _)
   | (with_reducible exact LeO.refl _)
   | (with_reducible exact LeO.none _)
   | (with_reducible refine LeO.ite ?_ ?_)
   | (with_reducible refine LeO.bind ?_ (fun _ => ?_))
   | exact ih0 _ _
   | exact ih1 _ _
   | exact LeO.none _
   | refine LeO.ite ?_ ?_
   | refine LeO.bind ?_ (fun _ => ?_)
  ·intro y0 y1
   unfold r09_May.l1
   repeat' first
   | (with_reducible exact ih0 _ _)
   | (with_reducible exact ih1 _ _)
   | (with_reducible exact LeO.refl _)
   | (with_reducible exact LeO.none _)
   | (with_reducible refine LeO.ite ?_ ?_)
   | (with_reducible refine LeO.bind ?_ (fun _ => ?_))
   | exact ih0 _ _
   | exact ih1 _ _
   | exact LeO.none _
   | refine LeO.ite ?_ ?_
   | refine LeO.bind ?_ (fun _ => ?_)
theorem r09_May.mono : ∀ a0 k, LeO (r09_May.f k a0) (r09_May.f (k + 1) a0) := by
 intro a0 k
 obtain ⟨ih0, ih1⟩ := r09_May.mono_l k
 unfold r09_May.f
 repeat' first
   | (with_reducible exact ih0 _ _)
   | (with_reducible exact ih1 _ _)
   | (with_reducible exact LeO.refl _)
   | (with_reducible exact LeO.none _)
   | (with_reducible refine LeO.ite ?_ ?_)
   | (with_reducible refine LeO.bind ?_ (fun _ => ?_))
   | exact ih0 _ _
   | exact ih1 _ _
   | exact LeO.none _
   | refine LeO.ite ?_ ?_
   | refine LeO.bind ?_ (fun _ => ?_)
theorem r09_May.calls (k : Nat) (A0 : Option Addr) (c0 : Nat) (l0 : List (S36)) (r : Int) (w : World) (hr0 : Kd.C k36 w A0 l0.length l0) (hc0 : l0.length ≤ c0) (h : r09_May.f k l0 = some r) :
  Calls Try.prog 42 #[.slice A0 l0.length c0] w fun e w' => e = .returned (.int .i64 r) ∧ Drawn0 w w' := by
 have HR0 := Az.mk hr0
 have HC0 := Az.mk hc0
 clear hr0 hc0
 have H : (r09_May.l0 k l0 0) = some r := h
 clear h
 have H' := Az.mk H
 clear H
 go_enter Try.func42, Try.ntmps42
 go_wp2
 repeat (go_quiet (fail); try go_wp2)
 go_loopg [3] k (fun kq v3 w' => ∃ (x3_1 : Int), v3 = .int .i64 x3_1 ∧ Az (r09_May.l0 kq l0 x3_1 = some r) ∧ Az (kq ≤ k) ∧ Drawn0 w w')
 case atStart => exact ⟨(0), (es_), H', ⟨Nat.le_refl _⟩, dw_⟩
 case round =>
  clear H'
  obtain ⟨x3_1, rfl, HA, HK1, ⟨m1, rfl⟩⟩ := hrel
  cases gk with
  | zero => exact absurd HA.out (by simp [r09_May.l0])
  | succ k1 =>
   have H := HA.out
   clear HA
   simp only [r09_May.l0] at H
   by_cases c2 : x3_1 < (l0.length : Int)
   ·rw [if_pos c2] at H
    have c2b0 := decide_eq_true c2
    clear c2
    by_cases c3 : 0 ≤ x3_1
    ·rw [if_pos c3] at H
     have c3b0 := decide_eq_true c3
     clear c3
     by_cases c4 : (((rd_T36 l0 x3_1).f0).size : Int) < 1
     ·rw [if_pos c4] at H
      have c4b0 := decide_eq_true c4
      have c4b1 : decide (((rd_T36 l0 x3_1).f0).size < 1) = true := decide_eq_true (by omega)
      clear c4
      obtain rfl := Option.some.inj H
      have p279 : 0 ≤ (x3_1 : Int) := of_decide_eq_true as_
      have q279 : x3_1 < (l0.length : Int) := of_decide_eq_true as_
      obtain ⟨ad279, e279, hx279_0, hx279_1⟩ := at_T36 HR0.out x3_1 p279 q279
      cases e279
      replace p279 := eq_true p279
      replace q279 := eq_true q279
      go_wp2
      repeat (go_quiet (fail); try go_wp2)
      go_ret
      exact ⟨es_, dw_⟩
     ·rw [if_neg c4] at H
      have c4b0 := decide_eq_false c4
      have c4b1 : decide (((rd_T36 l0 x3_1).f0).size < 1) = false := decide_eq_false (by omega)
      clear c4
      by_cases c5 : (((rd_T36 l0 x3_1).f0).size : Int) > 255
      ·rw [if_pos c5] at H
       have c5b0 := decide_eq_true c5
       have c5b1 : decide (255 < ((rd_T36 l0 x3_1).f0).size) = true := decide_eq_true (by omega)
       clear c5
       obtain rfl := Option.some.inj H
       have p279 : 0 ≤ (x3_1 : Int) := of_decide_eq_true as_
       have q279 : x3_1 < (l0.length : Int) := of_decide_eq_true as_
       obtain ⟨ad279, e279, hx279_0, hx279_1⟩ := at_T36 HR0.out x3_1 p279 q279
       cases e279
       replace p279 := eq_true p279
       replace q279 := eq_true q279
       go_wp2
       repeat (go_quiet (fail); try go_wp2)
       go_ret
       exact ⟨es_, dw_⟩
      ·rw [if_neg c5] at H
       have c5b0 := decide_eq_false c5
       have c5b1 : decide (255 < ((rd_T36 l0 x3_1).f0).size) = false := decide_eq_false (by omega)
       clear c5
       by_cases c6 : ((rd_T36 l0 x3_1).f1) < 1
       ·rw [if_pos c6] at H
        have c6b0 := decide_eq_true c6
        clear c6
        obtain rfl := Option.some.inj H
        have p279 : 0 ≤ (x3_1 : Int) := of_decide_eq_true as_
        have q279 : x3_1 < (l0.length : Int) := of_decide_eq_true as_
        obtain ⟨ad279, e279, hx279_0, hx279_1⟩ := at_T36 HR0.out x3_1 p279 q279
        cases e279
        replace p279 := eq_true p279
        replace q279 := eq_true q279
        have p280 : 0 ≤ (x3_1 : Int) := of_decide_eq_true as_
        have q280 : x3_1 < (l0.length : Int) := of_decide_eq_true as_
        obtain ⟨ad280, e280, hx280_0, hx280_1⟩ := at_T36 HR0.out x3_1 p280 q280
        obtain rfl : ad279 = ad280 := (by injection e280)
        replace p280 := eq_true p280
        replace q280 := eq_true q280
        go_wp2
        repeat (go_quiet (fail); try go_wp2)
        go_ret
        exact ⟨es_, dw_⟩
       ·rw [if_neg c6] at H
        have c6b0 := decide_eq_false c6
        clear c6
        by_cases c7 : ((rd_T36 l0 x3_1).f1) > 4611686018427387904
        ·rw [if_pos c7] at H
         have c7b0 := decide_eq_true c7
         clear c7
         obtain rfl := Option.some.inj H
         have p279 : 0 ≤ (x3_1 : Int) := of_decide_eq_true as_
         have q279 : x3_1 < (l0.length : Int) := of_decide_eq_true as_
         obtain ⟨ad279, e279, hx279_0, hx279_1⟩ := at_T36 HR0.out x3_1 p279 q279
         cases e279
         replace p279 := eq_true p279
         replace q279 := eq_true q279
         have p280 : 0 ≤ (x3_1 : Int) := of_decide_eq_true as_
         have q280 : x3_1 < (l0.length : Int) := of_decide_eq_true as_
         obtain ⟨ad280, e280, hx280_0, hx280_1⟩ := at_T36 HR0.out x3_1 p280 q280
         obtain rfl : ad279 = ad280 := (by injection e280)
         replace p280 := eq_true p280
         replace q280 := eq_true q280
         have p281 : 0 ≤ (x3_1 : Int) := of_decide_eq_true as_
         have q281 : x3_1 < (l0.length : Int) := of_decide_eq_true as_
         obtain ⟨ad281, e281, hx281_0, hx281_1⟩ := at_T36 HR0.out x3_1 p281 q281
         obtain rfl : ad279 = ad281 := (by injection e281)
         replace p281 := eq_true p281
         replace q281 := eq_true q281
         go_wp2
         repeat (go_quiet (fail); try go_wp2)
         go_ret
         exact ⟨es_, dw_⟩
        ·rw [if_neg c7] at H
         have c7b0 := decide_eq_false c7
         clear c7
         have H' := Az.mk H
         clear H
         have p279 : 0 ≤ (x3_1 : Int) := of_decide_eq_true as_
         have q279 : x3_1 < (l0.length : Int) := of_decide_eq_true as_
         obtain ⟨ad279, e279, hx279_0, hx279_1⟩ := at_T36 HR0.out x3_1 p279 q279
         cases e279
         replace p279 := eq_true p279
         replace q279 := eq_true q279
         have p280 : 0 ≤ (x3_1 : Int) := of_decide_eq_true as_
         have q280 : x3_1 < (l0.length : Int) := of_decide_eq_true as_
         obtain ⟨ad280, e280, hx280_0, hx280_1⟩ := at_T36 HR0.out x3_1 p280 q280
         obtain rfl : ad279 = ad280 := (by injection e280)
         replace p280 := eq_true p280
         replace q280 := eq_true q280
         have p281 : 0 ≤ (x3_1 : Int) := of_decide_eq_true as_
         have q281 : x3_1 < (l0.length : Int) := of_decide_eq_true as_
         obtain ⟨ad281, e281, hx281_0, hx281_1⟩ := at_T36 HR0.out x3_1 p281 q281
         obtain rfl : ad279 = ad281 := (by injection e281)
         replace p281 := eq_true p281
         replace q281 := eq_true q281
         go_wp2
         repeat (go_quiet (fail); try go_wp2)
         go_roundg k1
         case measure => have := HK1.out; omega
         case rel => exact ⟨(wrap64 (x3_1 + 1)), (es_), H', ⟨by have := HK1.out; omega⟩, dw_⟩
    ·rw [if_neg c3] at H
     exact absurd H (by simp)
   ·rw [if_neg c2] at H
    have c2b0 := decide_eq_false c2
    clear c2
    have H' := Az.mk H
    clear H
    go_wp2
    repeat (go_quiet (fail); try go_wp2)
    go_loopg [5] k1 (fun kq v5 w' => ∃ (x5_2 : Int), v5 = .int .i64 x5_2 ∧ Az (r09_May.l1 kq l0 x5_2 = some r) ∧ Az (kq ≤ k1) ∧ Drawn0 w w')
    case atStart => exact ⟨(1), (es_), H', ⟨Nat.le_refl _⟩, dw_⟩
    case round =>
     clear H'
     try clear c2
     try clear c2b0
     try clear p2
     try clear q2
     try clear hx2
     try clear c3
     try clear c3b0
     try clear c4
     try clear c4b0
     try clear c4b1
     try clear c5
     try clear c5b0
     try clear c5b1
     try clear c6
     try clear c6b0
     try clear p6
     try clear c7
     try clear c7b0
     try clear hx279_0
     try clear hx279_1
     try clear hx280_0
     try clear hx280_1
     try clear hx281_0
     try clear hx281_1
     try clear p279
     try clear p280
     try clear p281
     try clear q279
     try clear q280
     try clear q281
     obtain ⟨x5_2, rfl, HA, HK2, ⟨m2, rfl⟩⟩ := hrel
     cases gk with
     | zero => exact absurd HA.out (by simp [r09_May.l1])
     | succ k2 =>
      have H := HA.out
      clear HA
      simp only [r09_May.l1] at H
      by_cases c8 : x5_2 < (l0.length : Int)
      ·rw [if_pos c8] at H
       have c8b0 := decide_eq_true c8
       clear c8
       obtain ⟨ji9, hji9⟩ : ∃ j_ : Int, (wrap64 (x5_2 - 1)) = j_ := ⟨_, rfl⟩
       replace H : (if 0 ≤ (ji9) then (if (ji9) < (l0.length : Int) then (if 0 ≤ x5_2 then (if ((Op.bytesLess (((rd_T36 l0 (ji9)).f0).toList) (((rd_T36 l0 x5_2).f0).toList)) = true) then (r09_May.l1 k2 l0 (wrap64 (x5_2 + 1))) else (some 9)) else (none)) else (none)) else (none)) = some r := by first | (rw [hji9] at H; exact H) | (simp only [hji9] at H ⊢; exact H)
       have hji9w : (IntKind.i64.wrap (x5_2 - 1)) = ji9 := (i64_w _).trans hji9
       by_cases c10 : 0 ≤ (ji9)
       ·rw [if_pos c10] at H
        have c10b0 := decide_eq_true c10
        clear c10
        by_cases c11 : (ji9) < (l0.length : Int)
        ·rw [if_pos c11] at H
         have c11b0 := decide_eq_true c11
         clear c11
         by_cases c12 : 0 ≤ x5_2
         ·rw [if_pos c12] at H
          have c12b0 := decide_eq_true c12
          clear c12
          by_cases c13 : ((Op.bytesLess (((rd_T36 l0 (ji9)).f0).toList) (((rd_T36 l0 x5_2).f0).toList)) = true)
          ·rw [if_pos c13] at H
           have c13b0 : (Op.bytesLess (((rd_T36 l0 (ji9)).f0).toList) (((rd_T36 l0 x5_2).f0).toList)) = true := c13
           clear c13
           have H' := Az.mk H
           clear H
           have p282 : 0 ≤ ((ji9) : Int) := of_decide_eq_true as_
           have q282 : (ji9) < (l0.length : Int) := of_decide_eq_true as_
           obtain ⟨ad282, e282, hx282_0, hx282_1⟩ := at_T36 HR0.out (ji9) p282 q282
           cases e282
           replace p282 := eq_true p282
           replace q282 := eq_true q282
           have p283 : 0 ≤ (x5_2 : Int) := of_decide_eq_true as_
           have q283 : x5_2 < (l0.length : Int) := of_decide_eq_true as_
           obtain ⟨ad283, e283, hx283_0, hx283_1⟩ := at_T36 HR0.out x5_2 p283 q283
           obtain rfl : ad282 = ad283 := (by injection e283)
           replace p283 := eq_true p283
           replace q283 := eq_true q283
           go_wp2
           repeat (go_quiet (fail); try go_wp2)
           go_roundg k2
           case measure => have := HK1.out; have := HK2.out; omega
           case rel => exact ⟨(wrap64 (x5_2 + 1)), (es_), H', ⟨by have := HK1.out; have := HK2.out; omega⟩, dw_⟩
          ·rw [if_neg c13] at H
           have c13b0 : (Op.bytesLess (((rd_T36 l0 (ji9)).f0).toList) (((rd_T36 l0 x5_2).f0).toList)) = false := by simpa using c13
           clear c13
           obtain rfl := Option.some.inj H
           have p282 : 0 ≤ ((ji9) : Int) := of_decide_eq_true as_
           have q282 : (ji9) < (l0.length : Int) := of_decide_eq_true as_
           obtain ⟨ad282, e282, hx282_0, hx282_1⟩ := at_T36 HR0.out (ji9) p282 q282
           cases e282
           replace p282 := eq_true p282
           replace q282 := eq_true q282
           have p283 : 0 ≤ (x5_2 : Int) := of_decide_eq_true as_
           have q283 : x5_2 < (l0.length : Int) := of_decide_eq_true as_
           obtain ⟨ad283, e283, hx283_0, hx283_1⟩ := at_T36 HR0.out x5_2 p283 q283
           obtain rfl : ad282 = ad283 := (by injection e283)
           replace p283 := eq_true p283
           replace q283 := eq_true q283
           go_wp2
           repeat (go_quiet (fail); try go_wp2)
           go_ret
           exact ⟨by first | rfl | (simp; done) | (simp only [← hji9] <;> (first | rfl | simp)) | (simp [*]; done), dw_⟩
         ·rw [if_neg c12] at H
          exact absurd H (by simp)
        ·rw [if_neg c11] at H
         exact absurd H (by simp)
       ·rw [if_neg c10] at H
        exact absurd H (by simp)
      ·rw [if_neg c8] at H
       have c8b0 := decide_eq_false c8
       clear c8
       obtain rfl := Option.some.inj H
       go_wp2
       repeat (go_quiet (fail); try go_wp2)
       go_ret
       exact ⟨es_, dw_⟩
def r09_Alike.l0 : Nat → ByteArray → ByteArray → Int → Option (Int)
 | 0, _, _, _ => none
 | k + 1, x0, x1, x5 => if x5 < (x0.size : Int) then (if x5 < (x1.size : Int) then (if 0 ≤ x5 then (if (bt x0 x5) = (bt x1 x5) then (r09_Alike.l0 k x0 x1 (wrap64 (x5 + 1))) else (some x5)) else (none)) else (some x5)) else (some x5)
def r09_Alike.f (k : Nat) (a0 : ByteArray) (a1 : ByteArray) : Option (Int) := r09_Alike.l0 k a0 a1 0
theorem r09_Alike.mono_l : ∀ k, (∀ y0 y1 y2, LeO (r09_Alike.l0 k y0 y1 y2) (r09_Alike.l0 (k + 1) y0 y1 y2))
 | 0 => fun _ _ _ r h => by simp [r09_Alike.l0] at h
 | k + 1 => by
  have ih0 := r09_Alike.mono_l k
  ·intro y0 y1 y2
   unfold r09_Alike.l0
   repeat' first
   | (with_reducible exact ih0 _ _ _)
   | (with_reducible exact LeO.refl _)
   | (with_reducible exact LeO.none _)
   | (with_reducible refine LeO.ite ?_ ?_)
   | (with_reducible refine LeO.bind ?_ (fun _ => ?_))
   | exact ih0 _ _ _
   | exact LeO.none _
   | refine LeO.ite ?_ ?_
   | refine LeO.bind ?_ (fun _ => ?_)
theorem r09_Alike.mono : ∀ a0 a1 k, LeO (r09_Alike.f k a0 a1) (r09_Alike.f (k + 1) a0 a1) := by
 intro a0 a1 k
 have ih0 := r09_Alike.mono_l k
 unfold r09_Alike.f
 repeat' first
   | (with_reducible exact ih0 _ _ _)
   | (with_reducible exact LeO.refl _)
   | (with_reducible exact LeO.none _)
   | (with_reducible refine LeO.ite ?_ ?_)
   | (with_reducible refine LeO.bind ?_ (fun _ => ?_))
   | exact ih0 _ _ _
   | exact LeO.none _
   | refine LeO.ite ?_ ?_
   | refine LeO.bind ?_ (fun _ => ?_)
theorem r09_Alike.calls (k : Nat) (a0 : ByteArray) (a1 : ByteArray) (r : Int) (w : World) (h : r09_Alike.f k a0 a1 = some r) :
  Calls Try.prog 50 #[.string a0, .string a1] w fun e w' => e = .returned (.int .i64 r) ∧ Drawn0 w w' := by
 have H : (r09_Alike.l0 k a0 a1 0) = some r := h
 clear h
 have H' := Az.mk H
 clear H
 go_enter Try.func50, Try.ntmps50
 go_wp2
 repeat (go_quiet (fail); try go_wp2)
 go_loopg [5] k (fun kq v5 w' => ∃ (x5_1 : Int), v5 = .int .i64 x5_1 ∧ Az (r09_Alike.l0 kq a0 a1 x5_1 = some r) ∧ Az (kq ≤ k) ∧ Drawn0 w w')
 case atStart => exact ⟨(0), (es_), H', ⟨Nat.le_refl _⟩, dw_⟩
 case round =>
  clear H'
  try clear p2
  obtain ⟨x5_1, rfl, HA, HK1, ⟨m1, rfl⟩⟩ := hrel
  cases gk with
  | zero => exact absurd HA.out (by simp [r09_Alike.l0])
  | succ k1 =>
   have H := HA.out
   clear HA
   simp only [r09_Alike.l0] at H
   by_cases c3 : x5_1 < (a0.size : Int)
   ·rw [if_pos c3] at H
    have c3b0 := decide_eq_true c3
    clear c3
    by_cases c4 : x5_1 < (a1.size : Int)
    ·rw [if_pos c4] at H
     have c4b0 := decide_eq_true c4
     clear c4
     by_cases c5 : 0 ≤ x5_1
     ·rw [if_pos c5] at H
      have c5b0 := decide_eq_true c5
      clear c5
      by_cases c8 : (bt a0 x5_1) = (bt a1 x5_1)
      ·rw [if_pos c8] at H
       have c8b0 : ((bt a0 x5_1) == (bt a1 x5_1)) = true := beq_iff_eq.mpr c8
       have c8b1 : ((bt a0 x5_1) != (bt a1 x5_1)) = false := bne_eq_false_iff_eq.mpr c8
       clear c8
       have H' := Az.mk H
       clear H
       have p6 : 0 ≤ (x5_1 : Int) := of_decide_eq_true as_
       have q6 : x5_1 < (a0.size : Int) := of_decide_eq_true as_
       have hx6 := bt_at a0 x5_1
       replace p6 := eq_true p6
       replace q6 := eq_true q6
       have p7 : 0 ≤ (x5_1 : Int) := of_decide_eq_true as_
       have q7 : x5_1 < (a1.size : Int) := of_decide_eq_true as_
       have hx7 := bt_at a1 x5_1
       replace p7 := eq_true p7
       replace q7 := eq_true q7
       go_wp2
       repeat (go_quiet (fail); try go_wp2)
       go_roundg k1
       case measure => have := HK1.out; omega
       case rel => exact ⟨(wrap64 (x5_1 + 1)), (es_), H', ⟨by have := HK1.out; omega⟩, dw_⟩
      ·rw [if_neg c8] at H
       have c8b0 : ((bt a0 x5_1) == (bt a1 x5_1)) = false := beq_eq_false_iff_ne.mpr c8
       have c8b1 : ((bt a0 x5_1) != (bt a1 x5_1)) = true := bne_iff_ne.mpr c8
       obtain rfl := Option.some.inj H
       have p6 : 0 ≤ (x5_1 : Int) := of_decide_eq_true as_
       have q6 : x5_1 < (a0.size : Int) := of_decide_eq_true as_
       have hx6 := bt_at a0 x5_1
       replace p6 := eq_true p6
       replace q6 := eq_true q6
       have p7 : 0 ≤ (x5_1 : Int) := of_decide_eq_true as_
       have q7 : x5_1 < (a1.size : Int) := of_decide_eq_true as_
       have hx7 := bt_at a1 x5_1
       replace p7 := eq_true p7
       replace q7 := eq_true q7
       go_wp2
       repeat (go_quiet (fail); try go_wp2)
       go_ret
       exact ⟨es_, dw_⟩
     ·rw [if_neg c5] at H
      exact absurd H (by simp)
    ·rw [if_neg c4] at H
     have c4b0 := decide_eq_false c4
     clear c4
     obtain rfl := Option.some.inj H
     go_wp2
     repeat (go_quiet (fail); try go_wp2)
     go_ret
     exact ⟨es_, dw_⟩
   ·rw [if_neg c3] at H
    have c3b0 := decide_eq_false c3
    clear c3
    obtain rfl := Option.some.inj H
    go_wp2
    repeat (go_quiet (fail); try go_wp2)
    go_ret
    exact ⟨es_, dw_⟩
end Go.Proofs.Ytnabhfegbnfabaa.PRd
end
section
namespace Go.Proofs.Ytnabhfegbnfabaa.PRd
open Go.RowKit Go.Proofs.YtnabhfegbnfabaaW.PrintWords Go.Proofs.YtnabhfegbnfabaaW.PrintLast Go.Proofs.YtnabhfegbnfabaaW.PrintMore
attribute [local go_sem] max2_int min2_int max_two min_two max_three min_three max_four min_four
attribute [local go_sem] Go.Proofs.Ytnabhfegbnfabaa.MoreWords.str_leq Go.Proofs.Ytnabhfegbnfabaa.MoreWords.str_gtr Go.Proofs.Ytnabhfegbnfabaa.MoreWords.str_geq
set_option maxHeartbeats 8000000
set_option maxRecDepth 100000
set_option linter.unusedVariables false
set_option linter.unusedSimpArgs false
def r09_Block.l0 : Nat → List (S36) → List Int → Int → Option (List Int)
 | 0, _, _, _ => none
 | k + 1, x0, x3, x4 => if x4 < (x0.length : Int) then (if x4 > 0 then (if 0 ≤ (wrap64 (x4 - 1)) then (if (wrap64 (x4 - 1)) < (x0.length : Int) then (if 0 ≤ x4 then ((r09_Alike.f k ((rd_T36 x0 (wrap64 (x4 - 1))).f0) ((rd_T36 x0 x4).f0)).bind fun t289 => ((r01_Put.f k x3 (IntKind.u64.wrap (t289))).bind fun t290 => ((r01_Put.f k t290 (IntKind.u64.wrap (wrap64 ((((rd_T36 x0 x4).f0).size : Int) - t289)))).bind fun t294 => (if 0 ≤ t289 then (if t289 ≤ (((rd_T36 x0 x4).f0).size : Int) then (if t294.length + (((rd_T36 x0 x4).f0).extract (t289 : Int).toNat ((rd_T36 x0 x4).f0).size).size < 140737488355328 then ((r01_Put.f k (t294 ++ bytesOf (((rd_T36 x0 x4).f0).extract (t289 : Int).toNat ((rd_T36 x0 x4).f0).size)) ((rd_T36 x0 x4).f1)).bind fun t302 => (r09_Block.l0 k x0 t302 (wrap64 (x4 + 1)))) else (none)) else (none)) else (none))))) else (none)) else (none)) else (none)) else ((r01_Put.f k x3 0).bind fun t305 => (if 0 ≤ x4 then ((r01_Put.f k t305 (IntKind.u64.wrap (wrap64 ((((rd_T36 x0 x4).f0).size : Int))))).bind fun t309 => (if 0 ≤ (((rd_T36 x0 x4).f0).size : Int) then (if t309.length + ((rd_T36 x0 x4).f0).size < 140737488355328 then ((r01_Put.f k (t309 ++ bytesOf ((rd_T36 x0 x4).f0)) ((rd_T36 x0 x4).f1)).bind fun t317 => (r09_Block.l0 k x0 t317 (wrap64 (x4 + 1)))) else (none)) else (none))) else (none)))) else (some x3)
def r09_Block.f (k : Nat) (l0 : List (S36)) : Option (List Int) := (r01_Put.f k ([] : List Int) (IntKind.u64.wrap ((l0.length : Int)))).bind fun t284 => (r09_Block.l0 k l0 t284 0)
theorem r09_Block.mono_l : ∀ k, (∀ y0 y1 y2, LeO (r09_Block.l0 k y0 y1 y2) (r09_Block.l0 (k + 1) y0 y1 y2))
 | 0 => fun _ _ _ r h => by simp [r09_Block.l0] at h
 | k + 1 => by
  have ih0 := r09_Block.mono_l k
  ·intro y0 y1 y2
   unfold r09_Block.l0
   repeat' first
   | (with_reducible exact ih0 _ _ _)
   | (with_reducible exact r01_Put.mono _ _ _)
   | (with_reducible exact r09_Alike.mono _ _ _)
   | (with_reducible exact LeO.refl _)
   | (with_reducible exact LeO.none _)
   | (with_reducible refine LeO.ite ?_ ?_)
   | (with_reducible refine LeO.bind ?_ (fun _ => ?_))
   | exact ih0 _ _ _
   | exact r01_Put.mono _ _ _
   | exact r09_Alike.mono _ _ _
   | exact LeO.none _
   | refine LeO.ite ?_ ?_
   | refine LeO.bind ?_ (fun _ => ?_)
theorem r09_Block.mono : ∀ a0 k, LeO (r09_Block.f k a0) (r09_Block.f (k + 1) a0) := by
 intro a0 k
 have ih0 := r09_Block.mono_l k
 unfold r09_Block.f
 repeat' first
   | (with_reducible exact ih0 _ _ _)
   | (with_reducible exact r01_Put.mono _ _ _)
   | (with_reducible exact r09_Alike.mono _ _ _)
   | (with_reducible exact LeO.refl _)
   | (with_reducible exact LeO.none _)
   | (with_reducible refine LeO.ite ?_ ?_)
   | (with_reducible refine LeO.bind ?_ (fun _ => ?_))
   | exact ih0 _ _ _
   | exact r01_Put.mono _ _ _
   | exact r09_Alike.mono _ _ _
   | exact LeO.none _
   | refine LeO.ite ?_ ?_
   | refine LeO.bind ?_ (fun _ => ?_)
theorem r09_Block.calls (k : Nat) (A0 : Option Addr) (c0 : Nat) (l0 : List (S36)) (r : List Int) (w : World) (hr0 : Kd.C k36 w A0 l0.length l0) (hc0 : l0.length ≤ c0) (h : r09_Block.f k l0 = some r) :
  Calls Try.prog 45 #[.slice A0 l0.length c0] w fun e w' => ∃ v0_ : Value, e = .returned (v0_) ∧ Kd.R (Kd.int .u8) 5 w' w.heap.size (fun _ => True) v0_ r ∧ Below w.heap.size w w' := by
 have HR0 := Az.mk hr0
 have HC0 := Az.mk hc0
 clear hr0 hc0
 have HB := Az.mk (Below.refl w.heap.size w)
 have H : ((r01_Put.f k ([] : List Int) (IntKind.u64.wrap ((l0.length : Int)))).bind fun t284 => (r09_Block.l0 k l0 t284 0)) = some r := h
 clear h
 replace H := Option.bind_eq_some_iff.mp H
 obtain ⟨t284, A20, H⟩ := H
 replace H : (r09_Block.l0 k l0 t284 0) = some r := H
 have A2 := Az.mk A20
 clear A20
 have H' := Az.mk H
 clear H
 go_enter Try.func45, Try.ntmps45
 go_wp2_with (first | (go_at_call 44; (refine (r01_Put.calls k _ _ ([] : List Int) (IntKind.u64.wrap ((l0.length : Int))) t284 _ ?side1 ?side2 A2.out).mono ?_); (case side1 => exact Kd.C_nil _ _); (case side2 => exact Nat.le_refl _); rintro e w3 ⟨v285, rfl, ho0, hb⟩; have n0_ := Az.mk (Kd.R_lower ho0 (below_size (bl_ HB))); have n1_ := Az.mk (below_step (bl_ HB) hb); clear HB; have HO286 := n0_; have HB := n1_; clear n0_ n1_; (try clear hb); (try clear hb2); (try clear hk); (try clear hi); (try clear ho0)))
 repeat (go_quiet (first | (go_at_call 44; (refine (r01_Put.calls k _ _ ([] : List Int) (IntKind.u64.wrap ((l0.length : Int))) t284 _ ?side1 ?side2 A2.out).mono ?_); (case side1 => exact Kd.C_nil _ _); (case side2 => exact Nat.le_refl _); rintro e w3 ⟨v285, rfl, ho0, hb⟩; have n0_ := Az.mk (Kd.R_lower ho0 (below_size (bl_ HB))); have n1_ := Az.mk (below_step (bl_ HB) hb); clear HB; have HO286 := n0_; have HB := n1_; clear n0_ n1_; (try clear hb); (try clear hb2); (try clear hk); (try clear hi); (try clear ho0))); try go_wp2_with (first | (go_at_call 44; (refine (r01_Put.calls k _ _ ([] : List Int) (IntKind.u64.wrap ((l0.length : Int))) t284 _ ?side1 ?side2 A2.out).mono ?_); (case side1 => exact Kd.C_nil _ _); (case side2 => exact Nat.le_refl _); rintro e w3 ⟨v285, rfl, ho0, hb⟩; have n0_ := Az.mk (Kd.R_lower ho0 (below_size (bl_ HB))); have n1_ := Az.mk (below_step (bl_ HB) hb); clear HB; have HO286 := n0_; have HB := n1_; clear n0_ n1_; (try clear hb); (try clear hb2); (try clear hk); (try clear hi); (try clear ho0))))
 go_loopg [3, 4] k (fun kq v3 v4 w' => ∃ (x3_1 : List Int) (x4_1 : Int), v4 = .int .i64 x4_1 ∧ Az (r09_Block.l0 kq l0 x3_1 x4_1 = some r) ∧ Az (kq ≤ k) ∧ Az (Kd.R (Kd.int .u8) 5 w' w.heap.size (fun _ => True) v3 x3_1) ∧ Az (Below w.heap.size w w'))
 case atStart => exact ⟨(t284), (0), (es_), H', ⟨Nat.le_refl _⟩, ⟨rl_ HO286.out⟩, ⟨bl_ HB⟩⟩
 case round =>
  clear H'
  try clear p2
  obtain ⟨x3_1, x4_1, rfl, HA, HK1, HO_3, HB⟩ := hrel
  cases gk with
  | zero => exact absurd HA.out (by simp [r09_Block.l0])
  | succ k1 =>
   have H := HA.out
   clear HA
   simp only [r09_Block.l0] at H
   by_cases c4 : x4_1 < (l0.length : Int)
   ·rw [if_pos c4] at H
    have c4b0 := decide_eq_true c4
    clear c4
    by_cases c5 : x4_1 > 0
    ·rw [if_pos c5] at H
     have c5b0 := decide_eq_true c5
     clear c5
     obtain ⟨ji6, hji6⟩ : ∃ j_ : Int, (wrap64 (x4_1 - 1)) = j_ := ⟨_, rfl⟩
     replace H : (if 0 ≤ (ji6) then (if (ji6) < (l0.length : Int) then (if 0 ≤ x4_1 then ((r09_Alike.f k1 ((rd_T36 l0 (ji6)).f0) ((rd_T36 l0 x4_1).f0)).bind fun t289 => ((r01_Put.f k1 x3_1 (IntKind.u64.wrap (t289))).bind fun t290 => ((r01_Put.f k1 t290 (IntKind.u64.wrap (wrap64 ((((rd_T36 l0 x4_1).f0).size : Int) - t289)))).bind fun t294 => (if 0 ≤ t289 then (if t289 ≤ (((rd_T36 l0 x4_1).f0).size : Int) then (if t294.length + (((rd_T36 l0 x4_1).f0).extract (t289 : Int).toNat ((rd_T36 l0 x4_1).f0).size).size < 140737488355328 then ((r01_Put.f k1 (t294 ++ bytesOf (((rd_T36 l0 x4_1).f0).extract (t289 : Int).toNat ((rd_T36 l0 x4_1).f0).size)) ((rd_T36 l0 x4_1).f1)).bind fun t302 => (r09_Block.l0 k1 l0 t302 (wrap64 (x4_1 + 1)))) else (none)) else (none)) else (none))))) else (none)) else (none)) else (none)) = some r := by first | (rw [hji6] at H; exact H) | (simp only [hji6] at H ⊢; exact H)
     have hji6w : (IntKind.i64.wrap (x4_1 - 1)) = ji6 := (i64_w _).trans hji6
     by_cases c7 : 0 ≤ (ji6)
     ·rw [if_pos c7] at H
      have c7b0 := decide_eq_true c7
      clear c7
      by_cases c8 : (ji6) < (l0.length : Int)
      ·rw [if_pos c8] at H
       have c8b0 := decide_eq_true c8
       clear c8
       by_cases c9 : 0 ≤ x4_1
       ·rw [if_pos c9] at H
        have c9b0 := decide_eq_true c9
        clear c9
        replace H := Option.bind_eq_some_iff.mp H
        obtain ⟨t289, A100, H⟩ := H
        replace H : ((r01_Put.f k1 x3_1 (IntKind.u64.wrap (t289))).bind fun t290 => ((r01_Put.f k1 t290 (IntKind.u64.wrap (wrap64 ((((rd_T36 l0 x4_1).f0).size : Int) - t289)))).bind fun t294 => (if 0 ≤ t289 then (if t289 ≤ (((rd_T36 l0 x4_1).f0).size : Int) then (if t294.length + (((rd_T36 l0 x4_1).f0).extract (t289 : Int).toNat ((rd_T36 l0 x4_1).f0).size).size < 140737488355328 then ((r01_Put.f k1 (t294 ++ bytesOf (((rd_T36 l0 x4_1).f0).extract (t289 : Int).toNat ((rd_T36 l0 x4_1).f0).size)) ((rd_T36 l0 x4_1).f1)).bind fun t302 => (r09_Block.l0 k1 l0 t302 (wrap64 (x4_1 + 1)))) else (none)) else (none)) else (none)))) = some r := H
        have A10 := Az.mk A100
        clear A100
        replace H := Option.bind_eq_some_iff.mp H
        obtain ⟨t290, A110, H⟩ := H
        replace H : ((r01_Put.f k1 t290 (IntKind.u64.wrap (wrap64 ((((rd_T36 l0 x4_1).f0).size : Int) - t289)))).bind fun t294 => (if 0 ≤ t289 then (if t289 ≤ (((rd_T36 l0 x4_1).f0).size : Int) then (if t294.length + (((rd_T36 l0 x4_1).f0).extract (t289 : Int).toNat ((rd_T36 l0 x4_1).f0).size).size < 140737488355328 then ((r01_Put.f k1 (t294 ++ bytesOf (((rd_T36 l0 x4_1).f0).extract (t289 : Int).toNat ((rd_T36 l0 x4_1).f0).size)) ((rd_T36 l0 x4_1).f1)).bind fun t302 => (r09_Block.l0 k1 l0 t302 (wrap64 (x4_1 + 1)))) else (none)) else (none)) else (none))) = some r := H
        have A11 := Az.mk A110
        clear A110
        replace H := Option.bind_eq_some_iff.mp H
        obtain ⟨t294, A120, H⟩ := H
        replace H : (if 0 ≤ t289 then (if t289 ≤ (((rd_T36 l0 x4_1).f0).size : Int) then (if t294.length + (((rd_T36 l0 x4_1).f0).extract (t289 : Int).toNat ((rd_T36 l0 x4_1).f0).size).size < 140737488355328 then ((r01_Put.f k1 (t294 ++ bytesOf (((rd_T36 l0 x4_1).f0).extract (t289 : Int).toNat ((rd_T36 l0 x4_1).f0).size)) ((rd_T36 l0 x4_1).f1)).bind fun t302 => (r09_Block.l0 k1 l0 t302 (wrap64 (x4_1 + 1)))) else (none)) else (none)) else (none)) = some r := H
        have A12 := Az.mk A120
        clear A120
        by_cases c13 : 0 ≤ t289
        ·rw [if_pos c13] at H
         have c13b0 := eq_true c13
         have c13b1 := decide_eq_true c13
         clear c13
         by_cases c14 : t289 ≤ (((rd_T36 l0 x4_1).f0).size : Int)
         ·rw [if_pos c14] at H
          have c14b0 := eq_true c14
          have c14b1 := decide_eq_true c14
          clear c14
          by_cases c15 : t294.length + (((rd_T36 l0 x4_1).f0).extract (t289 : Int).toNat ((rd_T36 l0 x4_1).f0).size).size < 140737488355328
          ·rw [if_pos c15] at H
           have LMc15 := Az.mk c15
           clear c15
           obtain ⟨y298, hy298⟩ : ∃ y_ : List Int, y_ = (t294 ++ bytesOf (((rd_T36 l0 x4_1).f0).extract (t289 : Int).toNat ((rd_T36 l0 x4_1).f0).size)) := ⟨_, rfl⟩
           replace H : ((r01_Put.f k1 y298 ((rd_T36 l0 x4_1).f1)).bind fun t302 => (r09_Block.l0 k1 l0 t302 (wrap64 (x4_1 + 1)))) = some r := hr_ hy298 H
           have Ny298 := Az.mk hy298
           clear hy298
           replace H := Option.bind_eq_some_iff.mp H
           obtain ⟨t302, A160, H⟩ := H
           replace H : (r09_Block.l0 k1 l0 t302 (wrap64 (x4_1 + 1))) = some r := H
           have A16 := Az.mk A160
           clear A160
           have H' := Az.mk H
           clear H
           have p287 : 0 ≤ ((ji6) : Int) := of_decide_eq_true as_
           have q287 : (ji6) < (l0.length : Int) := of_decide_eq_true as_
           obtain ⟨ad287, e287, hx287_0, hx287_1⟩ := at_T36 HR0.out (ji6) p287 q287
           cases e287
           replace hx287_0 := (HB.out.cell (World.block_lt_of_cell? w _ hx287_0)).trans hx287_0
           replace hx287_1 := (HB.out.cell (World.block_lt_of_cell? w _ hx287_1)).trans hx287_1
           replace p287 := eq_true p287
           replace q287 := eq_true q287
           have p288 : 0 ≤ (x4_1 : Int) := of_decide_eq_true as_
           have q288 : x4_1 < (l0.length : Int) := of_decide_eq_true as_
           obtain ⟨ad288, e288, hx288_0, hx288_1⟩ := at_T36 HR0.out x4_1 p288 q288
           obtain rfl : ad287 = ad288 := (by injection e288)
           replace hx288_0 := (HB.out.cell (World.block_lt_of_cell? w _ hx288_0)).trans hx288_0
           replace hx288_1 := (HB.out.cell (World.block_lt_of_cell? w _ hx288_1)).trans hx288_1
           replace p288 := eq_true p288
           replace q288 := eq_true q288
           go_wp2_with (first | (go_at_call 50; (with_reducible refine (r09_Alike.calls k1 ((rd_T36 l0 (ji6)).f0) ((rd_T36 l0 x4_1).f0) t289 _ A10.out).mono ?_); rintro e w' ⟨rfl, ⟨nd, rfl⟩⟩; (try first | exact ⟨rfl, _, World.drewN_drewN _ _ _⟩ | exact ⟨rfl, _, Eq.trans (World.drewN_drewN _ _ _) (congrArg (World.drewN _) (Nat.add_assoc _ _ _))⟩); obtain ⟨Ao17, co17, eo17⟩ := Kd.R_slice HO_3.out; subst eo17) | (go_at_call 44; (with_reducible refine (r01_Put.calls k1 _ _ x3_1 (IntKind.u64.wrap (t289)) t290 _ ?side1 ?side2 A11.out).mono ?_); (case side1 => exact cl_ (Kd.R_reads' HO_3.out).2.2); (case side2 => exact (Kd.R_reads' HO_3.out).2.1); rintro e w18 ⟨v291, rfl, ho0, hb⟩; have n0_ := Az.mk (Kd.R_elder' (rl_ HO_3.out) (Kd.R_base ho0) hb); have n1_ := Az.mk (Kd.R_lower (Kd.R_new' ho0 (Kd.R_lt (rl_ HO_3.out))) (below_size (bl_ HB))); have n2_ := Az.mk (below_step (bl_ HB) hb); clear HO_3; clear HB; have HO_3 := n0_; have HO292 := n1_; have HB := n2_; clear n0_ n1_ n2_; (try clear hb); (try clear hb2); (try clear hk); (try clear hi); (try clear ho0); have p293 : 0 ≤ (x4_1 : Int) := of_decide_eq_true as_; have q293 : x4_1 < (l0.length : Int) := of_decide_eq_true as_; obtain ⟨ad293, e293, hx293_0, hx293_1⟩ := at_T36 HR0.out x4_1 p293 q293; obtain rfl : ad287 = ad293 := (by injection e293); replace hx293_0 := (HB.out.cell (World.block_lt_of_cell? w _ hx293_0)).trans hx293_0; replace hx293_1 := (HB.out.cell (World.block_lt_of_cell? w _ hx293_1)).trans hx293_1; replace p293 := eq_true p293; replace q293 := eq_true q293; obtain ⟨Ao19, co19, eo19⟩ := Kd.R_slice HO292.out; subst eo19) | (go_at_call 44; (with_reducible refine (r01_Put.calls k1 _ _ t290 (IntKind.u64.wrap (wrap64 ((((rd_T36 l0 x4_1).f0).size : Int) - t289))) t294 _ ?side1 ?side2 A12.out).mono ?_); (case side1 => exact cl_ (Kd.R_reads' HO292.out).2.2); (case side2 => exact (Kd.R_reads' HO292.out).2.1); rintro e w20 ⟨v295, rfl, ho0, hb⟩; have n0_ := Az.mk (Kd.R_elder' (rl_ HO_3.out) (Kd.R_base ho0) hb); have n1_ := Az.mk (Kd.R_elder' (rl_ HO292.out) (Kd.R_base ho0) hb); have n2_ := Az.mk (Kd.R_lower (Kd.R_new' (Kd.R_new' ho0 (Kd.R_lt (rl_ HO_3.out))) (Kd.R_lt (rl_ HO292.out))) (below_size (bl_ HB))); have n3_ := Az.mk (below_step (bl_ HB) hb); clear HO_3; clear HO292; clear HB; have HO_3 := n0_; have HO292 := n1_; have HO296 := n2_; have HB := n3_; clear n0_ n1_ n2_ n3_; (try clear hb); (try clear hb2); (try clear hk); (try clear hi); (try clear ho0); have p297 : 0 ≤ (x4_1 : Int) := of_decide_eq_true as_; have q297 : x4_1 < (l0.length : Int) := of_decide_eq_true as_; obtain ⟨ad297, e297, hx297_0, hx297_1⟩ := at_T36 HR0.out x4_1 p297 q297; obtain rfl : ad287 = ad297 := (by injection e297); replace hx297_0 := (HB.out.cell (World.block_lt_of_cell? w _ hx297_0)).trans hx297_0; replace hx297_1 := (HB.out.cell (World.block_lt_of_cell? w _ hx297_1)).trans hx297_1; replace p297 := eq_true p297; replace q297 := eq_true q297) | (at_builtin; refine Go.Proofs.Ytnabhfegbnfabaa.MoreWords.R_append_str (w0 := w) w.heap.size rfl (.tmp 45) _ 22 9 5 rfl Try.underlying22 Try.underlying9 info5 v295 t294 (((rd_T36 l0 x4_1).f0).extract (t289 : Int).toNat ((rd_T36 l0 x4_1).f0).size) (fun k_ => some k_ ≠ (.slice Ao17 x3_1.length co17 : Value).ownBlock ∧ some k_ ≠ (.slice Ao19 t290.length co19 : Value).ownBlock) rfl rfl ?aO ?aF ?aB ?aS ?aL ?_; (case aB => exact (bl_ HB)); (case aF => exact (fun k_ hk => ⟨Kd.fresh' (Kd.R_lt (rl_ HO_3.out)) k_ hk, Kd.fresh' (Kd.R_lt (rl_ HO292.out)) k_ hk⟩)); (case aO => exact (by (with_reducible repeat (first | apply Kd.R_alloc | apply Kd.R_drewN | apply Kd.R_drew)); exact Kd.R_mono HO296.out (fun _ hk => by first | exact ⟨hk.1.2, hk.2⟩ | exact ⟨hk.1, hk.2⟩))); (case aS => exact (below_size (bl_ HB))); (case aL => have := LMc15.out; omega); intro v299 w21 ho hb hg hat; rw [← Ny298.out] at ho; have n0_ := Az.mk (Kd.R_after (ok := (fun k_ => some k_ ≠ (.slice Ao19 t290.length co19 : Value).ownBlock)) (by (with_reducible repeat (first | apply Kd.R_alloc | apply Kd.R_drewN | apply Kd.R_drew)); exact Kd.R_mono HO_3.out (fun _ hk => by first | exact ⟨hk.1.2, hk.2⟩ | exact ⟨hk.1, hk.2⟩)) hg hat); have n1_ := Az.mk (Kd.R_after (ok := (fun k_ => some k_ ≠ (.slice Ao17 x3_1.length co17 : Value).ownBlock)) (by (with_reducible repeat (first | apply Kd.R_alloc | apply Kd.R_drewN | apply Kd.R_drew)); exact Kd.R_mono HO292.out (fun _ hk => by first | exact ⟨hk.1.2, hk.2⟩ | exact ⟨hk.1, hk.2⟩)) hg hat); have n2_ := Az.mk (hb); have n3_ := Az.mk (ho); clear HO_3; clear HO292; clear HB; clear HO296; have HO_3 := n0_; have HO292 := n1_; have HB := n2_; have HO300 := n3_; clear n0_ n1_ n2_ n3_; clear ho hb hg hat; have p301 : 0 ≤ (x4_1 : Int) := of_decide_eq_true as_; have q301 : x4_1 < (l0.length : Int) := of_decide_eq_true as_; obtain ⟨ad301, e301, hx301_0, hx301_1⟩ := at_T36 HR0.out x4_1 p301 q301; obtain rfl : ad287 = ad301 := (by injection e301); replace hx301_0 := (HB.out.cell (World.block_lt_of_cell? w _ hx301_0)).trans hx301_0; replace hx301_1 := (HB.out.cell (World.block_lt_of_cell? w _ hx301_1)).trans hx301_1; replace p301 := eq_true p301; replace q301 := eq_true q301; obtain ⟨Ao22, co22, eo22⟩ := Kd.R_slice HO300.out; subst eo22) | (go_at_call 44; (with_reducible refine (r01_Put.calls k1 _ _ y298 ((rd_T36 l0 x4_1).f1) t302 _ ?side1 ?side2 A16.out).mono ?_); (case side1 => exact cl_ (Kd.R_reads' HO300.out).2.2); (case side2 => exact (Kd.R_reads' HO300.out).2.1); rintro e w23 ⟨v303, rfl, ho0, hb⟩; have n0_ := Az.mk (Kd.R_elder' (rl_ HO_3.out) (Kd.R_base ho0) hb); have n1_ := Az.mk (Kd.R_elder' (rl_ HO292.out) (Kd.R_base ho0) hb); have n2_ := Az.mk (Kd.R_elder' (rl_ HO300.out) (Kd.R_base ho0) hb); have n3_ := Az.mk (Kd.R_lower (Kd.R_new' (Kd.R_new' (Kd.R_new' ho0 (Kd.R_lt (rl_ HO_3.out))) (Kd.R_lt (rl_ HO292.out))) (Kd.R_lt (rl_ HO300.out))) (below_size (bl_ HB))); have n4_ := Az.mk (below_step (bl_ HB) hb); clear HO_3; clear HO292; clear HO300; clear HB; have HO_3 := n0_; have HO292 := n1_; have HO300 := n2_; have HO304 := n3_; have HB := n4_; clear n0_ n1_ n2_ n3_ n4_; (try clear hb); (try clear hb2); (try clear hk); (try clear hi); (try clear ho0)))
           repeat (go_quiet (first | (go_at_call 50; (with_reducible refine (r09_Alike.calls k1 ((rd_T36 l0 (ji6)).f0) ((rd_T36 l0 x4_1).f0) t289 _ A10.out).mono ?_); rintro e w' ⟨rfl, ⟨nd, rfl⟩⟩; (try first | exact ⟨rfl, _, World.drewN_drewN _ _ _⟩ | exact ⟨rfl, _, Eq.trans (World.drewN_drewN _ _ _) (congrArg (World.drewN _) (Nat.add_assoc _ _ _))⟩); obtain ⟨Ao17, co17, eo17⟩ := Kd.R_slice HO_3.out; subst eo17) | (go_at_call 44; (with_reducible refine (r01_Put.calls k1 _ _ x3_1 (IntKind.u64.wrap (t289)) t290 _ ?side1 ?side2 A11.out).mono ?_); (case side1 => exact cl_ (Kd.R_reads' HO_3.out).2.2); (case side2 => exact (Kd.R_reads' HO_3.out).2.1); rintro e w18 ⟨v291, rfl, ho0, hb⟩; have n0_ := Az.mk (Kd.R_elder' (rl_ HO_3.out) (Kd.R_base ho0) hb); have n1_ := Az.mk (Kd.R_lower (Kd.R_new' ho0 (Kd.R_lt (rl_ HO_3.out))) (below_size (bl_ HB))); have n2_ := Az.mk (below_step (bl_ HB) hb); clear HO_3; clear HB; have HO_3 := n0_; have HO292 := n1_; have HB := n2_; clear n0_ n1_ n2_; (try clear hb); (try clear hb2); (try clear hk); (try clear hi); (try clear ho0); have p293 : 0 ≤ (x4_1 : Int) := of_decide_eq_true as_; have q293 : x4_1 < (l0.length : Int) := of_decide_eq_true as_; obtain ⟨ad293, e293, hx293_0, hx293_1⟩ := at_T36 HR0.out x4_1 p293 q293; obtain rfl : ad287 = ad293 := (by injection e293); replace hx293_0 := (HB.out.cell (World.block_lt_of_cell? w _ hx293_0)).trans hx293_0; replace hx293_1 := (HB.out.cell (World.block_lt_of_cell? w _ hx293_1)).trans hx293_1; replace p293 := eq_true p293; replace q293 := eq_true q293; obtain ⟨Ao19, co19, eo19⟩ := Kd.R_slice HO292.out; subst eo19) | (go_at_call 44; (with_reducible refine (r01_Put.calls k1 _ _ t290 (IntKind.u64.wrap (wrap64 ((((rd_T36 l0 x4_1).f0).size : Int) - t289))) t294 _ ?side1 ?side2 A12.out).mono ?_); (case side1 => exact cl_ (Kd.R_reads' HO292.out).2.2); (case side2 => exact (Kd.R_reads' HO292.out).2.1); rintro e w20 ⟨v295, rfl, ho0, hb⟩; have n0_ := Az.mk (Kd.R_elder' (rl_ HO_3.out) (Kd.R_base ho0) hb); have n1_ := Az.mk (Kd.R_elder' (rl_ HO292.out) (Kd.R_base ho0) hb); have n2_ := Az.mk (Kd.R_lower (Kd.R_new' (Kd.R_new' ho0 (Kd.R_lt (rl_ HO_3.out))) (Kd.R_lt (rl_ HO292.out))) (below_size (bl_ HB))); have n3_ := Az.mk (below_step (bl_ HB) hb); clear HO_3; clear HO292; clear HB; have HO_3 := n0_; have HO292 := n1_; have HO296 := n2_; have HB := n3_; clear n0_ n1_ n2_ n3_; (try clear hb); (try clear hb2); (try clear hk); (try clear hi); (try clear ho0); have p297 : 0 ≤ (x4_1 : Int) := of_decide_eq_true as_; have q297 : x4_1 < (l0.length : Int) := of_decide_eq_true as_; obtain ⟨ad297, e297, hx297_0, hx297_1⟩ := at_T36 HR0.out x4_1 p297 q297; obtain rfl : ad287 = ad297 := (by injection e297); replace hx297_0 := (HB.out.cell (World.block_lt_of_cell? w _ hx297_0)).trans hx297_0; replace hx297_1 := (HB.out.cell (World.block_lt_of_cell? w _ hx297_1)).trans hx297_1; replace p297 := eq_true p297; replace q297 := eq_true q297) | (at_builtin; refine Go.Proofs.Ytnabhfegbnfabaa.MoreWords.R_append_str (w0 := w) w.heap.size rfl (.tmp 45) _ 22 9 5 rfl Try.underlying22 Try.underlying9 info5 v295 t294 (((rd_T36 l0 x4_1).f0).extract (t289 : Int).toNat ((rd_T36 l0 x4_1).f0).size) (fun k_ => some k_ ≠ (.slice Ao17 x3_1.length co17 : Value).ownBlock ∧ some k_ ≠ (.slice Ao19 t290.length co19 : Value).ownBlock) rfl rfl ?aO ?aF ?aB ?aS ?aL ?_; (case aB => exact (bl_ HB)); (case aF => exact (fun k_ hk => ⟨Kd.fresh' (Kd.R_lt (rl_ HO_3.out)) k_ hk, Kd.fresh' (Kd.R_lt (rl_ HO292.out)) k_ hk⟩)); (case aO => exact (by (with_reducible repeat (first | apply Kd.R_alloc | apply Kd.R_drewN | apply Kd.R_drew)); exact Kd.R_mono HO296.out (fun _ hk => by first | exact ⟨hk.1.2, hk.2⟩ | exact ⟨hk.1, hk.2⟩))); (case aS => exact (below_size (bl_ HB))); (case aL => have := LMc15.out; omega); intro v299 w21 ho hb hg hat; rw [← Ny298.out] at ho; have n0_ := Az.mk (Kd.R_after (ok := (fun k_ => some k_ ≠ (.slice Ao19 t290.length co19 : Value).ownBlock)) (by (with_reducible repeat (first | apply Kd.R_alloc | apply Kd.R_drewN | apply Kd.R_drew)); exact Kd.R_mono HO_3.out (fun _ hk => by first | exact ⟨hk.1.2, hk.2⟩ | exact ⟨hk.1, hk.2⟩)) hg hat); have n1_ := Az.mk (Kd.R_after (ok := (fun k_ => some k_ ≠ (.slice Ao17 x3_1.length co17 : Value).ownBlock)) (by (with_reducible repeat (first | apply Kd.R_alloc | apply Kd.R_drewN | apply Kd.R_drew)); exact Kd.R_mono HO292.out (fun _ hk => by first | exact ⟨hk.1.2, hk.2⟩ | exact ⟨hk.1, hk.2⟩)) hg hat); have n2_ := Az.mk (hb); have n3_ := Az.mk (ho); clear HO_3; clear HO292; clear HB; clear HO296; have HO_3 := n0_; have HO292 := n1_; have HB := n2_; have HO300 := n3_; clear n0_ n1_ n2_ n3_; clear ho hb hg hat; have p301 : 0 ≤ (x4_1 : Int) := of_decide_eq_true as_; have q301 : x4_1 < (l0.length : Int) := of_decide_eq_true as_; obtain ⟨ad301, e301, hx301_0, hx301_1⟩ := at_T36 HR0.out x4_1 p301 q301; obtain rfl : ad287 = ad301 := (by injection e301); replace hx301_0 := (HB.out.cell (World.block_lt_of_cell? w _ hx301_0)).trans hx301_0; replace hx301_1 := (HB.out.cell (World.block_lt_of_cell? w _ hx301_1)).trans hx301_1; replace p301 := eq_true p301; replace q301 := eq_true q301; obtain ⟨Ao22, co22, eo22⟩ := Kd.R_slice HO300.out; subst eo22) | (go_at_call 44; (with_reducible refine (r01_Put.calls k1 _ _ y298 ((rd_T36 l0 x4_1).f1) t302 _ ?side1 ?side2 A16.out).mono ?_); (case side1 => exact cl_ (Kd.R_reads' HO300.out).2.2); (case side2 => exact (Kd.R_reads' HO300.out).2.1); rintro e w23 ⟨v303, rfl, ho0, hb⟩; have n0_ := Az.mk (Kd.R_elder' (rl_ HO_3.out) (Kd.R_base ho0) hb); have n1_ := Az.mk (Kd.R_elder' (rl_ HO292.out) (Kd.R_base ho0) hb); have n2_ := Az.mk (Kd.R_elder' (rl_ HO300.out) (Kd.R_base ho0) hb); have n3_ := Az.mk (Kd.R_lower (Kd.R_new' (Kd.R_new' (Kd.R_new' ho0 (Kd.R_lt (rl_ HO_3.out))) (Kd.R_lt (rl_ HO292.out))) (Kd.R_lt (rl_ HO300.out))) (below_size (bl_ HB))); have n4_ := Az.mk (below_step (bl_ HB) hb); clear HO_3; clear HO292; clear HO300; clear HB; have HO_3 := n0_; have HO292 := n1_; have HO300 := n2_; have HO304 := n3_; have HB := n4_; clear n0_ n1_ n2_ n3_ n4_; (try clear hb); (try clear hb2); (try clear hk); (try clear hi); (try clear ho0))); try go_wp2_with (first | (go_at_call 50; (with_reducible refine (r09_Alike.calls k1 ((rd_T36 l0 (ji6)).f0) ((rd_T36 l0 x4_1).f0) t289 _ A10.out).mono ?_); rintro e w' ⟨rfl, ⟨nd, rfl⟩⟩; (try first | exact ⟨rfl, _, World.drewN_drewN _ _ _⟩ | exact ⟨rfl, _, Eq.trans (World.drewN_drewN _ _ _) (congrArg (World.drewN _) (Nat.add_assoc _ _ _))⟩); obtain ⟨Ao17, co17, eo17⟩ := Kd.R_slice HO_3.out; subst eo17) | (go_at_call 44; (with_reducible refine (r01_Put.calls k1 _ _ x3_1 (IntKind.u64.wrap (t289)) t290 _ ?side1 ?side2 A11.out).mono ?_); (case side1 => exact cl_ (Kd.R_reads' HO_3.out).2.2); (case side2 => exact (Kd.R_reads' HO_3.out).2.1); rintro e w18 ⟨v291, rfl, ho0, hb⟩; have n0_ := Az.mk (Kd.R_elder' (rl_ HO_3.out) (Kd.R_base ho0) hb); have n1_ := Az.mk (Kd.R_lower (Kd.R_new' ho0 (Kd.R_lt (rl_ HO_3.out))) (below_size (bl_ HB))); have n2_ := Az.mk (below_step (bl_ HB) hb); clear HO_3; clear HB; have HO_3 := n0_; have HO292 := n1_; have HB := n2_; clear n0_ n1_ n2_; (try clear hb); (try clear hb2); (try clear hk); (try clear hi); (try clear ho0); have p293 : 0 ≤ (x4_1 : Int) := of_decide_eq_true as_; have q293 : x4_1 < (l0.length : Int) := of_decide_eq_true as_; obtain ⟨ad293, e293, hx293_0, hx293_1⟩ := at_T36 HR0.out x4_1 p293 q293; obtain rfl : ad287 = ad293 := (by injection e293); replace hx293_0 := (HB.out.cell (World.block_lt_of_cell? w _ hx293_0)).trans hx293_0; replace hx293_1 := (HB.out.cell (World.block_lt_of_cell? w _ hx293_1)).trans hx293_1; replace p293 := eq_true p293; replace q293 := eq_true q293; obtain ⟨Ao19, co19, eo19⟩ := Kd.R_slice HO292.out; subst eo19) | (go_at_call 44; (with_reducible refine (r01_Put.calls k1 _ _ t290 (IntKind.u64.wrap (wrap64 ((((rd_T36 l0 x4_1).f0).size : Int) - t289))) t294 _ ?side1 ?side2 A12.out).mono ?_); (case side1 => exact cl_ (Kd.R_reads' HO292.out).2.2); (case side2 => exact (Kd.R_reads' HO292.out).2.1); rintro e w20 ⟨v295, rfl, ho0, hb⟩; have n0_ := Az.mk (Kd.R_elder' (rl_ HO_3.out) (Kd.R_base ho0) hb); have n1_ := Az.mk (Kd.R_elder' (rl_ HO292.out) (Kd.R_base ho0) hb); have n2_ := Az.mk (Kd.R_lower (Kd.R_new' (Kd.R_new' ho0 (Kd.R_lt (rl_ HO_3.out))) (Kd.R_lt (rl_ HO292.out))) (below_size (bl_ HB))); have n3_ := Az.mk (below_step (bl_ HB) hb); clear HO_3; clear HO292; clear HB; have HO_3 := n0_; have HO292 := n1_; have HO296 := n2_; have HB := n3_; clear n0_ n1_ n2_ n3_; (try clear hb); (try clear hb2); (try clear hk); (try clear hi); (try clear ho0); have p297 : 0 ≤ (x4_1 : Int) := of_decide_eq_true as_; have q297 : x4_1 < (l0.length : Int) := of_decide_eq_true as_; obtain ⟨ad297, e297, hx297_0, hx297_1⟩ := at_T36 HR0.out x4_1 p297 q297; obtain rfl : ad287 = ad297 := (by injection e297); replace hx297_0 := (HB.out.cell (World.block_lt_of_cell? w _ hx297_0)).trans hx297_0; replace hx297_1 := (HB.out.cell (World.block_lt_of_cell? w _ hx297_1)).trans hx297_1; replace p297 := eq_true p297; replace q297 := eq_true q297) | (at_builtin; refine Go.Proofs.Ytnabhfegbnfabaa.MoreWords.R_append_str (w0 := w) w.heap.size rfl (.tmp 45) _ 22 9 5 rfl Try.underlying22 Try.underlying9 info5 v295 t294 (((rd_T36 l0 x4_1).f0).extract (t289 : Int).toNat ((rd_T36 l0 x4_1).f0).size) (fun k_ => some k_ ≠ (.slice Ao17 x3_1.length co17 : Value).ownBlock ∧ some k_ ≠ (.slice Ao19 t290.length co19 : Value).ownBlock) rfl rfl ?aO ?aF ?aB ?aS ?aL ?_; (case aB => exact (bl_ HB)); (case aF => exact (fun k_ hk => ⟨Kd.fresh' (Kd.R_lt (rl_ HO_3.out)) k_ hk, Kd.fresh' (Kd.R_lt (rl_ HO292.out)) k_ hk⟩)); (case aO => exact (by (with_reducible repeat (first | apply Kd.R_alloc | apply Kd.R_drewN | apply Kd.R_drew)); exact Kd.R_mono HO296.out (fun _ hk => by first | exact ⟨hk.1.2, hk.2⟩ | exact ⟨hk.1, hk.2⟩))); (case aS => exact (below_size (bl_ HB))); (case aL => have := LMc15.out; omega); intro v299 w21 ho hb hg hat; rw [← Ny298.out] at ho; have n0_ := Az.mk (Kd.R_after (ok := (fun k_ => some k_ ≠ (.slice Ao19 t290.length co19 : Value).ownBlock)) (by (with_reducible repeat (first | apply Kd.R_alloc | apply Kd.R_drewN | apply Kd.R_drew)); exact Kd.R_mono HO_3.out (fun _ hk => by first | exact ⟨hk.1.2, hk.2⟩ | exact ⟨hk.1, hk.2⟩)) hg hat); have n1_ := Az.mk (Kd.R_after (ok := (fun k_ => some k_ ≠ (.slice Ao17 x3_1.length co17 : Value).ownBlock)) (by (with_reducible repeat (first | apply Kd.R_alloc | apply Kd.R_drewN | apply Kd.R_drew)); exact Kd.R_mono HO292.out (fun _ hk => by first | exact ⟨hk.1.2, hk.2⟩ | exact ⟨hk.1, hk.2⟩)) hg hat); have n2_ := Az.mk (hb); have n3_ := Az.mk (ho); clear HO_3; clear HO292; clear HB; clear HO296; have HO_3 := n0_; have HO292 := n1_; have HB := n2_; have HO300 := n3_; clear n0_ n1_ n2_ n3_; clear ho hb hg hat; have p301 : 0 ≤ (x4_1 : Int) := of_decide_eq_true as_; have q301 : x4_1 < (l0.length : Int) := of_decide_eq_true as_; obtain ⟨ad301, e301, hx301_0, hx301_1⟩ := at_T36 HR0.out x4_1 p301 q301; obtain rfl : ad287 = ad301 := (by injection e301); replace hx301_0 := (HB.out.cell (World.block_lt_of_cell? w _ hx301_0)).trans hx301_0; replace hx301_1 := (HB.out.cell (World.block_lt_of_cell? w _ hx301_1)).trans hx301_1; replace p301 := eq_true p301; replace q301 := eq_true q301; obtain ⟨Ao22, co22, eo22⟩ := Kd.R_slice HO300.out; subst eo22) | (go_at_call 44; (with_reducible refine (r01_Put.calls k1 _ _ y298 ((rd_T36 l0 x4_1).f1) t302 _ ?side1 ?side2 A16.out).mono ?_); (case side1 => exact cl_ (Kd.R_reads' HO300.out).2.2); (case side2 => exact (Kd.R_reads' HO300.out).2.1); rintro e w23 ⟨v303, rfl, ho0, hb⟩; have n0_ := Az.mk (Kd.R_elder' (rl_ HO_3.out) (Kd.R_base ho0) hb); have n1_ := Az.mk (Kd.R_elder' (rl_ HO292.out) (Kd.R_base ho0) hb); have n2_ := Az.mk (Kd.R_elder' (rl_ HO300.out) (Kd.R_base ho0) hb); have n3_ := Az.mk (Kd.R_lower (Kd.R_new' (Kd.R_new' (Kd.R_new' ho0 (Kd.R_lt (rl_ HO_3.out))) (Kd.R_lt (rl_ HO292.out))) (Kd.R_lt (rl_ HO300.out))) (below_size (bl_ HB))); have n4_ := Az.mk (below_step (bl_ HB) hb); clear HO_3; clear HO292; clear HO300; clear HB; have HO_3 := n0_; have HO292 := n1_; have HO300 := n2_; have HO304 := n3_; have HB := n4_; clear n0_ n1_ n2_ n3_ n4_; (try clear hb); (try clear hb2); (try clear hk); (try clear hi); (try clear ho0))))
           go_roundg k1
           case measure => have := HK1.out; omega
           case rel => exact ⟨(t302), (wrap64 (x4_1 + 1)), (es_), H', ⟨by have := HK1.out; omega⟩, ⟨by (with_reducible repeat (first | apply Kd.R_alloc | apply Kd.R_drewN | apply Kd.R_drew)); exact Kd.R_mono HO304.out (fun _ hk => trivial)⟩, ⟨bl_ HB⟩⟩
          ·rw [if_neg c15] at H
           exact absurd H (by simp)
         ·rw [if_neg c14] at H
          exact absurd H (by simp)
        ·rw [if_neg c13] at H
         exact absurd H (by simp)
       ·rw [if_neg c9] at H
        exact absurd H (by simp)
      ·rw [if_neg c8] at H
       exact absurd H (by simp)
     ·rw [if_neg c7] at H
      exact absurd H (by simp)
    ·rw [if_neg c5] at H
     have c5b0 := decide_eq_false c5
     clear c5
     replace H := Option.bind_eq_some_iff.mp H
     obtain ⟨t305, A240, H⟩ := H
     replace H : (if 0 ≤ x4_1 then ((r01_Put.f k1 t305 (IntKind.u64.wrap (wrap64 ((((rd_T36 l0 x4_1).f0).size : Int))))).bind fun t309 => (if 0 ≤ (((rd_T36 l0 x4_1).f0).size : Int) then (if t309.length + ((rd_T36 l0 x4_1).f0).size < 140737488355328 then ((r01_Put.f k1 (t309 ++ bytesOf ((rd_T36 l0 x4_1).f0)) ((rd_T36 l0 x4_1).f1)).bind fun t317 => (r09_Block.l0 k1 l0 t317 (wrap64 (x4_1 + 1)))) else (none)) else (none))) else (none)) = some r := H
     have A24 := Az.mk A240
     clear A240
     by_cases c25 : 0 ≤ x4_1
     ·rw [if_pos c25] at H
      have c25b0 := decide_eq_true c25
      clear c25
      replace H := Option.bind_eq_some_iff.mp H
      obtain ⟨t309, A260, H⟩ := H
      replace H : (if 0 ≤ (((rd_T36 l0 x4_1).f0).size : Int) then (if t309.length + ((rd_T36 l0 x4_1).f0).size < 140737488355328 then ((r01_Put.f k1 (t309 ++ bytesOf ((rd_T36 l0 x4_1).f0)) ((rd_T36 l0 x4_1).f1)).bind fun t317 => (r09_Block.l0 k1 l0 t317 (wrap64 (x4_1 + 1)))) else (none)) else (none)) = some r := H
      have A26 := Az.mk A260
      clear A260
      by_cases c27 : 0 ≤ (((rd_T36 l0 x4_1).f0).size : Int)
      ·rw [if_pos c27] at H
       have c27b0 := eq_true c27
       have c27b1 := decide_eq_true c27
       clear c27
       by_cases c28 : t309.length + ((rd_T36 l0 x4_1).f0).size < 140737488355328
       ·rw [if_pos c28] at H
        have LMc28 := Az.mk c28
        clear c28
        obtain ⟨y313, hy313⟩ : ∃ y_ : List Int, y_ = (t309 ++ bytesOf ((rd_T36 l0 x4_1).f0)) := ⟨_, rfl⟩
        replace H : ((r01_Put.f k1 y313 ((rd_T36 l0 x4_1).f1)).bind fun t317 => (r09_Block.l0 k1 l0 t317 (wrap64 (x4_1 + 1)))) = some r := hr_ hy313 H
        have Ny313 := Az.mk hy313
        clear hy313
        replace H := Option.bind_eq_some_iff.mp H
        obtain ⟨t317, A290, H⟩ := H
        replace H : (r09_Block.l0 k1 l0 t317 (wrap64 (x4_1 + 1))) = some r := H
        have A29 := Az.mk A290
        clear A290
        have H' := Az.mk H
        clear H
        obtain ⟨Ao30, co30, eo30⟩ := Kd.R_slice HO_3.out
        subst eo30
        go_wp2_with (first | (go_at_call 44; (with_reducible refine (r01_Put.calls k1 _ _ x3_1 0 t305 _ ?side1 ?side2 A24.out).mono ?_); (case side1 => exact cl_ (Kd.R_reads' HO_3.out).2.2); (case side2 => exact (Kd.R_reads' HO_3.out).2.1); rintro e w31 ⟨v306, rfl, ho0, hb⟩; have n0_ := Az.mk (Kd.R_elder' (rl_ HO_3.out) (Kd.R_base ho0) hb); have n1_ := Az.mk (Kd.R_lower (Kd.R_new' ho0 (Kd.R_lt (rl_ HO_3.out))) (below_size (bl_ HB))); have n2_ := Az.mk (below_step (bl_ HB) hb); clear HO_3; clear HB; have HO_3 := n0_; have HO307 := n1_; have HB := n2_; clear n0_ n1_ n2_; (try clear hb); (try clear hb2); (try clear hk); (try clear hi); (try clear ho0); have p308 : 0 ≤ (x4_1 : Int) := of_decide_eq_true as_; have q308 : x4_1 < (l0.length : Int) := of_decide_eq_true as_; obtain ⟨ad308, e308, hx308_0, hx308_1⟩ := at_T36 HR0.out x4_1 p308 q308; cases e308; replace hx308_0 := (HB.out.cell (World.block_lt_of_cell? w _ hx308_0)).trans hx308_0; replace hx308_1 := (HB.out.cell (World.block_lt_of_cell? w _ hx308_1)).trans hx308_1; replace p308 := eq_true p308; replace q308 := eq_true q308; obtain ⟨Ao32, co32, eo32⟩ := Kd.R_slice HO307.out; subst eo32) | (go_at_call 44; (with_reducible refine (r01_Put.calls k1 _ _ t305 (IntKind.u64.wrap (wrap64 ((((rd_T36 l0 x4_1).f0).size : Int)))) t309 _ ?side1 ?side2 A26.out).mono ?_); (case side1 => exact cl_ (Kd.R_reads' HO307.out).2.2); (case side2 => exact (Kd.R_reads' HO307.out).2.1); rintro e w33 ⟨v310, rfl, ho0, hb⟩; have n0_ := Az.mk (Kd.R_elder' (rl_ HO_3.out) (Kd.R_base ho0) hb); have n1_ := Az.mk (Kd.R_elder' (rl_ HO307.out) (Kd.R_base ho0) hb); have n2_ := Az.mk (Kd.R_lower (Kd.R_new' (Kd.R_new' ho0 (Kd.R_lt (rl_ HO_3.out))) (Kd.R_lt (rl_ HO307.out))) (below_size (bl_ HB))); have n3_ := Az.mk (below_step (bl_ HB) hb); clear HO_3; clear HO307; clear HB; have HO_3 := n0_; have HO307 := n1_; have HO311 := n2_; have HB := n3_; clear n0_ n1_ n2_ n3_; (try clear hb); (try clear hb2); (try clear hk); (try clear hi); (try clear ho0); have p312 : 0 ≤ (x4_1 : Int) := of_decide_eq_true as_; have q312 : x4_1 < (l0.length : Int) := of_decide_eq_true as_; obtain ⟨ad312, e312, hx312_0, hx312_1⟩ := at_T36 HR0.out x4_1 p312 q312; obtain rfl : ad308 = ad312 := (by injection e312); replace hx312_0 := (HB.out.cell (World.block_lt_of_cell? w _ hx312_0)).trans hx312_0; replace hx312_1 := (HB.out.cell (World.block_lt_of_cell? w _ hx312_1)).trans hx312_1; replace p312 := eq_true p312; replace q312 := eq_true q312) | (at_builtin; refine Go.Proofs.Ytnabhfegbnfabaa.MoreWords.R_append_str (w0 := w) w.heap.size rfl (.tmp 45) _ 22 9 5 rfl Try.underlying22 Try.underlying9 info5 v310 t309 ((rd_T36 l0 x4_1).f0) (fun k_ => some k_ ≠ (.slice Ao30 x3_1.length co30 : Value).ownBlock ∧ some k_ ≠ (.slice Ao32 t305.length co32 : Value).ownBlock) rfl rfl ?aO ?aF ?aB ?aS ?aL ?_; (case aB => exact (bl_ HB)); (case aF => exact (fun k_ hk => ⟨Kd.fresh' (Kd.R_lt (rl_ HO_3.out)) k_ hk, Kd.fresh' (Kd.R_lt (rl_ HO307.out)) k_ hk⟩)); (case aO => exact (by (with_reducible repeat (first | apply Kd.R_alloc | apply Kd.R_drewN | apply Kd.R_drew)); exact Kd.R_mono HO311.out (fun _ hk => by first | exact ⟨hk.1.2, hk.2⟩ | exact ⟨hk.1, hk.2⟩))); (case aS => exact (below_size (bl_ HB))); (case aL => have := LMc28.out; omega); intro v314 w34 ho hb hg hat; rw [← Ny313.out] at ho; have n0_ := Az.mk (Kd.R_after (ok := (fun k_ => some k_ ≠ (.slice Ao32 t305.length co32 : Value).ownBlock)) (by (with_reducible repeat (first | apply Kd.R_alloc | apply Kd.R_drewN | apply Kd.R_drew)); exact Kd.R_mono HO_3.out (fun _ hk => by first | exact ⟨hk.1.2, hk.2⟩ | exact ⟨hk.1, hk.2⟩)) hg hat); have n1_ := Az.mk (Kd.R_after (ok := (fun k_ => some k_ ≠ (.slice Ao30 x3_1.length co30 : Value).ownBlock)) (by (with_reducible repeat (first | apply Kd.R_alloc | apply Kd.R_drewN | apply Kd.R_drew)); exact Kd.R_mono HO307.out (fun _ hk => by first | exact ⟨hk.1.2, hk.2⟩ | exact ⟨hk.1, hk.2⟩)) hg hat); have n2_ := Az.mk (hb); have n3_ := Az.mk (ho); clear HO_3; clear HO307; clear HB; clear HO311; have HO_3 := n0_; have HO307 := n1_; have HB := n2_; have HO315 := n3_; clear n0_ n1_ n2_ n3_; clear ho hb hg hat; have p316 : 0 ≤ (x4_1 : Int) := of_decide_eq_true as_; have q316 : x4_1 < (l0.length : Int) := of_decide_eq_true as_; obtain ⟨ad316, e316, hx316_0, hx316_1⟩ := at_T36 HR0.out x4_1 p316 q316; obtain rfl : ad308 = ad316 := (by injection e316); replace hx316_0 := (HB.out.cell (World.block_lt_of_cell? w _ hx316_0)).trans hx316_0; replace hx316_1 := (HB.out.cell (World.block_lt_of_cell? w _ hx316_1)).trans hx316_1; replace p316 := eq_true p316; replace q316 := eq_true q316; obtain ⟨Ao35, co35, eo35⟩ := Kd.R_slice HO315.out; subst eo35) | (go_at_call 44; (with_reducible refine (r01_Put.calls k1 _ _ y313 ((rd_T36 l0 x4_1).f1) t317 _ ?side1 ?side2 A29.out).mono ?_); (case side1 => exact cl_ (Kd.R_reads' HO315.out).2.2); (case side2 => exact (Kd.R_reads' HO315.out).2.1); rintro e w36 ⟨v318, rfl, ho0, hb⟩; have n0_ := Az.mk (Kd.R_elder' (rl_ HO_3.out) (Kd.R_base ho0) hb); have n1_ := Az.mk (Kd.R_elder' (rl_ HO307.out) (Kd.R_base ho0) hb); have n2_ := Az.mk (Kd.R_elder' (rl_ HO315.out) (Kd.R_base ho0) hb); have n3_ := Az.mk (Kd.R_lower (Kd.R_new' (Kd.R_new' (Kd.R_new' ho0 (Kd.R_lt (rl_ HO_3.out))) (Kd.R_lt (rl_ HO307.out))) (Kd.R_lt (rl_ HO315.out))) (below_size (bl_ HB))); have n4_ := Az.mk (below_step (bl_ HB) hb); clear HO_3; clear HO307; clear HO315; clear HB; have HO_3 := n0_; have HO307 := n1_; have HO315 := n2_; have HO319 := n3_; have HB := n4_; clear n0_ n1_ n2_ n3_ n4_; (try clear hb); (try clear hb2); (try clear hk); (try clear hi); (try clear ho0)))
        repeat (go_quiet (first | (go_at_call 44; (with_reducible refine (r01_Put.calls k1 _ _ x3_1 0 t305 _ ?side1 ?side2 A24.out).mono ?_); (case side1 => exact cl_ (Kd.R_reads' HO_3.out).2.2); (case side2 => exact (Kd.R_reads' HO_3.out).2.1); rintro e w31 ⟨v306, rfl, ho0, hb⟩; have n0_ := Az.mk (Kd.R_elder' (rl_ HO_3.out) (Kd.R_base ho0) hb); have n1_ := Az.mk (Kd.R_lower (Kd.R_new' ho0 (Kd.R_lt (rl_ HO_3.out))) (below_size (bl_ HB))); have n2_ := Az.mk (below_step (bl_ HB) hb); clear HO_3; clear HB; have HO_3 := n0_; have HO307 := n1_; have HB := n2_; clear n0_ n1_ n2_; (try clear hb); (try clear hb2); (try clear hk); (try clear hi); (try clear ho0); have p308 : 0 ≤ (x4_1 : Int) := of_decide_eq_true as_; have q308 : x4_1 < (l0.length : Int) := of_decide_eq_true as_; obtain ⟨ad308, e308, hx308_0, hx308_1⟩ := at_T36 HR0.out x4_1 p308 q308; cases e308; replace hx308_0 := (HB.out.cell (World.block_lt_of_cell? w _ hx308_0)).trans hx308_0; replace hx308_1 := (HB.out.cell (World.block_lt_of_cell? w _ hx308_1)).trans hx308_1; replace p308 := eq_true p308; replace q308 := eq_true q308; obtain ⟨Ao32, co32, eo32⟩ := Kd.R_slice HO307.out; subst eo32) | (go_at_call 44; (with_reducible refine (r01_Put.calls k1 _ _ t305 (IntKind.u64.wrap (wrap64 ((((rd_T36 l0 x4_1).f0).size : Int)))) t309 _ ?side1 ?side2 A26.out).mono ?_); (case side1 => exact cl_ (Kd.R_reads' HO307.out).2.2); (case side2 => exact (Kd.R_reads' HO307.out).2.1); rintro e w33 ⟨v310, rfl, ho0, hb⟩; have n0_ := Az.mk (Kd.R_elder' (rl_ HO_3.out) (Kd.R_base ho0) hb); have n1_ := Az.mk (Kd.R_elder' (rl_ HO307.out) (Kd.R_base ho0) hb); have n2_ := Az.mk (Kd.R_lower (Kd.R_new' (Kd.R_new' ho0 (Kd.R_lt (rl_ HO_3.out))) (Kd.R_lt (rl_ HO307.out))) (below_size (bl_ HB))); have n3_ := Az.mk (below_step (bl_ HB) hb); clear HO_3; clear HO307; clear HB; have HO_3 := n0_; have HO307 := n1_; have HO311 := n2_; have HB := n3_; clear n0_ n1_ n2_ n3_; (try clear hb); (try clear hb2); (try clear hk); (try clear hi); (try clear ho0); have p312 : 0 ≤ (x4_1 : Int) := of_decide_eq_true as_; have q312 : x4_1 < (l0.length : Int) := of_decide_eq_true as_; obtain ⟨ad312, e312, hx312_0, hx312_1⟩ := at_T36 HR0.out x4_1 p312 q312; obtain rfl : ad308 = ad312 := (by injection e312); replace hx312_0 := (HB.out.cell (World.block_lt_of_cell? w _ hx312_0)).trans hx312_0; replace hx312_1 := (HB.out.cell (World.block_lt_of_cell? w _ hx312_1)).trans hx312_1; replace p312 := eq_true p312; replace q312 := eq_true q312) | (at_builtin; refine Go.Proofs.Ytnabhfegbnfabaa.MoreWords.R_append_str (w0 := w) w.heap.size rfl (.tmp 45) _ 22 9 5 rfl Try.underlying22 Try.underlying9 info5 v310 t309 ((rd_T36 l0 x4_1).f0) (fun k_ => some k_ ≠ (.slice Ao30 x3_1.length co30 : Value).ownBlock ∧ some k_ ≠ (.slice Ao32 t305.length co32 : Value).ownBlock) rfl rfl ?aO ?aF ?aB ?aS ?aL ?_; (case aB => exact (bl_ HB)); (case aF => exact (fun k_ hk => ⟨Kd.fresh' (Kd.R_lt (rl_ HO_3.out)) k_ hk, Kd.fresh' (Kd.R_lt (rl_ HO307.out)) k_ hk⟩)); (case aO => exact (by (with_reducible repeat (first | apply Kd.R_alloc | apply Kd.R_drewN | apply Kd.R_drew)); exact Kd.R_mono HO311.out (fun _ hk => by first | exact ⟨hk.1.2, hk.2⟩ | exact ⟨hk.1, hk.2⟩))); (case aS => exact (below_size (bl_ HB))); (case aL => have := LMc28.out; omega); intro v314 w34 ho hb hg hat; rw [← Ny313.out] at ho; have n0_ := Az.mk (Kd.R_after (ok := (fun k_ => some k_ ≠ (.slice Ao32 t305.length co32 : Value).ownBlock)) (by (with_reducible repeat (first | apply Kd.R_alloc | apply Kd.R_drewN | apply Kd.R_drew)); exact Kd.R_mono HO_3.out (fun _ hk => by first | exact ⟨hk.1.2, hk.2⟩ | exact ⟨hk.1, hk.2⟩)) hg hat); have n1_ := Az.mk (Kd.R_after (ok := (fun k_ => some k_ ≠ (.slice Ao30 x3_1.length co30 : Value).ownBlock)) (by (with_reducible repeat (first | apply Kd.R_alloc | apply Kd.R_drewN | apply Kd.R_drew)); exact Kd.R_mono HO307.out (fun _ hk => by first | exact ⟨hk.1.2, hk.2⟩ | exact ⟨hk.1, hk.2⟩)) hg hat); have n2_ := Az.mk (hb); have n3_ := Az.mk (ho); clear HO_3; clear HO307; clear HB; clear HO311; have HO_3 := n0_; have HO307 := n1_; have HB := n2_; have HO315 := n3_; clear n0_ n1_ n2_ n3_; clear ho hb hg hat; have p316 : 0 ≤ (x4_1 : Int) := of_decide_eq_true as_; have q316 : x4_1 < (l0.length : Int) := of_decide_eq_true as_; obtain ⟨ad316, e316, hx316_0, hx316_1⟩ := at_T36 HR0.out x4_1 p316 q316; obtain rfl : ad308 = ad316 := (by injection e316); replace hx316_0 := (HB.out.cell (World.block_lt_of_cell? w _ hx316_0)).trans hx316_0; replace hx316_1 := (HB.out.cell (World.block_lt_of_cell? w _ hx316_1)).trans hx316_1; replace p316 := eq_true p316; replace q316 := eq_true q316; obtain ⟨Ao35, co35, eo35⟩ := Kd.R_slice HO315.out; subst eo35) | (go_at_call 44; (with_reducible refine (r01_Put.calls k1 _ _ y313 ((rd_T36 l0 x4_1).f1) t317 _ ?side1 ?side2 A29.out).mono ?_); (case side1 => exact cl_ (Kd.R_reads' HO315.out).2.2); (case side2 => exact (Kd.R_reads' HO315.out).2.1); rintro e w36 ⟨v318, rfl, ho0, hb⟩; have n0_ := Az.mk (Kd.R_elder' (rl_ HO_3.out) (Kd.R_base ho0) hb); have n1_ := Az.mk (Kd.R_elder' (rl_ HO307.out) (Kd.R_base ho0) hb); have n2_ := Az.mk (Kd.R_elder' (rl_ HO315.out) (Kd.R_base ho0) hb); have n3_ := Az.mk (Kd.R_lower (Kd.R_new' (Kd.R_new' (Kd.R_new' ho0 (Kd.R_lt (rl_ HO_3.out))) (Kd.R_lt (rl_ HO307.out))) (Kd.R_lt (rl_ HO315.out))) (below_size (bl_ HB))); have n4_ := Az.mk (below_step (bl_ HB) hb); clear HO_3; clear HO307; clear HO315; clear HB; have HO_3 := n0_; have HO307 := n1_; have HO315 := n2_; have HO319 := n3_; have HB := n4_; clear n0_ n1_ n2_ n3_ n4_; (try clear hb); (try clear hb2); (try clear hk); (try clear hi); (try clear ho0))); try go_wp2_with (first | (go_at_call 44; (with_reducible refine (r01_Put.calls k1 _ _ x3_1 0 t305 _ ?side1 ?side2 A24.out).mono ?_); (case side1 => exact cl_ (Kd.R_reads' HO_3.out).2.2); (case side2 => exact (Kd.R_reads' HO_3.out).2.1); rintro e w31 ⟨v306, rfl, ho0, hb⟩; have n0_ := Az.mk (Kd.R_elder' (rl_ HO_3.out) (Kd.R_base ho0) hb); have n1_ := Az.mk (Kd.R_lower (Kd.R_new' ho0 (Kd.R_lt (rl_ HO_3.out))) (below_size (bl_ HB))); have n2_ := Az.mk (below_step (bl_ HB) hb); clear HO_3; clear HB; have HO_3 := n0_; have HO307 := n1_; have HB := n2_; clear n0_ n1_ n2_; (try clear hb); (try clear hb2); (try clear hk); (try clear hi); (try clear ho0); have p308 : 0 ≤ (x4_1 : Int) := of_decide_eq_true as_; have q308 : x4_1 < (l0.length : Int) := of_decide_eq_true as_; obtain ⟨ad308, e308, hx308_0, hx308_1⟩ := at_T36 HR0.out x4_1 p308 q308; cases e308; replace hx308_0 := (HB.out.cell (World.block_lt_of_cell? w _ hx308_0)).trans hx308_0; replace hx308_1 := (HB.out.cell (World.block_lt_of_cell? w _ hx308_1)).trans hx308_1; replace p308 := eq_true p308; replace q308 := eq_true q308; obtain ⟨Ao32, co32, eo32⟩ := Kd.R_slice HO307.out; subst eo32) | (go_at_call 44; (with_reducible refine (r01_Put.calls k1 _ _ t305 (IntKind.u64.wrap (wrap64 ((((rd_T36 l0 x4_1).f0).size : Int)))) t309 _ ?side1 ?side2 A26.out).mono ?_); (case side1 => exact cl_ (Kd.R_reads' HO307.out).2.2); (case side2 => exact (Kd.R_reads' HO307.out).2.1); rintro e w33 ⟨v310, rfl, ho0, hb⟩; have n0_ := Az.mk (Kd.R_elder' (rl_ HO_3.out) (Kd.R_base ho0) hb); have n1_ := Az.mk (Kd.R_elder' (rl_ HO307.out) (Kd.R_base ho0) hb); have n2_ := Az.mk (Kd.R_lower (Kd.R_new' (Kd.R_new' ho0 (Kd.R_lt (rl_ HO_3.out))) (Kd.R_lt (rl_ HO307.out))) (below_size (bl_ HB))); have n3_ := Az.mk (below_step (bl_ HB) hb); clear HO_3; clear HO307; clear HB; have HO_3 := n0_; have HO307 := n1_; have HO311 := n2_; have HB := n3_; clear n0_ n1_ n2_ n3_; (try clear hb); (try clear hb2); (try clear hk); (try clear hi); (try clear ho0); have p312 : 0 ≤ (x4_1 : Int) := of_decide_eq_true as_; have q312 : x4_1 < (l0.length : Int) := of_decide_eq_true as_; obtain ⟨ad312, e312, hx312_0, hx312_1⟩ := at_T36 HR0.out x4_1 p312 q312; obtain rfl : ad308 = ad312 := (by injection e312); replace hx312_0 := (HB.out.cell (World.block_lt_of_cell? w _ hx312_0)).trans hx312_0; replace hx312_1 := (HB.out.cell (World.block_lt_of_cell? w _ hx312_1)).trans hx312_1; replace p312 := eq_true p312; replace q312 := eq_true q312) | (at_builtin; refine Go.Proofs.Ytnabhfegbnfabaa.MoreWords.R_append_str (w0 := w) w.heap.size rfl (.tmp 45) _ 22 9 5 rfl Try.underlying22 Try.underlying9 info5 v310 t309 ((rd_T36 l0 x4_1).f0) (fun k_ => some k_ ≠ (.slice Ao30 x3_1.length co30 : Value).ownBlock ∧ some k_ ≠ (.slice Ao32 t305.length co32 : Value).ownBlock) rfl rfl ?aO ?aF ?aB ?aS ?aL ?_; (case aB => exact (bl_ HB)); (case aF => exact (fun k_ hk => ⟨Kd.fresh' (Kd.R_lt (rl_ HO_3.out)) k_ hk, Kd.fresh' (Kd.R_lt (rl_ HO307.out)) k_ hk⟩)); (case aO => exact (by (with_reducible repeat (first | apply Kd.R_alloc | apply Kd.R_drewN | apply Kd.R_drew)); exact Kd.R_mono HO311.out (fun _ hk => by first | exact ⟨hk.1.2, hk.2⟩ | exact ⟨hk.1, hk.2⟩))); (case aS => exact (below_size (bl_ HB))); (case aL => have := LMc28.out; omega); intro v314 w34 ho hb hg hat; rw [← Ny313.out] at ho; have n0_ := Az.mk (Kd.R_after (ok := (fun k_ => some k_ ≠ (.slice Ao32 t305.length co32 : Value).ownBlock)) (by (with_reducible repeat (first | apply Kd.R_alloc | apply Kd.R_drewN | apply Kd.R_drew)); exact Kd.R_mono HO_3.out (fun _ hk => by first | exact ⟨hk.1.2, hk.2⟩ | exact ⟨hk.1, hk.2⟩)) hg hat); have n1_ := Az.mk (Kd.R_after (ok := (fun k_ => some k_ ≠ (.slice Ao30 x3_1.length co30 : Value).ownBlock)) (by (with_reducible repeat (first | apply Kd.R_alloc | apply Kd.R_drewN | apply Kd.R_drew)); exact Kd.R_mono HO307.out (fun _ hk => by first | exact ⟨hk.1.2, hk.2⟩ | exact ⟨hk.1, hk.2⟩)) hg hat); have n2_ := Az.mk (hb); have n3_ := Az.mk (ho); clear HO_3; clear HO307; clear HB; clear HO311; have HO_3 := n0_; have HO307 := n1_; have HB := n2_; have HO315 := n3_; clear n0_ n1_ n2_ n3_; clear ho hb hg hat; have p316 : 0 ≤ (x4_1 : Int) := of_decide_eq_true as_; have q316 : x4_1 < (l0.length : Int) := of_decide_eq_true as_; obtain ⟨ad316, e316, hx316_0, hx316_1⟩ := at_T36 HR0.out x4_1 p316 q316; obtain rfl : ad308 = ad316 := (by injection e316); replace hx316_0 := (HB.out.cell (World.block_lt_of_cell? w _ hx316_0)).trans hx316_0; replace hx316_1 := (HB.out.cell (World.block_lt_of_cell? w _ hx316_1)).trans hx316_1; replace p316 := eq_true p316; replace q316 := eq_true q316; obtain ⟨Ao35, co35, eo35⟩ := Kd.R_slice HO315.out; subst eo35) | (go_at_call 44; (with_reducible refine (r01_Put.calls k1 _ _ y313 ((rd_T36 l0 x4_1).f1) t317 _ ?side1 ?side2 A29.out).mono ?_); (case side1 => exact cl_ (Kd.R_reads' HO315.out).2.2); (case side2 => exact (Kd.R_reads' HO315.out).2.1); rintro e w36 ⟨v318, rfl, ho0, hb⟩; have n0_ := Az.mk (Kd.R_elder' (rl_ HO_3.out) (Kd.R_base ho0) hb); have n1_ := Az.mk (Kd.R_elder' (rl_ HO307.out) (Kd.R_base ho0) hb); have n2_ := Az.mk (Kd.R_elder' (rl_ HO315.out) (Kd.R_base ho0) hb); have n3_ := Az.mk (Kd.R_lower (Kd.R_new' (Kd.R_new' (Kd.R_new' ho0 (Kd.R_lt (rl_ HO_3.out))) (Kd.R_lt (rl_ HO307.out))) (Kd.R_lt (rl_ HO315.out))) (below_size (bl_ HB))); have n4_ := Az.mk (below_step (bl_ HB) hb); clear HO_3; clear HO307; clear HO315; clear HB; have HO_3 := n0_; have HO307 := n1_; have HO315 := n2_; have HO319 := n3_; have HB := n4_; clear n0_ n1_ n2_ n3_ n4_; (try clear hb); (try clear hb2); (try clear hk); (try clear hi); (try clear ho0))))
        go_roundg k1
        case measure => have := HK1.out; omega
        case rel => exact ⟨(t317), (wrap64 (x4_1 + 1)), (es_), H', ⟨by have := HK1.out; omega⟩, ⟨by (with_reducible repeat (first | apply Kd.R_alloc | apply Kd.R_drewN | apply Kd.R_drew)); exact Kd.R_mono HO319.out (fun _ hk => trivial)⟩, ⟨bl_ HB⟩⟩
       ·rw [if_neg c28] at H
        exact absurd H (by simp)
      ·rw [if_neg c27] at H
       exact absurd H (by simp)
     ·rw [if_neg c25] at H
      exact absurd H (by simp)
   ·rw [if_neg c4] at H
    have c4b0 := decide_eq_false c4
    clear c4
    obtain rfl := Option.some.inj H
    go_wp2
    repeat (go_quiet (fail); try go_wp2)
    go_ret
    exact ⟨_, er_, by (with_reducible repeat (first | apply Kd.R_alloc | apply Kd.R_drewN | apply Kd.R_drew)); exact HO_3.out, bl_ HB⟩
mutual
def r09_Encode.j0 : Nat → List (S36) → Int → Bool → Option (List Int × Int)
 | 0, _, _, _ => none
 | k + 1, x0, x1, x20 => if x20 = true then (some (([] : List Int), 1)) else ((r09_May.f k x0).bind fun t320 => (if t320 = 0 then ((r01_Put.f k ([] : List Int) (IntKind.u64.wrap (x1))).bind fun t321 => ((r03_Put.f k ([] : List Int) t321).bind fun bt324 => (r09_Encode.l0 k x0 x1 bt324.1 0))) else (some (([] : List Int), t320))))
def r09_Encode.l0 : Nat → List (S36) → Int → List Int → Int → Option (List Int × Int)
 | 0, _, _, _, _ => none
 | k + 1, x0, x1, x7, x9 => if x9 < (x0.length : Int) then (if (wrap64 (x9 + x1)) > (x0.length : Int) then (r09_Encode.j2 k x0 x1 x7 x9 (x0.length : Int)) else (r09_Encode.j2 k x0 x1 x7 x9 (wrap64 (x9 + x1)))) else ((r01_Put.f k ([] : List Int) 0).bind fun t328 => ((r01_Put.f k t328 (IntKind.u64.wrap ((x0.length : Int)))).bind fun t331 => ((r03_Put.f k x7 t331).bind fun bt334 => (some (bt334.1, 0)))))
def r09_Encode.j2 : Nat → List (S36) → Int → List Int → Int → Int → Option (List Int × Int)
 | 0, _, _, _, _, _ => none
 | k + 1, x0, x1, x7, x9, x10 => if 0 ≤ x9 then (if x9 ≤ x10 then (if x10 ≤ (x0.length : Int) then ((r09_Block.f k ((x0.take (x10 : Int).toNat).drop (x9 : Int).toNat)).bind fun t342 => ((r03_Put.f k x7 t342).bind fun bt345 => (if bt345.2 = 0 then (r09_Encode.l0 k x0 x1 bt345.1 (wrap64 (x9 + x1))) else (some (([] : List Int), bt345.2))))) else (none)) else (none)) else (none)
end
def r09_Encode.f (k : Nat) (l0 : List (S36)) (a1 : Int) : Option (List Int × Int) := if a1 < 1 then (r09_Encode.j0 k l0 a1 true) else (r09_Encode.j0 k l0 a1 (decide (a1 > 255)))
theorem r09_Encode.mono_l : ∀ k, (∀ y0 y1 y2, LeO (r09_Encode.j0 k y0 y1 y2) (r09_Encode.j0 (k + 1) y0 y1 y2)) ∧ (∀ y0 y1 y2 y3, LeO (r09_Encode.l0 k y0 y1 y2 y3) (r09_Encode.l0 (k + 1) y0 y1 y2 y3)) ∧ (∀ y0 y1 y2 y3 y4, LeO (r09_Encode.j2 k y0 y1 y2 y3 y4) (r09_Encode.j2 (k + 1) y0 y1 y2 y3 y4))
 | 0 => ⟨fun _ _ _ r h => by simp [r09_Encode.j0] at h, fun _ _ _ _ r h => by simp [r09_Encode.l0] at h, fun _ _ _ _ _ r h => by simp [r09_Encode.j2] at h⟩
 | k + 1 => by
  obtain ⟨ih0, ih1, ih2⟩ := r09_Encode.mono_l k
  refine ⟨?_, ?_, ?_⟩
  ·intro y0 y1 y2
   unfold r09_Encode.j0
   repeat' first
   | (with_reducible exact ih0 _ _ _)
   | (with_reducible exact ih1 _ _ _ _)
   | (with_reducible exact ih2 _ _ _ _ _)
   | (with_reducible exact r01_Put.mono _ _ _)
   | (with_reducible exact r03_Put.mono _ _ _)
   | (with_reducible exact r09_Block.mono _ _)
   | (with_reducible exact r09_May.mono _ _)
   | (with_reducible exact LeO.refl _)
   | (with_reducible exact LeO.none _)
   | (with_reducible refine LeO.ite ?_ ?_)
   | (with_reducible refine LeO.bind ?_ (fun _ => ?_))
   | exact ih0 _ _ _
   | exact ih1 _ _ _ _
   | exact ih2 _ _ _ _ _
   | exact r01_Put.mono _ _ _
   | exact r03_Put.mono _ _ _
   | exact r09_Block.mono _ _
   | exact r09_May.mono _ _
   | exact LeO.none _
   | refine LeO.ite ?_ ?_
   | refine LeO.bind ?_ (fun _ => ?_)
  ·intro y0 y1 y2 y3
   unfold r09_Encode.l0
   repeat' first
   | (with_reducible exact ih0 _ _ _)
   | (with_reducible exact ih1 _ _ _ _)
   | (with_reducible exact ih2 _ _ _ _ _)
   | (with_reducible exact r01_Put.mono _ _ _)
   | (with_reducible exact r03_Put.mono _ _ _)
   | (with_reducible exact r09_Block.mono _ _)
   | (with_reducible exact r09_May.mono _ _)
   | (with_reducible exact LeO.refl _)
   | (with_reducible exact LeO.none _)
   | (with_reducible refine LeO.ite ?_ ?_)
   | (with_reducible refine LeO.bind ?_ (fun _ => ?_))
   | exact ih0 _ _ _
   | exact ih1 _ _ _ _
   | exact ih2 _ _ _ _ _
   | exact r01_Put.mono _ _ _
   | exact r03_Put.mono _ _ _
   | exact r09_Block.mono _ _
   | exact r09_May.mono _ _
   | exact LeO.none _
   | refine LeO.ite ?_ ?_
   | refine LeO.bind ?_ (fun _ => ?_)
  ·intro y0 y1 y2 y3 y4
   unfold r09_Encode.j2
   repeat' first
   | (with_reducible exact ih0 _ _ _)
   | (with_reducible exact ih1 _ _ _ _)
   | (with_reducible exact ih2 _ _ _ _ _)
   | (with_reducible exact r01_Put.mono _ _ _)
   | (with_reducible exact r03_Put.mono _ _ _)
   | (with_reducible exact r09_Block.mono _ _)
   | (with_reducible exact r09_May.mono _ _)
   | (with_reducible exact LeO.refl _)
   | (with_reducible exact LeO.none _)
   | (with_reducible refine LeO.ite ?_ ?_)
   | (with_reducible refine LeO.bind ?_ (fun _ => ?_))
   | exact ih0 _ _ _
   | exact ih1 _ _ _ _
   | exact ih2 _ _ _ _ _
   | exact r01_Put.mono _ _ _
   | exact r03_Put.mono _ _ _
   | exact r09_Block.mono _ _
   | exact r09_May.mono _ _
   | exact LeO.none _
   | refine LeO.ite ?_ ?_
   | refine LeO.bind ?_ (fun _ => ?_)
theorem r09_Encode.mono : ∀ a0 a1 k, LeO (r09_Encode.f k a0 a1) (r09_Encode.f (k + 1) a0 a1) := by
 intro a0 a1 k
 obtain ⟨ih0, ih1, ih2⟩ := r09_Encode.mono_l k
 unfold r09_Encode.f
 repeat' first
   | (with_reducible exact ih0 _ _ _)
   | (with_reducible exact ih1 _ _ _ _)
   | (with_reducible exact ih2 _ _ _ _ _)
   | (with_reducible exact r01_Put.mono _ _ _)
   | (with_reducible exact r03_Put.mono _ _ _)
   | (with_reducible exact r09_Block.mono _ _)
   | (with_reducible exact r09_May.mono _ _)
   | (with_reducible exact LeO.refl _)
   | (with_reducible exact LeO.none _)
   | (with_reducible refine LeO.ite ?_ ?_)
   | (with_reducible refine LeO.bind ?_ (fun _ => ?_))
   | exact ih0 _ _ _
   | exact ih1 _ _ _ _
   | exact ih2 _ _ _ _ _
   | exact r01_Put.mono _ _ _
   | exact r03_Put.mono _ _ _
   | exact r09_Block.mono _ _
   | exact r09_May.mono _ _
   | exact LeO.none _
   | refine LeO.ite ?_ ?_
   | refine LeO.bind ?_ (fun _ => ?_)
theorem r09_Encode.calls (k : Nat) (A0 : Option Addr) (c0 : Nat) (l0 : List (S36)) (a1 : Int) (r1 : List Int) (r2 : Int) (w : World) (hr0 : Kd.C k36 w A0 l0.length l0) (hc0 : l0.length ≤ c0) (h : r09_Encode.f k l0 a1 = some (r1, r2)) :
  Calls Try.prog 34 #[.slice A0 l0.length c0, .int .i64 a1] w fun e w' => ∃ v0_ : Value, e = .returned (.tuple #[v0_, .int .i64 r2]) ∧ Kd.R (Kd.int .u8) 5 w' w.heap.size (fun _ => True) v0_ r1 ∧ Below w.heap.size w w' := by
 have HR0 := Az.mk hr0
 have HC0 := Az.mk hc0
 clear hr0 hc0
 have HB := Az.mk (Below.refl w.heap.size w)
 have H : (if a1 < 1 then (r09_Encode.j0 k l0 a1 true) else (r09_Encode.j0 k l0 a1 (decide (a1 > 255)))) = some (r1, r2) := h
 clear h
 have HC3 := Az.mk H
 clear H
 go_enter Try.func34, Try.ntmps34
 go_upto_region 1 with (fail)
 go_cut [20] (fun v20 wc => ∃ (kq : Nat) (x20_2 : Bool), v20 = .bool x20_2 ∧ Az (r09_Encode.j0 kq l0 a1 x20_2 = some (r1, r2)) ∧ Az (kq ≤ k) ∧ Az (Below w.heap.size w wc))
 case first =>
  have H := HC3.out
  clear HC3
  by_cases c4 : a1 < 1
  ·rw [if_pos c4] at H
   have c4b0 := decide_eq_true c4
   clear c4
   (first | rw [c4b0] | (simp only [i64_w, i32_w]; rw [c4b0]) | skip)
   have H' := Az.mk H
   clear H
   go_wp2
   go_meet
   case rel => exact ⟨_, (true), (es_), H', ⟨by first | omega | exact Nat.le_refl _⟩, ⟨bl_ HB⟩⟩
  ·rw [if_neg c4] at H
   have c4b0 := decide_eq_false c4
   clear c4
   (first | rw [c4b0] | (simp only [i64_w, i32_w]; rw [c4b0]) | skip)
   have H' := Az.mk H
   clear H
   go_wp2
   go_meet
   case rel => exact ⟨_, (decide (a1 > 255)), (es_), H', ⟨by first | omega | exact Nat.le_refl _⟩, ⟨bl_ HB⟩⟩
 case rest =>
  clear HC3
  try clear p2
  try clear c3
  try clear c4
  try clear c4b0
  obtain ⟨kq, x20_2, rfl, HA, HJ2, HB⟩ := hcut
  cases kq with
  | zero => exact absurd HA.out (by simp [r09_Encode.j0])
  | succ kj2 =>
   have H := HA.out
   clear HA
   simp only [r09_Encode.j0] at H
   by_cases c5 : x20_2 = true
   ·subst c5
    have H1 : (some (([] : List Int), 1)) = some (r1, r2) := by rw [if_pos rfl] at H; exact H
    clear H
    have H := H1
    clear H1
    simp only [Option.some.injEq, Prod.mk.injEq] at H
    obtain ⟨rfl, rfl⟩ := H
    go_wp2
    go_ret2
    exact ⟨_, er_, nl_, bl_ HB⟩
   ·replace c5 := Bool.eq_false_iff.mpr c5
    subst c5
    have H1 : ((r09_May.f kj2 l0).bind fun t320 => (if t320 = 0 then ((r01_Put.f kj2 ([] : List Int) (IntKind.u64.wrap (a1))).bind fun t321 => ((r03_Put.f kj2 ([] : List Int) t321).bind fun bt324 => (r09_Encode.l0 kj2 l0 a1 bt324.1 0))) else (some (([] : List Int), t320)))) = some (r1, r2) := by rw [if_neg (show ¬ (false = true) by decide)] at H; exact H
    clear H
    have H := H1
    clear H1
    replace H := Option.bind_eq_some_iff.mp H
    obtain ⟨t320, A60, H⟩ := H
    replace H : (if t320 = 0 then ((r01_Put.f kj2 ([] : List Int) (IntKind.u64.wrap (a1))).bind fun t321 => ((r03_Put.f kj2 ([] : List Int) t321).bind fun bt324 => (r09_Encode.l0 kj2 l0 a1 bt324.1 0))) else (some (([] : List Int), t320))) = some (r1, r2) := H
    have A6 := Az.mk A60
    clear A60
    by_cases c7 : t320 = 0
    ·rw [if_pos c7] at H
     have c7b0 : (t320 == 0) = true := beq_iff_eq.mpr c7
     have c7b1 : (t320 != 0) = false := bne_eq_false_iff_eq.mpr c7
     clear c7
     replace H := Option.bind_eq_some_iff.mp H
     obtain ⟨t321, A80, H⟩ := H
     replace H : ((r03_Put.f kj2 ([] : List Int) t321).bind fun bt324 => (r09_Encode.l0 kj2 l0 a1 bt324.1 0)) = some (r1, r2) := H
     have A8 := Az.mk A80
     clear A80
     replace H := Option.bind_eq_some_iff.mp H
     obtain ⟨⟨t324, t325⟩, A90, H⟩ := H
     replace H : (r09_Encode.l0 kj2 l0 a1 t324 0) = some (r1, r2) := H
     have A9 := Az.mk A90
     clear A90
     have H' := Az.mk H
     clear H
     go_wp2_with (first | ((with_reducible refine gate_callee (f := 42) rfl ?_); refine goesL_ (some 22) rfl rfl Try.func42 (by kernel_rfl) rfl #[.slice A0 l0.length c0] rfl ar_ ?_; (with_reducible refine (r09_May.calls kj2 _ _ l0 t320 _ ?side1 ?side2 A6.out).mono ?_); (case side1 => exact cl_ (Kd.C_below HR0.out HB.out)); (case side2 => exact HC0.out); rintro e w' ⟨rfl, ⟨nd, rfl⟩⟩; refine ⟨_, rfl, ?_⟩) | ((with_reducible refine gate_callee (f := 44) rfl ?_); refine goesL_ (some 29) rfl rfl Try.func44 (by kernel_rfl) rfl #[.slice none 0 0, .int .u64 (IntKind.u64.wrap (a1))] rfl ar_ ?_; (refine (r01_Put.calls kj2 _ _ ([] : List Int) (IntKind.u64.wrap (a1)) t321 _ ?side1 ?side2 A8.out).mono ?_); (case side1 => exact Kd.C_nil _ _); (case side2 => exact Nat.le_refl _); rintro e w10 ⟨v322, rfl, ho0, hb⟩; refine ⟨_, rfl, ?_⟩; have n0_ := Az.mk (Kd.R_lower ho0 (below_size (bl_ HB))); have n1_ := Az.mk (below_step (bl_ HB) hb); clear HB; have HO323 := n0_; have HB := n1_; clear n0_ n1_; (try clear hb); (try clear hb2); (try clear hk); (try clear hi); (try clear ho0); obtain ⟨Ao11, co11, eo11⟩ := Kd.R_slice HO323.out; subst eo11) | ((with_reducible refine gate_callee (f := 43) rfl ?_); refine goesL_ (some 30) rfl rfl Try.func43 (by kernel_rfl) rfl #[.slice none 0 0, .slice Ao11 t321.length co11] rfl ar_ ?_; (refine (r03_Put.calls kj2 _ _ ([] : List Int) _ _ t321 t324 t325 _ ?side1 ?side2 ?side3 ?side4 A9.out).mono ?_); (case side1 => exact Kd.C_nil _ _); (case side2 => exact Nat.le_refl _); (case side3 => exact cl_ (Kd.R_reads' HO323.out).2.2); (case side4 => exact (Kd.R_reads' HO323.out).2.1); rintro e w12 ⟨v326, rfl, ho0, hb⟩; refine ⟨_, rfl, ?_⟩; have n0_ := Az.mk (Kd.R_elder' (rl_ HO323.out) (Kd.R_base ho0) hb); have n1_ := Az.mk (Kd.R_lower (Kd.R_new' ho0 (Kd.R_lt (rl_ HO323.out))) (below_size (bl_ HB))); have n2_ := Az.mk (below_step (bl_ HB) hb); clear HO323; clear HB; have HO323 := n0_; have HO327 := n1_; have HB := n2_; clear n0_ n1_ n2_; (try clear hb); (try clear hb2); (try clear hk); (try clear hi); (try clear ho0)))
     go_loopg [7, 9] kj2 (fun kq v7 v9 w' => ∃ (x7_2 : List Int) (x9_2 : Int), v9 = .int .i64 x9_2 ∧ Az (r09_Encode.l0 kq l0 a1 x7_2 x9_2 = some (r1, r2)) ∧ Az (kq ≤ kj2) ∧ Az (Kd.R (Kd.int .u8) 5 w' w.heap.size (fun _ => True) v7 x7_2) ∧ Az (Below w.heap.size w w'))
     case atStart => exact ⟨(t324), (0), (es_), H', ⟨Nat.le_refl _⟩, ⟨by (with_reducible repeat (first | apply Kd.R_alloc | apply Kd.R_drewN | apply Kd.R_drew)); exact Kd.R_mono HO327.out (fun _ hk => trivial)⟩, ⟨bl_ HB⟩⟩
     case round =>
      clear H'
      try clear p2
      try clear c3
      try clear c4
      try clear c4b0
      try clear c5
      try clear c7
      try clear c7b0
      try clear c7b1
      try clear p2
      obtain ⟨x7_2, x9_2, rfl, HA, HK2, HO_7, HB⟩ := hrel
      cases gk with
      | zero => exact absurd HA.out (by simp [r09_Encode.l0])
      | succ k2 =>
       have H := HA.out
       clear HA
       simp only [r09_Encode.l0] at H
       by_cases c13 : x9_2 < (l0.length : Int)
       ·rw [if_pos c13] at H
        have c13b0 := decide_eq_true c13
        clear c13
        have HC14 := Az.mk H
        clear H
        go_upto_if 46 with (fail)
        go_cut [10] (fun v10 wc => ∃ (kq : Nat) (x10_13 : Int), v10 = .int .i64 x10_13 ∧ Az (r09_Encode.j2 kq l0 a1 x7_2 x9_2 x10_13 = some (r1, r2)) ∧ Az (kq ≤ k2) ∧ Az (Kd.R (Kd.int .u8) 5 wc w.heap.size (fun _ => True) u7 x7_2) ∧ Az (Below w.heap.size w wc))
        case first =>
         have H := HC14.out
         clear HC14
         by_cases c15 : (wrap64 (x9_2 + a1)) > (l0.length : Int)
         ·rw [if_pos c15] at H
          have c15b0 := decide_eq_true c15
          clear c15
          (first | rw [c15b0] | (simp only [i64_w, i32_w]; rw [c15b0]) | skip)
          have H' := Az.mk H
          clear H
          go_wp2
          go_meet
          case rel => exact ⟨_, ((l0.length : Int)), (es_), H', ⟨by have := HJ2.out; have := HK2.out; first | omega | exact Nat.le_refl _⟩, ⟨rl_ HO_7.out⟩, ⟨bl_ HB⟩⟩
         ·rw [if_neg c15] at H
          have c15b0 := decide_eq_false c15
          clear c15
          (first | rw [c15b0] | (simp only [i64_w, i32_w]; rw [c15b0]) | skip)
          have H' := Az.mk H
          clear H
          go_wp2
          go_meet
          case rel => exact ⟨_, (wrap64 (x9_2 + a1)), (es_), H', ⟨by have := HJ2.out; have := HK2.out; first | omega | exact Nat.le_refl _⟩, ⟨rl_ HO_7.out⟩, ⟨bl_ HB⟩⟩
        case rest =>
         clear HC14
         try clear c1
         try clear p2
         try clear c3
         try clear c4
         try clear c4b0
         try clear c5
         try clear p6
         try clear c7
         try clear c7b0
         try clear c7b1
         try clear c13
         try clear c13b0
         try clear c15
         try clear c15b0
         try clear p2
         obtain ⟨kq, x10_13, rfl, HA, HJ13, HO_7, HB⟩ := hcut
         cases kq with
         | zero => exact absurd HA.out (by simp [r09_Encode.j2])
         | succ kj13 =>
          have H := HA.out
          clear HA
          simp only [r09_Encode.j2] at H
          by_cases c16 : 0 ≤ x9_2
          ·rw [if_pos c16] at H
           have c16b0 := eq_true c16
           have c16b1 := decide_eq_true c16
           clear c16
           by_cases c17 : x9_2 ≤ x10_13
           ·rw [if_pos c17] at H
            have c17b0 := eq_true c17
            have c17b1 := decide_eq_true c17
            clear c17
            by_cases c18 : x10_13 ≤ (l0.length : Int)
            ·rw [if_pos c18] at H
             have c18b0 := eq_true c18
             have c18b1 := decide_eq_true c18
             clear c18
             obtain ⟨y338, hy338⟩ : ∃ y_ : List (S36), y_ = ((l0.take (x10_13 : Int).toNat).drop (x9_2 : Int).toNat) := ⟨_, rfl⟩
             replace H : ((r09_Block.f kj13 y338).bind fun t342 => ((r03_Put.f kj13 x7_2 t342).bind fun bt345 => (if bt345.2 = 0 then (r09_Encode.l0 kj13 l0 a1 bt345.1 (wrap64 (x9_2 + a1))) else (some (([] : List Int), bt345.2))))) = some (r1, r2) := hr_ hy338 H
             have Ny338 := Az.mk hy338
             clear hy338
             replace H := Option.bind_eq_some_iff.mp H
             obtain ⟨t342, A190, H⟩ := H
             replace H : ((r03_Put.f kj13 x7_2 t342).bind fun bt345 => (if bt345.2 = 0 then (r09_Encode.l0 kj13 l0 a1 bt345.1 (wrap64 (x9_2 + a1))) else (some (([] : List Int), bt345.2)))) = some (r1, r2) := H
             have A19 := Az.mk A190
             clear A190
             replace H := Option.bind_eq_some_iff.mp H
             obtain ⟨⟨t345, t346⟩, A200, H⟩ := H
             replace H : (if t346 = 0 then (r09_Encode.l0 kj13 l0 a1 t345 (wrap64 (x9_2 + a1))) else (some (([] : List Int), t346))) = some (r1, r2) := H
             have A20 := Az.mk A200
             clear A200
             by_cases c21 : t346 = 0
             ·rw [if_pos c21] at H
              have c21b0 : (t346 == 0) = true := beq_iff_eq.mpr c21
              have c21b1 : (t346 != 0) = false := bne_eq_false_iff_eq.mpr c21
              clear c21
              have H' := Az.mk H
              clear H
              have q22 : (x10_13 : Int) ≤ ((l0.length : Int) : Int) := of_decide_eq_true as_
              obtain ⟨i022, hi022, _, hsz22, _⟩ := info_parts info36
              have hroom22 : l0.length ≤ c0 := HC0.out
              have hC22 : Kd.C k36 _ A0 l0.length l0 := HR0.out
              have ql22 : (x9_2 : Int) ≤ (x10_13 : Int) := of_decide_eq_true as_
              have q022 : (0 : Int) ≤ (x9_2 : Int) := of_decide_eq_true as_
              have hcut22 := cut_mid (P := Try.prog) 29 36 .i64 .i64 Try.underlying29 hi022 2 hsz22 A0 l0.length c0 x9_2 x10_13 q022 ql22 q22 hroom22
              have hr22 := Kd.C_mid (lo := (x9_2 : Int).toNat) (hi := (x10_13 : Int).toNat) (c := c0) hC22 (by omega) (by omega) hroom22
              obtain ⟨A22, hA22⟩ : ∃ A1, A1 = (if c0 = (x9_2 : Int).toNat then A0 else (A0 : Option Addr).map (·.add ((x9_2 : Int).toNat * 2))) := ⟨_, rfl⟩
              obtain ⟨c22, hc22⟩ : ∃ c1, c1 = c0 - (x9_2 : Int).toNat := ⟨_, rfl⟩
              have hy22 : y338.length = (x10_13 : Int).toNat - (x9_2 : Int).toNat := (by rw [Ny338.out, List.length_drop, List.length_take] <;> omega)
              rw [show ((l0).take (x10_13 : Int).toNat).drop (x9_2 : Int).toNat = y338 from Ny338.out.symm] at hr22
              replace hr22 : Kd.C k36 _ A22 y338.length y338 := (by rw [hA22]; exact hr22)
              rw [← hy22, ← hA22, ← hc22] at hcut22
              have HR341 := Az.mk hr22
              have HC341 := Az.mk (show y338.length ≤ c22 from by rw [hy22, hc22]; exact Nat.sub_le_sub_right (Nat.le_trans (by omega) hroom22) _)
              clear hr22 hC22 hroom22 hi022 hsz22 hc22
              have KY22 := Az.mk hy22
              have KA22 := Az.mk hA22
              clear hy22 hA22
              replace q22 := eq_true q22
              go_wp2_with (first | ((with_reducible refine gate_callee (f := 45) rfl ?_); refine goesL_ (some 55) rfl rfl Try.func45 (by kernel_rfl) rfl #[.slice A22 y338.length c22] rfl ar_ ?_; (with_reducible refine (r09_Block.calls kj13 _ _ y338 t342 _ ?side1 ?side2 A19.out).mono ?_); (case side1 => exact cl_ (Kd.C_below HR341.out HB.out)); (case side2 => exact HC341.out); rintro e w23 ⟨v343, rfl, ho0, hb⟩; refine ⟨_, rfl, ?_⟩; have n0_ := Az.mk (Kd.R_elder' (rl_ HO_7.out) (Kd.R_base ho0) hb); have n1_ := Az.mk (Kd.R_lower (Kd.R_new' ho0 (Kd.R_lt (rl_ HO_7.out))) (below_size (bl_ HB))); have n2_ := Az.mk (below_step (bl_ HB) hb); clear HO_7; clear HB; have HO_7 := n0_; have HO344 := n1_; have HB := n2_; clear n0_ n1_ n2_; (try clear hb); (try clear hb2); (try clear hk); (try clear hi); (try clear ho0); obtain ⟨Ao24, co24, eo24⟩ := Kd.R_slice HO_7.out; subst eo24; obtain ⟨Ao25, co25, eo25⟩ := Kd.R_slice HO344.out; subst eo25) | ((with_reducible refine gate_callee (f := 43) rfl ?_); refine goesL_ (some 56) rfl rfl Try.func43 (by kernel_rfl) rfl #[.slice Ao24 x7_2.length co24, .slice Ao25 t342.length co25] rfl ar_ ?_; (with_reducible refine (r03_Put.calls kj13 _ _ x7_2 _ _ t342 t345 t346 _ ?side1 ?side2 ?side3 ?side4 A20.out).mono ?_); (case side1 => exact cl_ (Kd.R_reads' HO_7.out).2.2); (case side2 => exact (Kd.R_reads' HO_7.out).2.1); (case side3 => exact cl_ (Kd.R_reads' HO344.out).2.2); (case side4 => exact (Kd.R_reads' HO344.out).2.1); rintro e w26 ⟨v347, rfl, ho0, hb⟩; refine ⟨_, rfl, ?_⟩; have n0_ := Az.mk (Kd.R_elder' (rl_ HO_7.out) (Kd.R_base ho0) hb); have n1_ := Az.mk (Kd.R_elder' (rl_ HO344.out) (Kd.R_base ho0) hb); have n2_ := Az.mk (Kd.R_lower (Kd.R_new' (Kd.R_new' ho0 (Kd.R_lt (rl_ HO_7.out))) (Kd.R_lt (rl_ HO344.out))) (below_size (bl_ HB))); have n3_ := Az.mk (below_step (bl_ HB) hb); clear HO_7; clear HO344; clear HB; have HO_7 := n0_; have HO344 := n1_; have HO348 := n2_; have HB := n3_; clear n0_ n1_ n2_ n3_; (try clear hb); (try clear hb2); (try clear hk); (try clear hi); (try clear ho0)))
              go_roundg kj13
              case measure => have := HJ2.out; have := HK2.out; have := HJ13.out; omega
              case rel => exact ⟨(t345), (wrap64 (x9_2 + a1)), (es_), H', ⟨by have := HJ2.out; have := HK2.out; have := HJ13.out; omega⟩, ⟨by (with_reducible repeat (first | apply Kd.R_alloc | apply Kd.R_drewN | apply Kd.R_drew)); exact Kd.R_mono HO348.out (fun _ hk => trivial)⟩, ⟨bl_ HB⟩⟩
             ·rw [if_neg c21] at H
              have c21b0 : (t346 == 0) = false := beq_eq_false_iff_ne.mpr c21
              have c21b1 : (t346 != 0) = true := bne_iff_ne.mpr c21
              simp only [Option.some.injEq, Prod.mk.injEq] at H
              obtain ⟨rfl, rfl⟩ := H
              have q27 : (x10_13 : Int) ≤ ((l0.length : Int) : Int) := of_decide_eq_true as_
              obtain ⟨i027, hi027, _, hsz27, _⟩ := info_parts info36
              have hroom27 : l0.length ≤ c0 := HC0.out
              have hC27 : Kd.C k36 _ A0 l0.length l0 := HR0.out
              have ql27 : (x9_2 : Int) ≤ (x10_13 : Int) := of_decide_eq_true as_
              have q027 : (0 : Int) ≤ (x9_2 : Int) := of_decide_eq_true as_
              have hcut27 := cut_mid (P := Try.prog) 29 36 .i64 .i64 Try.underlying29 hi027 2 hsz27 A0 l0.length c0 x9_2 x10_13 q027 ql27 q27 hroom27
              have hr27 := Kd.C_mid (lo := (x9_2 : Int).toNat) (hi := (x10_13 : Int).toNat) (c := c0) hC27 (by omega) (by omega) hroom27
              obtain ⟨A27, hA27⟩ : ∃ A1, A1 = (if c0 = (x9_2 : Int).toNat then A0 else (A0 : Option Addr).map (·.add ((x9_2 : Int).toNat * 2))) := ⟨_, rfl⟩
              obtain ⟨c27, hc27⟩ : ∃ c1, c1 = c0 - (x9_2 : Int).toNat := ⟨_, rfl⟩
              have hy27 : y338.length = (x10_13 : Int).toNat - (x9_2 : Int).toNat := (by rw [Ny338.out, List.length_drop, List.length_take] <;> omega)
              rw [show ((l0).take (x10_13 : Int).toNat).drop (x9_2 : Int).toNat = y338 from Ny338.out.symm] at hr27
              replace hr27 : Kd.C k36 _ A27 y338.length y338 := (by rw [hA27]; exact hr27)
              rw [← hy27, ← hA27, ← hc27] at hcut27
              have HR341 := Az.mk hr27
              have HC341 := Az.mk (show y338.length ≤ c27 from by rw [hy27, hc27]; exact Nat.sub_le_sub_right (Nat.le_trans (by omega) hroom27) _)
              clear hr27 hC27 hroom27 hi027 hsz27 hc27
              have KY27 := Az.mk hy27
              have KA27 := Az.mk hA27
              clear hy27 hA27
              replace q27 := eq_true q27
              go_wp2_with (first | ((with_reducible refine gate_callee (f := 45) rfl ?_); refine goesL_ (some 55) rfl rfl Try.func45 (by kernel_rfl) rfl #[.slice A27 y338.length c27] rfl ar_ ?_; (with_reducible refine (r09_Block.calls kj13 _ _ y338 t342 _ ?side1 ?side2 A19.out).mono ?_); (case side1 => exact cl_ (Kd.C_below HR341.out HB.out)); (case side2 => exact HC341.out); rintro e w28 ⟨v343, rfl, ho0, hb⟩; refine ⟨_, rfl, ?_⟩; have n0_ := Az.mk (Kd.R_elder' (rl_ HO_7.out) (Kd.R_base ho0) hb); have n1_ := Az.mk (Kd.R_lower (Kd.R_new' ho0 (Kd.R_lt (rl_ HO_7.out))) (below_size (bl_ HB))); have n2_ := Az.mk (below_step (bl_ HB) hb); clear HO_7; clear HB; have HO_7 := n0_; have HO344 := n1_; have HB := n2_; clear n0_ n1_ n2_; (try clear hb); (try clear hb2); (try clear hk); (try clear hi); (try clear ho0); obtain ⟨Ao29, co29, eo29⟩ := Kd.R_slice HO_7.out; subst eo29; obtain ⟨Ao30, co30, eo30⟩ := Kd.R_slice HO344.out; subst eo30) | ((with_reducible refine gate_callee (f := 43) rfl ?_); refine goesL_ (some 56) rfl rfl Try.func43 (by kernel_rfl) rfl #[.slice Ao29 x7_2.length co29, .slice Ao30 t342.length co30] rfl ar_ ?_; (with_reducible refine (r03_Put.calls kj13 _ _ x7_2 _ _ t342 t345 t346 _ ?side1 ?side2 ?side3 ?side4 A20.out).mono ?_); (case side1 => exact cl_ (Kd.R_reads' HO_7.out).2.2); (case side2 => exact (Kd.R_reads' HO_7.out).2.1); (case side3 => exact cl_ (Kd.R_reads' HO344.out).2.2); (case side4 => exact (Kd.R_reads' HO344.out).2.1); rintro e w31 ⟨v347, rfl, ho0, hb⟩; refine ⟨_, rfl, ?_⟩; have n0_ := Az.mk (Kd.R_elder' (rl_ HO_7.out) (Kd.R_base ho0) hb); have n1_ := Az.mk (Kd.R_elder' (rl_ HO344.out) (Kd.R_base ho0) hb); have n2_ := Az.mk (Kd.R_lower (Kd.R_new' (Kd.R_new' ho0 (Kd.R_lt (rl_ HO_7.out))) (Kd.R_lt (rl_ HO344.out))) (below_size (bl_ HB))); have n3_ := Az.mk (below_step (bl_ HB) hb); clear HO_7; clear HO344; clear HB; have HO_7 := n0_; have HO344 := n1_; have HO348 := n2_; have HB := n3_; clear n0_ n1_ n2_ n3_; (try clear hb); (try clear hb2); (try clear hk); (try clear hi); (try clear ho0)))
              go_ret2
              exact ⟨_, er_, nl_, bl_ HB⟩
            ·rw [if_neg c18] at H
             exact absurd H (by simp)
           ·rw [if_neg c17] at H
            exact absurd H (by simp)
          ·rw [if_neg c16] at H
           exact absurd H (by simp)
       ·rw [if_neg c13] at H
        have c13b0 := decide_eq_false c13
        clear c13
        replace H := Option.bind_eq_some_iff.mp H
        obtain ⟨t328, A320, H⟩ := H
        replace H : ((r01_Put.f k2 t328 (IntKind.u64.wrap ((l0.length : Int)))).bind fun t331 => ((r03_Put.f k2 x7_2 t331).bind fun bt334 => (some (bt334.1, 0)))) = some (r1, r2) := H
        have A32 := Az.mk A320
        clear A320
        replace H := Option.bind_eq_some_iff.mp H
        obtain ⟨t331, A330, H⟩ := H
        replace H : ((r03_Put.f k2 x7_2 t331).bind fun bt334 => (some (bt334.1, 0))) = some (r1, r2) := H
        have A33 := Az.mk A330
        clear A330
        replace H := Option.bind_eq_some_iff.mp H
        obtain ⟨⟨t334, t335⟩, A340, H⟩ := H
        replace H : (some (t334, 0)) = some (r1, r2) := H
        have A34 := Az.mk A340
        clear A340
        simp only [Option.some.injEq, Prod.mk.injEq] at H
        obtain ⟨rfl, rfl⟩ := H
        go_wp2_with (first | ((with_reducible refine gate_callee (f := 44) rfl ?_); refine goesL_ (some 65) rfl rfl Try.func44 (by kernel_rfl) rfl #[.slice none 0 0, .int .u64 0] rfl ar_ ?_; (refine (r01_Put.calls k2 _ _ ([] : List Int) 0 t328 _ ?side1 ?side2 A32.out).mono ?_); (case side1 => exact Kd.C_nil _ _); (case side2 => exact Nat.le_refl _); rintro e w35 ⟨v329, rfl, ho0, hb⟩; refine ⟨_, rfl, ?_⟩; have n0_ := Az.mk (Kd.R_elder' (rl_ HO_7.out) (Kd.R_base ho0) hb); have n1_ := Az.mk (Kd.R_lower (Kd.R_new' ho0 (Kd.R_lt (rl_ HO_7.out))) (below_size (bl_ HB))); have n2_ := Az.mk (below_step (bl_ HB) hb); clear HO_7; clear HB; have HO_7 := n0_; have HO330 := n1_; have HB := n2_; clear n0_ n1_ n2_; (try clear hb); (try clear hb2); (try clear hk); (try clear hi); (try clear ho0); obtain ⟨Ao36, co36, eo36⟩ := Kd.R_slice HO330.out; subst eo36) | ((with_reducible refine gate_callee (f := 44) rfl ?_); refine goesL_ (some 69) rfl rfl Try.func44 (by kernel_rfl) rfl #[.slice Ao36 t328.length co36, .int .u64 (IntKind.u64.wrap ((l0.length : Int)))] rfl ar_ ?_; (with_reducible refine (r01_Put.calls k2 _ _ t328 (IntKind.u64.wrap ((l0.length : Int))) t331 _ ?side1 ?side2 A33.out).mono ?_); (case side1 => exact cl_ (Kd.R_reads' HO330.out).2.2); (case side2 => exact (Kd.R_reads' HO330.out).2.1); rintro e w37 ⟨v332, rfl, ho0, hb⟩; refine ⟨_, rfl, ?_⟩; have n0_ := Az.mk (Kd.R_elder' (rl_ HO_7.out) (Kd.R_base ho0) hb); have n1_ := Az.mk (Kd.R_elder' (rl_ HO330.out) (Kd.R_base ho0) hb); have n2_ := Az.mk (Kd.R_lower (Kd.R_new' (Kd.R_new' ho0 (Kd.R_lt (rl_ HO_7.out))) (Kd.R_lt (rl_ HO330.out))) (below_size (bl_ HB))); have n3_ := Az.mk (below_step (bl_ HB) hb); clear HO_7; clear HO330; clear HB; have HO_7 := n0_; have HO330 := n1_; have HO333 := n2_; have HB := n3_; clear n0_ n1_ n2_ n3_; (try clear hb); (try clear hb2); (try clear hk); (try clear hi); (try clear ho0); obtain ⟨Ao38, co38, eo38⟩ := Kd.R_slice HO_7.out; subst eo38; obtain ⟨Ao39, co39, eo39⟩ := Kd.R_slice HO333.out; subst eo39) | ((with_reducible refine gate_callee (f := 43) rfl ?_); refine goesL_ (some 70) rfl rfl Try.func43 (by kernel_rfl) rfl #[.slice Ao38 x7_2.length co38, .slice Ao39 t331.length co39] rfl ar_ ?_; (with_reducible refine (r03_Put.calls k2 _ _ x7_2 _ _ t331 t334 t335 _ ?side1 ?side2 ?side3 ?side4 A34.out).mono ?_); (case side1 => exact cl_ (Kd.R_reads' HO_7.out).2.2); (case side2 => exact (Kd.R_reads' HO_7.out).2.1); (case side3 => exact cl_ (Kd.R_reads' HO333.out).2.2); (case side4 => exact (Kd.R_reads' HO333.out).2.1); rintro e w40 ⟨v336, rfl, ho0, hb⟩; refine ⟨_, rfl, ?_⟩; have n0_ := Az.mk (Kd.R_elder' (rl_ HO_7.out) (Kd.R_base ho0) hb); have n1_ := Az.mk (Kd.R_elder' (rl_ HO330.out) (Kd.R_base ho0) hb); have n2_ := Az.mk (Kd.R_elder' (rl_ HO333.out) (Kd.R_base ho0) hb); have n3_ := Az.mk (Kd.R_lower (Kd.R_new' (Kd.R_new' (Kd.R_new' ho0 (Kd.R_lt (rl_ HO_7.out))) (Kd.R_lt (rl_ HO330.out))) (Kd.R_lt (rl_ HO333.out))) (below_size (bl_ HB))); have n4_ := Az.mk (below_step (bl_ HB) hb); clear HO_7; clear HO330; clear HO333; clear HB; have HO_7 := n0_; have HO330 := n1_; have HO333 := n2_; have HO337 := n3_; have HB := n4_; clear n0_ n1_ n2_ n3_ n4_; (try clear hb); (try clear hb2); (try clear hk); (try clear hi); (try clear ho0)))
        go_ret2
        exact ⟨_, er_, by (with_reducible repeat (first | apply Kd.R_alloc | apply Kd.R_drewN | apply Kd.R_drew)); exact Kd.R_mono HO337.out (fun _ hk => trivial), bl_ HB⟩
    ·rw [if_neg c7] at H
     have c7b0 : (t320 == 0) = false := beq_eq_false_iff_ne.mpr c7
     have c7b1 : (t320 != 0) = true := bne_iff_ne.mpr c7
     simp only [Option.some.injEq, Prod.mk.injEq] at H
     obtain ⟨rfl, rfl⟩ := H
     go_wp2_with (first | ((with_reducible refine gate_callee (f := 42) rfl ?_); refine goesL_ (some 22) rfl rfl Try.func42 (by kernel_rfl) rfl #[.slice A0 l0.length c0] rfl ar_ ?_; (with_reducible refine (r09_May.calls kj2 _ _ l0 t320 _ ?side1 ?side2 A6.out).mono ?_); (case side1 => exact cl_ (Kd.C_below HR0.out HB.out)); (case side2 => exact HC0.out); rintro e w' ⟨rfl, ⟨nd, rfl⟩⟩; refine ⟨_, rfl, ?_⟩))
     go_ret2
     exact ⟨_, er_, nl_, bl_ HB⟩
end Go.Proofs.Ytnabhfegbnfabaa.PRd
end
