/- ManiAgain: the row. -/
import Derived.Test.YtnnlmackofopeaaDoorMaAgainWalk
import Derived.Test.YtnnlmackofopeaaDoorFsRowsB
import Derived.Test.YtnnlmackofopeaaDoorRows
import Derived.Test.YtnnlmackofopeaaDoorFsWitness
import Derived.OpenShut
import Derived.ShutString
import Derived.ProofKit
import Derived.ChangeOld
import Derived.SizedLaws
import Derived.ChangeSame
import Derived.LaidLaws
namespace Go.Proofs.YtnnlmackofopeaaDoor.Fs
open Go.RowKit Go.Lib Go.Maps Go.Shelf Go.Sort Go.ChangeShapes Go.WideShapes Go.ChangeAt
set_option linter.unusedVariables false
theorem own : ownKnob Tryd.prog.godebug = none := by kernel_rfl
theorem laidOut : laidOutB Tryd.prog = true := by kernel_rfl
set_option maxHeartbeats 4000000 in
set_option maxRecDepth 100000 in
theorem maniAgain_lifted (os : Os) (started : os.Started) (H : Type) (enc : TypeId × Value → H) :
    ReturnsInHanded {} Tryd.checked os 3 .any (fun w args => (Rows.maniAgainSpec.pre enc Tryd.prog Tryd.f3 [] false w args ∧ laidMetH Tryd.prog Rows.maniAgainRow.laid w) ∧ sizedMet enc Tryd.prog Tryd.f3 (OpenSpec.ofChange Rows.maniAgainSpec) false w args)
      (Rows.maniAgainSpec.post enc Tryd.prog Tryd.f3 false true false false) := by
  refine returnsInHanded_of_change_and (C := Tryd.checked) (X := fun w _ => laidMetH Tryd.prog Rows.maniAgainRow.laid w) (fun _ _ _ hh h => h.of_heap hh) own started (by kernel_rfl) Tryd.func3
    (ChangeSpec.witness_at (enc := enc) (C := Tryd.checked) (os := os) (X := fun w _ => laidMetH Tryd.prog Rows.maniAgainRow.laid w) false (laidW os) #[.slice none 0 0, .slice none 0 0, .slice none 0 0, .agg #[.int .i64 0, .slice none 0 0]] 8 rfl (by kernel_rfl) (by kernel_rfl) (by kernel_rfl) (by kernel_rfl) (by kernel_rfl) (laidW_met os _)) ?_
  intro W base args ds gs before hval0 hW hcnd hsz0 _ _
  have hval : ∀ (j : Nat) t v, Tryd.f3.params[j]? = some t → args[j]? = some v → Value.okWide Tryd.prog W .any base t v := hval0
  have hW' := hW
  obtain ⟨p, q, hA0, hV, rfl, hfz, hnd⟩ := hW
  have hA : DataW.TrodAll enc Tryd.prog W 0 (fun _ => true) true Tryd.f3.params.toList args.toList ds p := hA0
  rw [Tryd.params3] at hA hval
  obtain ⟨v0, vs0, d0, ds0, p0, q0, hargs, rfl, rfl, h0, r0⟩ := trodAll_cons hA
  obtain ⟨v1, vs1, d1, ds1, p1, q1, rfl, rfl, rfl, h1, r1⟩ := trodAll_cons r0
  obtain ⟨v2, vs2, d2, ds2, p2, q2, rfl, rfl, rfl, h2, r2⟩ := trodAll_cons r1
  obtain ⟨v3, vs3, d3, ds3, p3, q3, rfl, rfl, rfl, h3, r3⟩ := trodAll_cons r2
  obtain ⟨rfl, rfl, rfl⟩ := trodAll_nil r3
  obtain rfl : args = #[v0, v1, v2, v3] := by cases args; simp_all
  obtain ⟨rfl, rfl⟩ := trodVars_none hV
  obtain ⟨a0, len0, cap0, rfl⟩ := okWide_slice (show Tryd.prog.underlying 22 = some (.slice 5) by kernel_rfl) (hval 0 22 v0 rfl rfl)
  obtain ⟨a1, len1, cap1, rfl⟩ := okWide_slice (show Tryd.prog.underlying 22 = some (.slice 5) by kernel_rfl) (hval 1 22 v1 rfl rfl)
  obtain ⟨a2, len2, cap2, rfl⟩ := okWide_slice (show Tryd.prog.underlying 22 = some (.slice 5) by kernel_rfl) (hval 2 22 v2 rfl rfl)
  have k0 := h0
  have k1 := h1
  have k2 := h2
  have k3 := h3
  have lt0 : ∀ x ∈ p0, x.block < W.heap.size := by obtain ⟨m, hm⟩ := k0; exact DataW.trod_lt m _ _ _ hm
  have lt1 : ∀ x ∈ p1, x.block < W.heap.size := by obtain ⟨m, hm⟩ := k1; exact DataW.trod_lt m _ _ _ hm
  have lt2 : ∀ x ∈ p2, x.block < W.heap.size := by obtain ⟨m, hm⟩ := k2; exact DataW.trod_lt m _ _ _ hm
  have lt3 : ∀ x ∈ p3, x.block < W.heap.size := by obtain ⟨m, hm⟩ := k3; exact DataW.trod_lt m _ _ _ hm
  obtain ⟨l0, rfl, c0, C0, w0⟩ := RowKd.tells_arg (RowKd.tells_slice (show Tryd.prog.underlying 22 = some (.slice 5) by kernel_rfl) (by kernel_rfl) (RowKd.tells_int (show Tryd.prog.underlying 5 = some (.int .u8) by kernel_rfl) (by kernel_rfl))) h0
  obtain ⟨l1, rfl, c1, C1, w1⟩ := RowKd.tells_arg (RowKd.tells_slice (show Tryd.prog.underlying 22 = some (.slice 5) by kernel_rfl) (by kernel_rfl) (RowKd.tells_int (show Tryd.prog.underlying 5 = some (.int .u8) by kernel_rfl) (by kernel_rfl))) h1
  obtain ⟨l2, rfl, c2, C2, w2⟩ := RowKd.tells_arg (RowKd.tells_slice (show Tryd.prog.underlying 22 = some (.slice 5) by kernel_rfl) (by kernel_rfl) (RowKd.tells_int (show Tryd.prog.underlying 5 = some (.int .u8) by kernel_rfl) (by kernel_rfl))) h2
  obtain ⟨nm3, Ab3, bs3, bc3, rfl, hir3, hbl3⟩ := crash_arg (hval 3 25 v3 rfl rfl) h3
  clear hA0 hval0 hsz0
  refine (again_calls a0 cap0 l0 a1 cap1 l1 a2 cap2 l2 nm3 Ab3 bc3 bs3 W (br_of_C C0) c0 (fun x hx => NumLib.wf_byte (w0.2 x hx)) (br_of_C C1) c1 (fun x hx => NumLib.wf_byte (w1.2 x hx)) (br_of_C C2) c2 (fun x hx => NumLib.wf_byte (w2.2 x hx)) hir3 hbl3).mono fun e W' ⟨he, bel⟩ => ?_
  subst he
  exact ⟨_, rfl, _, _, _, [], _, [], hW', trodAll_mk1 (shut_bool Tryd.underlying4 _), (trodAll_cons_mk (Below.trod laidOut (by kernel_rfl) (of_decide_eq_true (by kernel_rfl)) k0 bel lt0) (trodAll_cons_mk (Below.trod laidOut (by kernel_rfl) (of_decide_eq_true (by kernel_rfl)) k1 bel lt1) (trodAll_cons_mk (Below.trod laidOut (by kernel_rfl) (of_decide_eq_true (by kernel_rfl)) k2 bel lt2) (trodAll_cons_mk (Below.trod laidOut (by kernel_rfl) (of_decide_eq_true (by kernel_rfl)) k3 bel lt3) trodAll_mk0)))), rfl, bel.frame _, fun h => by cases h⟩
theorem maniAgainOver : Rows.maniAgainRow.holds Tryd.pinned (OpenSpec.ofChange Rows.maniAgainSpec) :=
  OpenClaim.holds_of_wide 3 Tryd.f3 rfl rfl rfl rfl rfl rfl rfl ⟨rfl, rfl, rfl, rfl, rfl⟩ rfl rfl rfl rfl rfl (by kernel_rfl) Tryd.func3 (by kernel_rfl)
    (of_decide_eq_true (by kernel_rfl)) (by unfold Func.isWrapper; first | (rw [if_pos (by decide +kernel)]; kernel_rfl) | (rw [if_neg (by decide +kernel)]; exact ⟨rfl, rfl⟩))
    (fun os started H enc _ => maniAgain_lifted os started H enc)
end Go.Proofs.YtnnlmackofopeaaDoor.Fs
