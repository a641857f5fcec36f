/- What more of the rows' arguments are, in the contracts' words. -/
import Derived.Test.YtnnlmackofopeaaDoorFsRows
import Derived.Test.YtnnlmackofopeaaDoorFsC
namespace Go.Proofs.YtnnlmackofopeaaDoor.Fs
open Go.RowKit Go.Lib Go.Maps Go.Shelf Go.Sort Go.ChangeShapes Go.WideShapes Go.Proofs.YtnnlmackofopeaaDoorW.PrintWords Go.Proofs.YtnnlmackofopeaaDoorW.PrintLast Go.Proofs.YtnnlmackofopeaaDoorW.PrintMore
set_option linter.unusedVariables false
set_option linter.unusedSimpArgs false
theorem rows_of_C {w : World} {A : Option Addr} {ls : List (List Int)} (h : (Kd.slice 5 (Kd.int .u8)).C w A ls.length ls) : RR w A ls := fun i hi => by
  obtain ⟨a, e, hc⟩ := h.2.2 (by omega)
  obtain ⟨c, hl, hK, hcell⟩ := hc i ls[i] (List.getElem?_eq_getElem hi)
  obtain ⟨A1, c1, rfl, h1, h2⟩ := hK
  refine ⟨a, A1, c1, e, ?_, br_of_C h2⟩
  have := hcell 0 _ rfl
  rwa [show i * (Kd.slice 5 (Kd.int .u8)).sz + 0 = i from by show i * 1 + 0 = i; omega] at this
theorem rows_len {ls : List (List Int)} {P : List Int → Prop} (h : ls.length ≤ maxLen ∧ ∀ x ∈ ls, P x) : ls.length ≤ maxLen := h.1
set_option maxRecDepth 100000 in
theorem int_arg {H : Type} {enc : TypeId × Value → H} {W : World} {r : Reach} {b0 base : Nat} {held : Bool} {t : TypeId} {k : IntKind} {v : Value} {d : DataW H} {p : List MemPlace} (ht : Tryd.prog.underlying t = some (.int k)) (hc : Tryd.prog.cellsOf t = 1) (hv : Value.okWide Tryd.prog W r b0 t v) (hd : DataW.Trod enc Tryd.prog W base (fun _ => true) held t v d p) : ∃ x, v = .int k x ∧ (Lit.int k x).wf = true := by
  obtain ⟨n, rfl⟩ := okWide_int ht hv
  obtain ⟨fuel, hf⟩ := hd
  obtain ⟨y, hK, hw⟩ := (RowKd.tells_int ht hc).down hf
  have h1 : [Value.int k n] = [.int k y] := hK
  injection h1 with h1 _
  injection h1 with _ h1
  subst h1
  exact ⟨n, rfl, hw⟩
set_option maxRecDepth 100000 in
theorem u8_arg {H : Type} {enc : TypeId × Value → H} {W : World} {r : Reach} {b0 base : Nat} {held : Bool} {v : Value} {d : DataW H} {p : List MemPlace} (hv : Value.okWide Tryd.prog W r b0 5 v) (hd : DataW.Trod enc Tryd.prog W base (fun _ => true) held 5 v d p) : ∃ x, v = .int .u8 x ∧ 0 ≤ x ∧ x ≤ 255 := by
  obtain ⟨x, e, hw⟩ := int_arg Tryd.underlying5 (by kernel_rfl) hv hd
  exact ⟨x, e, by simp [Lit.wf, IntKind.min, IntKind.max, IntKind.bits, IntKind.signed] at hw; omega⟩
set_option maxRecDepth 100000 in
theorem i64_arg {H : Type} {enc : TypeId × Value → H} {W : World} {r : Reach} {b0 base : Nat} {held : Bool} {v : Value} {d : DataW H} {p : List MemPlace} (hv : Value.okWide Tryd.prog W r b0 3 v) (hd : DataW.Trod enc Tryd.prog W base (fun _ => true) held 3 v d p) : ∃ x, v = .int .i64 x ∧ -9223372036854775808 ≤ x ∧ x ≤ 9223372036854775807 := by
  obtain ⟨x, e, hw⟩ := int_arg Tryd.underlying3 (by kernel_rfl) hv hd
  exact ⟨x, e, by simp [Lit.wf, IntKind.min, IntKind.max, IntKind.bits, IntKind.signed] at hw; omega⟩
end Go.Proofs.YtnnlmackofopeaaDoor.Fs
