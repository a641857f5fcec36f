/- What the rows' arguments are, in the contracts' words. -/
import Derived.Test.YtnnlmackofopeaaDoorFsC
import Derived.Test.YtnnlmackofopeaaDoorRowKd
namespace Go.Proofs.YtnnlmackofopeaaDoor.Fs
open Go.RowKit Go.Lib Go.Maps Go.Shelf Go.Sort Go.ChangeShapes Go.WideShapes Go.Proofs.YtnnlmackofopeaaDoorW.PrintWords Go.Proofs.YtnnlmackofopeaaDoorW.PrintLast Go.Proofs.YtnnlmackofopeaaDoorW.PrintMore
set_option linter.unusedVariables false
set_option linter.unusedSimpArgs false
theorem cells_of_C {k : IntKind} {w : World} {A : Option Addr} {l : List Int} (h : (Kd.int k).C w A l.length l) : l = [] ∨ ∃ a, A = some a ∧ ∀ j x, l[j]? = some x → w.cell? (a.add j) = some (.int k x) := by
  by_cases h0 : l = []
  · exact .inl h0
  · obtain ⟨a, e, hc⟩ := h.2.2 (List.length_pos_iff.2 h0)
    refine .inr ⟨a, e, fun j x hx => ?_⟩
    obtain ⟨c, hl, hK, hcell⟩ := hc j x hx
    have hcc : c = [.int k x] := hK
    have := hcell 0 (.int k x) (by rw [hcc]; rfl)
    rwa [show j * (Kd.int k).sz + 0 = j from by show j * 1 + 0 = j; omega] at this
theorem br_of_C {w : World} {A : Option Addr} {l : List Int} (h : (Kd.int .u8).C w A l.length l) : BR w A l := by
  rcases cells_of_C h with h | ⟨a, e, h⟩
  · exact .inl h
  · refine .inr ⟨a, e, fun j u hu => ?_⟩
    rw [List.getElem?_map] at hu
    obtain ⟨x, hx, rfl⟩ := Option.map_eq_some_iff.1 hu
    exact h j x hx
theorem ir_of_C {w : World} {A : Option Addr} {l : List Int} (h : (Kd.int .i64).C w A l.length l) : IR w A l := fun i hi => by
  rcases cells_of_C h with h | ⟨a, e, h⟩
  · subst h; exact absurd hi (Nat.not_lt_zero _)
  · exact ⟨a, e, h i _ (List.getElem?_eq_getElem hi)⟩
set_option maxRecDepth 100000 in
/-- A crash, as an argument. -/
theorem crash_arg {H : Type} {enc : TypeId × Value → H} {W : World} {r : Reach} {b0 base : Nat} {held : Bool} {v : Value} {d : DataW H} {p : List MemPlace} (hv : Value.okWide Tryd.prog W r b0 25 v) (hd : DataW.Trod enc Tryd.prog W base (fun _ => true) held 25 v d p) :
    ∃ nm A bs bc, v = .agg #[.int .i64 nm, .slice A bs.length bc] ∧ IR W A bs ∧ bs.length ≤ maxLen := by
  obtain ⟨cs, rfl, hs⟩ := okWide_struct Tryd.underlying25 hv
  have ht := RowKd.tells_struct2 (P := Tryd.prog) (t := 25) Tryd.underlying25 (by kernel_rfl) (by kernel_rfl) (by kernel_rfl)
    (RowKd.tells_int Tryd.underlying3 (by kernel_rfl)) (RowKd.tells_slice Tryd.underlying23 (by kernel_rfl) (RowKd.tells_int Tryd.underlying3 (by kernel_rfl)))
  obtain ⟨fuel, hf⟩ := hd
  obtain ⟨⟨nm, bs⟩, ⟨c1, c2, hcs, hK1, A, bc, hK2, hl, hC⟩, hw⟩ := ht.down hf
  have h1 : c1 = [.int .i64 nm] := hK1
  subst h1 hK2
  refine ⟨nm, A, bs, bc, ?_, ir_of_C hC, hw.2.1⟩
  have h2 : cs.toList = [.int .i64 nm, .slice A bs.length bc] := hcs
  have : cs = #[.int .i64 nm, .slice A bs.length bc] := Array.toList_inj.1 h2
  rw [this]
end Go.Proofs.YtnnlmackofopeaaDoor.Fs
