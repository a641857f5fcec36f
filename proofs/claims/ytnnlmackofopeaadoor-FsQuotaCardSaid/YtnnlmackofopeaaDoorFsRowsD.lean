/- A list of deeds, as an argument. -/
import Derived.Test.YtnnlmackofopeaaDoorFsRowsB
import Derived.Test.YtnnlmackofopeaaDoorFsFew
namespace Go.Proofs.YtnnlmackofopeaaDoor.Fs
open Go.RowKit Go.Lib Go.Maps Go.Shelf Go.Sort Go.ChangeShapes Go.WideShapes Go.Proofs.YtnnlmackofopeaaDoorW.PrintWords Go.Proofs.YtnnlmackofopeaaDoorW.PrintLast Go.Proofs.YtnnlmackofopeaaDoorW.PrintMore
set_option linter.unusedVariables false
set_option linter.unusedSimpArgs false
abbrev DT := Int × ByteArray × ByteArray × List Int × Int × Int × List Int
abbrev kDeed : Kd DT := Kd.pair (Kd.int .i64) (Kd.pair Kd.string (Kd.pair Kd.string (Kd.pair (Kd.slice 5 (Kd.int .u8)) (Kd.pair (Kd.int .i64) (Kd.pair (Kd.int .i64) (Kd.slice 3 (Kd.int .i64)))))))
def ddOf (t : DT) : Dd := ⟨t.1, t.2.1, t.2.2.1, t.2.2.2.1, t.2.2.2.2.1, t.2.2.2.2.2.1, t.2.2.2.2.2.2⟩
set_option maxRecDepth 100000 in
theorem under54 : ∃ f0 f1 f2 f3 f4 f5 : Field, Tryd.prog.underlying 54 = some (.struct #[f0, f1, f2, f3, f4, f5]) ∧ f0.type = 3 ∧ f1.type = 9 ∧ f2.type = 9 ∧ f3.type = 22 ∧ f4.type = 3 ∧ f5.type = 25 ∧ f0.offset = 0 ∧ f1.offset = 1 ∧ f2.offset = 2 ∧ f3.offset = 3 ∧ f4.offset = 4 ∧ f5.offset = 5 :=
  ⟨_, _, _, _, _, _, Tryd.underlying54, by kernel_rfl, by kernel_rfl, by kernel_rfl, by kernel_rfl, by kernel_rfl, by kernel_rfl, by kernel_rfl, by kernel_rfl, by kernel_rfl, by kernel_rfl, by kernel_rfl, by kernel_rfl⟩
theorem seven {l : List Value} (h : l.length = 7) : ∃ c0 c1 c2 c3 c4 c5 c6, l = [c0, c1, c2, c3, c4, c5, c6] := by
  match l, h with
  | [a, b, c, d, e, f, g], _ => exact ⟨a, b, c, d, e, f, g, rfl⟩
set_option maxRecDepth 100000 in
theorem tells_deed : RowKd.Tells Tryd.prog 54 kDeed (fun t => t.2.2.2.2.2.2.length ≤ maxLen) := by
  refine ⟨by kernel_rfl, fun h => ?_⟩
  obtain ⟨f0, f1, f2, f3, f4, f5, ht, t0, t1, t2, t3, t4, t5, o0, o1, o2, o3, o4, o5⟩ := under54
  obtain ⟨xs, n, _, _, hlen, hl, hx⟩ := DataW.trod_struct ht h
  rw [show Tryd.prog.cellsOf 54 = 7 by kernel_rfl] at hlen
  obtain ⟨c0, c1, c2, c3, c4, c5, c6, rfl⟩ := seven hlen
  have e0 := hx 0 f0 rfl
  have e1 := hx 1 f1 rfl
  have e2 := hx 2 f2 rfl
  have e3 := hx 3 f3 rfl
  have e4 := hx 4 f4 rfl
  have e5 := hx 5 f5 rfl
  rw [List.getElem?_eq_getElem (by rw [hl]; simp)] at e0 e1 e2 e3 e4 e5
  rw [t0, o0, show Tryd.prog.cellsOf 3 = 1 by kernel_rfl] at e0
  rw [t1, o1, show Tryd.prog.cellsOf 9 = 1 by kernel_rfl] at e1
  rw [t2, o2, show Tryd.prog.cellsOf 9 = 1 by kernel_rfl] at e2
  rw [t3, o3, show Tryd.prog.cellsOf 22 = 1 by kernel_rfl] at e3
  rw [t4, o4, show Tryd.prog.cellsOf 3 = 1 by kernel_rfl] at e4
  rw [t5, o5, show Tryd.prog.cellsOf 25 = 2 by kernel_rfl] at e5
  obtain ⟨y0, hK0, _⟩ := (RowKd.tells_int Tryd.underlying3 (by kernel_rfl)).down e0
  obtain ⟨y1, hK1, _⟩ := (RowKd.tells_string Tryd.underlying9 (by kernel_rfl)).down e1
  obtain ⟨y2, hK2, _⟩ := (RowKd.tells_string Tryd.underlying9 (by kernel_rfl)).down e2
  obtain ⟨y3, hK3, _⟩ := (RowKd.tells_slice Tryd.underlying22 (by kernel_rfl) (RowKd.tells_int Tryd.underlying5 (by kernel_rfl))).down e3
  obtain ⟨y4, hK4, _⟩ := (RowKd.tells_int Tryd.underlying3 (by kernel_rfl)).down e4
  have ht := RowKd.tells_struct2 (P := Tryd.prog) (t := 25) Tryd.underlying25 (by kernel_rfl) (by kernel_rfl) (by kernel_rfl)
    (RowKd.tells_int Tryd.underlying3 (by kernel_rfl)) (RowKd.tells_slice Tryd.underlying23 (by kernel_rfl) (RowKd.tells_int Tryd.underlying3 (by kernel_rfl)))
  obtain ⟨y5, hK5, hw5⟩ := ht.down e5
  exact ⟨(y0, y1, y2, y3, y4, y5), ⟨[c0], _, rfl, hK0, [c1], _, rfl, hK1, [c2], _, rfl, hK2, [c3], _, rfl, hK3, [c4], _, rfl, hK4, hK5⟩, hw5.2.1⟩
theorem dd_of_K {w : World} {t : DT} {cs : List Value} (h : kDeed.K w t cs) (hw : t.2.2.2.2.2.2.length ≤ maxLen) : DdC w cs (ddOf t) := by
  obtain ⟨a0, r0, rfl, h0, a1, r1, rfl, h1, a2, r2, rfl, h2, a3, r3, rfl, h3, a4, r4, rfl, h4, a5, r5, rfl, h5, h6⟩ := h
  obtain ⟨A, c, rfl, _, hC⟩ := h3
  obtain ⟨Ab, bc, rfl, _, hCb⟩ := h6
  have e0 : a0 = [.int .i64 t.1] := h0
  have e1 : a1 = [.string t.2.1] := h1
  have e2 : a2 = [.string t.2.2.1] := h2
  have e4 : a4 = [.int .i64 t.2.2.2.2.1] := h4
  have e5 : a5 = [.int .i64 t.2.2.2.2.2.1] := h5
  subst e0 e1 e2 e4 e5
  exact ⟨A, c, Ab, bc, rfl, br_of_C hC, ir_of_C hCb, hw⟩
theorem deeds_arg {H : Type} {enc : TypeId × Value → H} {w : World} {base : Nat} {held : Bool} {a : Option Addr} {len cap : Nat} {x : DataW H} {ps : List MemPlace}
    (hd : DataW.Trod enc Tryd.prog w base (fun _ => true) held 49 (.slice a len cap) x ps) : ∃ ds : List Dd, len = ds.length ∧ ds.length ≤ maxLen ∧ DeedsR w w a ds := by
  obtain ⟨xs, rfl, _, hC, hl, hw⟩ := RowKd.tells_arg (RowKd.tells_slice (e := 54) Tryd.underlying49 (by kernel_rfl) tells_deed) hd
  refine ⟨xs.map ddOf, by rw [List.length_map], by rw [List.length_map]; exact hl, fun i hi => ?_⟩
  rw [List.length_map] at hi
  obtain ⟨ad, e, hc⟩ := hC.2.2 (by omega)
  obtain ⟨c, _, hK, hcell⟩ := hc i xs[i] (List.getElem?_eq_getElem hi)
  refine ⟨ad, c, e, ?_, fun j u hj => ?_⟩
  · rw [List.getElem_map]
    exact dd_of_K hK (hw _ (List.getElem_mem hi))
  · have := hcell j u hj
    rwa [show i * kDeed.sz + j = i * 7 + j from rfl] at this
end Go.Proofs.YtnnlmackofopeaaDoor.Fs
