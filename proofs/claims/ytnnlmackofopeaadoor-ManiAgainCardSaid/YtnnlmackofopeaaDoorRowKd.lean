/- What the reader of a row accepts is of its kind: for any nesting of slices, structs, numbers, texts. Written by this session. -/
import Derived.Deep.Slices
import Derived.OpenShut
import Derived.Test.YtnnlmackofopeaaDoorWWords
namespace Go.Proofs.YtnnlmackofopeaaDoor.RowKd
open Go.RowKit Go.ChangeShapes Go.WideShapes Go.Proofs.YtnnlmackofopeaaDoorW.PrintWords

/-- Whatever the reader accepts at type t is of kind d, and `wf` is so. -/
structure Tells {α : Type} (P : Program) (t : TypeId) (d : Kd α) (wf : α → Prop) : Prop where
  cells : P.cellsOf t = d.sz
  down : ∀ {H : Type} {enc : TypeId × Value → H} {w : World} {base : Nat} {held : Bool} {fuel : Nat} {cs : List Value} {x : DataW H × List MemPlace},
    DataW.trod enc P w base (fun _ => true) held fuel t cs = some x → ∃ y, d.K w y cs ∧ wf y

theorem tells_int {P : Program} {t : TypeId} {k : IntKind} (ht : P.underlying t = some (.int k)) (hc : P.cellsOf t = 1) : Tells P t (Kd.int k) (fun n => (Lit.int k n).wf = true) := by
  refine ⟨hc, fun h => ?_⟩
  obtain ⟨n, rfl, _, hw⟩ := DataW.trod_int ht h
  exact ⟨n, rfl, hw⟩
theorem tells_bool {P : Program} {t : TypeId} (ht : P.underlying t = some .bool) (hc : P.cellsOf t = 1) : Tells P t Kd.bool (fun _ => True) := by
  refine ⟨hc, fun h => ?_⟩
  obtain ⟨n, rfl, _⟩ := DataW.trod_bool ht h
  exact ⟨n, rfl, trivial⟩
theorem tells_string {P : Program} {t : TypeId} (ht : P.underlying t = some .string) (hc : P.cellsOf t = 1) : Tells P t Kd.string (fun s => s.size ≤ maxLen) := by
  refine ⟨hc, fun h => ?_⟩
  obtain ⟨n, rfl, _, hw⟩ := DataW.trod_string ht h
  exact ⟨n, rfl, hw⟩
theorem tells_slice {α : Type} {P : Program} {t e : TypeId} {d : Kd α} {wf : α → Prop} (ht : P.underlying t = some (.slice e)) (hc : P.cellsOf t = 1) (he : Tells P e d wf) :
    Tells P t (Kd.slice e d) (fun xs => xs.length ≤ maxLen ∧ ∀ x ∈ xs, wf x) := by
  refine ⟨hc, @fun H enc w base held fuel cs x h => ?_⟩
  rcases Go.Deep.open_slice ht h with ⟨rfl, _⟩ | ⟨a, len, cap, m, n, D, Pl, rfl, hb, hl, hm, hmm, _, hx⟩
  · exact ⟨[], ⟨none, 0, rfl, Nat.le_refl _, rfl, by simp, fun h => absurd h (Nat.lt_irrefl _)⟩, by simp, by simp⟩
  · have hlm : len ≤ m := by rw [hmm]; simp only [if_true]; exact hl
    have one : ∀ i, i < len → ∃ y : Option α, ∃ z, y = some z ∧ (∃ c, c.length = d.sz ∧ d.K w z c ∧ ∀ j u, c[j]? = some u → w.cell? (a.add (i * d.sz + j)) = some u) ∧ wf z := by
      intro i hi
      obtain ⟨cs', h1, h2⟩ := hx i (Nat.lt_of_lt_of_le hi hlm)
      obtain ⟨z, hK, hw⟩ := he.down h2
      obtain ⟨_, hlen, hcell⟩ := World.cells?_some h1
      rw [he.cells] at hlen hcell
      refine ⟨some z, z, rfl, ⟨cs', hlen, hK, fun j u hj => ?_⟩, hw⟩
      have hj' : j < d.sz := by rw [← hlen]; exact (List.getElem?_eq_some_iff.1 hj).1
      rw [← Go.Deep.add_add, ← hj]
      exact hcell j hj'
    obtain ⟨f, hf⟩ := Go.Deep.choose_lt (α := Option α) one
    have key : ∃ xs : List α, xs.length = len ∧ ∀ i z, xs[i]? = some z → (∃ c, c.length = d.sz ∧ d.K w z c ∧ ∀ j u, c[j]? = some u → w.cell? (a.add (i * d.sz + j)) = some u) ∧ wf z := by
      refine ⟨(List.range len).pmap (fun i (hi : i < len) => (f i).get (by obtain ⟨z, hz, _⟩ := hf i hi; rw [hz]; rfl)) (fun i hi => List.mem_range.1 hi), by simp, fun i z hz => ?_⟩
      obtain ⟨hi, hz⟩ := List.getElem?_eq_some_iff.1 hz
      simp only [List.length_pmap, List.length_range] at hi
      obtain ⟨z', hz', h1, h2⟩ := hf i hi
      simp only [List.getElem_pmap, List.getElem_range, hz', Option.get_some] at hz
      subst hz
      exact ⟨h1, h2⟩
    obtain ⟨xs, hxl, hxs⟩ := key
    refine ⟨xs, ⟨some a, cap, by rw [hxl], by rw [hxl]; exact hl, rfl, ?_, fun _ => ⟨a, rfl, fun j p hj => (hxs j p hj).1⟩⟩, ?_, fun x hx => ?_⟩
    · rw [hxl]; simp only [maxLen] at hm; omega
    · rw [hxl]; exact Nat.le_trans hl hm
    · obtain ⟨i, hi, rfl⟩ := List.getElem_of_mem hx
      exact (hxs i _ (List.getElem?_eq_getElem hi)).2
theorem tells_iso {α β : Type} {P : Program} {t : TypeId} {d : Kd α} {wf : α → Prop} (f : β → α) (g : α → β) (hfg : ∀ a, f (g a) = a) (h : Tells P t d wf) : Tells P t (Kd.iso d f) (fun y => wf (f y)) := by
  refine ⟨h.cells, fun hd => ?_⟩
  obtain ⟨y, hK, hw⟩ := h.down hd
  exact ⟨g y, by show d.K _ (f (g y)) _; rw [hfg]; exact hK, by rw [hfg]; exact hw⟩
/-- A struct of two parts (the second one may be the rest of it). -/
theorem tells_struct2 {α β : Type} {P : Program} {t : TypeId} {f0 f1 : Field} {da : Kd α} {db : Kd β} {wa : α → Prop} {wb : β → Prop} (ht : P.underlying t = some (.struct #[f0, f1])) (h0 : f0.offset = 0) (h1 : f1.offset = P.cellsOf f0.type)
    (hc : P.cellsOf t = P.cellsOf f0.type + P.cellsOf f1.type) (ha : Tells P f0.type da wa) (hb : Tells P f1.type db wb) : Tells P t (Kd.pair da db) (fun y => wa y.1 ∧ wb y.2) := by
  refine ⟨by rw [hc, ha.cells, hb.cells]; rfl, fun h => ?_⟩
  obtain ⟨xs, n, _, _, hlen, hl, hx⟩ := DataW.trod_struct ht h
  have e0 := hx 0 f0 rfl
  have e1 := hx 1 f1 rfl
  rw [List.getElem?_eq_getElem (by rw [hl]; simp)] at e0 e1
  obtain ⟨y0, hK0, hw0⟩ := ha.down e0
  obtain ⟨y1, hK1, hw1⟩ := hb.down e1
  refine ⟨(y0, y1), ⟨_, _, ?_, hK0, hK1⟩, hw0, hw1⟩
  rw [h0, h1, List.drop_zero, List.take_of_length_le (l := List.drop _ _) (by rw [List.length_drop, hlen, hc]; omega), List.take_append_drop]
/-- A slice that stands as an argument. -/
theorem tells_arg {α : Type} {H : Type} {enc : TypeId × Value → H} {P : Program} {t e : TypeId} {d : Kd α} {wf : List α → Prop} {w : World} {base : Nat} {held : Bool} {a : Option Addr} {len cap : Nat} {x : DataW H} {ps : List MemPlace}
    (h : Tells P t (Kd.slice e d) wf) (hd : DataW.Trod enc P w base (fun _ => true) held t (.slice a len cap) x ps) :
    ∃ xs : List α, len = xs.length ∧ xs.length ≤ cap ∧ d.C w a xs.length xs ∧ wf xs := by
  obtain ⟨fuel, hf⟩ := hd
  obtain ⟨xs, ⟨A, c, hcs, hl, hC⟩, hw⟩ := h.down hf
  simp [Value.cells] at hcs
  obtain ⟨rfl, rfl, rfl⟩ := hcs
  exact ⟨xs, rfl, hl, hC, hw⟩
end Go.Proofs.YtnnlmackofopeaaDoor.RowKd
