/- Bytes laid behind a file's row, whatever its room. -/
import Derived.Test.YtnnlmackofopeaaDoorFsUsed
import Derived.Deep.Upon
namespace Go.Proofs.YtnnlmackofopeaaDoor.Fs
open Go.RowKit Go.Lib Go.Maps Go.Shelf Go.Proofs.YtnnlmackofopeaaDoorW.PrintWords Go.Proofs.YtnnlmackofopeaaDoorW.PrintLast Go.Proofs.YtnnlmackofopeaaDoorW.PrintMore
set_option linter.unusedVariables false
set_option linter.unusedSimpArgs false
theorem info5 : (Tryd.prog.info? 5).map (fun i => (i.zero, i.size, i.bytes)) = some (some (.int .u8 0), 1, 1) := by kernel_rfl
/-- Bytes to be read: nil, or cells. -/
def BR (w : World) (A : Option Addr) (ys : List Int) : Prop := ys = [] ∨ ∃ a, A = some a ∧ ∀ j u, (ys.map (Value.int .u8))[j]? = some u → w.cell? (a.add j) = some u
theorem BR.nil (w : World) (A : Option Addr) : BR w A [] := .inl rfl
theorem BR.below {w w' : World} {A : Option Addr} {ys : List Int} (h : BR w A ys) (hb : Below w.heap.size w w') : BR w' A ys := by
  rcases h with rfl | ⟨a, rfl, h⟩
  · exact .inl rfl
  · exact .inr ⟨a, rfl, fun j u hu => (hb.cell (World.block_lt_of_cell? w _ (h j u hu))).trans (h j u hu)⟩
theorem BR.turn {w w' : World} {own : Nat → Prop} {A : Option Addr} {ys : List Int} (h : BR w A ys) (hb : Turn own w w') (hn : ys = [] ∨ ∀ ad, A = some ad → ¬ own ad.block) : BR w' A ys := by
  rcases hn with hn | hn
  · exact .inl hn
  rcases h with rfl | ⟨a, rfl, h⟩
  · exact .inl rfl
  · refine .inr ⟨a, rfl, fun j u hu => ?_⟩
    rw [← h j u hu]
    refine World.cell?_of_block (hb.block _ (World.block_lt_of_cell? w _ (h j u hu)) ?_)
    rw [add_block]
    exact hn a rfl
/-- What is read lies in a block that is there. -/
theorem BR.there {w : World} {A : Option Addr} {ys : List Int} (h : BR w A ys) : ys = [] ∨ ∀ ad, A = some ad → ad.block < w.heap.size := by
  rcases h with rfl | ⟨a, rfl, h⟩
  · exact .inl rfl
  · cases ys with
    | nil => exact .inl rfl
    | cons y r =>
      refine .inr fun ad e => ?_
      injection e with e
      subst e
      have := World.block_lt_of_cell? w _ (h 0 _ rfl)
      rwa [add_block] at this
theorem drow_len {w : World} {own : Nat → Prop} {v : Value} {xs : List Int} (h : DRow w own v xs) : (xs.map (Value.int .u8)).length = xs.length := List.length_map ..
/-- append of bytes behind a row. -/
theorem run_append_drow (w : World) (own : Nat → Prop) (v : Value) (xs ys : List Int) (ty : TypeId) (hd : DRow w own v xs) (A : Option Addr) (c : Nat) (hr : BR w A ys) (hl : xs.length + ys.length ≤ 100000000000000) :
    ∃ v' w', (Builtin.append_ #[22, 22] ty #[v, .slice A ys.length c]).run Tryd.prog w = .ok v' w' ∧ DRow w' (More own w w') v' (xs ++ ys) ∧ w.grownBy w' v.ownBlock ∧ (∀ k, v'.ownBlock = some k → v.ownBlock = some k ∨ w.heap.size ≤ k) := by
  obtain ⟨i, hi, hii⟩ := Option.map_eq_some_iff.1 info5
  simp only [Prod.mk.injEq] at hii
  obtain ⟨hz, hs1, hb1⟩ := hii
  obtain ⟨B, cc, rfl, hlc, hd⟩ := hd
  by_cases h0 : ys = []
  · subst h0
    have hsrc : Src Tryd.prog i.size 22 (.slice A ([] : List Int).length c) 0 [] w := by
      cases A with
      | none => exact Src.ofNil (w := w) Tryd.underlying22 c
      | some a => exact Src.ofSlice (w := w) Tryd.underlying22 a 0 c [] (by simp) (by simp) (by simp)
    refine ⟨_, w, run_append_nothing (P := Tryd.prog) w 22 22 ty 5 i Tryd.underlying22 hi B xs.length cc hlc _ hsrc, ?_, ⟨rfl, rfl, rfl, Nat.le_refl _, fun _ _ _ => rfl⟩, fun k hk => .inl hk⟩
    refine ⟨B, cc, by rw [List.append_nil], by rw [List.append_nil]; exact hlc, ?_⟩
    rcases hd with h | ⟨b, cells, rfl, h1, h2, h3, h4⟩
    · exact .inl h
    · exact .inr ⟨b, cells, rfl, .inl h1, h2, h3, by rw [List.append_nil]; exact h4⟩
  · rcases hr with hr | ⟨a, rfl, hr⟩
    · exact absurd hr h0
    have hyl : 0 < ys.length := List.length_pos_iff.2 h0
    have hone : ∀ u ∈ ys.map (Value.int .u8), u.oneCell' = true := fun u hu => by
      obtain ⟨_, _, rfl⟩ := List.mem_map.1 hu
      rfl
    have hnl : (ys.map (Value.int .u8)).length = ys.length * i.size := by rw [hs1, List.length_map, Nat.mul_one]
    have hxl : (xs.map (Value.int .u8)).length = xs.length * i.size := by rw [hs1, List.length_map, Nat.mul_one]
    -- a new row
    have grown : ∀ (old : Nat) (row : Option Nat),
        DRow (w.drew.alloc (.cells ((xs.map (Value.int .u8)).toArray ++ (ys.map (Value.int .u8)).toArray ++ Builtin.zeroCells (Value.int .u8 0).cells (grownCap w (xs.length + ys.length) old 5 - (xs.length + ys.length))) 5))
          (More own w (w.drew.alloc (.cells ((xs.map (Value.int .u8)).toArray ++ (ys.map (Value.int .u8)).toArray ++ Builtin.zeroCells (Value.int .u8 0).cells (grownCap w (xs.length + ys.length) old 5 - (xs.length + ys.length))) 5)))
          (.slice (some ⟨w.heap.size, 0, none⟩) (xs.length + ys.length) (grownCap w (xs.length + ys.length) old 5)) (xs ++ ys) ∧
        w.grownBy (w.drew.alloc (.cells ((xs.map (Value.int .u8)).toArray ++ (ys.map (Value.int .u8)).toArray ++ Builtin.zeroCells (Value.int .u8 0).cells (grownCap w (xs.length + ys.length) old 5 - (xs.length + ys.length))) 5)) row := by
      intro old row
      have hge := grownCap_ge w (xs.length + ys.length) old 5
      refine ⟨⟨_, _, by rw [List.length_append], by rw [List.length_append]; exact hge, .inr ⟨w.heap.size, _, rfl, .inr ⟨Nat.le_refl _, by simp⟩, heap_alloc_new w.drew _, ?_, ?_⟩⟩, ⟨rfl, rfl, rfl, by simp, fun k hk _ => Below.heap_alloc w.drew _ k hk⟩⟩
      · rw [Array.size_append, Array.size_append, size_zeroCells, List.size_toArray, List.size_toArray, List.length_map, List.length_map, show (Value.int .u8 0).cells.size = 1 from rfl, Nat.mul_one]
        omega
      · simp only [Array.toList_append, List.append_assoc]
        rw [← List.append_assoc, ← List.map_append, List.length_append]
        have : (xs ++ ys).length = ((xs ++ ys).map (Value.int .u8)).length := by rw [List.length_map]
        rw [← List.length_append, this]
        exact List.take_left
    rcases hd with ⟨rfl, rfl⟩ | ⟨b, cells, rfl, h1, h2, h3, h4⟩
    · have hx : xs = [] := List.eq_nil_of_length_eq_zero (by omega)
      subst hx
      have hrun := run_append_nil (P := Tryd.prog) w 22 ty 5 i (.int .u8 0) Tryd.underlying22 hi hz a ys.length c (ys.map (Value.int .u8)) hnl hr hyl (by simp at hl; omega) (by rw [hb1]; simp at hl; omega)
      have hg := grown 0 none
      simp only [List.map_nil, List.length_nil, Nat.zero_add, List.nil_append, Array.empty_append] at hg hrun ⊢
      exact ⟨_, _, hrun, hg.1, hg.2, fun k hk => by simp only [Value.ownBlock, Option.some.injEq] at hk; exact .inr (by omega)⟩
    · by_cases hroom : xs.length + ys.length ≤ cc
      · have hfit : xs.length * i.size + (ys.map (Value.int .u8)).length ≤ cells.size := by rw [hs1, List.length_map]; omega
        have hrun := run_append_room (P := Tryd.prog) w 22 ty 5 i Tryd.underlying22 hi b xs.length cc cells h2 a ys.length c (ys.map (Value.int .u8)) hnl hr hone hroom hfit
        refine ⟨_, _, hrun, ⟨_, _, by rw [List.length_append], by rw [List.length_append]; exact hroom, .inr ⟨b, _, rfl, .inl h1, setRow_heap w b cells _ 5 _ h2, ?_, ?_⟩⟩, ⟨rfl, rfl, rfl, by simp, fun k _ hk => setRow_other w b k _ (fun e => hk (by simp [Value.ownBlock, e]))⟩, fun k hk => .inl hk⟩
        · rw [hs1] at hfit ⊢
          simp only [List.size_toArray, List.length_append, List.length_take, List.length_drop, Array.length_toList]
          omega
        · rw [hs1, Nat.mul_one, h4, ← List.map_append, List.length_append]
          have : xs.length + ys.length = ((xs ++ ys).map (Value.int .u8)).length := by rw [List.length_map, List.length_append]
          rw [this]
          exact List.take_left
      · have holds : ∀ j u, (xs.map (Value.int .u8))[j]? = some u → w.cell? ((⟨b, 0, none⟩ : Addr).add j) = some u := fun j u hu => by
          have hadd : (⟨b, 0, none⟩ : Addr).add j = ⟨b, j, none⟩ := by unfold Addr.add; split <;> simp_all
          rw [hadd, cell_of_row w b j cells 5 (0, 0) h2]
          rw [← h4, List.getElem?_take] at hu
          split at hu
          · simpa using hu
          · cases hu
        have hrun := run_append_grow (P := Tryd.prog) w 22 ty 5 i (.int .u8 0) Tryd.underlying22 hi hz ⟨b, 0, none⟩ xs.length cc (xs.map (Value.int .u8)) hxl holds a ys.length c (ys.map (Value.int .u8)) hnl hr (by omega) (by omega) (by rw [hb1]; exact growslice_fits (by omega) (by omega))
        have hg := grown cc (some b)
        exact ⟨_, _, hrun, hg.1, hg.2, fun k hk => by simp only [Value.ownBlock, Option.some.injEq] at hk; exact .inr (by omega)⟩
theorem wpList_append_drow {ops : Array Oper} {rest : List Oper} {o : Oper} {a : Act} {Q : Exit → Act → World → Prop} (w : World) (own : Nat → Prop) (hgd : o.guard = none) (s x : Operand)
    (ho : o.op = .call { callee := .builtin .append, args := #[s, x], argTypes := #[22, 22] }) (v : Value) (xs ys : List Int) (hs : a.eval s = v) (hd : DRow w own v xs) (A : Option Addr) (c : Nat) (hx : a.eval x = .slice A ys.length c) (hr : BR w A ys) (hl : xs.length + ys.length ≤ 100000000000000)
    (hK : ∀ v' w', DRow w' (More own w w') v' (xs ++ ys) → w.grownBy w' v.ownBlock → (∀ k, v'.ownBlock = some k → v.ownBlock = some k ∨ w.heap.size ≤ k) → wpList Tryd.prog ops Q rest (a.put o.dst v') w') :
    wpList Tryd.prog ops Q (o :: rest) a w := by
  refine wpList_plain hgd fun K hK' => ?_
  obtain ⟨v', w', hrun, r1, r2, r3⟩ := run_append_drow w own v xs ys o.type hd A c hr hl
  unfold Oper.wp
  simp [execOp, ho, resolve, invoke, builtin, hs, hx, hrun, Result.andThen]
  exact hK' _ _ (hK v' w' r1 r2 r3)
end Go.Proofs.YtnnlmackofopeaaDoor.Fs
