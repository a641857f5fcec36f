/- Contract of New. -/
import Derived.Test.YtnnlmackofopeaaDoorFsList
namespace Go.Proofs.YtnnlmackofopeaaDoor.Fs
open Go.RowKit Go.Lib Go.Maps Go.Shelf Go.Proofs.YtnnlmackofopeaaDoorW.PrintWords Go.Proofs.YtnnlmackofopeaaDoorW.PrintLast Go.Proofs.YtnnlmackofopeaaDoorW.PrintMore
set_option linter.unusedVariables false
set_option linter.unusedSimpArgs false
def fs0 (q : Int) : FsS := { quota := q, left := 0, limited := false, files := [], names := .map [], durable := .map [], changes := [], ops := 0, dat := 0 }
set_option maxHeartbeats 2000000 in
theorem new_calls (q : Int) (w : World) :
    Calls Tryd.prog 14 #[.int .i64 q] w fun e w' => ∃ g, e = .returned (.pointer (some ⟨g, 0, none⟩)) ∧ FsIs w' (fun k => w.heap.size ≤ k ∧ k < w'.heap.size) g (fs0 q) ∧ Below w.heap.size w w' := by
  have hmm := @run_makeMap Tryd.prog
  go_enter Tryd.func14, Tryd.ntmps14
  go_wp2
  go_ret
  have hs1 : (w.alloc (.map #[] 0)).heap.size = w.heap.size + 1 := by simp
  have hs2 : ((w.alloc (.map #[] 0)).alloc (.map #[] 0)).heap.size = w.heap.size + 1 + 1 := by simp
  have m1 := ((World.ownsMap_made (H := Unit) w Tryd.prog 9 (plainElem Tryd.prog 3)).alloc (.map #[] 0)).alloc (.cells #[.int .i64 q, .int .i64 0, .bool false, .slice none 0 0, .map (some w.heap.size), .map (some (w.heap.size + 1)), .slice none 0 0] 65)
  have m2 := (World.ownsMap_made (H := Unit) (w.alloc (.map #[] 0)) Tryd.prog 9 (plainElem Tryd.prog 3)).alloc (.cells #[.int .i64 q, .int .i64 0, .bool false, .slice none 0 0, .map (some w.heap.size), .map (some (w.heap.size + 1)), .slice none 0 0] 65)
  have hb := blk_new ((w.alloc (.map #[] 0)).alloc (.map #[] 0)) (.cells #[.int .i64 q, .int .i64 0, .bool false, .slice none 0 0, .map (some w.heap.size), .map (some (w.heap.size + 1)), .slice none 0 0] 65)
  rw [hs1] at m2
  rw [hs2] at hb
  refine ⟨w.heap.size + 1 + 1, by simp, ⟨⟨.slice none 0 0, .slice none 0 0, [], w.heap.size, w.heap.size + 1, 0, 0⟩, hb, ⟨by omega, by simp⟩, ⟨rfl, .inl ⟨rfl, rfl⟩⟩, fun b hb => by simp [Value.ownBlock] at hb, rfl, fun i b v f h1 _ => by simp at h1, fun i j x y h1 => by simp at h1, m1, m2, ⟨⟨Nat.le_refl _, by simp; omega⟩, ⟨by simp only; omega, by simp⟩, by simp only; omega⟩,
    ⟨rfl, .inl ⟨rfl, rfl⟩⟩, fun b hb => by simp [Value.ownBlock] at hb, ⟨Nat.le_refl _, Nat.le_refl _, Nat.le_refl _, Nat.le_refl _⟩, fun k hk => by simp [fs0, has] at hk, fun k hk => by simp [fs0, has] at hk, fun c hc => by simp [fs0] at hc⟩, ?_⟩
  exact below_alloc (below_alloc (below_alloc (Below.refl _ _) _) _) _
end Go.Proofs.YtnnlmackofopeaaDoor.Fs
