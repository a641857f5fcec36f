/- Contracts of mani's closures, and of inTurn at them. -/
import Derived.Test.YtnnlmackofopeaaDoorFsC
namespace Go.Proofs.YtnnlmackofopeaaDoor.Fs
open Go.RowKit Go.Lib Go.Maps Go.Shelf Go.Sort Go.Proofs.YtnnlmackofopeaaDoorW.PrintWords Go.Proofs.YtnnlmackofopeaaDoorW.PrintLast Go.Proofs.YtnnlmackofopeaaDoorW.PrintMore
set_option linter.unusedVariables false
set_option linter.unusedSimpArgs false
/-- The boxes of Replace's variables, and its row of operations. -/
structure Boxes (w : World) (g : Nat) (t n : ByteArray) (A : Option Addr) (m c : Nat) (r3 r4 r5 r7 rb : Nat) : Prop where
  b3 : w.heap[r3]? = some (.cells #[.pointer (some ⟨g, 0, none⟩)] 27 (0, 0))
  b4 : w.heap[r4]? = some (.cells #[.string n] 9 (0, 0))
  b5 : w.heap[r5]? = some (.cells #[.slice A m c] 22 (0, 0))
  b7 : w.heap[r7]? = some (.cells #[.string t] 9 (0, 0))
  bb : w.heap[rb]? = some (.cells #[.func (.func 49) #[] #[.pointer (some ⟨r3, 0, none⟩), .pointer (some ⟨r7, 0, none⟩)], .func (.func 50) #[] #[.pointer (some ⟨r3, 0, none⟩), .pointer (some ⟨r7, 0, none⟩), .pointer (some ⟨r5, 0, none⟩)], .func (.func 51) #[] #[.pointer (some ⟨r3, 0, none⟩), .pointer (some ⟨r7, 0, none⟩)], .func (.func 52) #[] #[.pointer (some ⟨r3, 0, none⟩), .pointer (some ⟨r7, 0, none⟩), .pointer (some ⟨r4, 0, none⟩)], .func (.func 23) #[.pointer (some ⟨g, 0, none⟩)] #[]] 41 (0, 0))
theorem Boxes.turn {w w' : World} {own : Nat → Prop} {g : Nat} {t n : ByteArray} {A : Option Addr} {m c r3 r4 r5 r7 rb : Nat} (h : Boxes w g t n A m c r3 r4 r5 r7 rb) (ht : Turn own w w') (hn : ¬ own r3 ∧ ¬ own r4 ∧ ¬ own r5 ∧ ¬ own r7 ∧ ¬ own rb) : Boxes w' g t n A m c r3 r4 r5 r7 rb :=
  ⟨ht.blk h.b3 hn.1, ht.blk h.b4 hn.2.1, ht.blk h.b5 hn.2.2.1, ht.blk h.b7 hn.2.2.2.1, ht.blk h.bb hn.2.2.2.2⟩
variable {wB w : World} {B : Nat → Prop} {g : Nat} {S : FsS} {t n : ByteArray} {A : Option Addr} {m c r3 r4 r5 r7 rb : Nat}
set_option maxHeartbeats 4000000 in
set_option maxRecDepth 100000 in
theorem cl1_calls (h : One wB B w g S) (hx : Boxes w g t n A m c r3 r4 r5 r7 rb) (hops : S.ops ≤ 90000) :
    Calls Tryd.prog 49 #[.pointer (some ⟨r3, 0, none⟩), .pointer (some ⟨r7, 0, none⟩)] w fun e w' => e = .returned (.int .i64 (S.create t).1) ∧ One wB B w' g (S.create t).2 := by
  have x3 : w.cell? ⟨r3, 0, none⟩ = some (.pointer (some ⟨g, 0, none⟩)) := blk_cell hx.b3 0
  have x7 : w.cell? ⟨r7, 0, none⟩ = some (.string t) := blk_cell hx.b7 0
  have hc := h.create t hops
  clear hx h
  go_enter Tryd.func49, Tryd.ntmps49
  go_wp2_with (go_at_call 22; refine hc.mono ?_; rintro e w1 ⟨rfl, h⟩; have H1 := Aside0.mk h; clear h hc)
  go_ret
  exact ⟨rfl, H1.out⟩
set_option maxHeartbeats 4000000 in
set_option maxRecDepth 100000 in
theorem cl2_calls (ys : List Int) (hm : m = ys.length) (h : One wB B w g S) (hx : Boxes w g t n A m c r3 r4 r5 r7 rb) (hr : BR w A ys) (hA : ys = [] ∨ ∀ ad, A = some ad → ¬ B ad.block ∧ ad.block < wB.heap.size) (hbig : S.ops * S.dat ≤ 1000000000000000) (hdat : S.dat ≤ 1000000000) (hyl : ys.length ≤ 1000000000) :
    Calls Tryd.prog 50 #[.pointer (some ⟨r3, 0, none⟩), .pointer (some ⟨r7, 0, none⟩), .pointer (some ⟨r5, 0, none⟩)] w fun e w' => e = .returned (.int .i64 (S.append t ys).1) ∧ One wB B w' g (S.append t ys).2 := by
  have x3 : w.cell? ⟨r3, 0, none⟩ = some (.pointer (some ⟨g, 0, none⟩)) := blk_cell hx.b3 0
  have x7 : w.cell? ⟨r7, 0, none⟩ = some (.string t) := blk_cell hx.b7 0
  have x5 : w.cell? ⟨r5, 0, none⟩ = some (.slice A m c) := blk_cell hx.b5 0
  have hc := h.append t A c ys hr hA hbig hdat hyl
  rw [← hm] at hc
  clear hx h hr hA hm
  go_enter Tryd.func50, Tryd.ntmps50
  go_wp2_with (go_at_call 24; refine hc.mono ?_; rintro e w1 ⟨rfl, h⟩; have H1 := Aside0.mk h; clear h hc)
  go_ret
  exact ⟨rfl, H1.out⟩
set_option maxHeartbeats 4000000 in
set_option maxRecDepth 100000 in
theorem cl3_calls (h : One wB B w g S) (hx : Boxes w g t n A m c r3 r4 r5 r7 rb) (hdat : S.dat ≤ 1000000000) :
    Calls Tryd.prog 51 #[.pointer (some ⟨r3, 0, none⟩), .pointer (some ⟨r7, 0, none⟩)] w fun e w' => e = .returned (.int .i64 (S.sync t).1) ∧ One wB B w' g (S.sync t).2 := by
  have x3 : w.cell? ⟨r3, 0, none⟩ = some (.pointer (some ⟨g, 0, none⟩)) := blk_cell hx.b3 0
  have x7 : w.cell? ⟨r7, 0, none⟩ = some (.string t) := blk_cell hx.b7 0
  have hc := h.sync t hdat
  clear hx h
  go_enter Tryd.func51, Tryd.ntmps51
  go_wp2_with (go_at_call 25; refine hc.mono ?_; rintro e w1 ⟨rfl, h⟩; have H1 := Aside0.mk h; clear h hc)
  go_ret
  exact ⟨rfl, H1.out⟩
set_option maxHeartbeats 4000000 in
set_option maxRecDepth 100000 in
theorem cl4_calls (h : One wB B w g S) (hx : Boxes w g t n A m c r3 r4 r5 r7 rb) (hops : S.ops ≤ 90000) :
    Calls Tryd.prog 52 #[.pointer (some ⟨r3, 0, none⟩), .pointer (some ⟨r7, 0, none⟩), .pointer (some ⟨r4, 0, none⟩)] w fun e w' => e = .returned (.int .i64 (S.rename t n).1) ∧ One wB B w' g (S.rename t n).2 := by
  have x3 : w.cell? ⟨r3, 0, none⟩ = some (.pointer (some ⟨g, 0, none⟩)) := blk_cell hx.b3 0
  have x7 : w.cell? ⟨r7, 0, none⟩ = some (.string t) := blk_cell hx.b7 0
  have x4 : w.cell? ⟨r4, 0, none⟩ = some (.string n) := blk_cell hx.b4 0
  have hc := h.rename t n hops
  clear hx h
  go_enter Tryd.func52, Tryd.ntmps52
  go_wp2_with (go_at_call 29; refine hc.mono ?_; rintro e w1 ⟨rfl, h⟩; have H1 := Aside0.mk h; clear h hc)
  go_ret
  exact ⟨rfl, H1.out⟩
end Go.Proofs.YtnnlmackofopeaaDoor.Fs
