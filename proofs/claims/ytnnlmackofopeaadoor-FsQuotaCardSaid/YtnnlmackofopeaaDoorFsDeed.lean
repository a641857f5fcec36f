/- Deeds: as they lie, and what one does. -/
import Derived.Test.YtnnlmackofopeaaDoorFsC
namespace Go.Proofs.YtnnlmackofopeaaDoor.Fs
open Go.RowKit Go.Lib Go.Maps Go.Shelf Go.Sort Go.Proofs.YtnnlmackofopeaaDoorW.PrintWords Go.Proofs.YtnnlmackofopeaaDoorW.PrintLast Go.Proofs.YtnnlmackofopeaaDoorW.PrintMore
set_option linter.unusedVariables false
set_option linter.unusedSimpArgs false
structure Dd where
  kind : Int
  a : ByteArray
  b : ByteArray
  data : List Int
  n : Int
  nm : Int
  bs : List Int
/-- A deed's cells, and what it points to. -/
def DdC (w : World) (cs : List Value) (d : Dd) : Prop := ∃ A c Ab bc, cs = [.int .i64 d.kind, .string d.a, .string d.b, .slice A d.data.length c, .int .i64 d.n, .int .i64 d.nm, .slice Ab d.bs.length bc] ∧ BR w A d.data ∧ IR w Ab d.bs ∧ d.bs.length ≤ maxLen
theorem DdC.below {w w' : World} {cs : List Value} {d : Dd} (h : DdC w cs d) (hb : Below w.heap.size w w') : DdC w' cs d := by
  obtain ⟨A, c, Ab, bc, e, h1, h2, h3⟩ := h
  exact ⟨A, c, Ab, bc, e, h1.below hb, h2.below hb, h3⟩
def FsS.doS (S : FsS) (d : Dd) : Int × FsS :=
  if d.kind = 0 then S.create d.a
  else if d.kind = 1 then S.append d.a d.data
  else if d.kind = 2 then S.sync d.a
  else if d.kind = 3 then S.syncNames
  else if d.kind = 4 then S.rename d.a d.b
  else if d.kind = 5 then S.remove d.a
  else if d.kind = 6 then (0, { S with left := d.n, limited := decide (0 ≤ d.n) })
  else if d.kind = 7 then (0, { S with quota := d.n })
  else if d.kind = 8 then (0, S.crash d.nm d.bs)
  else (0, S)
set_option maxHeartbeats 4000000 in
set_option maxRecDepth 100000 in
theorem do_calls {wB : World} {B : Nat → Prop} {g : Nat} {S : FsS} (d : Dd) (A : Option Addr) (c : Nat) (Ab : Option Addr) (bc : Nat) (w : World) (h : One wB B w g S) (hr : BR w A d.data) (hA : d.data = [] ∨ ∀ ad, A = some ad → ¬ B ad.block ∧ ad.block < wB.heap.size) (hb : IR w Ab d.bs) (hAb : d.bs = [] ∨ ∀ ad, Ab = some ad → ¬ B ad.block ∧ ad.block < wB.heap.size) (hbl : d.bs.length ≤ maxLen)
    (hops : S.ops ≤ 90000) (hdat : S.dat ≤ 1000000000) (hbig : S.ops * S.dat ≤ 1000000000000000) (hyl : d.data.length ≤ 1000000000) :
    Calls Tryd.prog 33 #[.pointer (some ⟨g, 0, none⟩), .agg #[.int .i64 d.kind, .string d.a, .string d.b, .slice A d.data.length c, .int .i64 d.n, .int .i64 d.nm, .slice Ab d.bs.length bc]] w fun e w' => e = .returned (.int .i64 (S.doS d).1) ∧ One wB B w' g (S.doS d).2 := by
  have hx := blk_new w (.cells #[.int .i64 d.kind, .string d.a, .string d.b, .slice A d.data.length c, .int .i64 d.n, .int .i64 d.nm, .slice Ab d.bs.length bc] 54)
  have hB0 := below_alloc (Below.refl w.heap.size w) (.cells #[.int .i64 d.kind, .string d.a, .string d.b, .slice A d.data.length c, .int .i64 d.n, .int .i64 d.nm, .slice Ab d.bs.length bc] 54)
  have HH := Aside0.mk (And.intro (hr.below hB0) (And.intro hA (And.intro (hb.below hB0) (And.intro hAb hbl))))
  have H0 := Aside0.mk (h.below hB0)
  have HN := Aside0.mk (And.intro hops (And.intro hdat (And.intro hbig hyl)))
  obtain ⟨kd, na, nb, data, dn, nm, bs⟩ := d
  obtain ⟨W, hW⟩ : ∃ W, W = w.alloc (.cells #[.int .i64 kd, .string na, .string nb, .slice A data.length c, .int .i64 dn, .int .i64 nm, .slice Ab bs.length bc] 54) := ⟨_, rfl⟩
  obtain ⟨r, hr0⟩ : ∃ r, r = w.heap.size := ⟨_, rfl⟩
  simp only at hx HH H0 HN ⊢
  rw [← hW, ← hr0] at hx
  rw [← hW] at H0 HH
  have x0 : W.cell? ⟨r, 0, none⟩ = some (.int .i64 kd) := blk_cell hx 0
  have x1 : W.cell? ⟨r, 1, none⟩ = some (.string na) := blk_cell hx 1
  have x2 : W.cell? ⟨r, 2, none⟩ = some (.string nb) := blk_cell hx 2
  have x3 : W.cell? ⟨r, 3, none⟩ = some (.slice A data.length c) := blk_cell hx 3
  have x4 : W.cell? ⟨r, 4, none⟩ = some (.int .i64 dn) := blk_cell hx 4
  have x5 : W.cell? ⟨r, 5, none⟩ = some (.int .i64 nm) := blk_cell hx 5
  have x6 : W.cell? ⟨r, 6, none⟩ = some (.slice Ab bs.length bc) := blk_cell hx 6
  clear hx hr hA hb hAb hbl h hops hdat hbig hyl hB0
  go_enter Tryd.func33, Tryd.ntmps33
  go_upto_region 1 with (fail)
  rw [← hW, ← hr0]
  clear hW hr0
  by_cases n0 : kd = 0
  case pos =>
    have hS : S.doS ⟨kd, na, nb, data, dn, nm, bs⟩ = S.create na := by
      unfold FsS.doS
      rw [if_pos n0]
    have HS := Aside0.mk hS
    have e0 := n0
    clear hS  n0
    subst e0
    go_wp2_with (go_at_call 22; refine (H0.out.create na HN.out.1).mono ?_; rintro e w1 ⟨rfl, h⟩; have H1 := Aside0.mk h; clear h)
    go_ret
    rw [HS.out]
    exact ⟨rfl, H1.out⟩
  by_cases n1 : kd = 1
  case pos =>
    have hS : S.doS ⟨kd, na, nb, data, dn, nm, bs⟩ = S.append na data := by
      unfold FsS.doS
      rw [if_neg n0, if_pos n1]
    have HS := Aside0.mk hS
    have e0 := n1
    clear hS n0 n1
    subst e0
    go_wp2_with (go_at_call 24; refine (H0.out.append na A c data HH.out.1 HH.out.2.1 HN.out.2.2.1 HN.out.2.1 HN.out.2.2.2).mono ?_; rintro e w1 ⟨rfl, h⟩; have H1 := Aside0.mk h; clear h)
    go_ret
    rw [HS.out]
    exact ⟨rfl, H1.out⟩
  by_cases n2 : kd = 2
  case pos =>
    have hS : S.doS ⟨kd, na, nb, data, dn, nm, bs⟩ = S.sync na := by
      unfold FsS.doS
      rw [if_neg n0, if_neg n1, if_pos n2]
    have HS := Aside0.mk hS
    have e0 := n2
    clear hS n0 n1 n2
    subst e0
    go_wp2_with (go_at_call 25; refine (H0.out.sync na HN.out.2.1).mono ?_; rintro e w1 ⟨rfl, h⟩; have H1 := Aside0.mk h; clear h)
    go_ret
    rw [HS.out]
    exact ⟨rfl, H1.out⟩
  by_cases n3 : kd = 3
  case pos =>
    have hS : S.doS ⟨kd, na, nb, data, dn, nm, bs⟩ = S.syncNames := by
      unfold FsS.doS
      rw [if_neg n0, if_neg n1, if_neg n2, if_pos n3]
    have HS := Aside0.mk hS
    have e0 := n3
    clear hS n0 n1 n2 n3
    subst e0
    go_wp2_with (go_at_call 23; refine (H0.out.syncNames).mono ?_; rintro e w1 ⟨rfl, h⟩; have H1 := Aside0.mk h; clear h)
    go_ret
    rw [HS.out]
    exact ⟨rfl, H1.out⟩
  by_cases n4 : kd = 4
  case pos =>
    have hS : S.doS ⟨kd, na, nb, data, dn, nm, bs⟩ = S.rename na nb := by
      unfold FsS.doS
      rw [if_neg n0, if_neg n1, if_neg n2, if_neg n3, if_pos n4]
    have HS := Aside0.mk hS
    have e0 := n4
    clear hS n0 n1 n2 n3 n4
    subst e0
    go_wp2_with (go_at_call 29; refine (H0.out.rename na nb HN.out.1).mono ?_; rintro e w1 ⟨rfl, h⟩; have H1 := Aside0.mk h; clear h)
    go_ret
    rw [HS.out]
    exact ⟨rfl, H1.out⟩
  by_cases n5 : kd = 5
  case pos =>
    have hS : S.doS ⟨kd, na, nb, data, dn, nm, bs⟩ = S.remove na := by
      unfold FsS.doS
      rw [if_neg n0, if_neg n1, if_neg n2, if_neg n3, if_neg n4, if_pos n5]
    have HS := Aside0.mk hS
    have e0 := n5
    clear hS n0 n1 n2 n3 n4 n5
    subst e0
    go_wp2_with (go_at_call 27; refine (H0.out.remove na HN.out.1).mono ?_; rintro e w1 ⟨rfl, h⟩; have H1 := Aside0.mk h; clear h)
    go_ret
    rw [HS.out]
    exact ⟨rfl, H1.out⟩
  by_cases n6 : kd = 6
  case pos =>
    have hS : S.doS ⟨kd, na, nb, data, dn, nm, bs⟩ = ((0, { S with left := dn, limited := decide (0 ≤ dn) }) : Int × FsS) := by
      unfold FsS.doS
      rw [if_neg n0, if_neg n1, if_neg n2, if_neg n3, if_neg n4, if_neg n5, if_pos n6]
    have HS := Aside0.mk hS
    have e0 := n6
    clear hS n0 n1 n2 n3 n4 n5 n6
    subst e0
    go_wp2_with (go_at_call 16; refine (H0.out.limit dn).mono ?_; rintro e w1 ⟨rfl, h⟩; have H1 := Aside0.mk h; clear h)
    go_ret
    rw [HS.out]
    exact ⟨rfl, H1.out⟩
  by_cases n7 : kd = 7
  case pos =>
    have hS : S.doS ⟨kd, na, nb, data, dn, nm, bs⟩ = ((0, { S with quota := dn }) : Int × FsS) := by
      unfold FsS.doS
      rw [if_neg n0, if_neg n1, if_neg n2, if_neg n3, if_neg n4, if_neg n5, if_neg n6, if_pos n7]
    have HS := Aside0.mk hS
    have e0 := n7
    clear hS n0 n1 n2 n3 n4 n5 n6 n7
    subst e0
    go_wp2_with (go_at_call 32; refine (H0.out.quota dn).mono ?_; rintro e w1 ⟨rfl, h⟩; have H1 := Aside0.mk h; clear h)
    go_ret
    rw [HS.out]
    exact ⟨rfl, H1.out⟩
  by_cases n8 : kd = 8
  case pos =>
    have hS : S.doS ⟨kd, na, nb, data, dn, nm, bs⟩ = ((0, S.crash nm bs) : Int × FsS) := by
      unfold FsS.doS
      rw [if_neg n0, if_neg n1, if_neg n2, if_neg n3, if_neg n4, if_neg n5, if_neg n6, if_neg n7, if_pos n8]
    have HS := Aside0.mk hS
    have e0 := n8
    clear hS n0 n1 n2 n3 n4 n5 n6 n7 n8
    subst e0
    go_wp2_with (go_at_call 17; refine (H0.out.crash nm Ab bc bs HH.out.2.2.1 HH.out.2.2.2.1 HN.out.1 HN.out.2.1 HH.out.2.2.2.2).mono ?_; rintro e w1 ⟨rfl, h⟩; have H1 := Aside0.mk h; clear h)
    go_ret
    rw [HS.out]
    exact ⟨rfl, H1.out⟩
  have hS : S.doS ⟨kd, na, nb, data, dn, nm, bs⟩ = (0, S) := by
    unfold FsS.doS
    rw [if_neg n0, if_neg n1, if_neg n2, if_neg n3, if_neg n4, if_neg n5, if_neg n6, if_neg n7, if_neg n8]
  have HS := Aside0.mk hS
  have e0 : (kd == 0) = false := by simpa using n0
  have e1 : (kd == 1) = false := by simpa using n1
  have e2 : (kd == 2) = false := by simpa using n2
  have e3 : (kd == 3) = false := by simpa using n3
  have e4 : (kd == 4) = false := by simpa using n4
  have e5 : (kd == 5) = false := by simpa using n5
  have e6 : (kd == 6) = false := by simpa using n6
  have e7 : (kd == 7) = false := by simpa using n7
  have e8 : (kd == 8) = false := by simpa using n8
  clear hS n0 n1 n2 n3 n4 n5 n6 n7 n8
  go_wp2
  go_ret
  rw [HS.out]
  exact ⟨rfl, H0.out⟩
end Go.Proofs.YtnnlmackofopeaaDoor.Fs
