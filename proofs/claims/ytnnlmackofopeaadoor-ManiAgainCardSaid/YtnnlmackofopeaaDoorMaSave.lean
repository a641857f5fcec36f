/- Contracts of mani's Replace, Save, Load. -/
import Derived.Test.YtnnlmackofopeaaDoorMaRun
import Derived.Test.YtnnlmackofopeaaDoorFrameGet
import Derived.Test.YtnnlmackofopeaaDoorFsRows
namespace Go.Proofs.YtnnlmackofopeaaDoor.Fs
open Go.RowKit Go.Lib Go.Maps Go.Shelf Go.Sort Go.Proofs.YtnnlmackofopeaaDoorW.PrintWords Go.Proofs.YtnnlmackofopeaaDoorW.PrintLast Go.Proofs.YtnnlmackofopeaaDoorW.PrintMore
set_option linter.unusedVariables false
set_option linter.unusedSimpArgs false
theorem One.back {wB w1 w' : World} {B own : Nat → Prop} {g : Nat} {S : FsS} (h : One w1 own w' g S) (ho : ∀ k, own k → B k ∨ wB.heap.size ≤ k) (hT : Turn B wB w1) : One wB B w' g S := by
  obtain ⟨o2, h1, h2, h3, h4⟩ := h
  refine ⟨o2, fun k hk => ?_, h2, h3, hT.trans h4 ho⟩
  rcases h1 k hk with hk | hk
  · exact ho k hk
  · exact .inr (Nat.le_trans hT.size hk)
theorem One.pauseM {wB w : World} {B : Nat → Prop} {g : Nat} {S : FsS} (h : One wB B w g S) : ∃ own : Nat → Prop, (∀ k, own k → B k ∨ wB.heap.size ≤ k) ∧ Under own w ∧ Turn B wB w ∧ ∀ w', Below w.heap.size w w' → One w' own w' g S := by
  obtain ⟨own, h1, h2, h3, h4⟩ := h
  exact ⟨own, h1, h2, h4, fun w' hb => ⟨own, fun k hk => .inl hk, fun k hk => Nat.lt_of_lt_of_le (h2 k hk) hb.size, h3.below hb, Turn.refl _ _⟩⟩
abbrev dotTmp : ByteArray := ⟨#[46, 116, 109, 112]⟩
set_option maxHeartbeats 8000000 in
set_option maxRecDepth 100000 in
theorem replace_calls {wB : World} {B : Nat → Prop} {g : Nat} {S : FsS} (n : ByteArray) (hnl : n.size ≤ 1000) (A : Option Addr) (m c : Nat) (ys : List Int) (hm : m = ys.length) (w : World) (h : One wB B w g S) (hr : BR w A ys) (hA : ys = [] ∨ ∀ ad, A = some ad → ¬ B ad.block ∧ ad.block < wB.heap.size) (hops : S.ops ≤ 1000) (hdat : S.dat ≤ 100000) (hyl : ys.length ≤ 100000) :
    Calls Tryd.prog 35 #[.pointer (some ⟨g, 0, none⟩), .string n, .slice A m c] w fun e w' => e = .returned (.int .i64 (turnS (n ++ dotTmp) n ys 5 S).1) ∧ One wB B w' g (turnS (n ++ dotTmp) n ys 5 S).2 := by
  obtain ⟨own, ho1, ho2, ho3, hpz⟩ := h.pauseM
  have HO := Aside0.mk (And.intro ho1 (And.intro ho2 ho3))
  have HPZ := Aside0.mk hpz
  have HR := Aside0.mk (And.intro hm (And.intro hr (And.intro (far_of hA ho1) (And.intro hr.there (And.intro hops (And.intro hdat hyl))))))
  have e1 : (9223372036854775807 < n.size + 4) = False := eq_false (by omega)
  clear ho1 ho2 ho3 hpz h hr hA hops hdat hyl hm
  go_enter Tryd.func35, Tryd.ntmps35
  obtain ⟨W, hW⟩ : ∃ W, W = ((((w.alloc (Obj.cells #[Value.pointer (some ⟨g, 0, none⟩)] 27)).alloc (Obj.cells #[Value.string n] 9)).alloc (Obj.cells #[Value.slice A m c] 22)).alloc (Obj.cells #[Value.string (n ++ dotTmp)] 9)) := ⟨_, rfl⟩
  have hb1 := below_alloc (Below.refl w.heap.size w) (Obj.cells #[Value.pointer (some ⟨g, 0, none⟩)] 27)
  have hb2 := below_alloc (Below.refl (w.alloc (Obj.cells #[Value.pointer (some ⟨g, 0, none⟩)] 27)).heap.size (w.alloc (Obj.cells #[Value.pointer (some ⟨g, 0, none⟩)] 27))) (Obj.cells #[Value.string n] 9)
  have hb3 := below_alloc (Below.refl ((w.alloc (Obj.cells #[Value.pointer (some ⟨g, 0, none⟩)] 27)).alloc (Obj.cells #[Value.string n] 9)).heap.size ((w.alloc (Obj.cells #[Value.pointer (some ⟨g, 0, none⟩)] 27)).alloc (Obj.cells #[Value.string n] 9))) (Obj.cells #[Value.slice A m c] 22)
  have hb4 := below_alloc (Below.refl (((w.alloc (Obj.cells #[Value.pointer (some ⟨g, 0, none⟩)] 27)).alloc (Obj.cells #[Value.string n] 9)).alloc (Obj.cells #[Value.slice A m c] 22)).heap.size (((w.alloc (Obj.cells #[Value.pointer (some ⟨g, 0, none⟩)] 27)).alloc (Obj.cells #[Value.string n] 9)).alloc (Obj.cells #[Value.slice A m c] 22))) (Obj.cells #[Value.string (n ++ dotTmp)] 9)
  have c3 := blk_below (blk_below (blk_below (blk_new w (Obj.cells #[Value.pointer (some ⟨g, 0, none⟩)] 27)) hb2) hb3) hb4
  have c4 := blk_below (blk_below (blk_new (w.alloc (Obj.cells #[Value.pointer (some ⟨g, 0, none⟩)] 27)) (Obj.cells #[Value.string n] 9)) hb3) hb4
  have c5 := blk_below (blk_new ((w.alloc (Obj.cells #[Value.pointer (some ⟨g, 0, none⟩)] 27)).alloc (Obj.cells #[Value.string n] 9)) (Obj.cells #[Value.slice A m c] 22)) hb4
  have c7 := blk_new (((w.alloc (Obj.cells #[Value.pointer (some ⟨g, 0, none⟩)] 27)).alloc (Obj.cells #[Value.string n] 9)).alloc (Obj.cells #[Value.slice A m c] 22)) (Obj.cells #[Value.string (n ++ dotTmp)] 9)
  have hBW := below_step hb1 (below_step hb2 (below_step hb3 hb4))
  have hsz : W.heap.size = w.heap.size + 1 + 1 + 1 + 1 := by rw [hW]; simp
  simp only [World.size_alloc] at c4 c5 c7
  obtain ⟨r, hr0⟩ : ∃ r, r = w.heap.size := ⟨_, rfl⟩
  have HBW := Aside0.mk hBW
  rw [← hW] at c3 c4 c5 c7 HBW
  rw [← hr0] at c3 c4 c5 c7 hsz
  have HC := Aside0.mk (And.intro c3 (And.intro c4 (And.intro c5 (And.intro c7 hsz))))
  clear hb1 hb2 hb3 hb4 c4 c5 c7 hBW hsz
  go_upto_region 2 with (fail)
  rw [← hW, ← hr0]
  have HR0 := Aside0.mk hr0
  clear hW hr0
  have x3 : W.cell? ⟨r, 0, none⟩ = some (.pointer (some ⟨g, 0, none⟩)) := blk_cell c3 0
  clear c3
  have hbV := below_alloc (Below.refl W.heap.size W) (.cells #[.func (.func 49) #[] #[.pointer (some ⟨r, 0, none⟩), .pointer (some ⟨r + 1 + 1 + 1, 0, none⟩)], .func (.func 50) #[] #[.pointer (some ⟨r, 0, none⟩), .pointer (some ⟨r + 1 + 1 + 1, 0, none⟩), .pointer (some ⟨r + 1 + 1, 0, none⟩)], .func (.func 51) #[] #[.pointer (some ⟨r, 0, none⟩), .pointer (some ⟨r + 1 + 1 + 1, 0, none⟩)], .func (.func 52) #[] #[.pointer (some ⟨r, 0, none⟩), .pointer (some ⟨r + 1 + 1 + 1, 0, none⟩), .pointer (some ⟨r + 1, 0, none⟩)], .func (.func 23) #[.pointer (some ⟨g, 0, none⟩)] #[]] 41)
  have hBX : Boxes (W.alloc (.cells #[.func (.func 49) #[] #[.pointer (some ⟨r, 0, none⟩), .pointer (some ⟨r + 1 + 1 + 1, 0, none⟩)], .func (.func 50) #[] #[.pointer (some ⟨r, 0, none⟩), .pointer (some ⟨r + 1 + 1 + 1, 0, none⟩), .pointer (some ⟨r + 1 + 1, 0, none⟩)], .func (.func 51) #[] #[.pointer (some ⟨r, 0, none⟩), .pointer (some ⟨r + 1 + 1 + 1, 0, none⟩)], .func (.func 52) #[] #[.pointer (some ⟨r, 0, none⟩), .pointer (some ⟨r + 1 + 1 + 1, 0, none⟩), .pointer (some ⟨r + 1, 0, none⟩)], .func (.func 23) #[.pointer (some ⟨g, 0, none⟩)] #[]] 41)) g (n ++ dotTmp) n A m c r (r + 1) (r + 1 + 1) (r + 1 + 1 + 1) W.heap.size :=
    ⟨blk_below HC.out.1 hbV, blk_below HC.out.2.1 hbV, blk_below HC.out.2.2.1 hbV, blk_below HC.out.2.2.2.1 hbV, blk_new W _⟩
  have hBV : Below w.heap.size w (W.alloc (.cells #[.func (.func 49) #[] #[.pointer (some ⟨r, 0, none⟩), .pointer (some ⟨r + 1 + 1 + 1, 0, none⟩)], .func (.func 50) #[] #[.pointer (some ⟨r, 0, none⟩), .pointer (some ⟨r + 1 + 1 + 1, 0, none⟩), .pointer (some ⟨r + 1 + 1, 0, none⟩)], .func (.func 51) #[] #[.pointer (some ⟨r, 0, none⟩), .pointer (some ⟨r + 1 + 1 + 1, 0, none⟩)], .func (.func 52) #[] #[.pointer (some ⟨r, 0, none⟩), .pointer (some ⟨r + 1 + 1 + 1, 0, none⟩), .pointer (some ⟨r + 1, 0, none⟩)], .func (.func 23) #[.pointer (some ⟨g, 0, none⟩)] #[]] 41)) := below_step HBW.out hbV
  have hno : ∀ k, r ≤ k → ¬ own k := fun k hk ho => by have := HO.out.2.1 k ho; have := HR0.out; omega
  have hit := inTurn_calls ys HR.out.1 _ (HPZ.out _ hBV) hBX ⟨hno _ (by omega), hno _ (by omega), hno _ (by omega), hno _ (by omega), hno _ (by have := HC.out.2.2.2.2; omega)⟩ (HR.out.2.1.below hBV) (by
    rcases HR.out.2.2.1 with h | h
    · exact .inl h
    · rcases HR.out.2.2.2.1 with h2 | h2
      · exact .inl h2
      · exact .inr fun ad e => ⟨h ad e, Nat.lt_of_lt_of_le (h2 ad e) hBV.size⟩) HR.out.2.2.2.2.1 HR.out.2.2.2.2.2.1 HR.out.2.2.2.2.2.2
  have HT := Aside0.mk (HO.out.2.2.then_below hBV)
  clear hbV hBX hBV hno
  go_wp2_with (go_at_call 48; refine hit.mono ?_; rintro e w1 ⟨rfl, h⟩; have H1 := Aside0.mk h; clear h hit)
  go_ret
  exact ⟨rfl, H1.out.back HO.out.1 HT.out⟩
theorem C_of_BR {w : World} {A : Option Addr} {xs : List Int} (h : BR w A xs) (hl : xs.length ≤ 1000000) : Kd.C (Kd.int .u8) w A xs.length xs := by
  refine ⟨rfl, by omega, fun h0 => ?_⟩
  rcases h with h | ⟨a, e, hc⟩
  · rw [h] at h0
    exact absurd h0 (Nat.lt_irrefl 0)
  · refine ⟨a, e, fun j p hj => ⟨[.int .u8 p], rfl, rfl, fun i u hi => ?_⟩⟩
    cases i with
    | zero =>
      have hu : Value.int .u8 p = u := Option.some.inj hi
      rw [← hu, show j * (Kd.int .u8).sz + 0 = j from by show j * 1 + 0 = j; omega]
      exact hc j _ (by rw [List.getElem?_map, hj]; rfl)
    | succ i => cases hi
theorem R_BR {w : World} {base : Nat} {v : Value} {xs : List Int} (h : Kd.R (Kd.int .u8) 5 w base (fun _ => True) v xs) : ∃ A c, v = .slice A xs.length c ∧ xs.length ≤ c ∧ BR w A xs ∧ ∀ ad, A = some ad → base ≤ ad.block ∧ ad.block < w.heap.size := by
  obtain ⟨A, c, rfl, hc, hC⟩ := Kd.R_reads h
  obtain ⟨inner, hO⟩ := Kd.R_own h
  refine ⟨A, c, rfl, hc, br_of_C hC, fun ad e => ?_⟩
  subst e
  rcases hO.2 with ⟨e, _⟩ | ⟨b, cap, cur, e, h1, h2, _⟩
  · cases e
  · injection e with e
    injection e with e
    subst e
    exact ⟨h1, blk_lt h2⟩
theorem row_cap {w : World} {base : Nat} {A : Option Addr} {n c : Nat} {e : TypeId} {sz : Nat} {xs : List Value} (h : w.ownsRow base e sz (.slice A n c) n xs) : n ≤ c := by
  rcases h.2 with ⟨e, h0⟩ | ⟨b, cap, cur, e, _, _, h3, _⟩
  · omega
  · injection e with _ _ e
    omega
theorem rec_small (ys : List Int) (h : ys.length ≤ 1000) : (FrameLib.recL ys).length ≤ 1020 := by
  have h1 := FrameLib.rec_len ys
  have h2 := NumLib.putn_len (ys.length : Int) (by omega) (by omega)
  omega
set_option maxHeartbeats 8000000 in
set_option maxRecDepth 100000 in
theorem save_calls {wB : World} {B : Nat → Prop} {g : Nat} {S : FsS} (n : ByteArray) (hnl : n.size ≤ 1000) (A : Option Addr) (m c : Nat) (ys : List Int) (hm : m = ys.length) (hc : ys.length ≤ c) (w : World) (h : One wB B w g S) (hr : BR w A ys) (hby : NumLib.Bytes ys) (hyl : ys.length ≤ 1000) (hops : S.ops ≤ 1000) (hdat : S.dat ≤ 100000) :
    Calls Tryd.prog 15 #[.pointer (some ⟨g, 0, none⟩), .string n, .slice A m c] w fun e w' => e = .returned (.int .i64 (turnS (n ++ dotTmp) n (FrameLib.recL ys) 5 S).1) ∧ One wB B w' g (turnS (n ++ dotTmp) n (FrameLib.recL ys) 5 S).2 := by
  obtain ⟨own, ho1, ho2, ho3, hpz⟩ := h.pauseM
  have HO := Aside0.mk (And.intro ho1 (And.intro ho2 ho3))
  have HPZ := Aside0.mk hpz
  have hrl := rec_small ys hyl
  obtain ⟨zs, hz⟩ : ∃ zs, zs = FrameLib.recL ys := ⟨_, rfl⟩
  have hput := FrameLib.put_f 30 (by decide) [] ys hby (by simp) (by omega)
  rw [List.nil_append, ← hz] at hput
  rw [← hz] at hrl ⊢
  have hpc := PFr.frame_Put.calls 30 none 0 [] A c ys zs 0 w ⟨rfl, by decide, fun h => absurd h (Nat.lt_irrefl 0)⟩ (Nat.le_refl 0) (C_of_BR hr (by omega)) hc hput
  have HR := Aside0.mk (And.intro hnl (And.intro hrl (And.intro hops hdat)))
  rw [← hm, List.length_nil] at hpc
  clear ho1 ho2 ho3 hpz h hr hops hdat hyl hm hby hc hz hput hrl hnl
  go_enter Tryd.func15, Tryd.ntmps15
  go_upto_region 2 with (go_at_call 34; refine hpc.mono ?_; rintro e w1 ⟨v, rfl, hR, hb⟩; obtain ⟨A1, c1, rfl, _, hbr, hA1⟩ := R_BR hR; have HB := Aside0.mk hb; have HA1 := Aside0.mk (And.intro hbr hA1); clear hR hb hbr hA1 hpc)
  obtain ⟨p, hp⟩ : ∃ p, p = zs.length := ⟨_, rfl⟩
  have hrp := replace_calls n HR.out.1 A1 p c1 zs hp w1 (HPZ.out w1 HB.out) HA1.out.1 (.inr fun ad e => ⟨fun hk => by have := HO.out.2.1 _ hk; have := (HA1.out.2 ad e).1; omega, (HA1.out.2 ad e).2⟩) HR.out.2.2.1 HR.out.2.2.2 (by have := HR.out.2.1; omega)
  rw [← hp]
  have HT := Aside0.mk (HO.out.2.2.then_below HB.out)
  clear hp
  go_wp2_with (go_at_call 35; refine hrp.mono ?_; rintro e w2 ⟨rfl, h⟩; have H1 := Aside0.mk h; clear h hrp)
  go_ret
  exact ⟨rfl, H1.out.back HO.out.1 HT.out⟩
end Go.Proofs.YtnnlmackofopeaaDoor.Fs
