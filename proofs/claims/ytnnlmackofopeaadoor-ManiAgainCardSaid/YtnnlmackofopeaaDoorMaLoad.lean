/- Contract of mani's Load. -/
import Derived.Test.YtnnlmackofopeaaDoorMaSave
namespace Go.Proofs.YtnnlmackofopeaaDoor.Fs
open Go.RowKit Go.Lib Go.Maps Go.Shelf Go.Sort Go.Proofs.YtnnlmackofopeaaDoorW.PrintWords Go.Proofs.YtnnlmackofopeaaDoorW.PrintLast Go.Proofs.YtnnlmackofopeaaDoorW.PrintMore
set_option linter.unusedVariables false
set_option linter.unusedSimpArgs false
set_option maxHeartbeats 8000000 in
set_option maxRecDepth 100000 in
theorem load_ok {wB w : World} {B : Nat → Prop} {g : Nat} {S : FsS} (h : One wB B w g S) (n : ByteArray) (ys : List Int) (hrd : S.read n = (0, FrameLib.recL ys)) (hby : NumLib.Bytes ys) (hyl : ys.length ≤ 1000) (hdat : S.dat ≤ 100000) :
    Calls Tryd.prog 18 #[.pointer (some ⟨g, 0, none⟩), .string n] w fun e w' => ∃ A c, e = .returned (.tuple #[.slice A ys.length c, .int .i64 0]) ∧ BR w' A ys ∧ Below w.heap.size w w' ∧ One wB B w' g S := by
  have hr := h.read n (by omega)
  rw [hrd] at hr
  have hrl := rec_small ys hyl
  have hget := FrameLib.get_f 10 (by decide) (FrameLib.recL ys) (FrameLib.rec_bytes ys hby (by omega)) (by omega)
  have hrec := FrameLib.getR_rec ys [] (by omega)
  rw [List.append_nil] at hrec
  rw [hrec] at hget
  obtain ⟨zs, hz⟩ : ∃ zs, zs = FrameLib.recL ys := ⟨_, rfl⟩
  rw [← hz] at hrl hget hr
  have HR := Aside0.mk (And.intro hrl (And.intro hget hyl))
  clear hrl hget hrec hrd h hby hyl hdat hz
  go_enter Tryd.func18, Tryd.ntmps18
  go_upto_region 2 with (go_at_call 26; refine hr.mono ?_; rintro e w1 ⟨v, rfl, hrow, hb, h⟩; obtain ⟨A1, c1, rfl, hbr, _⟩ := row_BR (xs := zs) hrow; have HB := Aside0.mk (show Below w.heap.size w w1 from hb); have HA1 := Aside0.mk (And.intro hbr (row_cap hrow)); have H1 := Aside0.mk h; clear h hb hbr hrow hr)
  have hgc := PFr.frame_Get.calls 10 A1 c1 zs ys (zs.length : Int) 0 w1 (C_of_BR HA1.out.1 (by have := HR.out; omega)) HA1.out.2 HR.out.2.1
  go_wp2_with (go_at_call 38; refine hgc.mono ?_; rintro e w2 ⟨v, rfl, hR, hb⟩; obtain ⟨A2, c2, rfl, _, hbr, _⟩ := R_BR hR; have HB2 := Aside0.mk (show Below w1.heap.size w1 w2 from hb); have HA2 := Aside0.mk hbr; clear hR hb hbr hgc)
  go_ret2
  exact ⟨A2, c2, rfl, HA2.out, below_step HB.out HB2.out, H1.out.below HB2.out⟩
set_option maxHeartbeats 8000000 in
set_option maxRecDepth 100000 in
theorem load_none {wB w : World} {B : Nat → Prop} {g : Nat} {S : FsS} (h : One wB B w g S) (n : ByteArray) (hrd : S.read n = (7, [])) (hdat : S.dat ≤ 100000) :
    Calls Tryd.prog 18 #[.pointer (some ⟨g, 0, none⟩), .string n] w fun e w' => e = .returned (.tuple #[.slice none 0 0, .int .i64 7]) ∧ Below w.heap.size w w' ∧ One wB B w' g S := by
  have hr := h.read n (by omega)
  rw [hrd] at hr
  clear hrd h hdat
  go_enter Tryd.func18, Tryd.ntmps18
  go_wp2_with (go_at_call 26; refine hr.mono ?_; rintro e w1 ⟨v, rfl, hrow, hb, h⟩; obtain ⟨A1, c1, rfl⟩ := row_slice hrow; have HB := Aside0.mk (show Below w.heap.size w w1 from hb); have H1 := Aside0.mk h; clear h hb hrow hr)
  go_ret2
  exact ⟨rfl, HB.out, H1.out⟩
end Go.Proofs.YtnnlmackofopeaaDoor.Fs
