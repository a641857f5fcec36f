/- Contract of the laws' shown (layer 20). -/
import Derived.Test.YtnnlmackofopeaaDoorMaCrash
import Derived.Test.YtnnlmackofopeaaDoorMaLoad
import Derived.Test.YtnnlmackofopeaaDoorFsSame
namespace Go.Proofs.YtnnlmackofopeaaDoor.Fs
open Go.RowKit Go.Lib Go.Maps Go.Shelf Go.Sort Go.Proofs.YtnnlmackofopeaaDoorW.PrintWords Go.Proofs.YtnnlmackofopeaaDoorW.PrintLast Go.Proofs.YtnnlmackofopeaaDoorW.PrintMore
set_option linter.unusedVariables false
set_option linter.unusedSimpArgs false
theorem saveA_calls {wB : World} {B : Nat → Prop} {g : Nat} {S : FsS} (A : Option Addr) (m c : Nat) (ys : List Int) (hm : m = ys.length) (hc : ys.length ≤ c) (w : World) (h : One wB B w g S) (hr : BR w A ys) (hby : NumLib.Bytes ys) (hyl : ys.length ≤ 1000) (hops : S.ops ≤ 1000) (hdat : S.dat ≤ 100000) :
    Calls Tryd.prog 15 #[.pointer (some ⟨g, 0, none⟩), .string na, .slice A m c] w fun e w' => e = .returned (.int .i64 (turnS nT na (FrameLib.recL ys) 5 S).1) ∧ One wB B w' g (turnS nT na (FrameLib.recL ys) 5 S).2 := by
  have h := save_calls na (by decide) A m c ys hm hc w h hr hby hyl hops hdat
  rw [show na ++ dotTmp = nT from nT_eq] at h
  exact h
theorem conv_runN (w : World) (cs : Array Value) (n : Nat) : (convert 22 22 (.slice (some ⟨w.heap.size, 0, none⟩) n n)).run Tryd.prog (w.alloc (.cells cs 5)) = .ok (.slice (some ⟨w.heap.size, 0, none⟩) n n) ((w.alloc (.cells cs 5)).freeze ⟨w.heap.size, cs.size, none⟩ 1) := by
  have hsh : (w.alloc (.cells cs 5)).shape? w.heap.size = some (5, cs.size) := by
    simp [World.shape?, World.alloc, -World.alloc_eq]
  simp [convert, run_underlying Tryd.underlying22, run_underlying Tryd.underlying5, markStringish, hsh, Result.andThen]
theorem conv_x (w : World) (x : Value) : (convert 22 22 (.slice (some ⟨w.heap.size, 0, none⟩) 1 1)).run Tryd.prog (w.alloc (.cells #[x] 5)) = .ok (.slice (some ⟨w.heap.size, 0, none⟩) 1 1) (w.alloc (.cells #[x] 5 (1, 2))) := by
  have h := conv_runN w #[x] 1
  rw [freeze_eq] at h
  exact h
abbrev oX : Obj := .cells #[.int .u8 120] 5 (1, 2)
theorem br_x (w : World) : BR (w.alloc oX) (some ⟨w.heap.size, 0, none⟩) [120] := by
  refine .inr ⟨_, rfl, fun j u hu => ?_⟩
  have hb := blk_new w oX
  have hadd : (⟨w.heap.size, 0, none⟩ : Addr).add j = ⟨w.heap.size, j, none⟩ := by unfold Addr.add; split <;> simp_all
  rw [hadd, cell_of_row _ _ j _ 5 (1, 2) hb]
  have hj : j < 1 := by
    have := (List.getElem?_eq_some_iff.1 hu).1
    simpa using this
  match j, hj with
  | 0, _ => exact hu
theorem bytes_x : NumLib.Bytes [120] := fun x hx => by
  rw [List.mem_singleton.1 hx]
  exact ⟨by decide, by decide⟩
theorem sx_turn : turnS nT na (FrameLib.recL [120]) 5 (fs0 100) = (0, sv (fs0 100) (FrameLib.recL [120]) 5 0) := by
  have h1 := FrameLib.rec_len [120]
  have h2 := NumLib.putn_len ((([120] : List Int).length : Nat) : Int) (by decide) (by decide)
  have h3 : ([120] : List Int).length = 1 := rfl
  have h4 : (sv (fs0 100) (FrameLib.recL [120]) 1 0).used ≤ 2 * 0 := small_used (p := none) (y := some 0) (fun f hf => by
    have hf2 : f ∈ ([] : List (List Int × Nat)) ++ [([], 0)] := hf
    rw [List.nil_append] at hf2
    rw [List.mem_singleton.1 hf2]
    exact Nat.le_refl 0) (sv1_names (p := none) (y := none) rfl 0)
  have h := turn_free (S := fs0 100) (zs := FrameLib.recL [120]) (l := 0) rfl (x := none) (y := none) rfl (by
    show _ ≤ (100 : Int)
    omega) 5 (Nat.le_refl 5)
  rw [Nat.sub_self] at h
  exact h
set_option maxHeartbeats 8000000 in
set_option maxRecDepth 100000 in
theorem shownM_calls (w : World) : Calls Tryd.prog 13 #[] w fun e w' => e = .returned (.bool true) ∧ Below w.heap.size w w' := by
  have hcv := conv_x
  go_enter Tryd.func13, Tryd.ntmps13
  go_upto_region 2 with (go_at_call 14; refine (one_new 100 w).mono ?_; rintro e w1 ⟨g, rfl, h⟩; have H0 := Aside0.mk h; clear h)
  have hsv := saveA_calls (some ⟨w1.heap.size, 0, none⟩) 1 1 [120] rfl (Nat.le_refl 1) (w1.alloc oX) (H0.out.below (below_alloc (Below.refl _ _) oX)) (br_x w1) bytes_x (by decide) (by decide) (by decide)
  rw [sx_turn] at hsv
  go_upto_region 3 with (go_at_call 15; refine hsv.mono ?_; rintro e w2 ⟨rfl, h⟩; have H1 := Aside0.mk h; clear h H0 hsv)
  clear hcv
  have hld := load_ok H1.out na [120] (sv5_read (p := none) (y := none) rfl 0) bytes_x (by decide) (by
    have h1 := rec_small [120] (by decide)
    show 0 + (FrameLib.recL [120]).length ≤ 100000
    omega)
  go_upto_region 4 with (go_at_call 18; refine hld.mono ?_; rintro e w3 ⟨A, c, rfl, hbr, hb, h⟩; have HBR := Aside0.mk hbr; have H2 := Aside0.mk h; clear h hb hbr hld H1)
  have s1 : (convert 22 9 (.slice A 1 c)).run Tryd.prog w3 = .ok (.string ⟨#[120]⟩) w3 := str_BR HBR.out c
  have hls := H2.out.listS (by decide)
  rw [sv5_names (p := none) (y := none) rfl, nm_list] at hls
  go_wp2_with (first
    | (go_at_call 20; refine hls.mono ?_; rintro e w4 ⟨LA, lc, rfl, hn, hs, hA, hb, h⟩; have H3 := Aside0.mk h; have hsm := same_calls [na] 1 rfl (show 1 ≤ maxLen by decide) LA lc (some ⟨w4.heap.size, 0, none⟩) 1 (w4.alloc (.cells #[.string na] 9)) (hs.below (below_alloc (Below.refl _ _) (.cells #[.string na] 9))) (SR.one w4 na); clear h hs hA hb hn hls)
    | (go_at_call 19; refine hsm.mono ?_; rintro e w5 ⟨rfl, hb⟩; have HB5 := Aside0.mk (show Below w4.heap.size w4 w5 from below_step (below_alloc (Below.refl _ _) (.cells #[.string na] 9)) hb); clear hb hsm))
  go_ret
  exact ⟨rfl, below_step H3.out.bel HB5.out⟩
end Go.Proofs.YtnnlmackofopeaaDoor.Fs
