/- Contracts of (*Fs).change, Rename, Remove. -/
import Derived.Test.YtnnlmackofopeaaDoorFsMore
namespace Go.Proofs.YtnnlmackofopeaaDoor.Fs
open Go.RowKit Go.Lib Go.Maps Go.Proofs.YtnnlmackofopeaaDoorW.PrintWords Go.Proofs.YtnnlmackofopeaaDoorW.PrintLast Go.Proofs.YtnnlmackofopeaaDoorW.PrintMore
set_option linter.unusedVariables false
set_option linter.unusedSimpArgs false
theorem info20 : (Tryd.prog.info? 20).map (fun i => (i.zero, i.size, i.bytes)) = some (some .nilIface, 1, 16) := by kernel_rfl
theorem info68 : (Tryd.prog.info? 68).map (fun i => (i.zero, i.size, i.bytes)) = some (some (.pointer none), 1, 8) := by kernel_rfl
def FsS.chg (S : FsS) (c : Chg) : FsS := { S with names := c.app S.names, changes := S.changes ++ [c], ops := S.ops + 1 }
theorem val_iface (c : Chg) : ∃ t p, c.val = .iface t p := by
  cases c with
  | link n i => exact ⟨_, _, rfl⟩
  | gone n => exact ⟨_, _, rfl⟩
  | moved n i o => exact ⟨_, _, rfl⟩
theorem row_slice {w : World} {base : Nat} {e : TypeId} {sz n : Nat} {v : Value} {xs : List Value} (h : w.ownsRow base e sz v n xs) : ∃ A c, v = .slice A n c := by
  rcases h.2 with ⟨rfl, rfl⟩ | ⟨g, cap, cur, rfl, _⟩
  · exact ⟨none, 0, rfl⟩
  · exact ⟨_, cap, rfl⟩
/-- A row of another type is written: the head lies. -/
theorem FsAt.head_kept {w W : World} {own : Nat → Prop} {g : Nat} {S : FsS} {G : FsG} {v : Value} {e : TypeId} {n base sz : Nat} {xs : List Value} (h : FsAt w own g S G) (hr : w.ownsRow base e sz v n xs) (he : e ≠ 65) (hg : w.grownBy W v.ownBlock) : W.heap[g]? = w.heap[g]? :=
  hg.block g (blk_lt h.blk) (fun q => by
    obtain ⟨_, cells', hc'⟩ := row_typed hr g q.symm
    exact ne_of_type hc' h.blk he rfl)
set_option maxHeartbeats 4000000 in
set_option maxRecDepth 100000 in
theorem change_calls (c : Chg) (w : World) (own : Nat → Prop) (g : Nat) (S : FsS) (hS : FsIs w own g S) (hc : c.okL S.files.length) (hops : S.ops ≤ 100000) :
    Calls Tryd.prog 42 #[.pointer (some ⟨g, 0, none⟩), c.val] w fun e w' => e = .returned (.tuple #[]) ∧ FsIs w' (More own w w') g (S.chg c) ∧ Turn own w w' := by
  obtain ⟨G, hG⟩ := hS
  obtain ⟨t, p, hv⟩ := val_iface c
  have hb := hG.bnd
  have hap := apply_calls c S.files.length hc (by omega) S.names G.nb G.nn (by omega) w hG.nm
  rw [hv] at hap ⊢
  have hb0 := hG.blk
  have c4 : w.cell? ⟨g, 4, none⟩ = some (.map (some G.nb)) := blk_cell hb0 4
  obtain ⟨A, cc, hcv⟩ := row_slice hG.cv
  have HG := Aside0.mk hG
  have HC := Aside0.mk hc
  have HV := Aside0.mk hv
  have HCV := Aside0.mk hcv
  have HB := Aside0.mk (And.intro hb hops)
  clear hG hb0 hc hv hb hops hcv
  go_enter Tryd.func42, Tryd.ntmps42
  go_upto_region 1 with (go_at_call 36; refine hap.mono ?_; rintro e w1 ⟨rfl, hm, hg⟩; have HM1 := Aside0.mk hm; have HG1 := Aside0.mk hg; clear hm hg hap)
  have HN := Aside0.mk (HG.out.onNames c HC.out HG1.out HM1.out)
  have hb1 := HN.out.blk
  have c6 : w1.cell? ⟨g, 6, none⟩ = some G.cv := blk_cell hb1 6
  have f6 := blk_frozen hb1 6
  rw [HCV.out] at c6
  have HT1 := Aside0.mk (Turn.grown (own := own) HG1.out (fun k hk => by injection hk with hk; rw [← hk]; exact HG.out.om.1))
  have HO1 := Aside0.mk (show w1.ownsRow 0 20 1 (.slice A S.changes.length cc) S.changes.length (S.changes.map Chg.val) from HCV.out ▸ HN.out.cv)
  clear hb1 c4
  go_wp2_with ((with_reducible refine gate_builtin (b := .append) (xs := #[.tmp 14, .tmp 16]) rfl ?_); at_builtin; refine print_append_cells (w0 := w1) 0 rfl (.tmp 14) (.tmp 16) 63 20 .nilIface 1 16 rfl Tryd.underlying63 info20 rfl (by decide) (by decide) (.slice A S.changes.length cc) S.changes.length (S.changes.map Chg.val) [.iface t p] rfl rfl rfl ?h1 ?HO ?HB ?hb ?hl ?_)
  case h1 => intro u hu; rw [List.mem_singleton.1 hu]; rfl
  case HO => exact HO1.out
  case HB => exact Below.refl _ _
  case hb => exact Nat.zero_le _
  case hl => have := HB.out; omega
  intro v2 w2 hrow hbel hgr hat
  have hg2 : w1.grownBy w2 G.cv.ownBlock := by rw [HCV.out]; exact hgr
  have hh2 := HN.out.head_kept (v := G.cv) HN.out.cv (by decide) hg2
  have hb2 := hh2.trans HN.out.blk
  have c6 : w2.cell? ⟨g, 6, none⟩ = some G.cv := blk_cell hb2 6
  have f6 := blk_frozen hb2 6
  have HP := Aside0.mk (HN.out.pushC c HC.out v2 hg2 (by rw [HV.out]; exact hrow) (by
    rcases hat with h | ⟨b, h1, h2⟩
    · exact .inl (by rw [h, HCV.out])
    · exact .inr ⟨b, h1, h2⟩) (by show G.dn + S.changes.length + 1 ≤ S.ops + 1; have := HB.out; omega))
  clear hg2 hh2 hb2 hrow hbel hgr hat
  obtain ⟨A2, c2, rfl⟩ : ∃ A2 c2, v2 = .slice A2 (S.changes.length + 1) c2 := by
    have := HP.out.1.cv
    obtain ⟨A2, c2, h⟩ := row_slice this
    refine ⟨A2, c2, ?_⟩
    have e : v2 = .slice A2 (S.changes ++ [c]).length c2 := h
    rw [List.length_append, List.length_singleton] at e
    exact e
  go_wp2
  go_end0
  refine ⟨rfl, ⟨_, HP.out.1.move (fun _ _ _ => rfl) (fun k hk => ?_)⟩, HT1.out.trans HP.out.2 (fun _ h => .inl h)⟩
  rcases hk with hk | hk
  · exact .inl hk
  · exact .inr ⟨Nat.le_trans HT1.out.size hk.1, hk.2⟩
end Go.Proofs.YtnnlmackofopeaaDoor.Fs
