/- Contracts of (*Fs).of, apply, (*Fs).change. -/
import Derived.Test.YtnnlmackofopeaaDoorFsBegin
import Derived.StringKeys
namespace Go.Proofs.YtnnlmackofopeaaDoor.Fs
open Go.RowKit Go.Lib Go.Maps Go.Proofs.YtnnlmackofopeaaDoorW.PrintWords Go.Proofs.YtnnlmackofopeaaDoorW.PrintLast Go.Proofs.YtnnlmackofopeaaDoorW.PrintMore
set_option linter.unusedVariables false
set_option linter.unusedSimpArgs false
theorem keyLaw : Keyed Tryd.prog 9 := string_keyed Tryd.underlying9
theorem zero3 (w : World) : (zeroValue 3).run Tryd.prog w = .ok (.int .i64 0) w := by kernel_rfl
/-- A name's file: its place. -/
def FsS.at_ (S : FsS) (n : ByteArray) : Option Nat := if has S.names (kl n) = true then (match S.names.atKey (kl n) .nil with | .lit (.int .i64 i) => some i.toNat | _ => none) else none
theorem at_some {S : FsS} {n : ByteArray} {L : Nat} (hl : Leads S.names L) (h : has S.names (kl n) = true) : ∃ i, i < L ∧ S.at_ n = some i ∧ ∀ z, S.names.atKey (kl n) z = num i := by
  obtain ⟨i, h1, h2⟩ := hl _ h
  refine ⟨i, h1, ?_, h2⟩
  unfold FsS.at_
  rw [if_pos h, h2]
  simp
theorem at_none {S : FsS} {n : ByteArray} (h : has S.names (kl n) = false) : S.at_ n = none := by
  unfold FsS.at_
  rw [if_neg (by rw [h]; decide)]
/-- A file's cells, by its place. -/
theorem FsAt.get {w : World} {own : Nat → Prop} {g : Nat} {S : FsS} {G : FsG} (h : FsAt w own g S G) (i : Nat) (hi : i < S.files.length) : ∃ b v f fb cap, G.fs[i]? = some (b, v) ∧ S.files[i]? = some f ∧ G.fv = .slice (some ⟨fb, 0, none⟩) S.files.length cap ∧ w.cell? ⟨fb, i, none⟩ = some (ptr b) := by
  have hi2 : i < G.fs.length := by rw [h.len]; exact hi
  obtain ⟨hl, hv⟩ := h.fv
  rcases hv with ⟨_, h0⟩ | ⟨fb, cap, cur, e, _, hc, h1, _, h2, h3⟩
  · omega
  · refine ⟨G.fs[i].1, G.fs[i].2, S.files[i], fb, cap, List.getElem?_eq_getElem hi2, List.getElem?_eq_getElem hi, e, ?_⟩
    rw [blk_cell hc i]
    have h4 : (cur.toList.take (S.files.length * 1))[i]? = (G.fs.map (fun x => ptr x.1))[i]? := by rw [h3]
    rw [List.getElem?_take_of_lt (by omega), List.getElem?_map, List.getElem?_eq_getElem hi2] at h4
    rw [← Array.getElem?_toList]
    exact h4
set_option maxHeartbeats 2000000 in
set_option maxRecDepth 100000 in
/-- (*Fs).of: the file that has a name. -/
theorem of_calls (n : ByteArray) (hn : n.size ≤ maxLen) (w : World) (own : Nat → Prop) (g : Nat) (S : FsS) (G : FsG) (hG : FsAt w own g S G) :
    Calls Tryd.prog 43 #[.pointer (some ⟨g, 0, none⟩), .string n] w fun e w' => w' = w ∧ ((has S.names (kl n) = false ∧ e = .returned (.tuple #[.pointer none, .int .i64 7])) ∨
      ∃ i b v, S.at_ n = some i ∧ G.fs[i]? = some (b, v) ∧ i < S.files.length ∧ e = .returned (.tuple #[.pointer (some ⟨b, 0, none⟩), .int .i64 0])) := by
  have hb0 := hG.blk
  have c4 : w.cell? ⟨g, 4, none⟩ = some (.map (some G.nb)) := blk_cell hb0 4
  have c3 : w.cell? ⟨g, 3, none⟩ = some G.fv := blk_cell hb0 3
  have hkey : keyOf Tryd.prog 9 (.string n) = some (kl n) := WideMaps.keyOf_string_mk Tryd.underlying9 hn
  have HG := Aside0.mk hG
  have HK := Aside0.mk hkey
  clear hG hb0 hkey
  obtain ⟨hb, hhb⟩ : ∃ hb, hb = has S.names (kl n) := ⟨_, rfl⟩
  cases hb with
  | false =>
    have HH := Aside0.mk hhb.symm
    clear hhb
    go_enter Tryd.func43, Tryd.ntmps43
    go_wp2_with (at_lookup; refine wpList_lookup_own_ok_int _ rfl _ _ 61 rfl 9 3 .i64 keyLaw Tryd.underlying61 Tryd.underlying3 (zero3 _) G.nb G.nn S.names rfl HG.out.nm _ _ rfl HK.out ?_; intro c hat hwc; rw [HH.out]; clear hat hwc)
    go_ret2
    exact ⟨rfl, .inl ⟨HH.out, rfl⟩⟩
  | true =>
    obtain ⟨i, h1, h2, h3⟩ := at_some HG.out.ln hhb.symm
    obtain ⟨b, v, f, fb, cap, h4, h5, h6, h7⟩ := HG.out.get i h1
    have HH := Aside0.mk hhb.symm
    have H1 := Aside0.mk h1
    have H2 := Aside0.mk h2
    have H3 := Aside0.mk (h3 (.lit (.int .i64 0)))
    have H4 := Aside0.mk h4
    rw [h6] at c3
    have e1 : ((i : Int) < (S.files.length : Int)) = True := eq_true (by omega)
    have e2 : (i < S.files.length) = True := eq_true h1
    unfold ptr at h7
    clear hhb h1 h2 h3 h4 h5 h6
    go_enter Tryd.func43, Tryd.ntmps43
    go_wp2_with (at_lookup; refine wpList_lookup_own_ok_int _ rfl _ _ 61 rfl 9 3 .i64 keyLaw Tryd.underlying61 Tryd.underlying3 (zero3 _) G.nb G.nn S.names rfl HG.out.nm _ _ rfl HK.out ?_; intro c hat hwc; rw [HH.out]; obtain rfl : c = (i : Int) := (by rw [H3.out] at hat; unfold num at hat; injection hat with h_; injection h_ with _ h_; exact h_.symm); clear hat hwc)
    go_ret2
    exact ⟨rfl, .inr ⟨i, b, v, H2.out, H4.out, H1.out, rfl⟩⟩
theorem ta81_81 (v : Value) (w : World) : (Instr.typeAssert (.iface 81 v) 20 81 true).run Tryd.prog w = .ok (.tuple #[v, .bool true]) w := by
  have u := run_underlying (P := Tryd.prog) Tryd.underlying81
  simp [Instr.typeAssert, u, Result.andThen]
theorem ta87_81 (v : Value) (w : World) : (Instr.typeAssert (.iface 87 v) 20 81 true).run Tryd.prog w = .ok (.tuple #[.agg #[.string ⟨#[]⟩, .int .i64 0], .bool false]) w := by kernel_rfl
theorem ta90_81 (v : Value) (w : World) : (Instr.typeAssert (.iface 90 v) 20 81 true).run Tryd.prog w = .ok (.tuple #[.agg #[.string ⟨#[]⟩, .int .i64 0], .bool false]) w := by kernel_rfl
theorem ta87_87 (v : Value) (w : World) : (Instr.typeAssert (.iface 87 v) 20 87 true).run Tryd.prog w = .ok (.tuple #[v, .bool true]) w := by
  have u := run_underlying (P := Tryd.prog) Tryd.underlying87
  simp [Instr.typeAssert, u, Result.andThen]
theorem ta90_87 (v : Value) (w : World) : (Instr.typeAssert (.iface 90 v) 20 87 true).run Tryd.prog w = .ok (.tuple #[.agg #[.string ⟨#[]⟩], .bool false]) w := by kernel_rfl
theorem ta90_90 (v : Value) (w : World) : (Instr.typeAssert (.iface 90 v) 20 90 false).run Tryd.prog w = .ok v w := by
  have u := run_underlying (P := Tryd.prog) Tryd.underlying90
  simp [Instr.typeAssert, u, Result.andThen]
theorem wf_small (i : Nat) (hi : i ≤ 1000000) : (Lit.int .i64 (i : Int)).wf = true := by simp [Lit.wf, IntKind.min, IntKind.max, IntKind.bits, IntKind.signed]; omega
set_option maxHeartbeats 2000000 in
set_option maxRecDepth 100000 in
theorem apply_link (n : ByteArray) (hn : n.size ≤ maxLen) (i : Nat) (hi : i ≤ 1000000) (D : Names) (b nn : Nat) (hnn : nn ≤ 1000000) (w : World) (hm : w.ownsMap Tryd.prog 9 (plainElem Tryd.prog 3) b nn D) :
    Calls Tryd.prog 36 #[.map (some b), .iface 81 (.agg #[.string n, .int .i64 (i : Int)])] w fun e w' => e = .returned (.tuple #[]) ∧ w'.ownsMap Tryd.prog 9 (plainElem Tryd.prog 3) b (nn + 1) (D.put (kl n) (num i)) ∧ w.grownBy w' (some b) := by
  have hkey : keyOf Tryd.prog 9 (.string n) = some (kl n) := WideMaps.keyOf_string_mk Tryd.underlying9 hn
  have HK := Aside0.mk hkey
  have HM := Aside0.mk hm
  have HW := Aside0.mk (wf_small i hi)
  have HN := Aside0.mk (show nn < maxLen by unfold maxLen; omega)
  clear hkey hm hn hi hnn
  have t1 := fun w => ta81_81 (.agg #[.string n, .int .i64 (i : Int)]) w
  go_enter Tryd.func36, Tryd.ntmps36
  go_wp2_with (at_mapUpdate; refine wpList_mapUpdate_own _ rfl _ _ _ 61 rfl 9 3 keyLaw Tryd.underlying61 _ b nn _ rfl (HM.out.alloc _) HN.out _ _ _ rfl rfl HK.out _ [] (plainElem_int Tryd.underlying3 HW.out) ?_; intro w1 hown1 hgrow1; have HO1 := Aside0.mk hown1; have HG1 := Aside0.mk hgrow1; clear hown1 hgrow1)
  refine bodyPost_ret (results_none rfl _ _ _) rfl ?_
  exact ⟨rfl, HO1.out, (World.grownBy_alloc w _ (some b)).trans HG1.out⟩
set_option maxHeartbeats 2000000 in
set_option maxRecDepth 100000 in
theorem apply_gone (n : ByteArray) (hn : n.size ≤ maxLen) (D : Names) (b nn : Nat) (w : World) (hm : w.ownsMap Tryd.prog 9 (plainElem Tryd.prog 3) b nn D) :
    Calls Tryd.prog 36 #[.map (some b), .iface 87 (.agg #[.string n])] w fun e w' => e = .returned (.tuple #[]) ∧ w'.ownsMap Tryd.prog 9 (plainElem Tryd.prog 3) b nn (D.del (kl n)) ∧ w.grownBy w' (some b) := by
  have hkey : keyOf Tryd.prog 9 (.string n) = some (kl n) := WideMaps.keyOf_string_mk Tryd.underlying9 hn
  have HK := Aside0.mk hkey
  have HM := Aside0.mk hm
  clear hkey hm hn
  have t1 := fun w => ta87_81 (.agg #[.string n]) w
  have t2 := fun w => ta87_87 (.agg #[.string n]) w
  go_enter Tryd.func36, Tryd.ntmps36
  go_wp2_with (at_delete; refine wpList_delete_own _ rfl _ _ 61 9 rfl 3 keyLaw Tryd.underlying61 _ b nn D rfl ((HM.out.alloc _).alloc _) _ _ rfl HK.out ?_; intro w1 hown1 hturn1; have HO1 := Aside0.mk hown1; have HG1 := Aside0.mk hturn1.grown; clear hown1 hturn1)
  refine bodyPost_ret (results_none rfl _ _ _) rfl ?_
  exact ⟨rfl, HO1.out, ((World.grownBy_alloc w _ (some b)).trans (World.grownBy_alloc _ _ (some b))).trans HG1.out⟩
set_option maxHeartbeats 2000000 in
set_option maxRecDepth 100000 in
theorem apply_moved (n o : ByteArray) (hn : n.size ≤ maxLen) (ho : o.size ≤ maxLen) (i : Nat) (hi : i ≤ 1000000) (D : Names) (b nn : Nat) (hnn : nn ≤ 1000000) (w : World) (hm : w.ownsMap Tryd.prog 9 (plainElem Tryd.prog 3) b nn D) :
    Calls Tryd.prog 36 #[.map (some b), .iface 90 (.agg #[.string n, .int .i64 (i : Int), .string o])] w fun e w' => e = .returned (.tuple #[]) ∧ w'.ownsMap Tryd.prog 9 (plainElem Tryd.prog 3) b (nn + 1) ((D.put (kl n) (num i)).del (kl o)) ∧ w.grownBy w' (some b) := by
  have HM := Aside0.mk hm
  have t1 := fun w => ta90_81 (.agg #[.string n, .int .i64 (i : Int), .string o]) w
  have t2 := fun w => ta90_87 (.agg #[.string n, .int .i64 (i : Int), .string o]) w
  have t3 := fun w => ta90_90 (.agg #[.string n, .int .i64 (i : Int), .string o]) w
  have HH := Aside0.mk (And.intro hn (And.intro ho (And.intro hi hnn)))
  clear hm hn ho hi hnn
  go_enter Tryd.func36, Tryd.ntmps36
  go_upto_region 7 with (fail)
  have HX := Aside0.mk (show (((w.alloc (.cells #[.string ⟨#[]⟩, .int .i64 0] 81)).alloc (.cells #[.string ⟨#[]⟩] 87)).alloc (.cells #[.string n, .int .i64 (i : Int), .string o] 90)).heap[w.heap.size + 1 + 1]? = some (.cells #[.string n, .int .i64 (i : Int), .string o] 90) from by have := blk_new ((w.alloc (.cells #[.string ⟨#[]⟩, .int .i64 0] 81)).alloc (.cells #[.string ⟨#[]⟩] 87)) (.cells #[.string n, .int .i64 (i : Int), .string o] 90); simpa using this)
  have HM3 := Aside0.mk (((HM.out.alloc (.cells #[.string ⟨#[]⟩, .int .i64 0] 81)).alloc (.cells #[.string ⟨#[]⟩] 87)).alloc (.cells #[.string n, .int .i64 (i : Int), .string o] 90))
  have HG3 := Aside0.mk (((World.grownBy_alloc w (.cells #[.string ⟨#[]⟩, .int .i64 0] 81) (some b)).trans (World.grownBy_alloc _ (.cells #[.string ⟨#[]⟩] 87) (some b))).trans (World.grownBy_alloc _ (.cells #[.string n, .int .i64 (i : Int), .string o] 90) (some b)))
  have HB3 := Aside0.mk (show b < w.heap.size + 1 + 1 from by have := HM.out.lt; omega)
  obtain ⟨W3, hW3⟩ : ∃ W3, W3 = ((w.alloc (.cells #[.string ⟨#[]⟩, .int .i64 0] 81)).alloc (.cells #[.string ⟨#[]⟩] 87)).alloc (.cells #[.string n, .int .i64 (i : Int), .string o] 90) := ⟨_, rfl⟩
  obtain ⟨bx, hbx⟩ : ∃ bx, bx = w.heap.size + 1 + 1 := ⟨_, rfl⟩
  rw [← hW3] at HX HM3 HG3 ⊢
  rw [← hbx] at HX HB3 ⊢
  clear hW3 hbx t1 t2 t3
  have x0 : W3.cell? ⟨bx, 0, none⟩ = some (.string n) := blk_cell HX.out 0
  have x1 : W3.cell? ⟨bx, 1, none⟩ = some (.int .i64 (i : Int)) := blk_cell HX.out 1
  go_upto_region 8 with (go_at_call 36; refine (apply_link n HH.out.1 i HH.out.2.2.1 D b nn HH.out.2.2.2 _ HM3.out).mono ?_; rintro e w1 ⟨rfl, ho, hg⟩; have HO1 := Aside0.mk ho; have HG1 := Aside0.mk (HG3.out.trans hg); have HX1 := Aside0.mk ((hg.block bx (blk_lt HX.out) (fun e => by have := HB3.out; injection e; omega)).trans HX.out); clear ho hg x0 x1)
  have x2 : w1.cell? ⟨bx, 2, none⟩ = some (.string o) := blk_cell HX1.out 2
  go_wp2_with (go_at_call 36; refine (apply_gone o HH.out.2.1 _ b (nn + 1) _ HO1.out).mono ?_; rintro e w2 ⟨rfl, ho, hg⟩; have HO2 := Aside0.mk ho; have HG2 := Aside0.mk (HG1.out.trans hg); clear ho hg x2)
  go_end0
  exact ⟨rfl, HO2.out, HG2.out⟩
/-- apply, at whatever change. -/
theorem apply_calls (c : Chg) (L : Nat) (hc : c.okL L) (hL : L ≤ 1000000) (D : Names) (b nn : Nat) (hnn : nn ≤ 1000000) (w : World) (hm : w.ownsMap Tryd.prog 9 (plainElem Tryd.prog 3) b nn D) :
    Calls Tryd.prog 36 #[.map (some b), c.val] w fun e w' => e = .returned (.tuple #[]) ∧ w'.ownsMap Tryd.prog 9 (plainElem Tryd.prog 3) b (nn + 1) (c.app D) ∧ w.grownBy w' (some b) := by
  cases c with
  | link n i => exact apply_link n hc.2 i (by have := hc.1; omega) D b nn hnn w hm
  | gone n => exact (apply_gone n hc D b nn w hm).mono fun _ _ h => ⟨h.1, h.2.1.mono (Nat.le_succ _), h.2.2⟩
  | moved n i o => exact apply_moved n o hc.2.1 hc.2.2 i (by have := hc.1; omega) D b nn hnn w hm
end Go.Proofs.YtnnlmackofopeaaDoor.Fs
