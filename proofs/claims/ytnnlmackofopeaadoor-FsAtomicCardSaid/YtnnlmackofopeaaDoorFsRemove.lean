/- Contracts of (*Fs).Remove, Rename. -/
import Derived.Test.YtnnlmackofopeaaDoorFsChange
namespace Go.Proofs.YtnnlmackofopeaaDoor.Fs
open Go.RowKit Go.Lib Go.Maps Go.Proofs.YtnnlmackofopeaaDoorW.PrintWords Go.Proofs.YtnnlmackofopeaaDoorW.PrintLast Go.Proofs.YtnnlmackofopeaaDoorW.PrintMore
set_option linter.unusedVariables false
set_option linter.unusedSimpArgs false
def Under (own : Nat → Prop) (w : World) : Prop := ∀ k, own k → k < w.heap.size
theorem Under.more {own : Nat → Prop} {w w' : World} (h : Under own w) (hs : w.heap.size ≤ w'.heap.size) : Under (More own w w') w' := fun k hk => by
  rcases hk with hk | hk
  · exact Nat.lt_of_lt_of_le (h k hk) hs
  · exact hk.2
theorem more_trans {own : Nat → Prop} {w w1 w2 : World} (h : w.heap.size ≤ w1.heap.size) (h2 : w1.heap.size ≤ w2.heap.size) : ∀ k, More (More own w w1) w1 w2 k → More own w w2 k := fun k hk => by
  rcases hk with (hk | hk) | hk
  · exact .inl hk
  · exact .inr ⟨hk.1, Nat.lt_of_lt_of_le hk.2 h2⟩
  · exact .inr ⟨Nat.le_trans h hk.1, hk.2⟩
theorem more_step {own : Nat → Prop} {w w1 w2 : World} (h : w.heap.size ≤ w1.heap.size) : ∀ k, More own w1 w2 k → More own w w2 k := fun k hk => by
  rcases hk with hk | hk
  · exact .inl hk
  · exact .inr ⟨Nat.le_trans h hk.1, hk.2⟩
theorem begin_zero {S : FsS} {ns : List ByteArray} (h : S.beginC ns = 0) : ns.all mayS = true := by
  unfold FsS.beginC at h
  split at h
  · exact absurd h (by decide)
  · split at h
    · assumption
    · exact absurd h (by decide)
theorem may_size {n : ByteArray} (h : mayS n = true) : n.size ≤ maxLen := by
  unfold mayS at h
  simp only [Bool.and_eq_true, decide_eq_true_eq] at h
  unfold maxLen
  omega
theorem beginT_files (S : FsS) : S.beginT.files = S.files ∧ S.beginT.ops = S.ops ∧ S.beginT.names = S.names ∧ S.beginT.dat = S.dat ∧ S.beginT.changes = S.changes ∧ S.beginT.durable = S.durable ∧ S.beginT.quota = S.quota ∧ S.beginT.limited = S.limited := by
  unfold FsS.beginT FsS.tick
  split
  · exact ⟨rfl, rfl, rfl, rfl, rfl, rfl, rfl, rfl⟩
  · split <;> exact ⟨rfl, rfl, rfl, rfl, rfl, rfl, rfl, rfl⟩
/-- The names handed to begin: a new row of one. -/
theorem SR.one (w : World) (n : ByteArray) : SR (w.alloc (.cells #[.string n] 9)) (some ⟨w.heap.size, 0, none⟩) [n] := fun i hi => by
  obtain rfl : i = 0 := by simp at hi; omega
  exact ⟨_, rfl, by rw [Addr.add_zero']; exact blk_cell (blk_new w _) 0⟩
theorem SR.two (w : World) (n o : ByteArray) : SR (w.alloc (.cells #[.string n, .string o] 9)) (some ⟨w.heap.size, 0, none⟩) [n, o] := fun i hi => by
  have h2 : i = 0 ∨ i = 1 := by simp at hi; omega
  rcases h2 with rfl | rfl
  · exact ⟨_, rfl, by rw [Addr.add_zero']; exact blk_cell (blk_new w _) 0⟩
  · exact ⟨_, rfl, by rw [show (⟨w.heap.size, 0, none⟩ : Addr).add 1 = ⟨w.heap.size, 1, none⟩ from rfl]; exact blk_cell (blk_new w _) 1⟩
def FsS.remove (S : FsS) (n : ByteArray) : Int × FsS := if S.beginC [n] = 0 then (if has S.names (kl n) = true then (0, S.beginT.chg (.gone n)) else (7, S.beginT)) else (S.beginC [n], S.beginT)
set_option maxHeartbeats 4000000 in
set_option maxRecDepth 100000 in
theorem remove_calls (n : ByteArray) (w : World) (own : Nat → Prop) (g : Nat) (S : FsS) (hS : FsIs w own g S) (hu : Under own w) (hops : S.ops ≤ 90000) :
    Calls Tryd.prog 27 #[.pointer (some ⟨g, 0, none⟩), .string n] w fun e w' => e = .returned (.int .i64 (S.remove n).1) ∧ FsIs w' (More own w w') g (S.remove n).2 ∧ Turn own w w' := by
  have HS0 := Aside0.mk (hS.below (below_alloc (Below.refl _ _) (.cells #[.string n] 9)))
  have hbg := begin_calls (some ⟨w.heap.size, 0, none⟩) 1 [n] _ own g S HS0.out (SR.one w n) (by simp) (fun ad e => by injection e with e; subst e; exact fun h => absurd (hu _ h) (Nat.lt_irrefl _))
  have HT0 := Aside0.mk (Turn.below (below_alloc (Below.refl w.heap.size w) (.cells #[.string n] 9)) own)
  have HU := Aside0.mk hu
  have HOP := Aside0.mk hops
  obtain ⟨C, hC⟩ : ∃ C, C = S.beginC [n] := ⟨_, rfl⟩
  obtain ⟨T, hT⟩ : ∃ T, T = S.beginT := ⟨_, rfl⟩
  rw [← hC, ← hT, List.length_singleton] at hbg
  have ET := Aside0.mk hT
  clear hS hu hops
  by_cases h0 : C = 0
  case neg =>
    have ER := Aside0.mk (show S.remove n = (C, T) by unfold FsS.remove; rw [← hC, if_neg h0, hT])
    have e1 : (C != 0) = true := bne_iff_ne.mpr h0
    clear hC hT h0
    go_enter Tryd.func27, Tryd.ntmps27
    go_wp2_with (go_at_call 41; refine hbg.mono ?_; rintro e w1 ⟨rfl, hI, ht⟩; have HI1 := Aside0.mk hI; have HT1 := Aside0.mk (HT0.out.trans ht (fun _ h => .inl h)); clear hI ht hbg)
    go_ret
    exact ⟨by rw [ER.out]; rfl, by rw [ER.out]; exact HI1.out.mono (fun k hk => .inl hk), HT1.out⟩
  subst h0
  have hmay : mayS n = true := by have := begin_zero hC.symm; simpa using this
  have hns := may_size hmay
  obtain ⟨f1, f2, f3, f4, f5, f6, f7, f8⟩ := beginT_files S
  rw [← hT] at f1 f2 f3
  have HN := Aside0.mk hns
  have HF := Aside0.mk (And.intro f1 (And.intro f2 f3))
  by_cases hh : has S.names (kl n) = true
  · have ER := Aside0.mk (show S.remove n = (0, T.chg (.gone n)) by unfold FsS.remove; rw [← hC, if_pos rfl, if_pos hh, hT])
    have HH := Aside0.mk hh
    clear hC hT hh hmay hns f1 f2 f3 f4 f5 f6 f7 f8
    go_enter Tryd.func27, Tryd.ntmps27
    go_upto_region 4 with (go_at_call 41; refine hbg.mono ?_; rintro e w1 ⟨rfl, hI, ht⟩; have HI1 := Aside0.mk hI; have HT1 := Aside0.mk (HT0.out.trans ht (fun _ h => .inl h)); clear hI ht hbg)
    obtain ⟨G, hG⟩ := HI1.out
    have HG := Aside0.mk hG
    clear hG
    go_upto_region 7 with (go_at_call 43; refine (of_calls n HN.out w1 own g T G HG.out).mono ?_; rintro e w2 ⟨rfl, ⟨hx, _⟩ | ⟨i, b, v, _, _, _, rfl⟩⟩; exact absurd hx (by rw [HF.out.2.2, HH.out]; decide))
    go_wp2_with (go_at_call 42; refine (change_calls (.gone n) _ own g T ⟨G, HG.out⟩ HN.out (by rw [HF.out.2.1]; have := HOP.out; omega)).mono ?_; rintro e w3 ⟨rfl, hI, ht⟩; have HI3 := Aside0.mk hI; have HT3 := Aside0.mk (HT1.out.trans ht (fun _ h => .inl h)); clear hI ht)
    go_ret
    exact ⟨by rw [ER.out]; rfl, by rw [ER.out]; exact HI3.out.mono (more_step HT1.out.size), HT3.out⟩
  · have ER := Aside0.mk (show S.remove n = (7, T) by unfold FsS.remove; rw [← hC, if_pos rfl, if_neg hh, hT])
    have HH := Aside0.mk (Bool.eq_false_iff.mpr hh)
    clear hC hT hh hmay hns f1 f2 f3 f4 f5 f6 f7 f8
    go_enter Tryd.func27, Tryd.ntmps27
    go_upto_region 4 with (go_at_call 41; refine hbg.mono ?_; rintro e w1 ⟨rfl, hI, ht⟩; have HI1 := Aside0.mk hI; have HT1 := Aside0.mk (HT0.out.trans ht (fun _ h => .inl h)); clear hI ht hbg)
    obtain ⟨G, hG⟩ := HI1.out
    have HG := Aside0.mk hG
    clear hG
    go_wp2_with (go_at_call 43; refine (of_calls n HN.out w1 own g T G HG.out).mono ?_; rintro e w2 ⟨rfl, ⟨_, rfl⟩ | ⟨i, b, v, hx, _⟩⟩; rotate_left; exact absurd hx (by rw [at_none (by rw [HF.out.2.2]; exact HH.out)]; simp))
    go_ret
    exact ⟨by rw [ER.out]; rfl, by rw [ER.out]; exact HI1.out.mono (fun k hk => .inl hk), HT1.out⟩
end Go.Proofs.YtnnlmackofopeaaDoor.Fs
