/- Two file systems. -/
import Derived.Test.YtnnlmackofopeaaDoorFsOne
namespace Go.Proofs.YtnnlmackofopeaaDoor.Fs
open Go.RowKit Go.Lib Go.Maps Go.Shelf Go.Sort Go.Proofs.YtnnlmackofopeaaDoorW.PrintWords Go.Proofs.YtnnlmackofopeaaDoorW.PrintLast Go.Proofs.YtnnlmackofopeaaDoorW.PrintMore
set_option linter.unusedVariables false
set_option linter.unusedSimpArgs false
def Both (w0 w : World) (f : Nat) (Sf : FsS) (g : Nat) (Sg : FsS) : Prop :=
  ∃ of og : Nat → Prop, (∀ k, of k → w0.heap.size ≤ k ∧ ¬ og k) ∧ (∀ k, og k → w0.heap.size ≤ k) ∧ Under of w ∧ Under og w ∧ FsIs w of f Sf ∧ FsIs w og g Sg ∧ Below w0.heap.size w0 w
theorem Both.swap {w0 w : World} {f g : Nat} {Sf Sg : FsS} (h : Both w0 w f Sf g Sg) : Both w0 w g Sg f Sf := by
  obtain ⟨of, og, h1, h2, h3, h4, h5, h6, h7⟩ := h
  exact ⟨og, of, fun k hk => ⟨h2 k hk, fun hf => (h1 k hf).2 hk⟩, fun k hk => (h1 k hk).1, h4, h3, h6, h5, h7⟩
theorem Both.below {w0 w w' : World} {f g : Nat} {Sf Sg : FsS} (h : Both w0 w f Sf g Sg) (hb : Below w.heap.size w w') : Both w0 w' f Sf g Sg := by
  obtain ⟨of, og, h1, h2, h3, h4, h5, h6, h7⟩ := h
  exact ⟨of, og, h1, h2, fun k hk => Nat.lt_of_lt_of_le (h3 k hk) hb.size, fun k hk => Nat.lt_of_lt_of_le (h4 k hk) hb.size, h5.below hb, h6.below hb, below_step h7 hb⟩
theorem Both.lift {w0 w wc : World} {f g : Nat} {S S' Sg : FsS} {k : Nat} {args : Array Value} {R : Ending → World → Prop} (h : Both w0 w f S g Sg) (hc : ∀ B, One w B w f S → Calls Tryd.prog k args wc fun e w' => R e w' ∧ One w B w' f S') :
    Calls Tryd.prog k args wc fun e w' => R e w' ∧ Both w0 w' f S' g Sg := by
  obtain ⟨of, og, h1, h2, h3, h4, h5, h6, h7⟩ := h
  refine (hc of ⟨of, fun k hk => .inl hk, h3, h5, Turn.refl _ _⟩).mono fun e w' ⟨hr, own, a1, a2, a3, a4⟩ => ⟨hr, own, og, fun k hk => ?_, h2, a2, fun k hk => Nat.lt_of_lt_of_le (h4 k hk) a4.size, a3, h6.turn a4 (fun k hk => (h1 k hk).2), a4.low h7 (fun k hk => (h1 k hk).1)⟩
  rcases a1 k hk with hk | hk
  · exact h1 k hk
  · exact ⟨Nat.le_trans h7.size hk, fun hg => by have := h4 k hg; omega⟩
theorem both_start {w0 w1 w2 : World} {f g : Nat} {Sf Sg : FsS} (hf : One w0 (fun _ => False) w1 f Sf) (hg : One w1 (fun _ => False) w2 g Sg) : Both w0 w2 f Sf g Sg := by
  obtain ⟨of, a1, a2, a3, a4⟩ := hf
  obtain ⟨og, b1, b2, b3, b4⟩ := hg
  have hb : Below w1.heap.size w1 w2 := ⟨b4.os, b4.tape, b4.output, b4.size, fun k hk => b4.block k hk (fun h => h)⟩
  have ha : Below w0.heap.size w0 w1 := ⟨a4.os, a4.tape, a4.output, a4.size, fun k hk => a4.block k hk (fun h => h)⟩
  refine ⟨of, og, fun k hk => ⟨(a1 k hk).elim (fun h => h.elim) (fun h => h), fun hg => ?_⟩, fun k hk => ?_, fun k hk => Nat.lt_of_lt_of_le (a2 k hk) hb.size, b2, a3.below hb, b3, below_step ha hb⟩
  · have := a2 k hk
    rcases b1 k hg with h | h
    · exact h
    · omega
  · rcases b1 k hk with h | h
    · exact h.elim
    · exact Nat.le_trans ha.size h
/-! ### the document's example -/
abbrev na : ByteArray := ⟨#[97]⟩
abbrev abc : List Int := [97, 98, 99]
def sh1 : FsS := ((fs0 9).create na).2
def sh2 : FsS := (sh1.append na abc).2
def sh3 : FsS := (sh2.sync na).2
theorem sh_sync : (sh2.sync na).1 = 0 := by kernel_rfl
theorem sh_bounds : sh1.ops = 2 ∧ sh1.dat = 0 ∧ sh2.ops = 2 ∧ sh2.dat = 3 ∧ sh3.ops = 2 ∧ sh3.dat = 3 := ⟨by kernel_rfl, by kernel_rfl, by kernel_rfl, by kernel_rfl, by kernel_rfl, by kernel_rfl⟩
theorem sh_list : listD (sh3.crash 0 []).names = [] := by kernel_rfl
theorem sh_read : (sh3.crash 1 []).read na = (0, abc) := by kernel_rfl
end Go.Proofs.YtnnlmackofopeaaDoor.Fs
