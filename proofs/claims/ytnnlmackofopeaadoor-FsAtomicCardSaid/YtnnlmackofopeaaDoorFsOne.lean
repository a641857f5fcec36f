/- The file system's contracts, for a chain of calls. -/
import Derived.Test.YtnnlmackofopeaaDoorFsCrash
namespace Go.Proofs.YtnnlmackofopeaaDoor.Fs
open Go.RowKit Go.Lib Go.Maps Go.Shelf Go.Sort Go.Proofs.YtnnlmackofopeaaDoorW.PrintWords Go.Proofs.YtnnlmackofopeaaDoorW.PrintLast Go.Proofs.YtnnlmackofopeaaDoorW.PrintMore
set_option linter.unusedVariables false
set_option linter.unusedSimpArgs false
/-- Since wB: block g is a file system in the state S; nothing has turned but blocks of B and new ones. -/
def One (wB : World) (B : Nat → Prop) (w : World) (g : Nat) (S : FsS) : Prop := ∃ own : Nat → Prop, (∀ k, own k → B k ∨ wB.heap.size ≤ k) ∧ Under own w ∧ FsIs w own g S ∧ Turn B wB w
theorem One.turn {wB w : World} {B : Nat → Prop} {g : Nat} {S : FsS} (h : One wB B w g S) : Turn B wB w := by
  obtain ⟨_, _, _, _, h⟩ := h
  exact h
theorem One.step {wB w w' : World} {B own : Nat → Prop} {g : Nat} {S' : FsS} (h1 : ∀ k, own k → B k ∨ wB.heap.size ≤ k) (h2 : Under own w) (h4 : Turn B wB w) (h5 : FsIs w' (More own w w') g S') (h6 : Turn own w w') : One wB B w' g S' :=
  ⟨More own w w', fun k hk => by
    rcases hk with hk | hk
    · exact h1 k hk
    · exact .inr (Nat.le_trans h4.size hk.1), h2.more h6.size, h5, h4.trans h6 h1⟩
theorem One.same {wB w w' : World} {B own : Nat → Prop} {g : Nat} {S' : FsS} (h1 : ∀ k, own k → B k ∨ wB.heap.size ≤ k) (h2 : Under own w) (h4 : Turn B wB w) (h5 : FsIs w' own g S') (h6 : Turn own w w') : One wB B w' g S' :=
  ⟨own, h1, fun k hk => Nat.lt_of_lt_of_le (h2 k hk) h6.size, h5, h4.trans h6 h1⟩
theorem One.below {wB w w' : World} {B : Nat → Prop} {g : Nat} {S : FsS} (h : One wB B w g S) (hb : Below w.heap.size w w') : One wB B w' g S := by
  obtain ⟨own, h1, h2, h3, h4⟩ := h
  exact ⟨own, h1, fun k hk => Nat.lt_of_lt_of_le (h2 k hk) hb.size, h3.below hb, h4.then_below hb⟩
/-- An address that a call may read: not of the file system. -/
theorem far_of {wB : World} {B : Nat → Prop} {A : Option Addr} {p : Prop} (h : p ∨ ∀ ad, A = some ad → ¬ B ad.block ∧ ad.block < wB.heap.size) {own : Nat → Prop} (h1 : ∀ k, own k → B k ∨ wB.heap.size ≤ k) : p ∨ ∀ ad, A = some ad → ¬ own ad.block := h.imp id fun h ad e => by
  obtain ⟨a, b⟩ := h ad e
  refine fun hk => ?_
  rcases h1 _ hk with h | h
  · exact a h
  · omega
variable {wB w : World} {B : Nat → Prop} {g : Nat} {S : FsS}
theorem one_new (q : Int) (w : World) : Calls Tryd.prog 14 #[.int .i64 q] w fun e w' => ∃ g, e = .returned (.pointer (some ⟨g, 0, none⟩)) ∧ One w (fun _ => False) w' g (fs0 q) :=
  (new_calls q w).mono fun e w' ⟨g, he, hS, hb⟩ => ⟨g, he, _, fun k hk => .inr hk.1, fun k hk => hk.2, hS, Turn.below hb _⟩
theorem One.create (h : One wB B w g S) (n : ByteArray) (hops : S.ops ≤ 90000) : Calls Tryd.prog 22 #[.pointer (some ⟨g, 0, none⟩), .string n] w fun e w' => e = .returned (.int .i64 (S.create n).1) ∧ One wB B w' g (S.create n).2 := by
  obtain ⟨own, h1, h2, h3, h4⟩ := h
  exact (create_calls n w own g S h3 h2 hops).mono fun e w' ⟨he, hS, ht⟩ => ⟨he, One.step h1 h2 h4 hS ht⟩
theorem One.remove (h : One wB B w g S) (n : ByteArray) (hops : S.ops ≤ 90000) : Calls Tryd.prog 27 #[.pointer (some ⟨g, 0, none⟩), .string n] w fun e w' => e = .returned (.int .i64 (S.remove n).1) ∧ One wB B w' g (S.remove n).2 := by
  obtain ⟨own, h1, h2, h3, h4⟩ := h
  exact (remove_calls n w own g S h3 h2 hops).mono fun e w' ⟨he, hS, ht⟩ => ⟨he, One.step h1 h2 h4 hS ht⟩
theorem One.rename (h : One wB B w g S) (n o : ByteArray) (hops : S.ops ≤ 90000) : Calls Tryd.prog 29 #[.pointer (some ⟨g, 0, none⟩), .string n, .string o] w fun e w' => e = .returned (.int .i64 (S.rename n o).1) ∧ One wB B w' g (S.rename n o).2 := by
  obtain ⟨own, h1, h2, h3, h4⟩ := h
  exact (rename_calls n o w own g S h3 h2 hops).mono fun e w' ⟨he, hS, ht⟩ => ⟨he, One.step h1 h2 h4 hS ht⟩
theorem One.sync (h : One wB B w g S) (n : ByteArray) (hdat : S.dat ≤ 1000000000) : Calls Tryd.prog 25 #[.pointer (some ⟨g, 0, none⟩), .string n] w fun e w' => e = .returned (.int .i64 (S.sync n).1) ∧ One wB B w' g (S.sync n).2 := by
  obtain ⟨own, h1, h2, h3, h4⟩ := h
  exact (sync_calls n w own g S h3 h2 hdat).mono fun e w' ⟨he, hS, ht⟩ => ⟨he, One.step h1 h2 h4 hS ht⟩
theorem One.syncNames (h : One wB B w g S) : Calls Tryd.prog 23 #[.pointer (some ⟨g, 0, none⟩)] w fun e w' => e = .returned (.int .i64 S.syncNames.1) ∧ One wB B w' g S.syncNames.2 := by
  obtain ⟨own, h1, h2, h3, h4⟩ := h
  exact (syncNames_calls w own g S h3 h2).mono fun e w' ⟨he, hS, ht⟩ => ⟨he, One.step h1 h2 h4 hS ht⟩
theorem One.append (h : One wB B w g S) (n : ByteArray) (A : Option Addr) (c : Nat) (ys : List Int) (hr : BR w A ys) (hA : ys = [] ∨ ∀ ad, A = some ad → ¬ B ad.block ∧ ad.block < wB.heap.size) (hbig : S.ops * S.dat ≤ 1000000000000000) (hdat : S.dat ≤ 1000000000) (hyl : ys.length ≤ 1000000000) :
    Calls Tryd.prog 24 #[.pointer (some ⟨g, 0, none⟩), .string n, .slice A ys.length c] w fun e w' => e = .returned (.int .i64 (S.append n ys).1) ∧ One wB B w' g (S.append n ys).2 := by
  obtain ⟨own, h1, h2, h3, h4⟩ := h
  exact (append_calls n A c ys w own g S h3 h2 hr (far_of hA h1) hbig hdat hyl).mono fun e w' ⟨he, hS, ht⟩ => ⟨he, One.step h1 h2 h4 hS ht⟩
/-- The same, at bytes in a block of the caller's, made since. -/
theorem One.append_new (h : One wB B w g S) (n : ByteArray) (o : Obj) (c : Nat) (ys : List Int) (hr : BR (w.alloc o) (some ⟨w.heap.size, 0, none⟩) ys) (hbig : S.ops * S.dat ≤ 1000000000000000) (hdat : S.dat ≤ 1000000000) (hyl : ys.length ≤ 1000000000) :
    Calls Tryd.prog 24 #[.pointer (some ⟨g, 0, none⟩), .string n, .slice (some ⟨w.heap.size, 0, none⟩) ys.length c] (w.alloc o) fun e w' => e = .returned (.int .i64 (S.append n ys).1) ∧ One wB B w' g (S.append n ys).2 := by
  obtain ⟨own, h1, h2, h3, h4⟩ := h
  have hb := below_alloc (Below.refl w.heap.size w) o
  have h2' : Under own (w.alloc o) := fun k hk => Nat.lt_of_lt_of_le (h2 k hk) hb.size
  exact (append_calls n _ c ys (w.alloc o) own g S (h3.below hb) h2' hr (.inr fun ad e => by injection e with e; subst e; exact fun hk => absurd (h2 _ hk) (Nat.lt_irrefl _)) hbig hdat hyl).mono fun e w' ⟨he, hS, ht⟩ => ⟨he, One.step h1 h2' (h4.then_below hb) hS ht⟩
theorem One.crash (h : One wB B w g S) (nm : Int) (A : Option Addr) (c : Nat) (bs : List Int) (hr : IR w A bs) (hA : bs = [] ∨ ∀ ad, A = some ad → ¬ B ad.block ∧ ad.block < wB.heap.size) (hops : S.ops ≤ 90000) (hdat : S.dat ≤ 1000000000) (hbl : bs.length ≤ maxLen) :
    Calls Tryd.prog 17 #[.pointer (some ⟨g, 0, none⟩), .agg #[.int .i64 nm, .slice A bs.length c]] w fun e w' => e = .returned (.tuple #[]) ∧ One wB B w' g (S.crash nm bs) := by
  obtain ⟨own, h1, h2, h3, h4⟩ := h
  exact (crash_calls nm A bs c w own g S h3 h2 hr (far_of hA h1) hops hdat hbl).mono fun e w' ⟨he, hS, ht⟩ => ⟨he, One.step h1 h2 h4 hS ht⟩
theorem One.limit (h : One wB B w g S) (n : Int) : Calls Tryd.prog 16 #[.pointer (some ⟨g, 0, none⟩), .int .i64 n] w fun e w' => e = .returned (.tuple #[]) ∧ One wB B w' g { S with left := n, limited := decide (0 ≤ n) } := by
  obtain ⟨own, h1, h2, h3, h4⟩ := h
  exact (limit_calls n w own g S h3).mono fun e w' ⟨he, hS, ht⟩ => ⟨he, One.same h1 h2 h4 hS ht⟩
theorem One.quota (h : One wB B w g S) (q : Int) : Calls Tryd.prog 32 #[.pointer (some ⟨g, 0, none⟩), .int .i64 q] w fun e w' => e = .returned (.tuple #[]) ∧ One wB B w' g { S with quota := q } := by
  obtain ⟨own, h1, h2, h3, h4⟩ := h
  exact (quota_calls q w own g S h3).mono fun e w' ⟨he, hS, ht⟩ => ⟨he, One.same h1 h2 h4 hS ht⟩
theorem One.read (h : One wB B w g S) (n : ByteArray) (hdat : S.dat ≤ 1000000000) : Calls Tryd.prog 26 #[.pointer (some ⟨g, 0, none⟩), .string n] w fun e w' => ∃ v, e = .returned (.tuple #[v, .int .i64 (S.read n).1]) ∧ w'.ownsRow w.heap.size 5 1 v (S.read n).2.length ((S.read n).2.map (Value.int .u8)) ∧ Below w.heap.size w w' ∧ One wB B w' g S := by
  have h' := h
  obtain ⟨own, h1, h2, h3, h4⟩ := h
  exact (read_calls n w own g S h3 hdat).mono fun e w' ⟨v, he, hr, hb⟩ => ⟨v, he, hr, hb, h'.below hb⟩
theorem One.list (h : One wB B w g S) (hops : S.ops ≤ 1000000) : Calls Tryd.prog 20 #[.pointer (some ⟨g, 0, none⟩)] w fun e w' => ∃ v, e = .returned v ∧ w'.ownsRow w.heap.size 9 1 v (listD S.names).length ((listD S.names).map encStr) ∧ Below w.heap.size w w' ∧ One wB B w' g S := by
  have h' := h
  obtain ⟨own, h1, h2, h3, h4⟩ := h
  exact (list_calls w own g S h3 hops).mono fun e w' ⟨v, he, hr, hb⟩ => ⟨v, he, hr, hb, h'.below hb⟩
theorem One.usedC (h : One wB B w g S) (hbig : S.ops * S.dat ≤ 1000000000000000) : Calls Tryd.prog 28 #[.pointer (some ⟨g, 0, none⟩)] w fun e w' => e = .returned (.int .i64 (S.used : Int)) ∧ Below w.heap.size w w' ∧ One wB B w' g S := by
  have h' := h
  obtain ⟨own, h1, h2, h3, h4⟩ := h
  exact (used_calls w own g S h3 hbig).mono fun e w' ⟨he, hb⟩ => ⟨he, hb, h'.below hb⟩
/-! ### where no limit is -/
theorem beginC_ok (hl : S.limited = false) (ns : List ByteArray) (hm : ns.all mayS = true) : S.beginC ns = 0 := by
  unfold FsS.beginC FsS.stops
  rw [hl, hm]
  rfl
theorem beginT_ok (hl : S.limited = false) : S.beginT = S := by
  unfold FsS.beginT FsS.stops FsS.tick
  rw [hl]
  rfl
theorem create_ok (hl : S.limited = false) {n : ByteArray} (hm : mayS n = true) : S.create n = (0, S.file1.chg (.link n S.files.length)) := by
  unfold FsS.create
  rw [beginC_ok hl [n] (by simp [hm]), if_pos rfl, beginT_ok hl]
theorem append_ok (hl : S.limited = false) {n : ByteArray} (hm : mayS n = true) {i : Nat} (hi : S.at_ n = some i) {ys : List Int} (hq : (S.used : Int) + (ys.length : Int) ≤ S.quota) : S.append n ys = (0, S.app i ys) := by
  unfold FsS.append
  rw [beginC_ok hl [n] (by simp [hm]), if_pos rfl, beginT_ok hl, hi]
  simp only
  rw [if_neg (by omega)]
theorem append_more (hl : S.limited = false) {n : ByteArray} (hm : mayS n = true) {i : Nat} (hi : S.at_ n = some i) {ys : List Int} (hq : S.quota < (S.used : Int) + (ys.length : Int)) : S.append n ys = (10, S) := by
  unfold FsS.append
  rw [beginC_ok hl [n] (by simp [hm]), if_pos rfl, beginT_ok hl, hi]
  simp only
  rw [if_pos hq]
theorem sync_ok (hl : S.limited = false) {n : ByteArray} (hm : mayS n = true) {i : Nat} (hi : S.at_ n = some i) : S.sync n = (0, S.upd i (fun f => (f.1, f.1.length))) := by
  unfold FsS.sync
  rw [beginC_ok hl [n] (by simp [hm]), if_pos rfl, beginT_ok hl, hi]
theorem syncNames_ok (hl : S.limited = false) : S.syncNames = (0, { S with durable := S.names, changes := [] }) := by
  have es : S.stops = false := by unfold FsS.stops; rw [hl]; rfl
  have et : S.tick = S := by unfold FsS.tick; rw [hl]; rfl
  unfold FsS.syncNames
  rw [es, et]
  rfl
theorem remove_ok (hl : S.limited = false) {n : ByteArray} (hm : mayS n = true) (hh : has S.names (kl n) = true) : S.remove n = (0, S.chg (.gone n)) := by
  unfold FsS.remove
  rw [beginC_ok hl [n] (by simp [hm]), if_pos rfl, if_pos hh, beginT_ok hl]
theorem rename_ok (hl : S.limited = false) {n o : ByteArray} (hm : mayS n = true) (hm2 : mayS o = true) (hh : has S.names (kl n) = true) (hne : n.toList ≠ o.toList) : S.rename n o = (0, S.chg (.moved o ((S.at_ n).getD 0) n)) := by
  unfold FsS.rename
  rw [beginC_ok hl [n, o] (by simp [hm, hm2]), if_pos rfl, if_pos hh, if_neg hne, beginT_ok hl]
end Go.Proofs.YtnnlmackofopeaaDoor.Fs
