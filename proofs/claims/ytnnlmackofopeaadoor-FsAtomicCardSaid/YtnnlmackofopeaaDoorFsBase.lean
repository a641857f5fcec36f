/- The file system in memory: what its blocks hold; what a call of it may turn. -/
import Derived.Test.YtnnlmackofopeaaDoorFsMay
namespace Go.Proofs.YtnnlmackofopeaaDoor.Fs
open Go.RowKit Go.Lib Go.Maps Go.Proofs.YtnnlmackofopeaaDoorW.PrintWords Go.Proofs.YtnnlmackofopeaaDoorW.PrintLast Go.Proofs.YtnnlmackofopeaaDoorW.PrintMore
set_option linter.unusedVariables false
set_option linter.unusedSimpArgs false
/-! ### what a call turns -/
/-- All but the blocks of own lies as it lay. -/
structure Turn (own : Nat → Prop) (w w' : World) : Prop where
  os : w'.os = w.os
  tape : w'.tape = w.tape
  output : w'.output = w.output
  size : w.heap.size ≤ w'.heap.size
  block : ∀ k, k < w.heap.size → ¬ own k → w'.heap[k]? = w.heap[k]?
theorem Turn.refl (own : Nat → Prop) (w : World) : Turn own w w := ⟨rfl, rfl, rfl, Nat.le_refl _, fun _ _ _ => rfl⟩
theorem Turn.mono {own own' : Nat → Prop} {w w' : World} (h : Turn own w w') (hs : ∀ k, own k → own' k) : Turn own' w w' := ⟨h.os, h.tape, h.output, h.size, fun k h1 h2 => h.block k h1 (fun h3 => h2 (hs k h3))⟩
theorem Turn.trans {own own2 : Nat → Prop} {w w1 w2 : World} (h : Turn own w w1) (k : Turn own2 w1 w2) (hs : ∀ i, own2 i → own i ∨ w.heap.size ≤ i) : Turn own w w2 :=
  ⟨k.os.trans h.os, k.tape.trans h.tape, k.output.trans h.output, Nat.le_trans h.size k.size, fun i h1 h2 => (k.block i (Nat.lt_of_lt_of_le h1 h.size) (fun h3 => (hs i h3).elim h2 (fun h4 => by omega))).trans (h.block i h1 h2)⟩
theorem Turn.below {w w' : World} (h : Below w.heap.size w w') (own : Nat → Prop) : Turn own w w' := ⟨h.os, h.tape, h.output, h.size, fun k h1 _ => h.block k h1⟩
theorem Turn.then_below {own : Nat → Prop} {w w1 w2 : World} (h : Turn own w w1) (k : Below w1.heap.size w1 w2) : Turn own w w2 := h.trans (Turn.below k (fun _ => False)) (fun _ h => h.elim)
theorem Turn.grown {own : Nat → Prop} {w w' : World} {row : Option Nat} (h : w.grownBy w' row) (hr : ∀ k, row = some k → own k) : Turn own w w' := ⟨h.os, h.tape, h.output, h.size, fun k h1 h2 => h.block k h1 (fun e => h2 (hr k e.symm))⟩
theorem Turn.set {own : Nat → Prop} {w : World} (g i : Nat) (u : Value) (hg : own g) : Turn own w (w.setCell ⟨g, i, none⟩ u) :=
  ⟨rfl, rfl, rfl, by rw [World.size_setCell]; exact Nat.le_refl _, fun k _ h2 => Below.heap_setCell w ⟨g, i, none⟩ u k (fun e => h2 (by rw [show k = g from e]; exact hg))⟩
theorem Turn.low {own : Nat → Prop} {w0 w w' : World} (h : Turn own w w') (hb : Below w0.heap.size w0 w) (ho : ∀ k, own k → w0.heap.size ≤ k) : Below w0.heap.size w0 w' :=
  ⟨h.os.trans hb.os, h.tape.trans hb.tape, h.output.trans hb.output, Nat.le_trans hb.size h.size, fun k hk => (h.block k (Nat.lt_of_lt_of_le hk hb.size) (fun h3 => by have := ho k h3; omega)).trans (hb.block k hk)⟩
theorem Turn.blk {own : Nat → Prop} {w w' : World} {b : Nat} {o : Obj} (h : Turn own w w') (hb : w.heap[b]? = some o) (hn : ¬ own b) : w'.heap[b]? = some o := (h.block b (blk_lt hb) hn).trans hb
/-- What is the file system's, after a call: what was, and all that is new. -/
def More (own : Nat → Prop) (w w' : World) : Nat → Prop := fun k => own k ∨ (w.heap.size ≤ k ∧ k < w'.heap.size)
theorem More.old {own : Nat → Prop} {w w' : World} {k : Nat} (h : own k) : More own w w' k := .inl h
/-! ### a file's bytes -/
/-- Bytes in a row of which own holds: nil, or the begin of a row (of as much room as the slice says, or more). -/
def DRow (w : World) (own : Nat → Prop) (v : Value) (xs : List Int) : Prop :=
  ∃ A c, v = .slice A xs.length c ∧ xs.length ≤ c ∧ ((A = none ∧ c = 0) ∨ ∃ b cells, A = some ⟨b, 0, none⟩ ∧ own b ∧ w.heap[b]? = some (.cells cells 5 (0, 0)) ∧ c ≤ cells.size ∧ cells.toList.take xs.length = xs.map (Value.int .u8))
theorem DRow.step {w w' : World} {own own' : Nat → Prop} {v : Value} {xs : List Int} (h : DRow w own v xs) (hk : ∀ b, v.ownBlock = some b → w'.heap[b]? = w.heap[b]?) (ho : ∀ k, own k → own' k) : DRow w' own' v xs := by
  obtain ⟨A, c, rfl, hl, h⟩ := h
  refine ⟨A, c, rfl, hl, ?_⟩
  rcases h with h | ⟨b, cells, rfl, h1, h2, h3, h4⟩
  · exact .inl h
  · exact .inr ⟨b, cells, rfl, ho b h1, (hk b rfl).trans h2, h3, h4⟩
theorem DRow.own {w : World} {own : Nat → Prop} {v : Value} {xs : List Int} (h : DRow w own v xs) : ∀ b, v.ownBlock = some b → own b ∧ b < w.heap.size ∧ ∃ cells, w.heap[b]? = some (.cells cells 5 (0, 0)) := by
  obtain ⟨A, c, rfl, hl, h⟩ := h
  intro k hk
  rcases h with ⟨rfl, _⟩ | ⟨b, cells, rfl, h1, h2, h3, h4⟩
  · simp [Value.ownBlock] at hk
  · simp only [Value.ownBlock, Option.some.injEq] at hk
    subst hk
    exact ⟨h1, blk_lt h2, cells, h2⟩
theorem DRow.nil (w : World) (own : Nat → Prop) : DRow w own (.slice none 0 0) [] := ⟨none, 0, rfl, Nat.le_refl _, .inl ⟨rfl, rfl⟩⟩
theorem DRow.slice {w : World} {own : Nat → Prop} {v : Value} {xs : List Int} (h : DRow w own v xs) : ∃ A c, v = .slice A xs.length c := by
  obtain ⟨A, c, rfl, _⟩ := h
  exact ⟨A, c, rfl⟩
/-! ### the state -/
inductive Chg where
  | link (n : ByteArray) (i : Nat)
  | gone (n : ByteArray)
  | moved (n : ByteArray) (i : Nat) (o : ByteArray)
def Chg.val : Chg → Value
  | .link n i => .iface 81 (.agg #[.string n, .int .i64 (i : Int)])
  | .gone n => .iface 87 (.agg #[.string n])
  | .moved n i o => .iface 90 (.agg #[.string n, .int .i64 (i : Int), .string o])
abbrev Names := DataW Unit
/-- A name as a key. -/
abbrev kl (s : ByteArray) : Lit := .string s.data.toList
abbrev num (i : Nat) : Names := .lit (.int .i64 (i : Int))
def Chg.app (D : Names) : Chg → Names
  | .link n i => D.put (kl n) (num i)
  | .gone n => D.del (kl n)
  | .moved n i o => (D.put (kl n) (num i)).del (kl o)
def Chg.okL (L : Nat) : Chg → Prop
  | .link n i => i < L ∧ n.size ≤ maxLen
  | .gone n => n.size ≤ maxLen
  | .moved n i o => i < L ∧ n.size ≤ maxLen ∧ o.size ≤ maxLen
structure FsS where
  quota : Int
  left : Int
  limited : Bool
  files : List (List Int × Nat)
  names : Names
  durable : Names
  changes : List Chg
  ops : Nat     -- a bound: files, changes, names
  dat : Nat     -- a bound: a file's bytes
structure FsG where
  fv : Value
  cv : Value
  fs : List (Nat × Value)
  nb : Nat
  db : Nat
  nn : Nat
  dn : Nat
def ptr (b : Nat) : Value := .pointer (some ⟨b, 0, none⟩)
/-- All names lead to files. -/
def Leads (D : Names) (L : Nat) : Prop := ∀ k, has D k = true → ∃ i, i < L ∧ ∀ z, D.atKey k z = num i
structure FsAt (w : World) (own : Nat → Prop) (g : Nat) (S : FsS) (G : FsG) : Prop where
  blk : w.heap[g]? = some (.cells #[.int .i64 S.quota, .int .i64 S.left, .bool S.limited, G.fv, .map (some G.nb), .map (some G.db), G.cv] 65 (0, 0))
  og : own g
  fv : w.ownsRow 0 68 1 G.fv S.files.length (G.fs.map (fun x => ptr x.1))
  ofv : ∀ b, G.fv.ownBlock = some b → own b
  len : G.fs.length = S.files.length
  file : ∀ (i : Nat) (b : Nat) (v : Value) (f : List Int × Nat), G.fs[i]? = some (b, v) → S.files[i]? = some f → w.heap[b]? = some (.cells #[v, .int .i64 (f.2 : Int)] 70 (0, 0)) ∧ own b ∧ DRow w own v f.1 ∧ f.2 ≤ f.1.length ∧ f.1.length ≤ S.dat
  inj : ∀ (i j : Nat) (x y : Nat × Value), G.fs[i]? = some x → G.fs[j]? = some y → i ≠ j → x.1 ≠ y.1 ∧ ∀ k, x.2.ownBlock = some k → y.2.ownBlock ≠ some k
  nm : w.ownsMap Tryd.prog 9 (plainElem Tryd.prog 3) G.nb G.nn S.names
  dm : w.ownsMap Tryd.prog 9 (plainElem Tryd.prog 3) G.db G.dn S.durable
  om : own G.nb ∧ own G.db ∧ G.nb ≠ G.db
  cv : w.ownsRow 0 20 1 G.cv S.changes.length (S.changes.map Chg.val)
  ocv : ∀ b, G.cv.ownBlock = some b → own b
  bnd : S.files.length ≤ S.ops ∧ S.changes.length ≤ S.ops ∧ G.nn ≤ S.ops ∧ G.dn + S.changes.length ≤ S.ops
  ln : Leads S.names S.files.length
  ld : Leads S.durable S.files.length
  lc : ∀ c ∈ S.changes, c.okL S.files.length
def FsIs (w : World) (own : Nat → Prop) (g : Nat) (S : FsS) : Prop := ∃ G, FsAt w own g S G
theorem ptr_block {b : Nat} : ∀ v, v = ptr b → v.ownBlock = none := fun v h => by rw [h]; rfl
/-- A row of the system's own is of its own type. -/
theorem row_typed {w : World} {e : TypeId} {n : Nat} {v : Value} {xs : List Value} {base sz : Nat} (h : w.ownsRow base e sz v n xs) (k : Nat) (hk : v.ownBlock = some k) : k < w.heap.size ∧ ∃ cells, w.heap[k]? = some (.cells cells e (0, 0)) := by
  obtain ⟨cells, hc⟩ := own_typed h k hk
  exact ⟨blk_lt hc, cells, hc⟩
theorem row_kept {w w' : World} {e : TypeId} {n : Nat} {v : Value} {xs : List Value} {base sz : Nat} (h : w.ownsRow base e sz v n xs) (hk : ∀ b, v.ownBlock = some b → w'.heap[b]? = w.heap[b]?) : w'.ownsRow base e sz v n xs := by
  refine ⟨h.1, h.2.imp id ?_⟩
  rintro ⟨g, cap, cur, rfl, h1, h2, h3⟩
  exact ⟨g, cap, cur, rfl, h1, (hk g rfl).trans h2, h3⟩
theorem map_kept {w w' : World} {b n : Nat} {D : Names} (h : w.ownsMap Tryd.prog 9 (plainElem Tryd.prog 3) b n D) (hk : w'.heap[b]? = w.heap[b]?) : w'.ownsMap Tryd.prog 9 (plainElem Tryd.prog 3) b n D := by
  obtain ⟨es, clock, h1, r⟩ := h
  exact ⟨es, clock, hk.trans h1, r⟩
theorem map_blk {w : World} {b n : Nat} {D : Names} (h : w.ownsMap Tryd.prog 9 (plainElem Tryd.prog 3) b n D) : ∃ es clock, w.heap[b]? = some (.map es clock) := by
  obtain ⟨es, clock, h1, r⟩ := h
  exact ⟨es, clock, h1⟩
/-- All of the state's blocks lie as they lay. -/
theorem FsAt.move {w w' : World} {own own' : Nat → Prop} {g : Nat} {S : FsS} {G : FsG} (h : FsAt w own g S G) (hk : ∀ k, k < w.heap.size → own k → w'.heap[k]? = w.heap[k]?) (ho : ∀ k, own k → own' k) : FsAt w' own' g S G := by
  obtain ⟨es, c, hn⟩ := map_blk h.nm
  obtain ⟨es', c', hd⟩ := map_blk h.dm
  refine ⟨(hk g (blk_lt h.blk) h.og).trans h.blk, ho g h.og, row_kept h.fv (fun b hb => hk b (row_typed h.fv b hb).1 (h.ofv b hb)), fun b hb => ho b (h.ofv b hb), h.len, fun i b v f h1 h2 => ?_, h.inj, map_kept h.nm (hk _ (blk_lt hn) h.om.1), map_kept h.dm (hk _ (blk_lt hd) h.om.2.1), ⟨ho _ h.om.1, ho _ h.om.2.1, h.om.2.2⟩,
    row_kept h.cv (fun b hb => hk b (row_typed h.cv b hb).1 (h.ocv b hb)), fun b hb => ho b (h.ocv b hb), h.bnd, h.ln, h.ld, h.lc⟩
  obtain ⟨q1, q2, q3, q4, q5⟩ := h.file i b v f h1 h2
  exact ⟨(hk b (blk_lt q1) q2).trans q1, ho b q2, q3.step (fun k hb => hk k (q3.own k hb).2.1 (q3.own k hb).1) ho, q4, q5⟩
theorem FsIs.move {w w' : World} {own own' : Nat → Prop} {g : Nat} {S : FsS} (h : FsIs w own g S) (hk : ∀ k, k < w.heap.size → own k → w'.heap[k]? = w.heap[k]?) (ho : ∀ k, own k → own' k) : FsIs w' own' g S := by
  obtain ⟨G, h⟩ := h
  exact ⟨G, h.move hk ho⟩
theorem FsIs.below {w w' : World} {own : Nat → Prop} {g : Nat} {S : FsS} (h : FsIs w own g S) (hb : Below w.heap.size w w') : FsIs w' own g S := h.move (fun k hk _ => hb.block k hk) (fun _ h => h)
theorem FsIs.turn {w w' : World} {own own2 : Nat → Prop} {g : Nat} {S : FsS} (h : FsIs w own g S) (hb : Turn own2 w w') (hn : ∀ k, own2 k → ¬ own k) : FsIs w' own g S := h.move (fun k hk ho => hb.block k hk (fun h2 => hn k h2 ho)) (fun _ h => h)
theorem FsIs.mono {w : World} {own own' : Nat → Prop} {g : Nat} {S : FsS} (h : FsIs w own g S) (ho : ∀ k, own k → own' k) : FsIs w own' g S := h.move (fun _ _ _ => rfl) ho
theorem FsIs.lt {w : World} {own : Nat → Prop} {g : Nat} {S : FsS} (h : FsIs w own g S) : g < w.heap.size := by
  obtain ⟨G, h⟩ := h
  exact blk_lt h.blk
theorem FsIs.og {w : World} {own : Nat → Prop} {g : Nat} {S : FsS} (h : FsIs w own g S) : own g := by
  obtain ⟨G, h⟩ := h
  exact h.og
end Go.Proofs.YtnnlmackofopeaaDoor.Fs
