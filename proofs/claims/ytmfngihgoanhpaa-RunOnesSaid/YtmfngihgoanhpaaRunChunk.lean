/- slices.Chunk at api.Entry: what its iterator hands over, and how a loop's body is walked in a round. Written by this session. -/
import Derived.Test.YtmfngihgoanhpaaProg
import Derived.Below
import Derived.Deep.Draws
import Derived.Deep.AppendLies
import Derived.Maps.AppendAt
import Derived.OwnWalk
import Derived.Laws.BytesArg
import Derived.Laws.MakeOwn
import Derived.Laws.OwnMore
import Derived.Deep.OwnRows
import Derived.Tactics
import Derived.Lib.ConvBytes
import Derived.Laws.Slices
import Derived.WalkKit
import Derived.KernelRfl
import Derived.RowKit3
import Derived.Deep.LoopGhost
import Derived.Deep.QuietTactic
import Derived.BigQuiet
import Derived.WideLaws
import Derived.Deep.DeepCutAuto
import Derived.Deep.CutBlock
import Derived.Deep.RegionHeld3
import Derived.Laws.Rows
import Derived.Lib.AppendStr
import Derived.ArgAppend
import Derived.Laws.IdiomCopy
import Derived.OrdersHeld
import Derived.Laws.BitsLemmas
import Derived.RowKit
import Derived.WalkMore
import Derived.ScopeJumps
import Derived.Laws.CopyOwn
import Derived.Lib.SlBytesConst
import Derived.Lib.SliceRun
import Derived.ChangeKeysEq
import Derived.Test.YtmfngihgoanhpaaAppStr
import Derived.Test.YtmfngihgoanhpaaWWords
import Derived.Test.YtmfngihgoanhpaaWLast
import Derived.Test.YtmfngihgoanhpaaWTab
import Derived.Test.YtmfngihgoanhpaaWFour
import Derived.Test.YtmfngihgoanhpaaWQPut
import Derived.Test.YtmfngihgoanhpaaWApart
import Derived.Test.YtmfngihgoanhpaaWArr
import Derived.Test.YtmfngihgoanhpaaWZeros
import Derived.Test.YtmfngihgoanhpaaWFoot
import Derived.Test.YtmfngihgoanhpaaWKept
import Derived.Test.YtmfngihgoanhpaaWShare
import Derived.Test.YtmfngihgoanhpaaWN
import Derived.Test.YtmfngihgoanhpaaWFootNe
import Derived.Test.YtmfngihgoanhpaaWAt
import Derived.Test.YtmfngihgoanhpaaWEqStruct
import Derived.Test.YtmfngihgoanhpaaWRepsOne
import Derived.Test.YtmfngihgoanhpaaWInv
import Derived.Test.YtmfngihgoanhpaaWInvWords
import Derived.Test.YtmfngihgoanhpaaWGuard
import Derived.Test.YtmfngihgoanhpaaWNEv
import Derived.Test.YtmfngihgoanhpaaWMore
import Derived.RangeFuncWrites
import Derived.RangeFuncLeaves
import Derived.RangeFuncCalls
import Derived.TacticsInMore
import Derived.LoopIn
import Derived.LoopNIn
import Derived.Shelf.Abstract
namespace Go.Proofs.Ytmfngihgoanhpaa.RunWords
open Go.RowKit Go.Proofs.YtmfngihgoanhpaaW.PrintWords Go.Proofs.YtmfngihgoanhpaaW.PrintLast Go.Proofs.YtmfngihgoanhpaaW.PrintMore
attribute [local go_sem] max2_int min2_int max_two min_two max_three min_three max_four min_four
attribute [local go_sem] Oper.semAt_some
set_option linter.unusedVariables false
set_option linter.unusedSimpArgs false

theorem opwp_round {P : Program} {l n : Nat} {o : Oper} {a : Act} {w : World} {K : Act → World → Prop} {Q : Exit → Act → World → Prop} (hd : ∀ c, o.op ≠ .defer c) (h : o.wp P a w K Q) : o.wpIn (Fence.wide.inRound l) n P a w K Q := by
  refine ⟨fun _ _ => trivial, ?_⟩
  rw [Oper.semAt_eq _ _ _ hd]
  unfold Oper.wp at h
  generalize (execOp a.eval o).run P w = r at *
  cases r with
  | ok x w' =>
    cases x <;> simp only [Oper.upon] at h <;> simp only [Oper.uponIn]
    all_goals first | exact h | exact h.elim | skip
    · exact ⟨fun hs => absurd hs (by simp [Fence.wide]), (CallsIn.inRound l (callsIn_wide.2 h)).mono (fun e w'' he => by cases e <;> exact he)⟩
    · exact ⟨fun hs => absurd hs (by simp [Fence.wide]), fun c cs _ => let ⟨v, w', r, s⟩ := h c cs; ⟨v, w', r, stepsIn_wide.2 s⟩⟩
  | halt x w' => cases x <;> simp only [Oper.upon] at h <;> simp only [Oper.uponIn] <;> first | exact h | exact h.elim

theorem wpOps_round {P : Program} {l n : Nat} {ops : Array Oper} {Q : Exit → Act → World → Prop} (hd : ∀ (i : Nat) (o : Oper), ops[i]? = some o → ∀ c, o.op ≠ .defer c) (hL : ¬ LetsOut Q) :
    ∀ (L : List Nat) (a : Act) (w : World), wpOps P ops Q L a w → wpOpsIn (Fence.wide.inRound l) n P ops Q L a w := by
  intro L
  induction L with
  | nil => intro a w h; exact h
  | cons i rest ih =>
    intro a w h
    simp only [wpOps] at h
    simp only [wpOpsIn]
    cases ho : ops[i]? with
    | none => rw [ho] at h; exact ih a w h
    | some o =>
      rw [ho] at h
      dsimp only at h ⊢
      by_cases hw : Region.wanted o (yielded ops a.tmps) = true
      · rw [if_pos hw] at h ⊢
        rcases h with h | h
        · exact opwp_round (hd i o ho) (Oper.wp_mono (fun a w => ih a w) h)
        · exact absurd h.2 hL
      · rw [if_neg hw] at h ⊢
        exact ⟨fun _ _ => trivial, ih _ _ h⟩

theorem region_round {P : Program} {l n id : Nat} {ops : Array Oper} {Q : Exit → Act → World → Prop} {a : Act} {w : World} (hm : P.follows .mixedOrders = true) (hd : ∀ (i : Nat) (o : Oper), ops[i]? = some o → ∀ c, o.op ≠ .defer c) (hL : ¬ LetsOut Q)
    (h : wpAny P .any ops Q ops.size (Array.replicate ops.size false) a { w with drawn := w.drawn + 1 }) : (Code.region id ops true).wpIn (Fence.wide.inRound l) n P Q a w :=
  wpIn_region_draw fun t => by
    simp only [Region.schedule, hm, Bool.true_or, if_true]
    exact wpOps_round hd hL _ _ _ (wpAny_sound ops.size t _ a _ h)

theorem wp_of_one {P : Program} {ops : Array Oper} {o : Oper} {a : Act} {w : World} {K : Act → World → Prop} {Q : Exit → Act → World → Prop} (hw : Region.wanted o (yielded ops a.tmps) = true)
    (h : wpList P ops (fun e a w => e = .normal ∧ K a w) [o] a w) : o.wp P a w K Q := by
  simp only [wpList, hw, if_true] at h
  rcases h with h | ⟨_, a0, w0, h0, _⟩
  · unfold Oper.wp at *
    generalize (execOp a.eval o).run P w = r at *
    cases r with
    | ok x w' =>
      cases x <;> simp only [Oper.upon] at h ⊢
      all_goals first | exact h.2 | exact h.elim | skip
      · exact Calls.mono h (fun e w'' he => by
          cases e
          · exact he.2
          · exact absurd he.1 (by simp)
          · obtain ⟨_, _, h0, _⟩ := he; cases h0)
      · exact Rows.mono h (fun _ _ he => he.2)
    | halt x w' =>
      cases x <;> simp only [Oper.upon] at h ⊢
      all_goals first | exact h.elim | skip
      · exact absurd h.1 (by simp)
  · cases h0

def noDefer (ops : Array Oper) : Bool := ops.toList.all fun o => match o.op with | .defer _ => false | _ => true
theorem noDefer_spec {ops : Array Oper} (h : noDefer ops = true) (i : Nat) (o : Oper) (ho : ops[i]? = some o) (c : Call) : o.op ≠ .defer c := by
  intro e
  unfold noDefer at h
  have hm : o ∈ ops.toList := by
    rw [← Array.getElem?_toList] at ho
    exact List.mem_of_getElem? ho
  have := List.all_eq_true.mp h o hm
  rw [e] at this
  simp at this

/-! ### slices.Chunk: functions 20 and its closure -/
abbrev Piece (len size : Nat) := { j : Nat // j * size < len }
def pieceVal (A0 : Option Addr) (len size : Nat) (x : Piece len size) : Value := .slice (A0.map (·.add (x.1 * size * 2))) (min size (len - x.1 * size)) (min size (len - x.1 * size))
def pieces (len size : Nat) : Nat → List (Piece len size)
  | 0 => []
  | c + 1 => if h : c * size < len then pieces len size c ++ [⟨c, h⟩] else pieces len size c
theorem pieces_succ {len size c : Nat} (h : c * size < len) : pieces len size (c + 1) = pieces len size c ++ [⟨c, h⟩] := by rw [pieces, dif_pos h]
theorem pieces_length {len size : Nat} (hs : 1 ≤ size) : ∀ c, (c - 1) * size < len ∨ c = 0 → (pieces len size c).length = c
  | 0, _ => rfl
  | c + 1, h => by
    have h' : c * size < len := by simpa using h
    rw [pieces_succ h', List.length_append, pieces_length hs c (by
      rcases c with _ | c
      · exact .inr rfl
      · refine .inl (Nat.lt_of_le_of_lt (Nat.mul_le_mul_right _ (by omega)) h'))]
    rfl
theorem pieces_over {len size k : Nat} (hk : len ≤ k * size) : ∀ m, k ≤ m → pieces len size m = pieces len size k := by
  intro m hm
  obtain ⟨d, rfl⟩ := Nat.exists_eq_add_of_le hm
  induction d with
  | zero => rfl
  | succ d ih =>
    have h1 : ¬ ((k + d) * size < len) := Nat.not_lt.2 (Nat.le_trans hk (Nat.mul_le_mul_right _ (by omega)))
    rw [show k + (d + 1) = (k + d) + 1 by omega, pieces, dif_neg h1]
    exact ih (by omega)
/-- The two boxes of the iterator lie as they lay. -/
def KeepsTwo (Bs Bn : Nat) (W W' : World) : Prop := W'.heap[Bs]? = W.heap[Bs]? ∧ W'.heap[Bn]? = W.heap[Bn]?

set_option maxHeartbeats 4000000 in
set_option maxRecDepth 100000 in
theorem chunk1_in (n : Nat) (hn : 1 ≤ n) (l Bs Bn : Nat) (A0 : Option Addr) (len c0 size : Nat) (hs : 1 ≤ size) (hs2 : size ≤ 255) (hc : len ≤ c0) (hlen : len < 4611686018427387904) (J Jx : List (Piece len size) → World → Prop)
    (hY : ∀ pre x W, J pre W → pre.length < len → YieldAt Fence.wide (n - 1) Try.prog l #[pieceVal A0 len size x] W fun e W' =>
      (e = .returned (.bool true) ∧ J (pre ++ [x]) W' ∧ KeepsTwo Bs Bn W W') ∨ (e = .returned (.bool false) ∧ Jx (pre ++ [x]) W'))
    (W : World) (hBs : W.heap[Bs]? = some (.cells #[.slice A0 len c0] 22 (0, 0))) (hBn : W.heap[Bn]? = some (.cells #[.int .i64 size] 3 (0, 0))) (h0 : J [] W)
    (hJd : ∀ pre W, J pre W → J pre W.drew) :
    CallsIn Fence.wide n Try.prog 36 #[.func (.yield l) #[] #[], .pointer (some ⟨Bs, 0, none⟩), .pointer (some ⟨Bn, 0, none⟩)] W fun e W' => (∃ v, e = .returned v) ∧
      ((∃ ys, ys = pieces len size len ∧ J ys W') ∨ (∃ pre, True ∧ Jx pre W')) := by
  refine callsIn_of_wp Try.func36 rfl trivial ?_ rfl
  simp only [Try.ntmps36, List.size_toArray, List.length_cons, List.length_nil, Nat.reduceAdd, Nat.reduceSub, Array.replicate_succ, Array.replicate_zero, List.push_toArray, List.append_toArray, List.nil_append, List.cons_append]
  gi_wp2
  gi_loopw [4] (fun i wr => ∃ k : Nat, i = .int .i64 (k * size : Nat) ∧ J (pieces len size k) wr ∧ ((k - 1) * size < len ∨ k = 0) ∧ wr.heap[Bs]? = some (.cells #[.slice A0 len c0] 22 (0, 0)) ∧ wr.heap[Bn]? = some (.cells #[.int .i64 size] 3 (0, 0)))
    (fun i _ => len + size - (intOf i).toNat)
  case atStart => exact ⟨0, by simp, h0, .inr rfl, hBs, hBn⟩
  case round =>
    obtain ⟨k, rfl, hJs, hk, hbs, hbn⟩ := hrel
    have hcs : wr.cell? ⟨Bs, 0, none⟩ = some (.slice A0 len c0) := blk_cell hbs 0
    have hcn : wr.cell? ⟨Bn, 0, none⟩ = some (.int .i64 size) := blk_cell hbn 0
    obtain ⟨p, hp⟩ : ∃ p, p = k * size := ⟨_, rfl⟩
    rw [← hp]
    have HP := Aside0.mk hp
    clear hp
    have hs0 : ¬ size = 0 := by omega
    by_cases hlt : p < len
    · have hlt' : decide (((p : Nat) : Int) < (len : Int)) = true := by simp; omega
      have hlen2 : (pieces len size k).length < len := by
        rw [pieces_length hs k hk]
        exact Nat.lt_of_le_of_lt (Nat.le_mul_of_pos_right k hs) (HP.out ▸ hlt)
      have hyy := hY (pieces len size k) ⟨k, HP.out ▸ hlt⟩ wr.drew (hJd _ _ hJs) hlen2
      by_cases hm : size ≤ len - p
      · rw [show pieceVal A0 len size ⟨k, HP.out ▸ hlt⟩ = .slice (A0.map (·.add (p * 2))) size size by simp only [pieceVal]; rw [← HP.out, Nat.min_eq_left hm]] at hyy
        obtain ⟨fn, tmps, assign, body, hy, hR⟩ := hyy
        gi_wp2
        refine wpIn_wide.2 ?_
        go_region
        gi_wp2
        refine hR.mono ?_
        rintro e W3 (⟨rfl, hJ3, hk3⟩ | ⟨rfl, hJx3⟩)
        · have hbs3 : W3.heap[Bs]? = some (.cells #[.slice A0 len c0] 22 (0, 0)) := hk3.1.trans hbs
          have hbn3 : W3.heap[Bn]? = some (.cells #[.int .i64 size] 3 (0, 0)) := hk3.2.trans hbn
          have hcs3 : W3.cell? ⟨Bs, 0, none⟩ = some (.slice A0 len c0) := blk_cell hbs3 0
          have hcn3 : W3.cell? ⟨Bn, 0, none⟩ = some (.int .i64 size) := blk_cell hbn3 0
          gi_wp2
          go_roundw
          case rel => exact ⟨k + 1, by rw [Nat.add_mul, Nat.one_mul, ← HP.out]; simp, by rw [pieces_succ (by rw [← HP.out]; exact hlt)]; exact hJ3, .inl (by simp; rw [← HP.out]; exact hlt), hbs3, hbn3⟩
          case measure => simp [intOf]; omega
        · gi_wp2
          refine bodyPost_ret (results_none rfl _ _ _) rfl ?_
          exact ⟨⟨_, rfl⟩, .inr ⟨_, trivial, hJx3⟩⟩
      · rw [show pieceVal A0 len size ⟨k, HP.out ▸ hlt⟩ = .slice (A0.map (·.add (p * 2))) (len - p) (len - p) by simp only [pieceVal]; rw [← HP.out, Nat.min_eq_right (by omega)]] at hyy
        obtain ⟨fn, tmps, assign, body, hy, hR⟩ := hyy
        have hpl : p + (len - p) = len := by omega
        have hl0 : ¬ len - p = 0 := by omega
        gi_wp2
        refine wpIn_wide.2 ?_
        go_region
        gi_wp2
        refine hR.mono ?_
        rintro e W3 (⟨rfl, hJ3, hk3⟩ | ⟨rfl, hJx3⟩)
        · have hbs3 : W3.heap[Bs]? = some (.cells #[.slice A0 len c0] 22 (0, 0)) := hk3.1.trans hbs
          have hbn3 : W3.heap[Bn]? = some (.cells #[.int .i64 size] 3 (0, 0)) := hk3.2.trans hbn
          have hcs3 : W3.cell? ⟨Bs, 0, none⟩ = some (.slice A0 len c0) := blk_cell hbs3 0
          have hcn3 : W3.cell? ⟨Bn, 0, none⟩ = some (.int .i64 size) := blk_cell hbn3 0
          gi_wp2
          go_roundw
          case rel => exact ⟨k + 1, by rw [Nat.add_mul, Nat.one_mul, ← HP.out]; simp, by rw [pieces_succ (by rw [← HP.out]; exact hlt)]; exact hJ3, .inl (by simp; rw [← HP.out]; exact hlt), hbs3, hbn3⟩
          case measure => simp [intOf]; omega
        · gi_wp2
          refine bodyPost_ret (results_none rfl _ _ _) rfl ?_
          exact ⟨⟨_, rfl⟩, .inr ⟨_, trivial, hJx3⟩⟩
    · have hlt' : decide (((p : Nat) : Int) < (len : Int)) = false := by simp; omega
      gi_wp2
      go_end0
      refine ⟨⟨_, rfl⟩, .inl ⟨_, rfl, ?_⟩⟩
      have hkl : k ≤ len := by
        rcases hk with h | h
        · have := Nat.le_mul_of_pos_right (k - 1) hs
          omega
        · omega
      rw [pieces_over (k := k) (by rw [← HP.out]; omega) len hkl]
      exact hJs

set_option maxHeartbeats 4000000 in
theorem chunk.calls (A0 : Option Addr) (len c0 : Nat) (size : Int) (hs : 1 ≤ size) (w : World) :
    Calls Try.prog 20 #[.slice A0 len c0, .int .i64 size] w fun e w' => e = .returned (.func (.func 36) #[] #[.pointer (some ⟨w.heap.size, 0, none⟩), .pointer (some ⟨w.heap.size + 1, 0, none⟩)]) ∧
      w' = (w.alloc (.cells #[.slice A0 len c0] 22 (0, 0))).alloc (.cells #[.int .i64 size] 3 (0, 0)) := by
  have hs1 : decide (size < 1) = false := by simp; omega
  go_enter Try.func20, Try.ntmps20
  go_wp2
  go_ret
  exact ⟨rfl, rfl⟩

theorem chunk_stops (n : Nat) (hn : 1 ≤ n) (Bs Bn : Nat) (A0 : Option Addr) (len c0 size : Nat) (hs : 1 ≤ size) (hs2 : size ≤ 255) (hc : len ≤ c0) (hlen : len < 4611686018427387904) (w : World)
    (hBs : w.heap[Bs]? = some (.cells #[.slice A0 len c0] 22 (0, 0))) (hBn : w.heap[Bn]? = some (.cells #[.int .i64 size] 3 (0, 0))) :
    SeqStopsK Fence.wide n Try.prog 36 #[.pointer (some ⟨Bs, 0, none⟩), .pointer (some ⟨Bn, 0, none⟩)] (fun x : Piece len size => #[pieceVal A0 len size x]) (KeepsTwo Bs Bn) (fun ys => ys = pieces len size len) (fun _ => True) len w := fun l J Jx W hW hJ _ hY h0 =>
  chunk1_in n hn l Bs Bn A0 len c0 size hs hs2 hc hlen J Jx hY W (blk_below hBs hW) (blk_below hBn hW) h0
    (fun pre W' h => hJ pre W' W'.drew none h ⟨rfl, rfl, rfl, Nat.le_refl _, fun _ _ _ => rfl⟩ (fun r e => by cases e))
end Go.Proofs.Ytmfngihgoanhpaa.RunWords
