/- Parts of the proof, merged by a program of this session. -/
import Derived.Test.YtnabhfegbnfabaaPkReaderPlaysa
section
namespace Go.Proofs.Ytnabhfegbnfabaa.PRd
open Go.RowKit Go.Proofs.YtnabhfegbnfabaaW.PrintWords Go.Proofs.YtnabhfegbnfabaaW.PrintLast Go.Proofs.YtnabhfegbnfabaaW.PrintMore
attribute [local go_sem] max2_int min2_int max_two min_two max_three min_three max_four min_four
attribute [local go_sem] Go.Proofs.Ytnabhfegbnfabaa.MoreWords.str_leq Go.Proofs.Ytnabhfegbnfabaa.MoreWords.str_gtr Go.Proofs.Ytnabhfegbnfabaa.MoreWords.str_geq
set_option linter.unusedVariables false
set_option linter.unusedSimpArgs false
section
open Go.Proofs.Ytnabhfegbnfabaa.RunWords
attribute [local go_sem] Oper.semAt_some
def run_Encode.piece (l : List S36) (size j : Nat) : List S36 := (l.take (j * size + min size (l.length - j * size))).drop (j * size)
def run_Encode.all (k : Nat) (l : List S36) (size : Nat) : Nat → Option (List (List Int))
 | 0 => some []
 | c + 1 => (run_Encode.all k l size c).bind fun bs => if c * size < l.length then (run_block.f k (run_Encode.piece l size c)).bind fun b => some (bs ++ [b]) else some bs
def run_Encode.out (k : Nat) : List (List Int) → List Int → Option (List Int × Int)
 | [], b => some (b, 0)
 | x :: xs, b => (frame_Put.f k b x).bind fun r => if r.2 = 0 then run_Encode.out k xs r.1 else some ([], r.2)
def run_Encode.f (k : Nat) (l0 : List S36) (a1 : Int) : Option (List Int × Int) :=
 if a1 < 1 then some ([], 1) else if a1 > 255 then some ([], 1) else
 (run_May.f k l0).bind fun e => if e = 0 then
  (if l0.length < 5000000000000 then
   (num_Put.f k [] (IntKind.u64.wrap a1)).bind fun t =>
   (run_Encode.all k l0 a1.toNat l0.length).bind fun bs =>
   (num_Put.f k [] 0).bind fun z => (num_Put.f k z (IntKind.u64.wrap (l0.length : Int))).bind fun en =>
   run_Encode.out k ((t :: bs) ++ [en]) []
  else none)
 else some ([], e)
theorem run_Encode.all_mono (l : List S36) (size k : Nat) : ∀ c, LeO (run_Encode.all k l size c) (run_Encode.all (k + 1) l size c)
 | 0 => LeO.refl _
 | c + 1 => by
  unfold run_Encode.all
  refine LeO.bind (run_Encode.all_mono l size k c) (fun bs => LeO.ite (LeO.bind (run_block.mono _ _) (fun _ => LeO.refl _)) (LeO.refl _))
theorem run_Encode.out_mono (k : Nat) : ∀ xs b, LeO (run_Encode.out k xs b) (run_Encode.out (k + 1) xs b)
 | [], _ => LeO.refl _
 | x :: xs, b => by
  unfold run_Encode.out
  exact LeO.bind (frame_Put.mono _ _ _) (fun r => LeO.ite (run_Encode.out_mono k xs _) (LeO.refl _))
theorem run_Encode.mono : ∀ a0 a1 k, LeO (run_Encode.f k a0 a1) (run_Encode.f (k + 1) a0 a1) := by
 intro a0 a1 k
 unfold run_Encode.f
 refine LeO.ite (LeO.refl _) (LeO.ite (LeO.refl _) (LeO.bind (run_May.mono _ _) (fun e => LeO.ite (LeO.ite (LeO.bind (num_Put.mono _ _ _) (fun t => LeO.bind (run_Encode.all_mono _ _ _ _) (fun bs => LeO.bind (num_Put.mono _ _ _) (fun z => LeO.bind (num_Put.mono _ _ _) (fun en => run_Encode.out_mono _ _ _))))) (LeO.none _)) (LeO.refl _))))
theorem lit_one {α : Type} {d : Kd α} {w : World} {base : Nat} {okj : Nat → Nat → Prop} {x : α} {u : Value} (h : d.M w base (okj 0) x (([u].drop (0 * d.sz)).take d.sz)) : ∀ j y, [x][j]? = some y → d.M w base (okj j) y (([u].drop (j * d.sz)).take d.sz)
 | 0, y, e => by cases e; exact h
 | j + 1, y, e => by simp at e
theorem leaves_two {P : Program} {fn : Func} {t u : Tmp} (h : fn.results = #[.tmp t, .tmp u]) {R : Ending → World → Prop} {tmps : Array Value} {w : World} (hR : R (.returned (.tuple #[tmps.getD t undef, tmps.getD u undef])) w) :
  bodyPostM Fence.wide 3 P fn R .ret { tmps := tmps, defers := [] } w := ⟨_, results_tmp2 h tmps P w, hR⟩
theorem enc_piece_len {l : List S36} {size j : Nat} (h : j * size < l.length) : (run_Encode.piece l size j).length = min size (l.length - j * size) := by
 unfold run_Encode.piece
 rw [List.length_drop, List.length_take]
 omega
theorem enc_piece_C {l : List S36} {size j c0 : Nat} {A0 : Option Addr} {W : World} (h : j * size < l.length) (hC : Kd.C k36 W A0 l.length l) (hc : l.length ≤ c0) : Kd.C k36 W (A0.map (·.add (j * size * 2))) (run_Encode.piece l size j).length (run_Encode.piece l size j) := by
 have := Kd.C_mid (c := c0) (lo := j * size) (hi := j * size + min size (l.length - j * size)) hC (by omega) (by omega) hc
 rwa [if_neg (by omega)] at this
theorem enc_all_some (k : Nat) (l : List S36) (size : Nat) : ∀ {c : Nat} (bs : List (List Int)), run_Encode.all k l size c = some bs → ∀ j, j < c → j * size < l.length → ∃ b, run_block.f k (run_Encode.piece l size j) = some b
 | 0, _, _, j, hj, _ => by omega
 | c + 1, bs, h, j, hj, hl => by
  unfold run_Encode.all at h
  obtain ⟨bs', h1, h2⟩ := Option.bind_eq_some_iff.mp h
  by_cases e : j = c
  ·subst e
   rw [if_pos hl] at h2
   obtain ⟨b, hb, _⟩ := Option.bind_eq_some_iff.mp h2
   exact ⟨b, hb⟩
  ·exact enc_all_some k l size bs' h1 j (by omega) hl
theorem enc_lt {size j n : Nat} (h1 : 1 ≤ size) (h : j * size < n) : j < n := Nat.lt_of_le_of_lt (Nat.le_mul_of_pos_right j h1) h
theorem enc_all_eq (k : Nat) (l : List S36) (size : Nat) : ∀ (c : Nat) (bs : List (List Int)), run_Encode.all k l size c = some bs → bs = (pieces l.length size c).map fun x => (run_block.f k (run_Encode.piece l size x.1)).getD []
 | 0, bs, h => by cases h; rfl
 | c + 1, bs, h => by
  unfold run_Encode.all at h
  obtain ⟨bs', h1, h2⟩ := Option.bind_eq_some_iff.mp h
  have ih := enc_all_eq k l size c bs' h1
  by_cases hl : c * size < l.length
  ·rw [if_pos hl] at h2
   obtain ⟨b, hb, h3⟩ := Option.bind_eq_some_iff.mp h2
   cases h3
   rw [pieces_succ hl, List.map_append, ← ih]
   simp [hb]
  ·rw [if_neg hl] at h2
   cases h2
   rw [pieces, dif_neg hl]
   exact ih
theorem enc_okp {w5 W : World} {base g : Nat} {v v5 : Value} {xs : List (List Int)} {bk : List Int} (hs : Kd.S (Kd.slice 5 (Kd.int .u8)) 22 w5 base (fun k_ => (k_ ≠ g ∧ k_ ≠ g + 1 ∧ k_ ≠ g + 1 + 1) ∧ some k_ ≠ v5.ownBlock) v xs) (ho : Kd.R (Kd.int .u8) 5 w5 W.drew.heap.size (fun _ => True) v5 bk) (hg : g + 1 + 1 < W.heap.size) :
  ∀ k_, some k_ = v5.ownBlock → (k_ ≠ g ∧ k_ ≠ g + 1 ∧ k_ ≠ g + 1 + 1) ∧ some k_ ≠ v.ownBlock := by
 intro k_ hk
 have h1 : W.heap.size ≤ k_ := Kd.R_base ho k_ hk.symm
 refine ⟨by omega, fun e => ?_⟩
 obtain ⟨_, h2⟩ := Kd.R_typed ho k_ hk.symm
 obtain ⟨_, h3⟩ := Kd.S_typed hs k_ e.symm
 rw [h2] at h3
 cases h3
def encI (k : Nat) (l0 : List S36) (A0 : Option Addr) (c0 : Nat) (t : List Int) (size g : Nat) (w : World) (pre : List (Piece l0.length size)) (W : World) : Prop :=
 ∃ v, W.heap[g]? = some (.cells #[v] 58 (0, 0)) ∧ Kd.S (Kd.slice 5 (Kd.int .u8)) 22 W w.heap.size (fun k_ => k_ ≠ g ∧ k_ ≠ g + 1 ∧ k_ ≠ g + 1 + 1) v (t :: pre.map fun x => (run_block.f k (run_Encode.piece l0 size x.1)).getD []) ∧
  W.heap[g + 1]? = some (.cells #[.slice A0 l0.length c0] 29 (0, 0)) ∧ W.heap[g + 1 + 1]? = some (.cells #[.int .i64 size] 3 (0, 0)) ∧ Below w.heap.size w W
theorem encI_own (k : Nat) (l0 : List S36) (A0 : Option Addr) (c0 : Nat) (t : List Int) (size g : Nat) (w W4 : World) (hg : g + 1 + 1 < W4.heap.size) (hw : w.heap.size ≤ W4.heap.size) : OwnFrom W4.heap.size (encI k l0 A0 c0 t size g w) := by
 rintro s A B row ⟨v, h1, h2, h3, h4, h5⟩ hgr hr
 have hne : ∀ j, j < W4.heap.size → some j ≠ row := fun j hj e => by have := (hr j e.symm).1; omega
 refine ⟨v, blk_grown h1 hgr (hne _ (by omega)), Kd.S_mono (Kd.S_step (Kd.S_bound h2) (fun k_ hk hlt => hgr.block k_ hlt (fun e => ?_))) (fun _ hk => hk.1), blk_grown h3 hgr (hne _ (by omega)), blk_grown h4 hgr (hne _ hg), ownFrom_below (β := Unit) (Nat.le_refl _) hw () A B row h5 hgr hr⟩
 obtain ⟨_, o, ho, hc⟩ := hr k_ e.symm
 obtain ⟨_, _, _, q, _, cells, hcc⟩ := hk
 rw [ho] at hcc
 cases hcc
 cases hc
theorem enc_okp2 {w7 : World} {base b2 g : Nat} {v v7 : Value} {xs : List (List Int)} {bk : List Int} (hs : Kd.S (Kd.slice 5 (Kd.int .u8)) 22 w7 base (fun k_ => (k_ ≠ g ∧ k_ ≠ g + 1 ∧ k_ ≠ g + 1 + 1) ∧ some k_ ≠ v7.ownBlock) v xs) (ho : Kd.R (Kd.int .u8) 5 w7 b2 (fun _ => True) v7 bk) (hg : g + 1 + 1 < b2) :
  ∀ k_, some k_ = v7.ownBlock → (k_ ≠ g ∧ k_ ≠ g + 1 ∧ k_ ≠ g + 1 + 1) ∧ some k_ ≠ v.ownBlock := by
 intro k_ hk
 have h1 : b2 ≤ k_ := Kd.R_base ho k_ hk.symm
 refine ⟨by omega, fun e => ?_⟩
 obtain ⟨_, h2⟩ := Kd.R_typed ho k_ hk.symm
 obtain ⟨_, h3⟩ := Kd.S_typed hs k_ e.symm
 rw [h2] at h3
 cases h3
theorem enc_def {w7 : World} {base D : Nat} {ok : Nat → Prop} {v : Value} {xs : List (List Int)} {o : Option (List Deferred)} (hs : Kd.S (Kd.slice 5 (Kd.int .u8)) 22 w7 base ok v xs) (hd : w7.heap[D]? = some (.deferred o)) : some D ≠ v.ownBlock := fun e => by
 obtain ⟨_, h3⟩ := Kd.S_typed hs D e.symm
 rw [hd] at h3
 cases h3
theorem blk_far' {w : World} {g D : Nat} {o : Obj} (h : w.heap[D]? = some o) (hne : D ≠ g) {u : Value} : (w.setCell ⟨g, 0, none⟩ u).heap[D]? = some o := (Below.heap_setCell w ⟨g, 0, none⟩ u D hne).trans h
theorem enc_all_len (k : Nat) (l : List S36) (size : Nat) : ∀ (c : Nat) (bs : List (List Int)), run_Encode.all k l size c = some bs → bs.length ≤ c
 | 0, bs, h => by cases h; simp
 | c + 1, bs, h => by
  unfold run_Encode.all at h
  obtain ⟨bs', h1, h2⟩ := Option.bind_eq_some_iff.mp h
  have ih := enc_all_len k l size c bs' h1
  by_cases hl : c * size < l.length
  ·rw [if_pos hl] at h2
   obtain ⟨b, hb, h3⟩ := Option.bind_eq_some_iff.mp h2
   cases h3
   rw [List.length_append, List.length_singleton]
   omega
  ·rw [if_neg hl] at h2
   cases h2
   omega
theorem leaves_mark {P : Program} {fn : Func} {t u : Tmp} (h : fn.results = #[.tmp t, .tmp u]) {w w' W4 : World} {D : Nat} {r1 : List Int} {r2 : Int} {tmps : Array Value} {v : Value} (hw : w.heap.size ≤ W4.heap.size) (hD : W4.heap.size ≤ D) (hd : w'.heap[D]? = some (.deferred (some []))) (hR : Kd.R (Kd.int .u8) 5 w' w.heap.size (fun _ => True) v r1) (hb : Below w.heap.size w w')
  (hv : tmps.getD t undef = v) (hu : tmps.getD u undef = .int .i64 r2) :
  bodyPostM Fence.wide 3 P fn (fun e w' => ∃ v0_ : Value, e = .returned (.tuple #[v0_, .int .i64 r2]) ∧ Kd.R (Kd.int .u8) 5 w' w.heap.size (fun _ => True) v0_ r1 ∧ Below w.heap.size w w') .ret { tmps := tmps, defers := [{ target := .collected D, args := #[] }] } w' := by
 refine ⟨by simp, .inl ⟨_, _, rfl, run_takeDeferred hd, _, results_tmp2 h tmps P _, v, by rw [hv, hu], Kd.R_mono (Kd.R_step (Kd.R_bound hR) (fun k_ hk hlt => World.putObj_heap_other (fun e => ?_))) (fun _ _ => trivial), ⟨hb.os, hb.tape, hb.output, Nat.le_trans hb.size (by simp [World.putObj]), fun k_ hk => (World.putObj_heap_other (by omega)).trans (hb.block k_ hk)⟩⟩⟩
 obtain ⟨_, _, _, q, _, cells, hcc⟩ := hk
 first | (rw [← e, hd] at hcc; cases hcc) | (rw [e, hd] at hcc; cases hcc)
theorem enc_done {k : Nat} {l0 : List S36} {A0 : Option Addr} {c0 : Nat} {t : List Int} {size g : Nat} {w W w5 w6 : World} {B : Nat} {pre : List (Piece l0.length size)} {x : Piece l0.length size} {v v5 : Value} {A6 : Option Addr} {c6 n6 : Nat} {bk : List Int}
  (b7 : W.heap[g]? = some (.cells #[v] 58 (0, 0))) (bsx : W.heap[g + 1]? = some (.cells #[.slice A0 l0.length c0] 29 (0, 0))) (bnx : W.heap[g + 1 + 1]? = some (.cells #[.int .i64 size] 3 (0, 0))) (hb5 : Below W.drew.heap.size W.drew w5)
  {xs : List (List Int)} (hs5 : Kd.S (Kd.slice 5 (Kd.int .u8)) 22 w5 w.heap.size (fun k_ => (k_ ≠ g ∧ k_ ≠ g + 1 ∧ k_ ≠ g + 1 + 1) ∧ some k_ ≠ v5.ownBlock) v xs) (hg6 : w5.grownBy w6 v.ownBlock)
  (ho6 : Kd.S (Kd.slice 5 (Kd.int .u8)) 22 w6 w.heap.size (fun k_ => k_ ≠ g ∧ k_ ≠ g + 1 ∧ k_ ≠ g + 1 + 1) (.slice A6 n6 c6) ((t :: pre.map fun x => (run_block.f k (run_Encode.piece l0 size x.1)).getD []) ++ [bk])) (hb6 : Below w.heap.size w w6) (hbk : run_block.f k (run_Encode.piece l0 size x.1) = some bk) (hwg : w.heap.size ≤ g) :
  KeepsFrom B W (w6.setCell ⟨g, 0, none⟩ (.slice A6 n6 c6)) ∧ KeepsTwo (g + 1) (g + 1 + 1) W (w6.setCell ⟨g, 0, none⟩ (.slice A6 n6 c6)) ∧ encI k l0 A0 c0 t size g w (pre ++ [x]) (w6.setCell ⟨g, 0, none⟩ (.slice A6 n6 c6)) := by
 have e7 := blk_grown (blk_below (blk_drew b7) hb5) hg6 (Kd.S_away hs5 (fun _ hk => hk.1.1))
 have es := blk_far (blk_grown (blk_below (blk_drew bsx) hb5) hg6 (Kd.S_away hs5 (fun _ hk => hk.1.2.1))) (p := ⟨g, 0, none⟩) (by simp) (.slice A6 n6 c6)
 have en := blk_far (blk_grown (blk_below (blk_drew bnx) hb5) hg6 (Kd.S_away hs5 (fun _ hk => hk.1.2.2))) (p := ⟨g, 0, none⟩) (by show g + 1 + 1 ≠ g; omega) (.slice A6 n6 c6)
 refine ⟨⟨?_, fun k_ o _ hk hc => ?_⟩, ⟨es.trans bsx.symm, en.trans bnx.symm⟩, ⟨_, blk_set e7 0 _, ?_, es, en, below_set hb6 hwg⟩⟩
 ·rw [World.size_setCell]
  exact Nat.le_trans hb5.size hg6.size
 ·have h5 : w5.heap[k_]? = some o := blk_below (blk_drew hk) hb5
  have hne : some k_ ≠ v.ownBlock := fun e => by
   obtain ⟨_, h⟩ := Kd.S_typed hs5 k_ e.symm
   rw [h] at h5
   cases h5
   cases hc
  have h6 := blk_grown h5 hg6 hne
  refine (Below.heap_setCell _ ⟨g, 0, none⟩ _ k_ (fun e => ?_)).trans h6
  rw [show k_ = g from e, b7] at hk
  cases hk
  cases hc
 ·have := Kd.S_far ho6 (p := ⟨g, 0, none⟩) (fun _ hk => hk.1) (.slice A6 n6 c6)
  rw [List.map_append, List.map_cons, List.map_nil, hbk, Option.getD_some]
  exact this
set_option maxHeartbeats 4000000 in
set_option maxRecDepth 100000 in
theorem run_Encode.calls (k : Nat) (A0 : Option Addr) (c0 : Nat) (l0 : List (S36)) (a1 : Int) (r1 : List Int) (r2 : Int) (w : World) (hr0 : Kd.C k36 w A0 l0.length l0) (hc0 : l0.length ≤ c0) (h : run_Encode.f k l0 a1 = some (r1, r2)) :
  Calls Try.prog 15 #[.slice A0 l0.length c0, .int .i64 a1] w fun e w' => ∃ v0_ : Value, e = .returned (.tuple #[v0_, .int .i64 r2]) ∧ Kd.R (Kd.int .u8) 5 w' w.heap.size (fun _ => True) v0_ r1 ∧ Below w.heap.size w w' := by
 have HR0 := Az.mk hr0
 have HC0 := Az.mk hc0
 clear hr0 hc0
 unfold run_Encode.f at h
 refine (callsIn_wide (n := 3)).1 (callsIn_of_wp_marks Try.func15 rfl trivial (wpIn_wide.2 ?_) rfl)
 simp only [Try.ntmps15, List.size_toArray, List.length_cons, List.length_nil, Nat.reduceAdd, Nat.reduceSub, Array.replicate_succ, Array.replicate_zero, List.push_toArray, List.append_toArray, List.nil_append, List.cons_append]
 have HB := Az.mk (Below.refl w.heap.size w)
 by_cases c1 : a1 < 1
 ·rw [if_pos c1] at h
  have c1b : decide (a1 < 1) = true := decide_eq_true c1
  clear c1
  simp only [Option.some.injEq, Prod.mk.injEq] at h
  obtain ⟨rfl, rfl⟩ := h
  go_wp2
  exact leaves_two rfl ⟨_, rfl, Kd.R_nil _ _ _ _ _, HB.out⟩
 rw [if_neg c1] at h
 have c1b : decide (a1 < 1) = false := decide_eq_false c1
 by_cases c2 : a1 > 255
 ·rw [if_pos c2] at h
  have c2b : decide (255 < a1) = true := decide_eq_true c2
  clear c2 c1
  simp only [Option.some.injEq, Prod.mk.injEq] at h
  obtain ⟨rfl, rfl⟩ := h
  go_wp2
  exact leaves_two rfl ⟨_, rfl, Kd.R_nil _ _ _ _ _, HB.out⟩
 rw [if_neg c2] at h
 have c2b : decide (255 < a1) = false := decide_eq_false c2
 replace h := Option.bind_eq_some_iff.mp h
 obtain ⟨e, G1, h⟩ := h
 have G1 := Az.mk G1
 obtain ⟨size, rfl⟩ := Int.eq_ofNat_of_zero_le (show 0 ≤ a1 by omega)
 have C12 := Az.mk (show 1 ≤ size ∧ size ≤ 255 by omega)
 clear c1 c2
 by_cases c3 : e = 0
 ·rw [if_pos c3] at h
  have c3b : (e != 0) = false := bne_eq_false_iff_eq.mpr c3
  clear c3
  by_cases c4 : l0.length < 5000000000000
  ·rw [if_pos c4] at h
   have LM := Az.mk c4
   clear c4
   replace h := Option.bind_eq_some_iff.mp h
   obtain ⟨t, G2, h⟩ := h
   replace h := Option.bind_eq_some_iff.mp h
   obtain ⟨bs, G3, h⟩ := h
   replace h := Option.bind_eq_some_iff.mp h
   obtain ⟨z, G4, h⟩ := h
   replace h := Option.bind_eq_some_iff.mp h
   obtain ⟨en, G5, h⟩ := h
   have G2 := Az.mk G2
   have G3 := Az.mk G3
   have G4 := Az.mk G4
   have G5 := Az.mk G5
   have H := Az.mk h
   clear h
   go_upto_region 7 with (first | (go_at_call 18; refine (run_May.calls k A0 c0 l0 e _ (Kd.C_below HR0.out HB.out) HC0.out G1.out).mono ?_; rintro e_ w1 ⟨rfl, hb⟩; have HB1 := Az.mk (below_step HB.out hb); clear hb HB) | (go_at_call 20; refine (num_Put.calls k _ _ ([] : List Int) (IntKind.u64.wrap (size : Int)) t _ (Kd.C_nil _ _) (Nat.le_refl _) G2.out).mono ?_; rintro e_ w2 ⟨v2, rfl, ho2, hb2⟩; have HO2 := Az.mk (Kd.R_lower ho2 HB1.out.size); have HB2 := Az.mk (below_step HB1.out hb2); clear ho2 hb2 HB1; obtain ⟨Av, cv, eo2⟩ := Kd.R_slice HO2.out; subst eo2) | ((with_reducible refine gate_dst (N := 28) rfl ?_); refine Kd.S_lits (Kd.slice 5 (Kd.int .u8)) (w0 := w) w.heap.size 22 ?hg (N := 28) ?hd (xs := [t]) (inner := [.slice Av t.length cv]) (ok := fun _ => True) (fun j k_ => j = 0 ∧ some k_ = (.slice Av t.length cv : Value).ownBlock) ?hr ?hl ?hrep ?hap (fun _ _ _ => trivial) trivial ?hB ?hS (by simp) ?_; (case hd => rfl); (case hg => rfl); (case hr => first | (go_simp; done) | (go_simp; rfl)); (case hl => rfl); (case hB => exact HB2.out); (case hS => exact HB2.out.size); (case hap => exact (fun i j k_ h1 h2 => h1.1.trans h2.1.symm)); (case hrep => exact lit_one (Kd.M_row (Kd.R_mono (Kd.R_tight rfl HO2.out) (fun k_ hk => ⟨rfl, hk⟩)))); intro v3 w3 ho3 hb3 hg3 hnew3; have HS3 := Az.mk ho3; have HB3 := Az.mk hb3; clear ho3 hb3 hg3 hnew3 HO2 HB2; obtain ⟨A3, c3, eo3, _⟩ := Kd.S_reads HS3.out; subst eo3))
   go_wp2_with (go_at_call 21; refine (chunk.calls A0 l0.length c0 (size : Int) (by have := C12.out.1; omega) _).mono ?_; rintro e_ w4 ⟨rfl, rfl⟩)
   have hs3 := Kd.S_elderB (Kd.S_elderB (Kd.S_elderB HS3.out w3.heap.size (Nat.le_refl _)) (w3.heap.size + 1) (by omega)) (w3.heap.size + 1 + 1) (by omega)
   have hs4 := Kd.S_alloc (Kd.S_alloc (Kd.S_alloc hs3 (.cells #[.slice A3 1 c3] 58 (0, 0))) (.cells #[.slice A0 l0.length c0] 29 (0, 0))) (.cells #[.int .i64 size] 3 (0, 0))
   have bk7 := blk_alloc (blk_alloc (blk_new w3 (.cells #[.slice A3 1 c3] 58 (0, 0))) (.cells #[.slice A0 l0.length c0] 29 (0, 0))) (.cells #[.int .i64 size] 3 (0, 0))
   have bks := blk_alloc (blk_new (w3.alloc (.cells #[.slice A3 1 c3] 58 (0, 0))) (.cells #[.slice A0 l0.length c0] 29 (0, 0))) (.cells #[.int .i64 size] 3 (0, 0))
   have bkn := blk_new ((w3.alloc (.cells #[.slice A3 1 c3] 58 (0, 0))).alloc (.cells #[.slice A0 l0.length c0] 29 (0, 0))) (.cells #[.int .i64 size] 3 (0, 0))
   rw [World.size_alloc] at bks bkn
   rw [World.size_alloc] at bkn
   have hb4 := below_alloc (below_alloc (below_alloc HB3.out (.cells #[.slice A3 1 c3] 58 (0, 0))) (.cells #[.slice A0 l0.length c0] 29 (0, 0))) (.cells #[.int .i64 size] 3 (0, 0))
   have hg3 : w.heap.size ≤ w3.heap.size := HB3.out.size
   clear hs3
   generalize hgg : w3.heap.size = g at *
   generalize hW4 : ((w3.alloc (.cells #[.slice A3 1 c3] 58 (0, 0))).alloc (.cells #[.slice A0 l0.length c0] 29 (0, 0))).alloc (.cells #[.int .i64 size] 3 (0, 0)) = W4 at *
   have hgn : g + 1 + 1 < W4.heap.size := blk_lt bkn
   refine wpIn_wide.1 (wpIn_rangeFunc_ownG (n := 3) (w0 := W4) rfl (by decide) (gf := 35) (lb := #[.pointer (some ⟨g + 1, 0, none⟩), .pointer (some ⟨g + 1 + 1, 0, none⟩)]) rfl trivial (Go.Proofs.enters_of Try.func35 (by kernel_rfl) rfl)
    (chunk_stops 2 (by decide) (g + 1) (g + 1 + 1) A0 l0.length c0 size C12.out.1 C12.out.2 HC0.out (by have := LM.out; omega) W4 bks bkn) (fun h1 h2 => ⟨h2.1.trans h1.1, h2.2.trans h1.2⟩) (fun W l o o' hl _ _ _ => ⟨World.putObj_heap_other (by omega), World.putObj_heap_other (by omega)⟩) (Below.refl _ _) (fun _ => rfl)
    (fun pre W => encI k l0 A0 c0 t size g w pre W) (fun _ _ _ => False) (encI_own k l0 A0 c0 t size g w W4 hgn (by omega)) (fun _ _ _ _ _ hs _ _ => hs)
    ⟨_, bk7, Kd.S_mono hs4 (fun k_ hk => ⟨hk.1.1.2, hk.1.2, hk.2⟩), bks, bkn, hb4⟩
    (fun x => { tmps := #[Value.slice A0 l0.length c0, Value.int IntKind.i64 size, undef, undef, Value.slice none 0 0, Value.int IntKind.i64 0, Value.int IntKind.i64 e, Value.pointer (some ⟨g, 0, none⟩), pieceVal A0 l0.length size x, undef, undef, undef, undef, undef, Value.int IntKind.i64 size, Value.bool false, Value.bool false, Value.int IntKind.i64 size, Value.bool false, Value.bool false, Value.slice A0 l0.length c0, Value.int IntKind.i64 e, Value.int IntKind.i64 e, Value.bool false, undef, Value.int IntKind.i64 size, Value.int IntKind.u64 (IntKind.u64.wrap (size : Int)), Value.slice Av t.length cv, Value.slice A3 1 c3, Value.slice A0 l0.length c0, Value.int IntKind.i64 size, Value.func (Fn.func 35) #[] #[Value.pointer (some ⟨g + 1, 0, none⟩), Value.pointer (some ⟨g + 1 + 1, 0, none⟩)], pieceVal A0 l0.length size x, undef, undef, undef, undef, undef, undef, undef, undef, undef, undef, undef, undef, undef, undef, undef, undef, undef, undef, undef, undef, undef, undef, undef, undef, undef, undef, undef, undef, undef, undef, undef], defers := [] }) ?assign ?body ?done ?stop)
   case assign =>
    intro l x W K hK
    gi_wp2
    exact hK
   case body =>
    rintro l pre x W ⟨v, b7, hs, bsx, bnx, hb⟩ hpre
    have hpieceC : Kd.C k36 W (A0.map (·.add (x.1 * size * 2))) (run_Encode.piece l0 size x.1).length (run_Encode.piece l0 size x.1) := enc_piece_C (by have := x.2; exact this) (Kd.C_below HR0.out hb) HC0.out
    have hpv : pieceVal A0 l0.length size x = .slice (A0.map (·.add (x.1 * size * 2))) (run_Encode.piece l0 size x.1).length (min size (l0.length - x.1 * size)) := by
     unfold pieceVal
     rw [enc_piece_len (by have := x.2; exact this)]
    obtain ⟨bk, hbk⟩ : ∃ bk, run_block.f k (run_Encode.piece l0 size x.1) = some bk := enc_all_some k l0 size _ G3.out x.1 (enc_lt C12.out.1 x.2) x.2
    have hcl7 : W.cell? ⟨g, 0, none⟩ = some v := blk_cell b7 0
    refine wpIn_block ?_
    refine region_round (by kernel_rfl) (noDefer_spec (by kernel_rfl)) (fun h => by obtain ⟨_, _, h⟩ := h; exact h) ?_
    change wpAny _ _ _ _ _ _ _ (World.drew W)
    refine wpAny_take (i := 1) (v := ?_) rfl (by kernel_rfl) (by kernel_rfl) (by kernel_rfl) (fun _ _ _ h => h) (Or.inl ⟨by rfl, ?_⟩) ?_
    rotate_left
    ·intro w_
     go_simp
     with_reducible rfl
    have hpl : (run_Encode.piece l0 size x.1).length ≤ min size (l0.length - x.1 * size) := by rw [enc_piece_len (by have := x.2; exact this)]; exact Nat.le_refl _
    have hgW : g + 1 + 1 < W.heap.size := blk_lt bnx
    refine wpAny_ready (rs := [0, 2]) (by kernel_rfl) (by simp) ?_
    refine AllReady.cons rfl (fun K hK => ?_) (AllReady.cons rfl (fun K hK => ?_) AllReady.nil)
    ·go_simp
     refine hK _ _ ?_
     clear hK K
     refine wpAny_ready (rs := [2]) (by kernel_rfl) (by simp) ?_
     refine AllReady.cons rfl (fun K hK => ?_) AllReady.nil
     go_simp
     refine (run_block.calls k _ _ (run_Encode.piece l0 size x.1) bk _ (Kd.C_drew hpieceC) hpl hbk).mono ?_
     rintro e_ w5 ⟨v5, rfl, ho5, hb5⟩
     have hcl5 : w5.cell? ⟨g, 0, none⟩ = some v := blk_cell (blk_below (blk_drew b7) hb5) 0
     obtain ⟨A5, c5, eo5⟩ := Kd.R_slice ho5
     subst eo5
     have hcl5' : (w5.alloc (.cells #[.slice A5 bk.length c5] 22 (0, 0))).cell? ⟨g, 0, none⟩ = some v := blk_cell (blk_alloc (blk_below (blk_drew b7) hb5) _) 0
     refine hK _ _ ?_
     clear hK K
     have hs5 := Kd.S_elder' (Kd.S_below hs (below_drew1 (Below.refl _ W))) (Kd.R_base ho5) hb5
     have hbw5 := below_step (below_drew1 hb) hb5
     have hs5' := Kd.S_mono (ok' := fun k_ => (k_ ≠ g ∧ k_ ≠ g + 1 ∧ k_ ≠ g + 1 + 1) ∧ ¬ some k_ = (.slice A5 bk.length c5 : Value).ownBlock) hs5 (fun _ hk => hk)
     refine wpAny_ready (rs := [3]) (by kernel_rfl) (by simp) ?_
     refine AllReady.cons rfl (fun K hK => ?_) AllReady.nil
     go_simp
     refine hK _ _ ?_
     clear hK K
     refine wpAny_ready (rs := [4]) (by kernel_rfl) (by simp) ?_
     refine AllReady.cons rfl (fun K hK => ?_) AllReady.nil
     refine Kd.S_append_step (Kd.slice 5 (Kd.int .u8)) (w0 := w) w.heap.size rfl (.tmp 33) (.tmp 36) 58 22 (.slice none 0 0) 24 rfl Try.underlying58 info22 rfl (by decide) (by omega) v _ bk [.slice A5 bk.length c5] (fun k_ => k_ ≠ g ∧ k_ ≠ g + 1 ∧ k_ ≠ g + 1 + 1) (fun k_ => some k_ = (.slice A5 bk.length c5 : Value).ownBlock) rfl rfl (Kd.M_row (Kd.R_tight rfl (Kd.R_lower ho5 hb.size))) (enc_okp hs5 ho5 hgW) (fun k_ hk => by have : W.heap.size ≤ w5.heap.size := hb5.size; omega) hs5' hbw5 hbw5.size ?_ ?_
     ·rw [List.length_cons, List.length_map]
      have := LM.out
      omega
     intro v6 w6 ho6 hb6 hg6 hat6
     refine hK _ _ ?_
     clear hK K
     have b76 := blk_grown (blk_below (blk_drew b7) hb5) hg6 (Kd.S_away hs5 (fun _ hk => hk.1.1))
     obtain ⟨A6, c6, eo6, _⟩ := Kd.S_reads ho6
     generalize (t :: pre.map (fun x => (run_block.f k (run_Encode.piece l0 size x.1)).getD []) ++ [bk]).length = n6 at eo6
     subst eo6
     have hcl6 : w6.cell? ⟨g, 0, none⟩ = some v := blk_cell b76 0
     have hfr6 : w6.frozen? ⟨g, 0, none⟩ = false := blk_frozen b76 0
     refine wpAny_ready (rs := [5]) (by kernel_rfl) (by simp) ?_
     refine AllReady.cons rfl (fun K hK => ?_) AllReady.nil
     go_simp
     refine hK _ _ ?_
     refine wpAny_done (by kernel_rfl) ?_ _
     exact enc_done b7 bsx bnx hb5 hs5 hg6 ho6 hb6 hbk (by omega)
    ·go_simp
     refine (run_block.calls k _ _ (run_Encode.piece l0 size x.1) bk _ (Kd.C_drew hpieceC) hpl hbk).mono ?_
     rintro e_ w5 ⟨v5, rfl, ho5, hb5⟩
     have hcl5 : w5.cell? ⟨g, 0, none⟩ = some v := blk_cell (blk_below (blk_drew b7) hb5) 0
     obtain ⟨A5, c5, eo5⟩ := Kd.R_slice ho5
     subst eo5
     have hcl5' : (w5.alloc (.cells #[.slice A5 bk.length c5] 22 (0, 0))).cell? ⟨g, 0, none⟩ = some v := blk_cell (blk_alloc (blk_below (blk_drew b7) hb5) _) 0
     refine hK _ _ ?_
     clear hK K
     have hs5 := Kd.S_elder' (Kd.S_below hs (below_drew1 (Below.refl _ W))) (Kd.R_base ho5) hb5
     have hbw5 := below_step (below_drew1 hb) hb5
     have hs5' := Kd.S_mono (ok' := fun k_ => (k_ ≠ g ∧ k_ ≠ g + 1 ∧ k_ ≠ g + 1 + 1) ∧ ¬ some k_ = (.slice A5 bk.length c5 : Value).ownBlock) hs5 (fun _ hk => hk)
     refine wpAny_ready (rs := [0, 3]) (by kernel_rfl) (by simp) ?_
     refine AllReady.cons rfl (fun K hK => ?_) (AllReady.cons rfl (fun K hK => ?_) AllReady.nil)
     ·go_simp
      refine hK _ _ ?_
      clear hK K
      refine wpAny_ready (rs := [3]) (by kernel_rfl) (by simp) ?_
      refine AllReady.cons rfl (fun K hK => ?_) AllReady.nil
      go_simp
      refine hK _ _ ?_
      clear hK K
      refine wpAny_ready (rs := [4]) (by kernel_rfl) (by simp) ?_
      refine AllReady.cons rfl (fun K hK => ?_) AllReady.nil
      refine Kd.S_append_step (Kd.slice 5 (Kd.int .u8)) (w0 := w) w.heap.size rfl (.tmp 33) (.tmp 36) 58 22 (.slice none 0 0) 24 rfl Try.underlying58 info22 rfl (by decide) (by omega) v _ bk [.slice A5 bk.length c5] (fun k_ => k_ ≠ g ∧ k_ ≠ g + 1 ∧ k_ ≠ g + 1 + 1) (fun k_ => some k_ = (.slice A5 bk.length c5 : Value).ownBlock) rfl rfl (Kd.M_row (Kd.R_tight rfl (Kd.R_lower ho5 hb.size))) (enc_okp hs5 ho5 hgW) (fun k_ hk => by have : W.heap.size ≤ w5.heap.size := hb5.size; omega) hs5' hbw5 hbw5.size ?_ ?_
      ·rw [List.length_cons, List.length_map]
       have := LM.out
       omega
      intro v6 w6 ho6 hb6 hg6 hat6
      refine hK _ _ ?_
      clear hK K
      have b76 := blk_grown (blk_below (blk_drew b7) hb5) hg6 (Kd.S_away hs5 (fun _ hk => hk.1.1))
      obtain ⟨A6, c6, eo6, _⟩ := Kd.S_reads ho6
      generalize (t :: pre.map (fun x => (run_block.f k (run_Encode.piece l0 size x.1)).getD []) ++ [bk]).length = n6 at eo6
      subst eo6
      have hcl6 : w6.cell? ⟨g, 0, none⟩ = some v := blk_cell b76 0
      have hfr6 : w6.frozen? ⟨g, 0, none⟩ = false := blk_frozen b76 0
      refine wpAny_ready (rs := [5]) (by kernel_rfl) (by simp) ?_
      refine AllReady.cons rfl (fun K hK => ?_) AllReady.nil
      go_simp
      refine hK _ _ ?_
      refine wpAny_done (by kernel_rfl) ?_ _
      exact enc_done b7 bsx bnx hb5 hs5 hg6 ho6 hb6 hbk (by omega)
     ·go_simp
      refine hK _ _ ?_
      clear hK K
      refine wpAny_ready (rs := [0]) (by kernel_rfl) (by simp) ?_
      refine AllReady.cons rfl (fun K hK => ?_) AllReady.nil
      go_simp
      refine hK _ _ ?_
      clear hK K
      refine wpAny_ready (rs := [4]) (by kernel_rfl) (by simp) ?_
      refine AllReady.cons rfl (fun K hK => ?_) AllReady.nil
      refine Kd.S_append_step (Kd.slice 5 (Kd.int .u8)) (w0 := w) w.heap.size rfl (.tmp 33) (.tmp 36) 58 22 (.slice none 0 0) 24 rfl Try.underlying58 info22 rfl (by decide) (by omega) v _ bk [.slice A5 bk.length c5] (fun k_ => k_ ≠ g ∧ k_ ≠ g + 1 ∧ k_ ≠ g + 1 + 1) (fun k_ => some k_ = (.slice A5 bk.length c5 : Value).ownBlock) rfl rfl (Kd.M_row (Kd.R_tight rfl (Kd.R_lower ho5 hb.size))) (enc_okp hs5 ho5 hgW) (fun k_ hk => by have : W.heap.size ≤ w5.heap.size := hb5.size; omega) hs5' hbw5 hbw5.size ?_ ?_
      ·rw [List.length_cons, List.length_map]
       have := LM.out
       omega
      intro v6 w6 ho6 hb6 hg6 hat6
      refine hK _ _ ?_
      clear hK K
      have b76 := blk_grown (blk_below (blk_drew b7) hb5) hg6 (Kd.S_away hs5 (fun _ hk => hk.1.1))
      obtain ⟨A6, c6, eo6, _⟩ := Kd.S_reads ho6
      generalize (t :: pre.map (fun x => (run_block.f k (run_Encode.piece l0 size x.1)).getD []) ++ [bk]).length = n6 at eo6
      subst eo6
      have hcl6 : w6.cell? ⟨g, 0, none⟩ = some v := blk_cell b76 0
      have hfr6 : w6.frozen? ⟨g, 0, none⟩ = false := blk_frozen b76 0
      refine wpAny_ready (rs := [5]) (by kernel_rfl) (by simp) ?_
      refine AllReady.cons rfl (fun K hK => ?_) AllReady.nil
      go_simp
      refine hK _ _ ?_
      refine wpAny_done (by kernel_rfl) ?_ _
      exact enc_done b7 bsx bnx hb5 hs5 hg6 ho6 hb6 hbk (by omega)
   case done =>
    rintro D ys W hD rfl ⟨v, b7, hs, bsx, bnx, hb⟩ hK0
    rw [← enc_all_eq k l0 size _ bs (by have := G3.out; simpa using this)] at hs
    have hgW : g + 1 + 1 < W.heap.size := blk_lt bnx
    go_wp2
    refine wp_mono (Q := fun e_ a_ w_ => e_ = .normal ∧ ∃ x38 x39 x43 x44 x45 : Value, a_ = { tmps := #[Value.slice A0 l0.length c0, Value.int IntKind.i64 size, undef, undef, Value.slice none 0 0, Value.int IntKind.i64 0, Value.int IntKind.i64 e, Value.pointer (some ⟨g, 0, none⟩), undef, undef, undef, undef, undef, undef, Value.int IntKind.i64 size, Value.bool false, Value.bool false, Value.int IntKind.i64 size, Value.bool false, Value.bool false, Value.slice A0 l0.length c0, Value.int IntKind.i64 e, Value.int IntKind.i64 e, Value.bool false, undef, Value.int IntKind.i64 size, Value.int IntKind.u64 (IntKind.u64.wrap (size : Int)), Value.slice Av t.length cv, Value.slice A3 1 c3, Value.slice A0 l0.length c0, Value.int IntKind.i64 size, Value.func (Fn.func 35) #[] #[Value.pointer (some ⟨g + 1, 0, none⟩), Value.pointer (some ⟨g + 1 + 1, 0, none⟩)], undef, undef, undef, undef, undef, undef, x38, x39, Value.slice A0 l0.length c0, Value.int IntKind.i64 l0.length, Value.int IntKind.u64 (IntKind.u64.wrap ((l0.length : Nat) : Int)), x43, x44, x45, undef, undef, undef, undef, undef, undef, undef, undef, undef, undef, undef, undef, undef, undef, undef, undef, undef, undef], defers := [{ target := .collected D, args := #[] }] } ∧ ∃ (A6 : Option Addr) (n6 c6 : Nat), n6 = ((t :: bs) ++ [en]).length ∧ w_.heap[g]? = some (.cells #[.slice A6 n6 c6] 58 (0, 0)) ∧ Kd.S (Kd.slice 5 (Kd.int .u8)) 22 w_ w.heap.size (fun _ => True) (.slice A6 n6 c6) ((t :: bs) ++ [en]) ∧ Below w.heap.size w w_ ∧ w_.heap[D]? = some (.deferred (some []))) ?reg ?rest
    case reg =>
     have hcl0 : W.cell? ⟨g, 0, none⟩ = some v := blk_cell b7 0
     refine wp_region_any (by kernel_rfl) ?_
     change wpAny _ _ _ _ _ _ _ (World.drew W)
     refine wpAny_take (i := 2) (v := ?_) rfl (by kernel_rfl) (by kernel_rfl) (by kernel_rfl) (fun _ _ _ h => absurd h.1 (by simp)) (Or.inl ⟨by rfl, ?_⟩) ?_
     rotate_left
     ·intro w_
      go_simp
      with_reducible rfl
     refine wpAny_take (i := 3) (v := ?_) rfl (by kernel_rfl) (by kernel_rfl) (by kernel_rfl) (fun _ _ _ h => absurd h.1 (by simp)) (Or.inl ⟨by rfl, ?_⟩) ?_
     rotate_left
     ·intro w_
      go_simp
      with_reducible rfl
     refine wpAny_take (i := 4) (v := ?_) rfl (by kernel_rfl) (by kernel_rfl) (by kernel_rfl) (fun _ _ _ h => absurd h.1 (by simp)) (Or.inl ⟨by rfl, ?_⟩) ?_
     rotate_left
     ·intro w_
      go_simp
      with_reducible rfl
     refine wpAny_ready (rs := [0, 1]) (by kernel_rfl) (by simp) ?_
     refine AllReady.cons rfl (fun K hK => ?_) (AllReady.cons rfl (fun K hK => ?_) AllReady.nil)
     ·go_simp
      refine hK _ _ ?_
      clear hK K
      refine wpAny_ready (rs := [1]) (by kernel_rfl) (by simp) ?_
      refine AllReady.cons rfl (fun K hK => ?_) AllReady.nil
      go_simp
      refine (num_Put.calls k _ _ ([] : List Int) 0 z _ (Kd.C_nil _ _) (Nat.le_refl _) G4.out).mono ?_
      rintro e_ w5 ⟨v5, rfl, ho5, hb5⟩
      obtain ⟨A5, c5, eo5⟩ := Kd.R_slice ho5
      subst eo5
      have b75 := blk_below (blk_drew b7) hb5
      have hcl5 : w5.cell? ⟨g, 0, none⟩ = some v := blk_cell b75 0
      have hs5 := Kd.S_below (Kd.S_below hs (below_drew1 (Below.refl _ W))) hb5
      have hbw5 := below_step (below_drew1 hb) hb5
      have hd5 := blk_below (blk_drew hK0) hb5
      refine hK _ _ ?_
      clear hK K
      refine wpAny_ready (rs := [5]) (by kernel_rfl) (by simp) ?_
      refine AllReady.cons rfl (fun K hK => ?_) AllReady.nil
      go_simp
      refine (num_Put.calls k _ _ z (IntKind.u64.wrap ((l0.length : Nat) : Int)) en _ (Kd.R_reads' ho5).2.2 (Kd.R_reads' ho5).2.1 G5.out).mono ?_
      rintro e_ w7 ⟨v7, rfl, ho7, hb7⟩
      obtain ⟨A7, c7, eo7⟩ := Kd.R_slice ho7
      subst eo7
      have b77 := blk_below b75 hb7
      have hcl7 : w7.cell? ⟨g, 0, none⟩ = some v := blk_cell b77 0
      have hcl7' : (w7.alloc (.cells #[.slice A7 en.length c7] 22 (0, 0))).cell? ⟨g, 0, none⟩ = some v := blk_cell (blk_alloc b77 _) 0
      have hs7 := Kd.S_elder' hs5 (Kd.R_base ho7) hb7
      have hbw7 := below_step hbw5 hb7
      have hd7 := blk_below hd5 hb7
      have hs7' := Kd.S_mono (ok' := fun k_ => (k_ ≠ g ∧ k_ ≠ g + 1 ∧ k_ ≠ g + 1 + 1) ∧ ¬ some k_ = (.slice A7 en.length c7 : Value).ownBlock) hs7 (fun _ hk => hk)
      refine hK _ _ ?_
      clear hK K
      refine wpAny_ready (rs := [6]) (by kernel_rfl) (by simp) ?_
      refine AllReady.cons rfl (fun K hK => ?_) AllReady.nil
      go_simp
      refine hK _ _ ?_
      clear hK K
      refine wpAny_ready (rs := [7]) (by kernel_rfl) (by simp) ?_
      refine AllReady.cons rfl (fun K hK => ?_) AllReady.nil
      refine Kd.S_append_step (Kd.slice 5 (Kd.int .u8)) (w0 := w) w.heap.size rfl (.tmp 38) (.tmp 44) 58 22 (.slice none 0 0) 24 rfl Try.underlying58 info22 rfl (by decide) (by omega) v _ en [.slice A7 en.length c7] (fun k_ => k_ ≠ g ∧ k_ ≠ g + 1 ∧ k_ ≠ g + 1 + 1) (fun k_ => some k_ = (.slice A7 en.length c7 : Value).ownBlock) rfl rfl (Kd.M_row (Kd.R_tight rfl (Kd.R_lower ho7 hbw5.size))) (enc_okp2 hs7 ho7 (by have : W.heap.size ≤ w5.heap.size := hb5.size; omega)) (fun k_ hk => by have : W.heap.size ≤ w5.heap.size := hb5.size; have : w5.heap.size ≤ w7.heap.size := hb7.size; omega) hs7' hbw7 hbw7.size ?_ ?_
      ·rw [List.length_cons]; have := LM.out; have := enc_all_len _ _ _ _ _ G3.out; omega
      intro v6 w6 ho6 hb6 hg6 hat6
      refine hK _ _ ?_
      clear hK K
      have b76 := blk_grown b77 hg6 (Kd.S_away hs7 (fun _ hk => hk.1.1))
      obtain ⟨A6, c6, eo6, _⟩ := Kd.S_reads ho6
      generalize hn6 : (t :: bs ++ [en]).length = n6 at eo6
      subst eo6
      have hcl6 : w6.cell? ⟨g, 0, none⟩ = some v := blk_cell b76 0
      have hfr6 : w6.frozen? ⟨g, 0, none⟩ = false := blk_frozen b76 0
      have hd6 := blk_grown hd7 hg6 (enc_def hs7 hd7)
      refine wpAny_ready (rs := [8]) (by kernel_rfl) (by simp) ?_
      refine AllReady.cons rfl (fun K hK => ?_) AllReady.nil
      go_simp
      refine hK _ _ ?_
      refine wpAny_done (by kernel_rfl) ?_ _
      exact ⟨rfl, _, _, _, _, _, rfl, A6, n6, c6, rfl, blk_set b76 0 _, Kd.S_mono (Kd.S_far ho6 (p := ⟨g, 0, none⟩) (fun _ hk => hk.1) (.slice A6 n6 c6)) (fun _ _ => trivial), below_set hb6 (by omega), blk_far' hd6 (by intro e_; have := hD; omega)⟩
     ·go_simp
      refine (num_Put.calls k _ _ ([] : List Int) 0 z _ (Kd.C_nil _ _) (Nat.le_refl _) G4.out).mono ?_
      rintro e_ w5 ⟨v5, rfl, ho5, hb5⟩
      obtain ⟨A5, c5, eo5⟩ := Kd.R_slice ho5
      subst eo5
      have b75 := blk_below (blk_drew b7) hb5
      have hcl5 : w5.cell? ⟨g, 0, none⟩ = some v := blk_cell b75 0
      have hs5 := Kd.S_below (Kd.S_below hs (below_drew1 (Below.refl _ W))) hb5
      have hbw5 := below_step (below_drew1 hb) hb5
      have hd5 := blk_below (blk_drew hK0) hb5
      refine hK _ _ ?_
      clear hK K
      refine wpAny_ready (rs := [0, 5]) (by kernel_rfl) (by simp) ?_
      refine AllReady.cons rfl (fun K hK => ?_) (AllReady.cons rfl (fun K hK => ?_) AllReady.nil)
      ·go_simp
       refine hK _ _ ?_
       clear hK K
       refine wpAny_ready (rs := [5]) (by kernel_rfl) (by simp) ?_
       refine AllReady.cons rfl (fun K hK => ?_) AllReady.nil
       go_simp
       refine (num_Put.calls k _ _ z (IntKind.u64.wrap ((l0.length : Nat) : Int)) en _ (Kd.R_reads' ho5).2.2 (Kd.R_reads' ho5).2.1 G5.out).mono ?_
       rintro e_ w7 ⟨v7, rfl, ho7, hb7⟩
       obtain ⟨A7, c7, eo7⟩ := Kd.R_slice ho7
       subst eo7
       have b77 := blk_below b75 hb7
       have hcl7 : w7.cell? ⟨g, 0, none⟩ = some v := blk_cell b77 0
       have hcl7' : (w7.alloc (.cells #[.slice A7 en.length c7] 22 (0, 0))).cell? ⟨g, 0, none⟩ = some v := blk_cell (blk_alloc b77 _) 0
       have hs7 := Kd.S_elder' hs5 (Kd.R_base ho7) hb7
       have hbw7 := below_step hbw5 hb7
       have hd7 := blk_below hd5 hb7
       have hs7' := Kd.S_mono (ok' := fun k_ => (k_ ≠ g ∧ k_ ≠ g + 1 ∧ k_ ≠ g + 1 + 1) ∧ ¬ some k_ = (.slice A7 en.length c7 : Value).ownBlock) hs7 (fun _ hk => hk)
       refine hK _ _ ?_
       clear hK K
       refine wpAny_ready (rs := [6]) (by kernel_rfl) (by simp) ?_
       refine AllReady.cons rfl (fun K hK => ?_) AllReady.nil
       go_simp
       refine hK _ _ ?_
       clear hK K
       refine wpAny_ready (rs := [7]) (by kernel_rfl) (by simp) ?_
       refine AllReady.cons rfl (fun K hK => ?_) AllReady.nil
       refine Kd.S_append_step (Kd.slice 5 (Kd.int .u8)) (w0 := w) w.heap.size rfl (.tmp 38) (.tmp 44) 58 22 (.slice none 0 0) 24 rfl Try.underlying58 info22 rfl (by decide) (by omega) v _ en [.slice A7 en.length c7] (fun k_ => k_ ≠ g ∧ k_ ≠ g + 1 ∧ k_ ≠ g + 1 + 1) (fun k_ => some k_ = (.slice A7 en.length c7 : Value).ownBlock) rfl rfl (Kd.M_row (Kd.R_tight rfl (Kd.R_lower ho7 hbw5.size))) (enc_okp2 hs7 ho7 (by have : W.heap.size ≤ w5.heap.size := hb5.size; omega)) (fun k_ hk => by have : W.heap.size ≤ w5.heap.size := hb5.size; have : w5.heap.size ≤ w7.heap.size := hb7.size; omega) hs7' hbw7 hbw7.size ?_ ?_
       ·rw [List.length_cons]; have := LM.out; have := enc_all_len _ _ _ _ _ G3.out; omega
       intro v6 w6 ho6 hb6 hg6 hat6
       refine hK _ _ ?_
       clear hK K
       have b76 := blk_grown b77 hg6 (Kd.S_away hs7 (fun _ hk => hk.1.1))
       obtain ⟨A6, c6, eo6, _⟩ := Kd.S_reads ho6
       generalize hn6 : (t :: bs ++ [en]).length = n6 at eo6
       subst eo6
       have hcl6 : w6.cell? ⟨g, 0, none⟩ = some v := blk_cell b76 0
       have hfr6 : w6.frozen? ⟨g, 0, none⟩ = false := blk_frozen b76 0
       have hd6 := blk_grown hd7 hg6 (enc_def hs7 hd7)
       refine wpAny_ready (rs := [8]) (by kernel_rfl) (by simp) ?_
       refine AllReady.cons rfl (fun K hK => ?_) AllReady.nil
       go_simp
       refine hK _ _ ?_
       refine wpAny_done (by kernel_rfl) ?_ _
       exact ⟨rfl, _, _, _, _, _, rfl, A6, n6, c6, rfl, blk_set b76 0 _, Kd.S_mono (Kd.S_far ho6 (p := ⟨g, 0, none⟩) (fun _ hk => hk.1) (.slice A6 n6 c6)) (fun _ _ => trivial), below_set hb6 (by omega), blk_far' hd6 (by intro e_; have := hD; omega)⟩
      ·go_simp
       refine (num_Put.calls k _ _ z (IntKind.u64.wrap ((l0.length : Nat) : Int)) en _ (Kd.R_reads' ho5).2.2 (Kd.R_reads' ho5).2.1 G5.out).mono ?_
       rintro e_ w7 ⟨v7, rfl, ho7, hb7⟩
       obtain ⟨A7, c7, eo7⟩ := Kd.R_slice ho7
       subst eo7
       have b77 := blk_below b75 hb7
       have hcl7 : w7.cell? ⟨g, 0, none⟩ = some v := blk_cell b77 0
       have hcl7' : (w7.alloc (.cells #[.slice A7 en.length c7] 22 (0, 0))).cell? ⟨g, 0, none⟩ = some v := blk_cell (blk_alloc b77 _) 0
       have hs7 := Kd.S_elder' hs5 (Kd.R_base ho7) hb7
       have hbw7 := below_step hbw5 hb7
       have hd7 := blk_below hd5 hb7
       have hs7' := Kd.S_mono (ok' := fun k_ => (k_ ≠ g ∧ k_ ≠ g + 1 ∧ k_ ≠ g + 1 + 1) ∧ ¬ some k_ = (.slice A7 en.length c7 : Value).ownBlock) hs7 (fun _ hk => hk)
       refine hK _ _ ?_
       clear hK K
       refine wpAny_ready (rs := [0, 6]) (by kernel_rfl) (by simp) ?_
       refine AllReady.cons rfl (fun K hK => ?_) (AllReady.cons rfl (fun K hK => ?_) AllReady.nil)
       ·go_simp
        refine hK _ _ ?_
        clear hK K
        refine wpAny_ready (rs := [6]) (by kernel_rfl) (by simp) ?_
        refine AllReady.cons rfl (fun K hK => ?_) AllReady.nil
        go_simp
        refine hK _ _ ?_
        clear hK K
        refine wpAny_ready (rs := [7]) (by kernel_rfl) (by simp) ?_
        refine AllReady.cons rfl (fun K hK => ?_) AllReady.nil
        refine Kd.S_append_step (Kd.slice 5 (Kd.int .u8)) (w0 := w) w.heap.size rfl (.tmp 38) (.tmp 44) 58 22 (.slice none 0 0) 24 rfl Try.underlying58 info22 rfl (by decide) (by omega) v _ en [.slice A7 en.length c7] (fun k_ => k_ ≠ g ∧ k_ ≠ g + 1 ∧ k_ ≠ g + 1 + 1) (fun k_ => some k_ = (.slice A7 en.length c7 : Value).ownBlock) rfl rfl (Kd.M_row (Kd.R_tight rfl (Kd.R_lower ho7 hbw5.size))) (enc_okp2 hs7 ho7 (by have : W.heap.size ≤ w5.heap.size := hb5.size; omega)) (fun k_ hk => by have : W.heap.size ≤ w5.heap.size := hb5.size; have : w5.heap.size ≤ w7.heap.size := hb7.size; omega) hs7' hbw7 hbw7.size ?_ ?_
        ·rw [List.length_cons]; have := LM.out; have := enc_all_len _ _ _ _ _ G3.out; omega
        intro v6 w6 ho6 hb6 hg6 hat6
        refine hK _ _ ?_
        clear hK K
        have b76 := blk_grown b77 hg6 (Kd.S_away hs7 (fun _ hk => hk.1.1))
        obtain ⟨A6, c6, eo6, _⟩ := Kd.S_reads ho6
        generalize hn6 : (t :: bs ++ [en]).length = n6 at eo6
        subst eo6
        have hcl6 : w6.cell? ⟨g, 0, none⟩ = some v := blk_cell b76 0
        have hfr6 : w6.frozen? ⟨g, 0, none⟩ = false := blk_frozen b76 0
        have hd6 := blk_grown hd7 hg6 (enc_def hs7 hd7)
        refine wpAny_ready (rs := [8]) (by kernel_rfl) (by simp) ?_
        refine AllReady.cons rfl (fun K hK => ?_) AllReady.nil
        go_simp
        refine hK _ _ ?_
        refine wpAny_done (by kernel_rfl) ?_ _
        exact ⟨rfl, _, _, _, _, _, rfl, A6, n6, c6, rfl, blk_set b76 0 _, Kd.S_mono (Kd.S_far ho6 (p := ⟨g, 0, none⟩) (fun _ hk => hk.1) (.slice A6 n6 c6)) (fun _ _ => trivial), below_set hb6 (by omega), blk_far' hd6 (by intro e_; have := hD; omega)⟩
       ·go_simp
        refine hK _ _ ?_
        clear hK K
        refine wpAny_ready (rs := [0]) (by kernel_rfl) (by simp) ?_
        refine AllReady.cons rfl (fun K hK => ?_) AllReady.nil
        go_simp
        refine hK _ _ ?_
        clear hK K
        refine wpAny_ready (rs := [7]) (by kernel_rfl) (by simp) ?_
        refine AllReady.cons rfl (fun K hK => ?_) AllReady.nil
        refine Kd.S_append_step (Kd.slice 5 (Kd.int .u8)) (w0 := w) w.heap.size rfl (.tmp 38) (.tmp 44) 58 22 (.slice none 0 0) 24 rfl Try.underlying58 info22 rfl (by decide) (by omega) v _ en [.slice A7 en.length c7] (fun k_ => k_ ≠ g ∧ k_ ≠ g + 1 ∧ k_ ≠ g + 1 + 1) (fun k_ => some k_ = (.slice A7 en.length c7 : Value).ownBlock) rfl rfl (Kd.M_row (Kd.R_tight rfl (Kd.R_lower ho7 hbw5.size))) (enc_okp2 hs7 ho7 (by have : W.heap.size ≤ w5.heap.size := hb5.size; omega)) (fun k_ hk => by have : W.heap.size ≤ w5.heap.size := hb5.size; have : w5.heap.size ≤ w7.heap.size := hb7.size; omega) hs7' hbw7 hbw7.size ?_ ?_
        ·rw [List.length_cons]; have := LM.out; have := enc_all_len _ _ _ _ _ G3.out; omega
        intro v6 w6 ho6 hb6 hg6 hat6
        refine hK _ _ ?_
        clear hK K
        have b76 := blk_grown b77 hg6 (Kd.S_away hs7 (fun _ hk => hk.1.1))
        obtain ⟨A6, c6, eo6, _⟩ := Kd.S_reads ho6
        generalize hn6 : (t :: bs ++ [en]).length = n6 at eo6
        subst eo6
        have hcl6 : w6.cell? ⟨g, 0, none⟩ = some v := blk_cell b76 0
        have hfr6 : w6.frozen? ⟨g, 0, none⟩ = false := blk_frozen b76 0
        have hd6 := blk_grown hd7 hg6 (enc_def hs7 hd7)
        refine wpAny_ready (rs := [8]) (by kernel_rfl) (by simp) ?_
        refine AllReady.cons rfl (fun K hK => ?_) AllReady.nil
        go_simp
        refine hK _ _ ?_
        refine wpAny_done (by kernel_rfl) ?_ _
        exact ⟨rfl, _, _, _, _, _, rfl, A6, n6, c6, rfl, blk_set b76 0 _, Kd.S_mono (Kd.S_far ho6 (p := ⟨g, 0, none⟩) (fun _ hk => hk.1) (.slice A6 n6 c6)) (fun _ _ => trivial), below_set hb6 (by omega), blk_far' hd6 (by intro e_; have := hD; omega)⟩
    case rest =>
     rintro _ _ W6 ⟨rfl, x38, x39, x43, x44, x45, rfl, A6, n6, c6, hn6, b76, hs6, hb6, hd6⟩
     have hcl6 : W6.cell? ⟨g, 0, none⟩ = some (.slice A6 n6 c6) := blk_cell b76 0
     clear hs b7 hb hK0
     obtain ⟨-, hc6, hC6⟩ := Kd.S_reads' hs6
     have H := H.out
     have hrl : ((t :: bs) ++ [en]).length ≤ l0.length + 2 := by
      have := enc_all_len _ _ _ _ _ G3.out
      rw [List.length_append, List.length_cons, List.length_singleton]
      omega
     generalize hrecs : (t :: bs) ++ [en] = recs at hn6 hC6 H hs6 hrl
     have HRL := Az.mk hrl
     clear hrl
     subst hn6
     have HH := Az.mk H
     have HC6 := Az.mk hC6
     have HB6 := Az.mk hb6
     have HD6 := Az.mk hd6
     have HDD := Az.mk hD
     have hw4 : w.heap.size ≤ W4.heap.size := by omega
     clear hrecs H hC6 hb6 hd6 hs6 b76 hD G2 G3 G4 G5
     go_wp2
     go_loopg [9, 48] recs.length (fun kq v9 v48 w' => ∃ (x9 : List Int) (i : Int), v48 = .int .i64 i ∧ Az (0 ≤ i ∧ i + kq = recs.length) ∧ Az (run_Encode.out k (recs.drop i.toNat) x9 = some (r1, r2)) ∧ Az (Kd.R (Kd.int .u8) 5 w' w.heap.size (fun _ => True) v9 x9) ∧ Az (Kd.C (Kd.slice 5 (Kd.int .u8)) w' A6 recs.length recs) ∧ Az (Below w.heap.size w w') ∧ Az (w'.heap[D]? = some (.deferred (some []))))
     case atStart => exact ⟨[], 0, rfl, ⟨by omega⟩, HH, ⟨Kd.R_nil _ _ _ _ _⟩, HC6, HB6, HD6⟩
     case round =>
      clear HH HC6 HB6 HD6 hcl6
      obtain ⟨x9, i, rfl, HI, HA, HR, HC, HB, HD⟩ := hrel
      cases gk with
      | zero =>
       have hi := HI.out
       have hlt : decide (i < (recs.length : Int)) = false := by simp; omega
       have h := HA.out
       rw [List.drop_of_length_le (by omega)] at h
       simp only [run_Encode.out, Option.some.injEq, Prod.mk.injEq] at h
       obtain ⟨rfl, rfl⟩ := h
       clear hi
       go_wp2
       refine leaves_mark (P := Try.prog) (fn := Try.f15) (t := 4) (u := 5) (W4 := W4) rfl hw4 HDD.out HD.out HR.out HB.out ?_ ?_ <;> rfl
      | succ k1 =>
       have hi := HI.out
       have hlt : decide (i < (recs.length : Int)) = true := by simp; omega
       obtain ⟨ad, cs, rfl, _, ⟨Ax, cx, rfl, hcx, hCx⟩, hcell⟩ := Kd.C_get HC.out [] i hi.1 (by omega)
       have hcx0 := hcell 0 _ rfl
       simp only [show (Kd.slice 5 (Kd.int .u8)).sz = 1 from rfl, Nat.mul_one, Nat.add_zero] at hcx0
       have hex : recs.getD i.toNat [] = recs[i.toNat]'(by omega) := by rw [List.getD_eq_getElem?_getD, List.getElem?_eq_getElem (by omega), Option.getD_some]
       have h := HA.out
       rw [List.drop_eq_getElem_cons (by omega)] at h
       rw [hex] at hcx hCx hcx0
       generalize recs[i.toNat]'(by omega) = x at h hcx hCx hcx0
       simp only [run_Encode.out] at h
       replace h := Option.bind_eq_some_iff.mp h
       obtain ⟨⟨f1, f2⟩, G, h⟩ := h
       have G := Az.mk G
       have H := Az.mk h
       have HCX := Az.mk hcx
       have HX := Az.mk hCx
       have h0 := hi.1
       have hil : i < (recs.length : Int) := by omega
       clear h HA hcell hex hcx hCx hi
       obtain ⟨A9, c9, e9⟩ := Kd.R_slice HR.out
       subst e9
       go_upto_region 16 with (go_at_call 23; refine (frame_Put.calls k _ _ x9 _ _ x f1 f2 _ (Kd.R_reads' HR.out).2.2 (Kd.R_reads' HR.out).2.1 HX.out HCX.out G.out).mono ?_; rintro e_ w8 ⟨v8, rfl, ho8, hb8⟩; have HR8 := Az.mk (Kd.R_lower ho8 HB.out.size); have HC8 := Az.mk (Kd.C_below HC.out hb8); have HB8 := Az.mk (below_step HB.out hb8); have HD8 := Az.mk (blk_below HD.out hb8); clear ho8 hb8 HR HC HB HD)
       have h := H.out
       clear H
       by_cases c9 : f2 = 0
       ·rw [if_pos c9] at h
        have c9b : (f2 != 0) = false := bne_eq_false_iff_eq.mpr c9
        have H := Az.mk h
        clear h c9
        have hw64 : wrap64 (i + 1) = i + 1 := by
         have := HRL.out
         have := LM.out
         unfold wrap64
         omega
        have HW := Az.mk hw64
        clear hw64
        go_wp2
        go_roundg k1
        case measure => omega
        case rel => exact ⟨f1, _, rfl, ⟨by have := HI.out; rw [HW.out]; omega⟩, ⟨by have := H.out; rwa [HW.out, show (i + 1).toNat = i.toNat + 1 by omega]⟩, HR8, HC8, HB8, HD8⟩
       ·rw [if_neg c9] at h
        have c9b : (f2 != 0) = true := bne_iff_ne.mpr c9
        simp only [Option.some.injEq, Prod.mk.injEq] at h
        obtain ⟨rfl, rfl⟩ := h
        clear c9
        go_wp2
        refine leaves_mark (P := Try.prog) (fn := Try.f15) (t := 4) (u := 5) (W4 := W4) rfl hw4 HDD.out HD8.out (Kd.R_nil _ _ _ _ _) HB8.out ?_ ?_ <;> rfl
   case stop => exact fun _ _ _ _ _ _ h _ => h.elim
  ·rw [if_neg c4] at h
   exact absurd h (by simp)
 ·rw [if_neg c3] at h
  have c3b : (e != 0) = true := bne_iff_ne.mpr c3
  clear c3
  simp only [Option.some.injEq, Prod.mk.injEq] at h
  obtain ⟨rfl, rfl⟩ := h
  go_wp2_with (go_at_call 18; refine (run_May.calls k A0 c0 l0 e _ (Kd.C_below HR0.out HB.out) HC0.out G1.out).mono ?_; rintro e_ w1 ⟨rfl, hb⟩)
  exact leaves_two rfl ⟨_, rfl, Kd.R_nil _ _ _ _ _, below_step HB.out hb⟩
end
def num_Get.vals (l : List Int) : Nat → Nat → Int
 | _, 0 => 0
 | i, c + 1 => rd l i % 128 + 128 * num_Get.vals l (i + 1) c
def num_Get.scan (l : List Int) : Nat → Nat → Option Nat
 | 0, s => some s
 | k + 1, s => if s = l.length then none else if rd l s < 128 then some s else num_Get.scan l k (s + 1)
def num_Get.ans (l : List Int) : Int × Int × Int :=
 match num_Get.scan l 10 0 with
 | none => (0, 0, 3)
 | some s => if s = 10 ∨ (s = 9 ∧ rd l s > 1) ∨ (0 < s ∧ rd l s = 0) then (0, 0, 2) else (num_Get.vals l 0 (s + 1), (s : Int) + 1, 0)
def num_Get.f (l : List Int) : Option (Int × Int × Int) := if ∀ x ∈ l, 0 ≤ x ∧ x ≤ 255 then some (num_Get.ans l) else none
theorem num_Get.scan_eq (l : List Int) (s : Nat) (h : s < 10) : num_Get.scan l (10 - s) s = if s = l.length then none else if rd l s < 128 then some s else num_Get.scan l (10 - (s + 1)) (s + 1) := by
 obtain ⟨m, hm⟩ : ∃ m, 10 - s = m + 1 := ⟨9 - s, by omega⟩
 rw [hm, show 10 - (s + 1) = m by omega]
 rfl
theorem num_Get.vals_lt (l : List Int) : ∀ (c i : Nat), 0 ≤ num_Get.vals l i c ∧ num_Get.vals l i c < 128 ^ c
 | 0, _ => by simp [num_Get.vals]
 | c + 1, i => by
  have := num_Get.vals_lt l c (i + 1)
  simp only [num_Get.vals, Int.pow_succ]
  omega
theorem num_Get.vals_top (l : List Int) : ∀ (c i : Nat), rd l (i + c : Nat) % 128 ≤ 1 → num_Get.vals l i (c + 1) < 2 * 128 ^ c
 | 0, i, h => by
  simp only [num_Get.vals, Nat.add_zero] at h ⊢
  omega
 | c + 1, i, h => by
  have := num_Get.vals_top l c (i + 1) (by rw [show i + 1 + c = i + (c + 1) by omega]; exact h)
  rw [num_Get.vals, Int.pow_succ]
  have h2 : num_Get.vals l (i + 1) (c + 1) < 2 * 128 ^ c := this
  have h3 : rd l (i : Int) % 128 < 128 := by omega
  generalize num_Get.vals l (i + 1) (c + 1) = v at *
  generalize (128 : Int) ^ c = p at *
  omega
theorem num_Get.found (l : List Int) (s : Nat) (r1 r2 r3 : Int) (hf : num_Get.f l = some (r1, r2, r3)) (hs : num_Get.scan l 10 0 = some s) :
  (if s = 10 ∨ (s = 9 ∧ rd l s > 1) ∨ (0 < s ∧ rd l s = 0) then (0, 0, 2) else (num_Get.vals l 0 (s + 1), (s : Int) + 1, 0)) = (r1, r2, r3) := by
 unfold num_Get.f at hf
 split at hf
 ·have := Option.some.inj hf
  rw [num_Get.ans, hs] at this
  exact this
 ·simp at hf
theorem num_Get.short (l : List Int) (r1 r2 r3 : Int) (hf : num_Get.f l = some (r1, r2, r3)) (hs : num_Get.scan l 10 0 = none) : (0, 0, 3) = (r1, r2, r3) := by
 unfold num_Get.f at hf
 split at hf
 ·have := Option.some.inj hf
  rw [num_Get.ans, hs] at this
  exact this
 ·simp at hf
theorem num_Get.range (l : List Int) (r : Int × Int × Int) (hf : num_Get.f l = some r) (i : Nat) (hi : i < l.length) : 0 ≤ rd l i ∧ rd l i ≤ 255 := by
 unfold num_Get.f at hf
 split at hf
 ·rename_i h
  unfold rd
  rw [Int.toNat_natCast, List.getD_eq_getElem?_getD, List.getElem?_eq_getElem hi, Option.getD_some]
  exact h _ (List.getElem_mem hi)
 ·simp at hf
theorem num_Get.step (n x : Int) (h0 : 0 ≤ n) (h1 : n < 2 ^ 57) (hx0 : 0 ≤ x) (hx1 : x ≤ 255) : Go.bits .or .u64 (IntKind.u64.wrap (n * 128)) (IntKind.u64.wrap (Go.bits .and .u8 x 127)) = x % 128 + 128 * n := by
 have hw : ∀ n : Int, 0 ≤ n → n < 2 ^ 64 → IntKind.u64.wrap n = n := fun n a b => by
  simp [IntKind.wrap, IntKind.bits, IntKind.signed]; omega
 rw [hw _ (by omega) (by omega)]
 have e : Go.bits .and .u8 x 127 = x % 128 := bits_mask .u8 8 (by decide) wraps_u8 7 (by decide) x hx0 (by omega)
 rw [e, hw (x % 128) (by omega) (by omega), bits_join .u64 64 (by decide) hw 7 _ _ (by omega) (by omega) (by omega) (by omega) (by omega) (by omega)]
 omega
theorem num_Get.goes (l : List Int) (s : Nat) (hs : s < 10) (h0 : 0 ≤ rd l s) (hb : rd l s < 128) (hn : ¬ ((s = 9 ∧ rd l s > 1) ∨ (0 < s ∧ rd l s = 0))) (i : Int) (hi0 : 0 ≤ i) (hi : i ≤ s)
  (x : Int) (hx : x = rd l i) (hx0 : 0 ≤ x ∧ x ≤ 255) :
  Go.bits .or .u64 (IntKind.u64.wrap (num_Get.vals l (i + 1).toNat (s - i).toNat * 128)) (IntKind.u64.wrap (Go.bits .and .u8 x 127)) = num_Get.vals l (i - 1 + 1).toNat (s - (i - 1)).toNat := by
 obtain ⟨j, rfl⟩ := Int.eq_ofNat_of_zero_le hi0
 have e1 : ((j : Int) + 1).toNat = j + 1 := by omega
 have e2 : ((s : Int) - j).toNat = s - j := by omega
 have e3 : ((j : Int) - 1 + 1).toNat = j := by omega
 have e4 : ((s : Int) - (j - 1)).toNat = s - j + 1 := by omega
 rw [e1, e2, e3, e4, num_Get.vals, ← hx]
 have hv := num_Get.vals_lt l (s - j) (j + 1)
 refine num_Get.step _ _ hv.1 ?_ hx0.1 hx0.2
 by_cases h8 : s - j ≤ 8
 ·exact Int.lt_of_lt_of_le hv.2 (by
   have : (128 : Int) ^ (s - j) ≤ 128 ^ 8 := by
    have := Nat.pow_le_pow_right (n := 128) (by decide) h8
    exact_mod_cast this
   exact Int.le_trans this (by decide))
 ·have e9 : s - j = 8 + 1 := by omega
  rw [e9]
  have ht := num_Get.vals_top l 8 (j + 1) (by
   have : j + 1 + 8 = s := by omega
   rw [this]
   have : s = 9 := by omega
   omega)
  exact Int.lt_of_lt_of_le ht (by decide)
theorem num_Get.calls (A0 : Option Addr) (c0 : Nat) (l0 : List Int) (r1 : Int) (r2 : Int) (r3 : Int) (w : World) (hr0 : Kd.C (Kd.int .u8) w A0 l0.length l0) (hc0 : l0.length ≤ c0) (h : num_Get.f l0 = some (r1, r2, r3)) :
  Calls Try.prog 25 #[.slice A0 l0.length c0] w fun e w' => e = .returned (.tuple #[.int .u64 r1, .int .i64 r2, .int .i64 r3]) ∧ Drawn0 w w' := by
 have HR0 := Az.mk hr0
 clear hr0
 have H := Az.mk h
 clear h
 go_enter Try.func25, Try.ntmps25
 go_wp2
 go_step3
 go_wp2
 go_step3
 go_wp2
 go_loop [5] (fun v => ∃ s : Nat, v = .int .i64 s ∧ Az (s ≤ 10 ∧ s ≤ l0.length ∧ num_Get.scan l0 (10 - s) s = num_Get.scan l0 10 0)) (fun v => 10 - (intOf v).toNat)
 case atStart => exact ⟨0, rfl, ⟨by omega, by omega, rfl⟩⟩
 case round =>
  obtain ⟨s, rfl, hs⟩ := hrel
  by_cases h10 : s = 10
  ·subst h10
   go_wp2
   go_ret3
   have hr := num_Get.found l0 10 _ _ _ H.out (by rw [← hs.out.2.2]; rfl)
   rw [if_pos (.inl rfl)] at hr
   obtain ⟨rfl, rfl, rfl⟩ : 0 = r1 ∧ 0 = r2 ∧ 2 = r3 := by simpa using hr
   exact ⟨rfl, Drawn0.refl _⟩
  ·have h10' : decide ((s : Int) < 10) = true := by have := hs.out; simp; omega
   have h10n : s < 10 := by have := hs.out; omega
   have HS := Az.mk (num_Get.scan_eq l0 s h10n)
   by_cases hl : s = l0.length
   ·have hl' : ((s : Int) == (l0.length : Int)) = true := by simp; omega
    have hl2 := Az.mk hl
    clear hl
    go_wp2
    go_ret3
    have hr := num_Get.short l0 _ _ _ H.out (by rw [← hs.out.2.2, HS.out, if_pos hl2.out])
    obtain ⟨rfl, rfl, rfl⟩ : 0 = r1 ∧ 0 = r2 ∧ 3 = r3 := by simpa using hr
    exact ⟨rfl, Drawn0.refl _⟩
   ·have hl' : ((s : Int) == (l0.length : Int)) = false := by simp; omega
    have hlt : s < l0.length := by have := hs.out; omega
    obtain ⟨ad, e, hx⟩ := Kd.at_int HR0.out s (by omega) (by omega)
    cases e
    have hx' : w.cell? (ad.add s) = some (.int .u8 (rd l0 s)) := hx
    clear hx
    by_cases hb : rd l0 s < 128
    ·have hb' : decide (rd l0 s < 128) = true := by simpa using hb
     have HF := Az.mk (num_Get.found l0 s _ _ _ H.out (by rw [← hs.out.2.2, HS.out, if_neg hl, if_pos hb]))
     have hrg := num_Get.range l0 _ H.out s hlt
     by_cases hbad : (s = 9 ∧ rd l0 s > 1) ∨ (0 < s ∧ rd l0 s = 0)
     ·have e : (0, 0, 2) = (r1, r2, r3) := by have := HF.out; rw [if_pos (.inr hbad)] at this; exact this
      obtain ⟨rfl, rfl, rfl⟩ : 0 = r1 ∧ 0 = r2 ∧ 2 = r3 := by simpa using e
      clear e
      have e10 : ((s : Int) == 10) = false := by simp; omega
      by_cases h9 : s = 9
      ·have e9 : ((s : Int) == 9) = true := by simp; omega
       have h9' := Az.mk h9
       clear h9
       by_cases h1 : rd l0 s > 1
       ·have e1 : decide (1 < rd l0 s) = true := by simpa using h1
        go_wp2
        go_ret3
        exact ⟨rfl, Drawn0.refl _⟩
       ·have e1 : decide (1 < rd l0 s) = false := by simpa using h1
        have e0 : (rd l0 s == 0) = true := by simp; omega
        have ep : decide (0 < s) = true := by have := h9'.out; simp; omega
        clear h1
        go_wp2
        go_ret3
        exact ⟨rfl, Drawn0.refl _⟩
      ·have e9 : ((s : Int) == 9) = false := by simp; omega
       have e0 : (rd l0 s == 0) = true := by simp; omega
       have ep : decide (0 < s) = true := by simp; omega
       go_wp2
       go_ret3
       exact ⟨rfl, Drawn0.refl _⟩
     ·have e : (num_Get.vals l0 0 (s + 1), (s : Int) + 1, 0) = (r1, r2, r3) := by have := HF.out; rw [if_neg (by omega)] at this; exact this
      obtain ⟨rfl, rfl, rfl⟩ : num_Get.vals l0 0 (s + 1) = r1 ∧ (s : Int) + 1 = r2 ∧ 0 = r3 := by simpa using e
      have HR := Az.mk (num_Get.range l0 _ H.out)
      have HG := Az.mk (num_Get.goes l0 s h10n hrg.1 hb hbad)
      have e10 : ((s : Int) == 10) = false := by simp; omega
      have HW : ((s : Int) == 9) = true ∧ decide (1 < rd l0 s) = false ∧ decide (0 < s) = true ∧ (rd l0 s == 0) = false ∨ ((s : Int) == 9) = false ∧ decide (0 < s) = true ∧ (rd l0 s == 0) = false ∨ ((s : Int) == 9) = false ∧ decide (0 < s) = false := by
       simp
       omega
      clear e HF H hs HS hbad hrg hb
      rcases HW with ⟨e9, e1, ep, e0⟩ | ⟨e9, ep, e0⟩ | ⟨e9, ep⟩
      all_goals
       go_wp2
       go_loop [6, 7] (fun v6 v7 => ∃ i : Int, v7 = .int .i64 i ∧ -1 ≤ i ∧ i ≤ s ∧ v6 = .int .u64 (num_Get.vals l0 (i + 1).toNat (s - i).toNat)) (fun _ v7 => (intOf v7 + 1).toNat)
       case atStart => exact ⟨s, rfl, by omega, by omega, by simp [num_Get.vals]⟩
       case round =>
        obtain ⟨i, rfl, hi0, hi1, rfl⟩ := hrel
        by_cases hc : 0 ≤ i
        ·obtain ⟨ad', e', hxi⟩ := Kd.at_int HR0.out i hc (by omega)
         obtain rfl : ad = ad' := by injection e'
         have HS := Az.mk (HG.out i hc hi1 _ rfl (by have := HR.out i.toNat (by omega); rwa [Int.toNat_of_nonneg hc] at this))
         have hi2 : i < (l0.length : Int) := by omega
         go_wp2
         go_round
         case rel => exact ⟨i - 1, rfl, by omega, by omega, by rw [← HS.out]⟩
         case measure => simp [intOf]; omega
        ·have hc' : i = -1 := by omega
         subst hc'
         go_wp2
         go_ret3
         exact ⟨rfl, Drawn0.refl _⟩
    ·have hb' : decide (rd l0 s < 128) = false := by simpa using hb
     go_wp2
     go_round
     case rel => exact ⟨s + 1, by go_num, by have := hs.out; omega, by omega, by rw [← hs.out.2.2, HS.out, if_neg hl, if_neg hb]⟩
     case measure => simp [intOf]; omega
end Go.Proofs.Ytnabhfegbnfabaa.PRd
end
section
namespace Go.Proofs.Ytnabhfegbnfabaa.PRd
open Go.RowKit Go.Proofs.YtnabhfegbnfabaaW.PrintWords Go.Proofs.YtnabhfegbnfabaaW.PrintLast Go.Proofs.YtnabhfegbnfabaaW.PrintMore
attribute [local go_sem] max2_int min2_int max_two min_two max_three min_three max_four min_four
attribute [local go_sem] Go.Proofs.Ytnabhfegbnfabaa.MoreWords.str_leq Go.Proofs.Ytnabhfegbnfabaa.MoreWords.str_gtr Go.Proofs.Ytnabhfegbnfabaa.MoreWords.str_geq
set_option maxHeartbeats 8000000
set_option maxRecDepth 100000
set_option linter.unusedVariables false
set_option linter.unusedSimpArgs false
def bytes_Equal.f (l0 : List Int) (l1 : List Int) : Option (Bool) := some ((strOfNums l0).toList == (strOfNums l1).toList)
theorem bytes_Equal.calls (A0 : Option Addr) (c0 : Nat) (l0 : List Int) (A1 : Option Addr) (c1 : Nat) (l1 : List Int) (r : Bool) (w : World) (hr0 : Kd.C (Kd.int .u8) w A0 l0.length l0) (hc0 : l0.length ≤ c0) (hr1 : Kd.C (Kd.int .u8) w A1 l1.length l1) (hc1 : l1.length ≤ c1) (h : bytes_Equal.f l0 l1 = some r) :
  Calls Try.prog 27 #[.slice A0 l0.length c0, .slice A1 l1.length c1] w fun e w' => e = .returned (.bool r) ∧ Drawn0 w w' := by
 have HR0 := Az.mk hr0
 have HC0 := Az.mk hc0
 clear hr0 hc0
 have HR1 := Az.mk hr1
 have HC1 := Az.mk hc1
 clear hr1 hc1
 have H : (some ((strOfNums l0).toList == (strOfNums l1).toList)) = some r := h
 clear h
 obtain rfl := Option.some.inj H
 have hcv3 := Kd.C_string (P := Try.prog) (A := A0) (c := c0) Try.underlying22 Try.underlying5 Try.underlying9 HR0.out
 have hcv4 := Kd.C_string (P := Try.prog) (A := A1) (c := c1) Try.underlying22 Try.underlying5 Try.underlying9 HR1.out
 go_enter Try.func27, Try.ntmps27
 go_wp2
 go_ret
 exact ⟨es_, dw_⟩
def bytes_Clone.f (l : List Int) : Option (List Int) := if l.length < 140737488355328 then some l else none
theorem bytes_Clone.calls (A0 : Option Addr) (c0 : Nat) (l0 : List Int) (r : List Int) (w : World) (hr0 : Kd.C (Kd.int .u8) w A0 l0.length l0) (hc0 : l0.length ≤ c0) (h : bytes_Clone.f l0 = some r) :
  Calls Try.prog 47 #[.slice A0 l0.length c0] w fun e w' => ∃ v0_ : Value, e = .returned (v0_) ∧ Kd.R (Kd.int .u8) 5 w' w.heap.size (fun _ => True) v0_ r ∧ Below w.heap.size w w' := by
 have hl : l0.length < 140737488355328 := by
  unfold bytes_Clone.f at h
  by_cases q : l0.length < 140737488355328
  ·exact q
  ·rw [if_neg q] at h; simp at h
 have hr : l0 = r := by
  unfold bytes_Clone.f at h
  rw [if_pos hl] at h
  exact Option.some.inj h
 subst hr
 clear h
 cases A0 with
 | none =>
  have hz : l0 = [] := by
   cases l0 with
   | nil => rfl
   | cons x l =>
    obtain ⟨ad, e, _⟩ := hr0.2.2 (by simp)
    cases e
  subst hz
  clear hr0
  go_enter Try.func47, Try.ntmps47
  have hq := fun (w : World) (a : Option Addr) (n c : Nat) => Lib.run_eql_slice_nil (P := Try.prog) w 22 5 a n c 0 0 Try.underlying22
  go_wp2
  go_ret
  exact ⟨_, rfl, Kd.R_nil _ _ _ _ _, Below.refl _ _⟩
 | some ad =>
  have HR0 := Az.mk hr0
  have HL := Az.mk hl
  clear hr0 hl
  have hq := fun (w : World) (a : Option Addr) (n c : Nat) => Lib.run_eql_slice_nil (P := Try.prog) w 22 5 a n c 0 0 Try.underlying22
  go_enter Try.func47, Try.ntmps47
  go_wp2_with (first | ((with_reducible refine gate_dst (N := 5) rfl ?_); refine Kd.R_lit (Kd.int .u8) _ 5 ?hg (N := 5) ?hd (xs := ([] : List Int)) (inner := []) (ok := fun _ => True) (okp := fun _ => True) ?hr ?hp (fun _ hk => hk) trivial (Below.refl _ _) (Nat.le_refl _) (by simp) ?_; (case hd => rfl); (case hg => rfl); (case hr => first | (go_simp; done) | (go_simp; rfl)); (case hp => exact (Reps.none _ _)); intro v102 w4 ho5 hb hg_ hnew_; clear hg_ hnew_; have HO := Az.mk ho5; have HB := Az.mk hb; clear ho5 hb) | ((with_reducible refine gate_builtin (b := .append) (xs := #[.tmp 5, .tmp 6]) rfl ?_); at_builtin; refine Kd.R_append_rows (Kd.int .u8) (w0 := w) w.heap.size rfl (.tmp 5) (.tmp 6) 22 5 (.int .u8 0) 1 rfl Try.underlying22 info5 rfl (by decide) (by omega) v102 [] l0 _ _ _ (fun _ => True) (fun _ => False) rfl rfl ?aO ?aR (fun _ _ h => h) (fun _ h => h.elim) ?aF ?aB ?aS ?aL ?_; (case aR => exact (Kd.C_below HR0.out HB.out)); (case aB => exact HB.out); (case aF => exact (fun _ _ => trivial)); (case aO => exact HO.out); (case aS => exact (below_size HB.out)); (case aL => have := HL.out; simp; omega); intro v105 w6 ho hb hg hat; have HB2 := Az.mk hb; have HO2 := Az.mk ho; clear ho hb hg hat))
  go_ret
  exact ⟨_, rfl, by have := HO2.out; rwa [List.nil_append] at this, HB2.out⟩
def frame_Get.f (k : Nat) (l0 : List Int) : Option (List Int × Int × Int) := (num_Get.f l0).bind fun bt157 => (if bt157.2.2 = 0 then (if bt157.1 > 1048576 then (some (([] : List Int), 0, 2)) else (if (l0.length : Int) < (wrap64 ((wrap64 (bt157.2.1 + (wrap64 (bt157.1)))) + 4)) then (some (([] : List Int), 0, 3)) else (if 0 ≤ bt157.2.1 then (if bt157.2.1 ≤ (wrap64 (bt157.2.1 + (wrap64 (bt157.1)))) then (if (wrap64 (bt157.2.1 + (wrap64 (bt157.1)))) ≤ (l0.length : Int) then ((bytes_Clone.f ((l0.take ((wrap64 (bt157.2.1 + (wrap64 (bt157.1)))) : Int).toNat).drop (bt157.2.1 : Int).toNat)).bind fun t161 => (if 0 ≤ (wrap64 (bt157.2.1 + (wrap64 (bt157.1)))) then (if (wrap64 (bt157.2.1 + (wrap64 (bt157.1)))) ≤ (wrap64 ((wrap64 (bt157.2.1 + (wrap64 (bt157.1)))) + 4)) then (if (wrap64 ((wrap64 (bt157.2.1 + (wrap64 (bt157.1)))) + 4)) ≤ (l0.length : Int) then ((frame_sum.f k t161).bind fun t165 => ((bytes_Equal.f ((l0.take ((wrap64 ((wrap64 (bt157.2.1 + (wrap64 (bt157.1)))) + 4)) : Int).toNat).drop ((wrap64 (bt157.2.1 + (wrap64 (bt157.1)))) : Int).toNat) t165).bind fun t168 => (if t168 = true then (some (t161, wrap64 ((wrap64 (bt157.2.1 + (wrap64 (bt157.1)))) + 4), 0)) else (some (([] : List Int), 0, 4))))) else (none)) else (none)) else (none))) else (none)) else (none)) else (none)))) else (some (([] : List Int), 0, bt157.2.2)))
theorem frame_Get.mono : ∀ a0 k, LeO (frame_Get.f k a0) (frame_Get.f (k + 1) a0) := by
 intro a0 k
 unfold frame_Get.f
 repeat' first
   | (with_reducible exact frame_sum.mono _ _)
   | (with_reducible exact LeO.refl _)
   | (with_reducible exact LeO.none _)
   | (with_reducible refine LeO.ite ?_ ?_)
   | (with_reducible refine LeO.bind ?_ (fun _ => ?_))
   | exact frame_sum.mono _ _
   | exact LeO.none _
   | refine LeO.ite ?_ ?_
   | refine LeO.bind ?_ (fun _ => ?_)
def frame_Get.T10 : Bool × List (List Nat × List Nat) := (true, [([], []), ([], []), ([], []), ([2], [2]), ([0, 1, 3], [0, 1, 3]), ([], []), ([5], [5]), ([4, 6, 6], [4, 6]), ([7], [7])])
def frame_Get.B10 : List Nat := [0, 0, 0, 4, 15, 0, 32, 127, 255]
theorem frame_Get.tab10 : rtab .any (opsOf Try.f38 10) = frame_Get.T10 := by kernel_rfl
theorem frame_Get.bits10 : waitsOk frame_Get.T10.2 frame_Get.B10 = true := by kernel_rfl
theorem frame_Get.calls (k : Nat) (A0 : Option Addr) (c0 : Nat) (l0 : List Int) (r1 : List Int) (r2 : Int) (r3 : Int) (w : World) (hr0 : Kd.C (Kd.int .u8) w A0 l0.length l0) (hc0 : l0.length ≤ c0) (h : frame_Get.f k l0 = some (r1, r2, r3)) :
  Calls Try.prog 38 #[.slice A0 l0.length c0] w fun e w' => ∃ v0_ : Value, e = .returned (.tuple #[v0_, .int .i64 r2, .int .i64 r3]) ∧ Kd.R (Kd.int .u8) 5 w' w.heap.size (fun _ => True) v0_ r1 ∧ Below w.heap.size w w' := by
 have HR0 := Az.mk hr0
 have HC0 := Az.mk hc0
 clear hr0 hc0
 have HB := Az.mk (Below.refl w.heap.size w)
 have H : ((num_Get.f l0).bind fun bt157 => (if bt157.2.2 = 0 then (if bt157.1 > 1048576 then (some (([] : List Int), 0, 2)) else (if (l0.length : Int) < (wrap64 ((wrap64 (bt157.2.1 + (wrap64 (bt157.1)))) + 4)) then (some (([] : List Int), 0, 3)) else (if 0 ≤ bt157.2.1 then (if bt157.2.1 ≤ (wrap64 (bt157.2.1 + (wrap64 (bt157.1)))) then (if (wrap64 (bt157.2.1 + (wrap64 (bt157.1)))) ≤ (l0.length : Int) then ((bytes_Clone.f ((l0.take ((wrap64 (bt157.2.1 + (wrap64 (bt157.1)))) : Int).toNat).drop (bt157.2.1 : Int).toNat)).bind fun t161 => (if 0 ≤ (wrap64 (bt157.2.1 + (wrap64 (bt157.1)))) then (if (wrap64 (bt157.2.1 + (wrap64 (bt157.1)))) ≤ (wrap64 ((wrap64 (bt157.2.1 + (wrap64 (bt157.1)))) + 4)) then (if (wrap64 ((wrap64 (bt157.2.1 + (wrap64 (bt157.1)))) + 4)) ≤ (l0.length : Int) then ((frame_sum.f k t161).bind fun t165 => ((bytes_Equal.f ((l0.take ((wrap64 ((wrap64 (bt157.2.1 + (wrap64 (bt157.1)))) + 4)) : Int).toNat).drop ((wrap64 (bt157.2.1 + (wrap64 (bt157.1)))) : Int).toNat) t165).bind fun t168 => (if t168 = true then (some (t161, wrap64 ((wrap64 (bt157.2.1 + (wrap64 (bt157.1)))) + 4), 0)) else (some (([] : List Int), 0, 4))))) else (none)) else (none)) else (none))) else (none)) else (none)) else (none)))) else (some (([] : List Int), 0, bt157.2.2)))) = some (r1, r2, r3) := h
 clear h
 replace H := Option.bind_eq_some_iff.mp H
 obtain ⟨⟨t157, t158, t159⟩, A20, H⟩ := H
 replace H : (if t159 = 0 then (if t157 > 1048576 then (some (([] : List Int), 0, 2)) else (if (l0.length : Int) < (wrap64 ((wrap64 (t158 + (wrap64 (t157)))) + 4)) then (some (([] : List Int), 0, 3)) else (if 0 ≤ t158 then (if t158 ≤ (wrap64 (t158 + (wrap64 (t157)))) then (if (wrap64 (t158 + (wrap64 (t157)))) ≤ (l0.length : Int) then ((bytes_Clone.f ((l0.take ((wrap64 (t158 + (wrap64 (t157)))) : Int).toNat).drop (t158 : Int).toNat)).bind fun t161 => (if 0 ≤ (wrap64 (t158 + (wrap64 (t157)))) then (if (wrap64 (t158 + (wrap64 (t157)))) ≤ (wrap64 ((wrap64 (t158 + (wrap64 (t157)))) + 4)) then (if (wrap64 ((wrap64 (t158 + (wrap64 (t157)))) + 4)) ≤ (l0.length : Int) then ((frame_sum.f k t161).bind fun t165 => ((bytes_Equal.f ((l0.take ((wrap64 ((wrap64 (t158 + (wrap64 (t157)))) + 4)) : Int).toNat).drop ((wrap64 (t158 + (wrap64 (t157)))) : Int).toNat) t165).bind fun t168 => (if t168 = true then (some (t161, wrap64 ((wrap64 (t158 + (wrap64 (t157)))) + 4), 0)) else (some (([] : List Int), 0, 4))))) else (none)) else (none)) else (none))) else (none)) else (none)) else (none)))) else (some (([] : List Int), 0, t159))) = some (r1, r2, r3) := H
 have A2 := Az.mk A20
 clear A20
 by_cases c3 : t159 = 0
 ·rw [if_pos c3] at H
  have c3b0 : (t159 == 0) = true := beq_iff_eq.mpr c3
  have c3b1 : (t159 != 0) = false := bne_eq_false_iff_eq.mpr c3
  clear c3
  by_cases c4 : t157 > 1048576
  ·rw [if_pos c4] at H
   have c4b0 := decide_eq_true c4
   clear c4
   simp only [Option.some.injEq, Prod.mk.injEq] at H
   obtain ⟨rfl, rfl, rfl⟩ := H
   go_enter Try.func38, Try.ntmps38
   go_wp2_with (first | ((with_reducible refine gate_callee (f := 25) rfl ?_); refine goesL_ (some 12) rfl rfl Try.func25 (by kernel_rfl) rfl #[.slice A0 l0.length c0] rfl ar_ ?_; (with_reducible refine (num_Get.calls _ _ l0 t157 t158 t159 _ ?side1 ?side2 A2.out).mono ?_); (case side1 => exact cl_ HR0.out); (case side2 => exact HC0.out); rintro e w' ⟨rfl, ⟨nd, rfl⟩⟩; refine ⟨_, rfl, ?_⟩))
   go_ret3
   exact ⟨_, er_, nl_, bl_ HB⟩
  ·rw [if_neg c4] at H
   have c4b0 := decide_eq_false c4
   clear c4
   by_cases c5 : (l0.length : Int) < (wrap64 ((wrap64 (t158 + (wrap64 (t157)))) + 4))
   ·rw [if_pos c5] at H
    have c5b0 := decide_eq_true c5
    clear c5
    simp only [Option.some.injEq, Prod.mk.injEq] at H
    obtain ⟨rfl, rfl, rfl⟩ := H
    go_enter Try.func38, Try.ntmps38
    go_wp2_with (first | ((with_reducible refine gate_callee (f := 25) rfl ?_); refine goesL_ (some 12) rfl rfl Try.func25 (by kernel_rfl) rfl #[.slice A0 l0.length c0] rfl ar_ ?_; (with_reducible refine (num_Get.calls _ _ l0 t157 t158 t159 _ ?side1 ?side2 A2.out).mono ?_); (case side1 => exact cl_ HR0.out); (case side2 => exact HC0.out); rintro e w' ⟨rfl, ⟨nd, rfl⟩⟩; refine ⟨_, rfl, ?_⟩))
    go_ret3
    exact ⟨_, er_, nl_, bl_ HB⟩
   ·rw [if_neg c5] at H
    have c5b0 := decide_eq_false c5
    clear c5
    by_cases c6 : 0 ≤ t158
    ·rw [if_pos c6] at H
     have c6b0 := eq_true c6
     have c6b1 := decide_eq_true c6
     clear c6
     by_cases c7 : t158 ≤ (wrap64 (t158 + (wrap64 (t157))))
     ·rw [if_pos c7] at H
      have c7b0 := eq_true c7
      have c7b1 := decide_eq_true c7
      by_cases c8 : (wrap64 (t158 + (wrap64 (t157)))) ≤ (l0.length : Int)
      ·rw [if_pos c8] at H
       have c8b0 := eq_true c8
       have c8b1 := decide_eq_true c8
       replace H := Option.bind_eq_some_iff.mp H
       obtain ⟨t161, A90, H⟩ := H
       replace H : (if 0 ≤ (wrap64 (t158 + (wrap64 (t157)))) then (if (wrap64 (t158 + (wrap64 (t157)))) ≤ (wrap64 ((wrap64 (t158 + (wrap64 (t157)))) + 4)) then (if (wrap64 ((wrap64 (t158 + (wrap64 (t157)))) + 4)) ≤ (l0.length : Int) then ((frame_sum.f k t161).bind fun t165 => ((bytes_Equal.f ((l0.take ((wrap64 ((wrap64 (t158 + (wrap64 (t157)))) + 4)) : Int).toNat).drop ((wrap64 (t158 + (wrap64 (t157)))) : Int).toNat) t165).bind fun t168 => (if t168 = true then (some (t161, wrap64 ((wrap64 (t158 + (wrap64 (t157)))) + 4), 0)) else (some (([] : List Int), 0, 4))))) else (none)) else (none)) else (none)) = some (r1, r2, r3) := H
       have A9 := Az.mk A90
       clear A90
       obtain ⟨ji10, hji10⟩ : ∃ j_ : Int, (wrap64 (t158 + (wrap64 (t157)))) = j_ := ⟨_, rfl⟩
       replace H : (if 0 ≤ (ji10) then (if (ji10) ≤ (wrap64 ((ji10) + 4)) then (if (wrap64 ((ji10) + 4)) ≤ (l0.length : Int) then ((frame_sum.f k t161).bind fun t165 => ((bytes_Equal.f ((l0.take ((wrap64 ((ji10) + 4)) : Int).toNat).drop ((ji10) : Int).toNat) t165).bind fun t168 => (if t168 = true then (some (t161, wrap64 ((ji10) + 4), 0)) else (some (([] : List Int), 0, 4))))) else (none)) else (none)) else (none)) = some (r1, r2, r3) := by first | (rw [hji10] at H; exact H) | (simp only [hji10] at H ⊢; exact H)
       (try rw [hji10] at c5b0)
       (try rw [hji10] at c7b0)
       (try rw [hji10] at c7b1)
       (try rw [hji10] at c7)
       (try rw [hji10] at c8b0)
       (try rw [hji10] at c8b1)
       (try rw [hji10] at c8)
       (try rw [hji10] at A2)
       (try rw [hji10] at A9)
       have hji10w : (IntKind.i64.wrap (t158 + (wrap64 (t157)))) = ji10 := (i64_w _).trans hji10
       by_cases c11 : 0 ≤ (ji10)
       ·rw [if_pos c11] at H
        have c11b0 := eq_true c11
        have c11b1 := decide_eq_true c11
        clear c11
        by_cases c12 : (ji10) ≤ (wrap64 ((ji10) + 4))
        ·rw [if_pos c12] at H
         have c12b0 := eq_true c12
         have c12b1 := decide_eq_true c12
         by_cases c13 : (wrap64 ((ji10) + 4)) ≤ (l0.length : Int)
         ·rw [if_pos c13] at H
          have c13b0 := eq_true c13
          have c13b1 := decide_eq_true c13
          replace H := Option.bind_eq_some_iff.mp H
          obtain ⟨t165, A140, H⟩ := H
          replace H : ((bytes_Equal.f ((l0.take ((wrap64 ((ji10) + 4)) : Int).toNat).drop ((ji10) : Int).toNat) t165).bind fun t168 => (if t168 = true then (some (t161, wrap64 ((ji10) + 4), 0)) else (some (([] : List Int), 0, 4)))) = some (r1, r2, r3) := H
          have A14 := Az.mk A140
          clear A140
          replace H := Option.bind_eq_some_iff.mp H
          obtain ⟨t168, A150, H⟩ := H
          replace H : (if t168 = true then (some (t161, wrap64 ((ji10) + 4), 0)) else (some (([] : List Int), 0, 4))) = some (r1, r2, r3) := H
          have A15 := Az.mk A150
          clear A150
          by_cases c16 : t168 = true
          ·subst c16
           have H1 : (some (t161, wrap64 ((ji10) + 4), 0)) = some (r1, r2, r3) := by rw [if_pos rfl] at H; exact H
           clear H
           have H := H1
           clear H1
           simp only [Option.some.injEq, Prod.mk.injEq] at H
           obtain ⟨rfl, rfl, rfl⟩ := H
           go_enter Try.func38, Try.ntmps38
           try go_wp2_with (first | ((with_reducible refine gate_callee (f := 25) rfl ?_); refine goesL_ (some 12) rfl rfl Try.func25 (by kernel_rfl) rfl #[.slice A0 l0.length c0] rfl ar_ ?_; (with_reducible refine (num_Get.calls _ _ l0 t157 t158 t159 _ ?side1 ?side2 A2.out).mono ?_); (case side1 => exact cl_ HR0.out); (case side2 => exact HC0.out); rintro e w' ⟨rfl, ⟨nd, rfl⟩⟩; refine ⟨_, rfl, ?_⟩; obtain ⟨i017, hi017, _, hsz17, _⟩ := info_parts info5; obtain ⟨A17, hcut17, hA17, hC17⟩ := print_mid_of (P := Try.prog) (Value.int .u8) 0 22 5 .i64 .i64 Try.underlying22 hi017 hsz17 A0 c0 l0 t158 (ji10) (of_decide_eq_true as_) (by first | omega | exact of_decide_eq_true as_) (of_decide_eq_true as_) HC0.out; have HR160 := Az.mk (Kd.C_of_reads (h1 := fun _ => rfl) (hA17 _ (Kd.reads_of_C HR0.out))); have HC160 := Az.mk hC17; clear hA17 hC17 hi017 hsz17) | ((with_reducible refine gate_callee (f := 47) rfl ?_); refine goesL_ (some 36) rfl rfl Try.func47 (by kernel_rfl) rfl #[.slice A17 ((l0.take ((ji10) : Int).toNat).drop (t158 : Int).toNat).length (c0 - t158.toNat)] rfl (by (try simp only [List.map_toArray, List.map_cons, List.map_nil]); first | done | (rw [show ((l0.take ((ji10) : Int).toNat).drop (t158 : Int).toNat).length = ((ji10).toNat - t158.toNat) from (by rw [List.length_drop, List.length_take]; have h_ : ((ji10) : Int) ≤ (l0.length : Int) := of_decide_eq_true as_; omega)] <;> rfl) | (simp only [hji10]; rfl) | rfl | (simp only [List.length_drop, List.length_take]; rfl)) ?_; (with_reducible refine (bytes_Clone.calls _ _ ((l0.take ((ji10) : Int).toNat).drop (t158 : Int).toNat) t161 _ ?side1 ?side2 A9.out).mono ?_); (case side1 => exact cl_ HR160.out); (case side2 => exact HC160.out); rintro e w18 ⟨v162, rfl, ho0, hb⟩; refine ⟨_, rfl, ?_⟩; have n0_ := Az.mk (Kd.R_lower ho0 (below_size (bl_ HB))); have n1_ := Az.mk (below_step (bl_ HB) hb); clear HB; have HO163 := n0_; have HB := n1_; clear n0_ n1_; (try clear hb); (try clear hb2); (try clear hk); (try clear hi); (try clear ho0)))
           have n0_ := Az.mk (Kd.R_drew HO163.out)
           have n1_ := Az.mk (below_drew1 HB.out)
           clear HO163
           clear HB
           have HO163 := n0_
           have HB := n1_
           clear n0_ n1_
           obtain ⟨i020, hi020, _, hsz20, _⟩ := info_parts info5
           obtain ⟨A20, hcut20, hA20, hC20⟩ := print_mid_of (P := Try.prog) (Value.int .u8) 0 22 5 .i64 .i64 Try.underlying22 hi020 hsz20 A0 c0 l0 (ji10) (wrap64 ((ji10) + 4)) (of_decide_eq_true as_) (by first | omega | exact of_decide_eq_true as_) (of_decide_eq_true as_) HC0.out
           have HR164 := Az.mk (Kd.C_of_reads (h1 := fun _ => rfl) (hA20 _ (Kd.reads_of_C HR0.out)))
           have HC164 := Az.mk hC20
           clear hA20 hC20 hi020 hsz20
           obtain ⟨Ao21, co21, eo21⟩ := Kd.R_slice HO163.out
           (first | subst eo21 | (injection eo21 with f1_ f2_ f3_; have f4_ := f1_.symm; have f5_ := f3_.symm; clear f1_ f2_ f3_; subst f4_; subst f5_))
           refine start_ (n := 9) (S := fun w' => True) (ds := []) #[false, false, false, false, false, false, false, false, false] (by kernel_rfl) rfl rfl trivial (fun hHeld => ?_); refine with_tabW frame_Get.tab10 frame_Get.bits10 (fun HT_ HW_ => ?_)
           generalize w18.drew = w19 at HO163 HB HR164 hHeld ⊢
           refine pure_ (i := 0) (N := some 37) (v := ?_) (a' := ?_) #[true, false, false, false, false, false, false, false, false] rfl rfl (any_of HT_.out (by kernel_rfl)) (fun _ _ _ h => h) (Or.inl ⟨by rfl, ?_⟩) ?_ ?_
           rotate_left
           ·intro w'
            go_simp
            with_reducible rfl
           rotate_left
           ·simp only [Act.put, List.setIfInBounds_toArray, List.set_cons_zero, List.set_cons_succ, i64_w, i32_w]
            rfl
           refine pure_ (i := 1) (N := some 38) (v := ?_) (a' := ?_) #[true, true, false, false, false, false, false, false, false] rfl rfl (any_of HT_.out (by kernel_rfl)) (fun _ _ _ h => h) (Or.inl ⟨by rfl, ?_⟩) ?_ ?_
           rotate_left
           ·intro w'
            go_simp
            with_reducible rfl
           rotate_left
           ·simp only [Act.put, List.setIfInBounds_toArray, List.set_cons_zero, List.set_cons_succ, i64_w, i32_w]
            rfl
           refine pure_ (i := 2) (N := some 39) (v := ?_) (a' := ?_) #[true, true, true, false, false, false, false, false, false] rfl rfl (any_of HT_.out (by kernel_rfl)) (fun _ _ _ h => h) (Or.inl ⟨by rfl, ?_⟩) ?_ ?_
           rotate_left
           ·intro w'
            go_simp
            with_reducible rfl
           rotate_left
           ·simp only [Act.put, List.setIfInBounds_toArray, List.set_cons_zero, List.set_cons_succ, i64_w, i32_w]
            rfl
           refine pure_ (i := 3) (N := some 40) (v := ?_) (a' := ?_) #[true, true, true, true, false, false, false, false, false] rfl rfl (any_of HT_.out (by kernel_rfl)) (fun _ _ _ h => h) (Or.inl ⟨by rfl, ?_⟩) ?_ ?_
           rotate_left
           ·intro w'
            go_simp
            with_reducible rfl
           rotate_left
           ·simp only [Act.put, List.setIfInBounds_toArray, List.set_cons_zero, List.set_cons_succ, i64_w, i32_w]
            rfl
           refine pure_ (i := 4) (N := some 41) (v := ?_) (a' := ?_) #[true, true, true, true, true, false, false, false, false] rfl rfl (any_of HT_.out (by kernel_rfl)) (fun _ _ _ h => h) (Or.inl ⟨by rfl, ?_⟩) ?_ ?_
           rotate_left
           ·intro w'
            go_simp
            with_reducible rfl
           rotate_left
           ·simp only [Act.put, List.setIfInBounds_toArray, List.set_cons_zero, List.set_cons_succ, i64_w, i32_w]
            rfl
           refine pure_ (i := 5) (N := some 42) (v := ?_) (a' := ?_) #[true, true, true, true, true, true, false, false, false] rfl rfl (any_of HT_.out (by kernel_rfl)) (fun _ _ _ h => h) (Or.inl ⟨by rfl, ?_⟩) ?_ ?_
           rotate_left
           ·intro w'
            go_simp
            with_reducible rfl
           rotate_left
           ·simp only [Act.put, List.setIfInBounds_toArray, List.set_cons_zero, List.set_cons_succ, i64_w, i32_w]
            rfl
           refine one_ (i := 6) (N := some 43) #[true, true, true, true, true, true, true, false, false] rfl rfl (one_of HT_.out (by kernel_rfl)) (by decide) (fun K hK => ?_)
           refine goes_ Try.func37 (by kernel_rfl) rfl #[.slice Ao21 t161.length co21] (by rfl) rfl rfl ar_ ?_
           with_reducible refine (frame_sum.calls k _ _ t161 t165 _ ?side1 ?side2 A14.out).mono ?_
           (case side1 => exact cl_ (Kd.R_reads' HO163.out).2.2)
           (case side2 => exact (Kd.R_reads' HO163.out).2.1)
           rintro e w22 ⟨v166, rfl, ho0, hb⟩
           refine ⟨_, rfl, ?_⟩
           have n0_ := Az.mk (Kd.R_elder' (rl_ HO163.out) (Kd.R_base ho0) hb)
           have n1_ := Az.mk (Kd.R_lower (Kd.R_new' ho0 (Kd.R_lt (rl_ HO163.out))) (below_size (bl_ HB)))
           have n2_ := Az.mk (below_step (bl_ HB) hb)
           clear HO163
           clear HB
           have HO163 := n0_
           have HO167 := n1_
           have HB := n2_
           clear n0_ n1_ n2_
           (try clear hb)
           (try clear hb2)
           (try clear hk)
           (try clear hi)
           (try clear ho0)
           obtain ⟨Ao23, co23, eo23⟩ := Kd.R_slice HO167.out
           (first | subst eo23 | (injection eo23 with f1_ f2_ f3_; have f4_ := f1_.symm; have f5_ := f3_.symm; clear f1_ f2_ f3_; subst f4_; subst f5_))
           refine hK.out _ _ trivial (fun hHeld => ?_)
           clear hK K
           refine norm_ (a' := ?_) ?_ ?_
           rotate_left
           ·show Act.put _ (some 43) _ = _
            simp only [Act.put, List.setIfInBounds_toArray, List.set_cons_zero, List.set_cons_succ, i64_w, i32_w]
            rfl
           refine one_ (i := 7) (N := some 44) #[true, true, true, true, true, true, true, true, false] rfl rfl (one_of HT_.out (by kernel_rfl)) (by decide) (fun K hK => ?_)
           refine goes_ Try.func27 (by kernel_rfl) rfl #[.slice A20 ((l0.take ((wrap64 ((ji10) + 4)) : Int).toNat).drop ((ji10) : Int).toNat).length (c0 - (ji10).toNat), .slice Ao23 t165.length co23] (by rfl) rfl rfl (by (try simp only [List.map_toArray, List.map_cons, List.map_nil]); first | done | (rw [show ((l0.take ((wrap64 ((ji10) + 4)) : Int).toNat).drop ((ji10) : Int).toNat).length = ((wrap64 ((ji10) + 4)).toNat - (ji10).toNat) from (by rw [List.length_drop, List.length_take]; have h_ : ((wrap64 ((ji10) + 4)) : Int) ≤ (l0.length : Int) := of_decide_eq_true as_; omega)] <;> rfl) | (simp only [hji10]; rfl) | rfl | (simp only [List.length_drop, List.length_take]; rfl)) ?_
           with_reducible refine (bytes_Equal.calls _ _ ((l0.take ((wrap64 ((ji10) + 4)) : Int).toNat).drop ((ji10) : Int).toNat) _ _ t165 true _ ?side1 ?side2 ?side3 ?side4 A15.out).mono ?_
           (case side1 => exact cl_ (Kd.C_below HR164.out HB.out))
           (case side2 => exact HC164.out)
           (case side3 => exact cl_ (Kd.R_reads' HO167.out).2.2)
           (case side4 => exact (Kd.R_reads' HO167.out).2.1)
           rintro e w' ⟨rfl, ⟨nd, rfl⟩⟩
           refine ⟨_, rfl, ?_⟩
           refine hK.out _ _ trivial (fun hHeld => ?_)
           clear hK K
           refine norm_ (a' := ?_) ?_ ?_
           rotate_left
           ·show Act.put _ (some 44) _ = _
            simp only [Act.put, List.setIfInBounds_toArray, List.set_cons_zero, List.set_cons_succ, i64_w, i32_w]
            rfl
           refine pure_ (i := 8) (N := some 45) (v := ?_) (a' := ?_) #[true, true, true, true, true, true, true, true, true] rfl rfl (any_of HT_.out (by kernel_rfl)) (fun _ _ _ h => h) (Or.inl ⟨by rfl, ?_⟩) ?_ ?_
           rotate_left
           ·intro w'
            go_simp
            with_reducible rfl
           rotate_left
           ·simp only [Act.put, List.setIfInBounds_toArray, List.set_cons_zero, List.set_cons_succ, i64_w, i32_w]
            rfl
           refine done_ (done_of HT_.out (by kernel_rfl)) ?_
           try go_wp2
           go_ret3
           exact ⟨_, by first | rfl | (simp [errW_none, errW_some] <;> rfl) | (simp only [← hji10]; first | rfl | (simp [errW_none, errW_some] <;> rfl)) | (simp [*, errW_none, errW_some] <;> rfl), by (with_reducible repeat (first | apply Kd.R_alloc | apply Kd.R_drewN | apply Kd.R_drew)); exact Kd.R_mono HO163.out (fun _ hk => trivial), bl_ HB⟩
          ·replace c16 := Bool.eq_false_iff.mpr c16
           subst c16
           have H1 : (some (([] : List Int), 0, 4)) = some (r1, r2, r3) := by rw [if_neg (show ¬ (false = true) by decide)] at H; exact H
           clear H
           have H := H1
           clear H1
           simp only [Option.some.injEq, Prod.mk.injEq] at H
           obtain ⟨rfl, rfl, rfl⟩ := H
           go_enter Try.func38, Try.ntmps38
           try go_wp2_with (first | ((with_reducible refine gate_callee (f := 25) rfl ?_); refine goesL_ (some 12) rfl rfl Try.func25 (by kernel_rfl) rfl #[.slice A0 l0.length c0] rfl ar_ ?_; (with_reducible refine (num_Get.calls _ _ l0 t157 t158 t159 _ ?side1 ?side2 A2.out).mono ?_); (case side1 => exact cl_ HR0.out); (case side2 => exact HC0.out); rintro e w' ⟨rfl, ⟨nd, rfl⟩⟩; refine ⟨_, rfl, ?_⟩; obtain ⟨i024, hi024, _, hsz24, _⟩ := info_parts info5; obtain ⟨A24, hcut24, hA24, hC24⟩ := print_mid_of (P := Try.prog) (Value.int .u8) 0 22 5 .i64 .i64 Try.underlying22 hi024 hsz24 A0 c0 l0 t158 (ji10) (of_decide_eq_true as_) (by first | omega | exact of_decide_eq_true as_) (of_decide_eq_true as_) HC0.out; have HR160 := Az.mk (Kd.C_of_reads (h1 := fun _ => rfl) (hA24 _ (Kd.reads_of_C HR0.out))); have HC160 := Az.mk hC24; clear hA24 hC24 hi024 hsz24) | ((with_reducible refine gate_callee (f := 47) rfl ?_); refine goesL_ (some 36) rfl rfl Try.func47 (by kernel_rfl) rfl #[.slice A24 ((l0.take ((ji10) : Int).toNat).drop (t158 : Int).toNat).length (c0 - t158.toNat)] rfl (by (try simp only [List.map_toArray, List.map_cons, List.map_nil]); first | done | (rw [show ((l0.take ((ji10) : Int).toNat).drop (t158 : Int).toNat).length = ((ji10).toNat - t158.toNat) from (by rw [List.length_drop, List.length_take]; have h_ : ((ji10) : Int) ≤ (l0.length : Int) := of_decide_eq_true as_; omega)] <;> rfl) | (simp only [hji10]; rfl) | rfl | (simp only [List.length_drop, List.length_take]; rfl)) ?_; (with_reducible refine (bytes_Clone.calls _ _ ((l0.take ((ji10) : Int).toNat).drop (t158 : Int).toNat) t161 _ ?side1 ?side2 A9.out).mono ?_); (case side1 => exact cl_ HR160.out); (case side2 => exact HC160.out); rintro e w25 ⟨v162, rfl, ho0, hb⟩; refine ⟨_, rfl, ?_⟩; have n0_ := Az.mk (Kd.R_lower ho0 (below_size (bl_ HB))); have n1_ := Az.mk (below_step (bl_ HB) hb); clear HB; have HO163 := n0_; have HB := n1_; clear n0_ n1_; (try clear hb); (try clear hb2); (try clear hk); (try clear hi); (try clear ho0)))
           have n0_ := Az.mk (Kd.R_drew HO163.out)
           have n1_ := Az.mk (below_drew1 HB.out)
           clear HO163
           clear HB
           have HO163 := n0_
           have HB := n1_
           clear n0_ n1_
           obtain ⟨i027, hi027, _, hsz27, _⟩ := info_parts info5
           obtain ⟨A27, hcut27, hA27, hC27⟩ := print_mid_of (P := Try.prog) (Value.int .u8) 0 22 5 .i64 .i64 Try.underlying22 hi027 hsz27 A0 c0 l0 (ji10) (wrap64 ((ji10) + 4)) (of_decide_eq_true as_) (by first | omega | exact of_decide_eq_true as_) (of_decide_eq_true as_) HC0.out
           have HR164 := Az.mk (Kd.C_of_reads (h1 := fun _ => rfl) (hA27 _ (Kd.reads_of_C HR0.out)))
           have HC164 := Az.mk hC27
           clear hA27 hC27 hi027 hsz27
           obtain ⟨Ao28, co28, eo28⟩ := Kd.R_slice HO163.out
           (first | subst eo28 | (injection eo28 with f1_ f2_ f3_; have f4_ := f1_.symm; have f5_ := f3_.symm; clear f1_ f2_ f3_; subst f4_; subst f5_))
           refine start_ (n := 9) (S := fun w' => True) (ds := []) #[false, false, false, false, false, false, false, false, false] (by kernel_rfl) rfl rfl trivial (fun hHeld => ?_); refine with_tabW frame_Get.tab10 frame_Get.bits10 (fun HT_ HW_ => ?_)
           generalize w25.drew = w26 at HO163 HB HR164 hHeld ⊢
           refine pure_ (i := 0) (N := some 37) (v := ?_) (a' := ?_) #[true, false, false, false, false, false, false, false, false] rfl rfl (any_of HT_.out (by kernel_rfl)) (fun _ _ _ h => h) (Or.inl ⟨by rfl, ?_⟩) ?_ ?_
           rotate_left
           ·intro w'
            go_simp
            with_reducible rfl
           rotate_left
           ·simp only [Act.put, List.setIfInBounds_toArray, List.set_cons_zero, List.set_cons_succ, i64_w, i32_w]
            rfl
           refine pure_ (i := 1) (N := some 38) (v := ?_) (a' := ?_) #[true, true, false, false, false, false, false, false, false] rfl rfl (any_of HT_.out (by kernel_rfl)) (fun _ _ _ h => h) (Or.inl ⟨by rfl, ?_⟩) ?_ ?_
           rotate_left
           ·intro w'
            go_simp
            with_reducible rfl
           rotate_left
           ·simp only [Act.put, List.setIfInBounds_toArray, List.set_cons_zero, List.set_cons_succ, i64_w, i32_w]
            rfl
           refine pure_ (i := 2) (N := some 39) (v := ?_) (a' := ?_) #[true, true, true, false, false, false, false, false, false] rfl rfl (any_of HT_.out (by kernel_rfl)) (fun _ _ _ h => h) (Or.inl ⟨by rfl, ?_⟩) ?_ ?_
           rotate_left
           ·intro w'
            go_simp
            with_reducible rfl
           rotate_left
           ·simp only [Act.put, List.setIfInBounds_toArray, List.set_cons_zero, List.set_cons_succ, i64_w, i32_w]
            rfl
           refine pure_ (i := 3) (N := some 40) (v := ?_) (a' := ?_) #[true, true, true, true, false, false, false, false, false] rfl rfl (any_of HT_.out (by kernel_rfl)) (fun _ _ _ h => h) (Or.inl ⟨by rfl, ?_⟩) ?_ ?_
           rotate_left
           ·intro w'
            go_simp
            with_reducible rfl
           rotate_left
           ·simp only [Act.put, List.setIfInBounds_toArray, List.set_cons_zero, List.set_cons_succ, i64_w, i32_w]
            rfl
           refine pure_ (i := 4) (N := some 41) (v := ?_) (a' := ?_) #[true, true, true, true, true, false, false, false, false] rfl rfl (any_of HT_.out (by kernel_rfl)) (fun _ _ _ h => h) (Or.inl ⟨by rfl, ?_⟩) ?_ ?_
           rotate_left
           ·intro w'
            go_simp
            with_reducible rfl
           rotate_left
           ·simp only [Act.put, List.setIfInBounds_toArray, List.set_cons_zero, List.set_cons_succ, i64_w, i32_w]
            rfl
           refine pure_ (i := 5) (N := some 42) (v := ?_) (a' := ?_) #[true, true, true, true, true, true, false, false, false] rfl rfl (any_of HT_.out (by kernel_rfl)) (fun _ _ _ h => h) (Or.inl ⟨by rfl, ?_⟩) ?_ ?_
           rotate_left
           ·intro w'
            go_simp
            with_reducible rfl
           rotate_left
           ·simp only [Act.put, List.setIfInBounds_toArray, List.set_cons_zero, List.set_cons_succ, i64_w, i32_w]
            rfl
           refine one_ (i := 6) (N := some 43) #[true, true, true, true, true, true, true, false, false] rfl rfl (one_of HT_.out (by kernel_rfl)) (by decide) (fun K hK => ?_)
           refine goes_ Try.func37 (by kernel_rfl) rfl #[.slice Ao28 t161.length co28] (by rfl) rfl rfl ar_ ?_
           with_reducible refine (frame_sum.calls k _ _ t161 t165 _ ?side1 ?side2 A14.out).mono ?_
           (case side1 => exact cl_ (Kd.R_reads' HO163.out).2.2)
           (case side2 => exact (Kd.R_reads' HO163.out).2.1)
           rintro e w29 ⟨v166, rfl, ho0, hb⟩
           refine ⟨_, rfl, ?_⟩
           have n0_ := Az.mk (Kd.R_elder' (rl_ HO163.out) (Kd.R_base ho0) hb)
           have n1_ := Az.mk (Kd.R_lower (Kd.R_new' ho0 (Kd.R_lt (rl_ HO163.out))) (below_size (bl_ HB)))
           have n2_ := Az.mk (below_step (bl_ HB) hb)
           clear HO163
           clear HB
           have HO163 := n0_
           have HO167 := n1_
           have HB := n2_
           clear n0_ n1_ n2_
           (try clear hb)
           (try clear hb2)
           (try clear hk)
           (try clear hi)
           (try clear ho0)
           obtain ⟨Ao30, co30, eo30⟩ := Kd.R_slice HO167.out
           (first | subst eo30 | (injection eo30 with f1_ f2_ f3_; have f4_ := f1_.symm; have f5_ := f3_.symm; clear f1_ f2_ f3_; subst f4_; subst f5_))
           refine hK.out _ _ trivial (fun hHeld => ?_)
           clear hK K
           refine norm_ (a' := ?_) ?_ ?_
           rotate_left
           ·show Act.put _ (some 43) _ = _
            simp only [Act.put, List.setIfInBounds_toArray, List.set_cons_zero, List.set_cons_succ, i64_w, i32_w]
            rfl
           refine one_ (i := 7) (N := some 44) #[true, true, true, true, true, true, true, true, false] rfl rfl (one_of HT_.out (by kernel_rfl)) (by decide) (fun K hK => ?_)
           refine goes_ Try.func27 (by kernel_rfl) rfl #[.slice A27 ((l0.take ((wrap64 ((ji10) + 4)) : Int).toNat).drop ((ji10) : Int).toNat).length (c0 - (ji10).toNat), .slice Ao30 t165.length co30] (by rfl) rfl rfl (by (try simp only [List.map_toArray, List.map_cons, List.map_nil]); first | done | (rw [show ((l0.take ((wrap64 ((ji10) + 4)) : Int).toNat).drop ((ji10) : Int).toNat).length = ((wrap64 ((ji10) + 4)).toNat - (ji10).toNat) from (by rw [List.length_drop, List.length_take]; have h_ : ((wrap64 ((ji10) + 4)) : Int) ≤ (l0.length : Int) := of_decide_eq_true as_; omega)] <;> rfl) | (simp only [hji10]; rfl) | rfl | (simp only [List.length_drop, List.length_take]; rfl)) ?_
           with_reducible refine (bytes_Equal.calls _ _ ((l0.take ((wrap64 ((ji10) + 4)) : Int).toNat).drop ((ji10) : Int).toNat) _ _ t165 false _ ?side1 ?side2 ?side3 ?side4 A15.out).mono ?_
           (case side1 => exact cl_ (Kd.C_below HR164.out HB.out))
           (case side2 => exact HC164.out)
           (case side3 => exact cl_ (Kd.R_reads' HO167.out).2.2)
           (case side4 => exact (Kd.R_reads' HO167.out).2.1)
           rintro e w' ⟨rfl, ⟨nd, rfl⟩⟩
           refine ⟨_, rfl, ?_⟩
           refine hK.out _ _ trivial (fun hHeld => ?_)
           clear hK K
           refine norm_ (a' := ?_) ?_ ?_
           rotate_left
           ·show Act.put _ (some 44) _ = _
            simp only [Act.put, List.setIfInBounds_toArray, List.set_cons_zero, List.set_cons_succ, i64_w, i32_w]
            rfl
           refine pure_ (i := 8) (N := some 45) (v := ?_) (a' := ?_) #[true, true, true, true, true, true, true, true, true] rfl rfl (any_of HT_.out (by kernel_rfl)) (fun _ _ _ h => h) (Or.inl ⟨by rfl, ?_⟩) ?_ ?_
           rotate_left
           ·intro w'
            go_simp
            with_reducible rfl
           rotate_left
           ·simp only [Act.put, List.setIfInBounds_toArray, List.set_cons_zero, List.set_cons_succ, i64_w, i32_w]
            rfl
           refine done_ (done_of HT_.out (by kernel_rfl)) ?_
           try go_wp2
           go_ret3
           exact ⟨_, by first | rfl | (simp [errW_none, errW_some] <;> rfl) | (simp only [← hji10]; first | rfl | (simp [errW_none, errW_some] <;> rfl)) | (simp [*, errW_none, errW_some] <;> rfl), nl_, bl_ HB⟩
         ·rw [if_neg c13] at H
          exact absurd H (by simp)
        ·rw [if_neg c12] at H
         exact absurd H (by simp)
       ·rw [if_neg c11] at H
        exact absurd H (by simp)
      ·rw [if_neg c8] at H
       exact absurd H (by simp)
     ·rw [if_neg c7] at H
      exact absurd H (by simp)
    ·rw [if_neg c6] at H
     exact absurd H (by simp)
 ·rw [if_neg c3] at H
  have c3b0 : (t159 == 0) = false := beq_eq_false_iff_ne.mpr c3
  have c3b1 : (t159 != 0) = true := bne_iff_ne.mpr c3
  simp only [Option.some.injEq, Prod.mk.injEq] at H
  obtain ⟨rfl, rfl, rfl⟩ := H
  go_enter Try.func38, Try.ntmps38
  go_wp2_with (first | ((with_reducible refine gate_callee (f := 25) rfl ?_); refine goesL_ (some 12) rfl rfl Try.func25 (by kernel_rfl) rfl #[.slice A0 l0.length c0] rfl ar_ ?_; (with_reducible refine (num_Get.calls _ _ l0 t157 t158 t159 _ ?side1 ?side2 A2.out).mono ?_); (case side1 => exact cl_ HR0.out); (case side2 => exact HC0.out); rintro e w' ⟨rfl, ⟨nd, rfl⟩⟩; refine ⟨_, rfl, ?_⟩))
  go_ret3
  exact ⟨_, er_, nl_, bl_ HB⟩
def frame_Scan.l0 : Nat → List Int → List (List Int) → Int → Option ((List (List Int)) × Int)
 | 0, _, _, _ => none
 | k + 1, x0, x4, x5 => if 0 ≤ x5 then (if x5 ≤ (x0.length : Int) then ((frame_Get.f k (x0.drop (x5 : Int).toNat)).bind fun bt170 => (if bt170.2.2 = 0 then (if x4.length < 5864062014805 then (frame_Scan.l0 k x0 (x4 ++ [bt170.1]) (wrap64 (x5 + bt170.2.1))) else (none)) else (some (x4, x5)))) else (none)) else (none)
def frame_Scan.f (k : Nat) (l0 : List Int) : Option ((List (List Int)) × Int) := frame_Scan.l0 k l0 ([] : List (List Int)) 0
theorem frame_Scan.mono_l : ∀ k, (∀ y0 y1 y2, LeO (frame_Scan.l0 k y0 y1 y2) (frame_Scan.l0 (k + 1) y0 y1 y2))
 | 0 => fun _ _ _ r h => by simp [frame_Scan.l0] at h
 | k + 1 => by
  have ih0 := frame_Scan.mono_l k
  ·intro y0 y1 y2
   unfold frame_Scan.l0
   repeat' first
   | (with_reducible exact ih0 _ _ _)
   | (with_reducible exact frame_Get.mono _ _)
   | (with_reducible exact LeO.refl _)
   | (with_reducible exact LeO.none _)
   | (with_reducible refine LeO.ite ?_ ?_)
   | (with_reducible refine LeO.bind ?_ (fun _ => ?_))
   | exact ih0 _ _ _
   | exact frame_Get.mono _ _
   | exact LeO.none _
   | refine LeO.ite ?_ ?_
   | refine LeO.bind ?_ (fun _ => ?_)
theorem frame_Scan.mono : ∀ a0 k, LeO (frame_Scan.f k a0) (frame_Scan.f (k + 1) a0) := by
 intro a0 k
 have ih0 := frame_Scan.mono_l k
 unfold frame_Scan.f
 repeat' first
   | (with_reducible exact ih0 _ _ _)
   | (with_reducible exact frame_Get.mono _ _)
   | (with_reducible exact LeO.refl _)
   | (with_reducible exact LeO.none _)
   | (with_reducible refine LeO.ite ?_ ?_)
   | (with_reducible refine LeO.bind ?_ (fun _ => ?_))
   | exact ih0 _ _ _
   | exact frame_Get.mono _ _
   | exact LeO.none _
   | refine LeO.ite ?_ ?_
   | refine LeO.bind ?_ (fun _ => ?_)
theorem frame_Scan.calls (k : Nat) (A0 : Option Addr) (c0 : Nat) (l0 : List Int) (r1 : List (List Int)) (r2 : Int) (w : World) (hr0 : Kd.C (Kd.int .u8) w A0 l0.length l0) (hc0 : l0.length ≤ c0) (h : frame_Scan.f k l0 = some (r1, r2)) :
  Calls Try.prog 24 #[.slice A0 l0.length c0] w fun e w' => ∃ v0_ : Value, e = .returned (.tuple #[v0_, .int .i64 r2]) ∧ Kd.S (Kd.slice 5 (Kd.int .u8)) 22 w' w.heap.size (fun _ => True) v0_ r1 ∧ Below w.heap.size w w' := by
 have HR0 := Az.mk hr0
 have HC0 := Az.mk hc0
 clear hr0 hc0
 have HB := Az.mk (Below.refl w.heap.size w)
 have H : (frame_Scan.l0 k l0 ([] : List (List Int)) 0) = some (r1, r2) := h
 clear h
 have H' := Az.mk H
 clear H
 go_enter Try.func24, Try.ntmps24
 go_wp2
 go_loopg [4, 5] k (fun kq v4 v5 w' => ∃ (x4_1 : List (List Int)) (x5_1 : Int), v5 = .int .i64 x5_1 ∧ Az (frame_Scan.l0 kq l0 x4_1 x5_1 = some (r1, r2)) ∧ Az (kq ≤ k) ∧ Az (Kd.S (Kd.slice 5 (Kd.int .u8)) 22 w' w.heap.size (fun _ => True) v4 x4_1) ∧ Az (Below w.heap.size w w'))
 case atStart => exact ⟨(([] : List (List Int))), (0), (es_), H', ⟨Nat.le_refl _⟩, ⟨by first | exact Kd.S_nil _ _ _ _ _ | exact Kd.N_nil _ _ _ _ _ | exact Kd.V_nil _ _ _ _ _ | exact Kd.Q_nil _ _ _ _ _ | exact Kd.R_nil _ _ _ _ _⟩, ⟨bl_ HB⟩⟩
 case round =>
  clear H'
  obtain ⟨x4_1, x5_1, rfl, HA, HK1, HO_4, HB⟩ := hrel
  cases gk with
  | zero => exact absurd HA.out (by simp [frame_Scan.l0])
  | succ k1 =>
   have H := HA.out
   clear HA
   simp only [frame_Scan.l0] at H
   by_cases c2 : 0 ≤ x5_1
   ·rw [if_pos c2] at H
    have c2b0 := eq_true c2
    have c2b1 := decide_eq_true c2
    clear c2
    by_cases c3 : x5_1 ≤ (l0.length : Int)
    ·rw [if_pos c3] at H
     have c3b0 := eq_true c3
     have c3b1 := decide_eq_true c3
     clear c3
     replace H := Option.bind_eq_some_iff.mp H
     obtain ⟨⟨t170, t171, t172⟩, A40, H⟩ := H
     replace H : (if t172 = 0 then (if x4_1.length < 5864062014805 then (frame_Scan.l0 k1 l0 (x4_1 ++ [t170]) (wrap64 (x5_1 + t171))) else (none)) else (some (x4_1, x5_1))) = some (r1, r2) := H
     have A4 := Az.mk A40
     clear A40
     by_cases c5 : t172 = 0
     ·rw [if_pos c5] at H
      have c5b0 : (t172 == 0) = true := beq_iff_eq.mpr c5
      have c5b1 : (t172 != 0) = false := bne_eq_false_iff_eq.mpr c5
      clear c5
      by_cases c6 : x4_1.length < 5864062014805
      ·rw [if_pos c6] at H
       have LMc6 := Az.mk c6
       clear c6
       obtain ⟨y175, hy175⟩ : ∃ y_ : List (List Int), y_ = (x4_1 ++ [t170]) := ⟨_, rfl⟩
       replace H : (frame_Scan.l0 k1 l0 y175 (wrap64 (x5_1 + t171))) = some (r1, r2) := hr_ hy175 H
       have Ny175 := Az.mk hy175
       clear hy175
       have H' := Az.mk H
       clear H
       obtain ⟨i07, hi07, _, hsz7, _⟩ := info_parts info5
       obtain ⟨A7, hcut7, hA7, hC7⟩ := print_drop_of (P := Try.prog) (Value.int .u8) 0 22 5 .i64 Try.underlying22 hi07 hsz7 A0 c0 l0 x5_1 (of_decide_eq_true as_) (of_decide_eq_true as_) HC0.out
       have HR169 := Az.mk (Kd.C_of_reads (h1 := fun _ => rfl) (hA7 _ (Kd.reads_of_C HR0.out)))
       have HC169 := Az.mk hC7
       clear hA7 hC7 hi07 hsz7
       go_wp2_with (first | ((with_reducible refine gate_callee (f := 38) rfl ?_); refine goesL_ (some 13) rfl rfl Try.func38 (by kernel_rfl) rfl #[.slice A7 (l0.drop (x5_1 : Int).toNat).length (c0 - x5_1.toNat)] rfl (by (try simp only [List.map_toArray, List.map_cons, List.map_nil]); first | done | (rw [show (l0.drop (x5_1 : Int).toNat).length = (l0.length - x5_1.toNat) from List.length_drop] <;> rfl) | rfl | (simp only [List.length_drop, List.length_take]; rfl)) ?_; (with_reducible refine (frame_Get.calls k1 _ _ (l0.drop (x5_1 : Int).toNat) t170 t171 t172 _ ?side1 ?side2 A4.out).mono ?_); (case side1 => exact cl_ (Kd.C_below HR169.out HB.out)); (case side2 => exact HC169.out); rintro e w8 ⟨v173, rfl, ho0, hb⟩; refine ⟨_, rfl, ?_⟩; have n0_ := Az.mk (Kd.S_elder' (sl_ HO_4.out) (Kd.R_base ho0) hb); have n1_ := Az.mk (Kd.R_lower ho0 (below_size (bl_ HB))); have n2_ := Az.mk (below_step (bl_ HB) hb); clear HO_4; clear HB; have HO_4 := n0_; have HO174 := n1_; have HB := n2_; clear n0_ n1_ n2_; (try clear hb); (try clear hb2); (try clear hk); (try clear hi); (try clear ho0); obtain ⟨Ao10, co10, eo10⟩ := Kd.R_slice HO174.out; subst eo10) | ((with_reducible refine gate_builtin (b := .append) (xs := #[.tmp 21, .tmp 23]) rfl ?_); at_builtin; refine Kd.S_append (Kd.slice 5 (Kd.int .u8)) (w0 := w) w.heap.size rfl (.tmp 21) (.tmp 23) 58 22 (.slice none 0 0) 24 rfl Try.underlying58 info22 rfl (by decide) (by omega) u4 x4_1 t170 [.slice Ao10 t170.length co10] (fun _ => True) (fun k_ => some k_ = (.slice Ao10 t170.length co10 : Value).ownBlock) rfl rfl ?aP (fun k_ hk_ => ((Kd.R_mono (ok' := fun k_ => ((fun _ => True)) k_ ∧ some k_ ≠ (u4 : Value).ownBlock) (Kd.R_apart' (HO174.out) (Kd.S_typed HO_4.out) (by decide)) (fun k_ hk => ⟨trivial, hk.2⟩))).1 k_ hk_.symm) ?aF ?aO ?aB ?aS ?aL ?_; (case aP => exact Kd.M_row (Kd.R_mono (Kd.R_tight rfl (Kd.R_mono (ok' := fun k_ => ((fun _ => True)) k_ ∧ some k_ ≠ (u4 : Value).ownBlock) (Kd.R_apart' (HO174.out) (Kd.S_typed HO_4.out) (by decide)) (fun k_ hk => ⟨trivial, hk.2⟩))) (fun _ h_ => h_))); (case aB => exact (bl_ HB)); (case aF => exact (fun _ _ => trivial)); (case aO => exact (by (with_reducible repeat (first | apply Kd.S_alloc | apply Kd.S_drewN | apply Kd.S_drew)); exact Kd.S_mono HO_4.out (fun k_ hk => ⟨trivial, fun e_ => hk.2 e_⟩))); (case aS => exact (below_size (bl_ HB))); (case aL => have := LMc6.out; omega); intro v176 w9 ho hb hg hat; rw [← Ny175.out] at ho; have n0_ := Az.mk (hb); have n1_ := Az.mk (ho); clear HB; clear HO_4; clear HO174; have HB := n0_; have HO177 := n1_; clear n0_ n1_; clear ho hb hg hat))
       go_roundg k1
       case measure => have := HK1.out; omega
       case rel => exact ⟨(y175), (wrap64 (x5_1 + t171)), (es_), H', ⟨by have := HK1.out; omega⟩, ⟨sl_ HO177.out⟩, ⟨bl_ HB⟩⟩
      ·rw [if_neg c6] at H
       exact absurd H (by simp)
     ·rw [if_neg c5] at H
      have c5b0 : (t172 == 0) = false := beq_eq_false_iff_ne.mpr c5
      have c5b1 : (t172 != 0) = true := bne_iff_ne.mpr c5
      simp only [Option.some.injEq, Prod.mk.injEq] at H
      obtain ⟨rfl, rfl⟩ := H
      obtain ⟨i011, hi011, _, hsz11, _⟩ := info_parts info5
      obtain ⟨A11, hcut11, hA11, hC11⟩ := print_drop_of (P := Try.prog) (Value.int .u8) 0 22 5 .i64 Try.underlying22 hi011 hsz11 A0 c0 l0 x5_1 (of_decide_eq_true as_) (of_decide_eq_true as_) HC0.out
      have HR169 := Az.mk (Kd.C_of_reads (h1 := fun _ => rfl) (hA11 _ (Kd.reads_of_C HR0.out)))
      have HC169 := Az.mk hC11
      clear hA11 hC11 hi011 hsz11
      go_wp2_with (first | ((with_reducible refine gate_callee (f := 38) rfl ?_); refine goesL_ (some 13) rfl rfl Try.func38 (by kernel_rfl) rfl #[.slice A11 (l0.drop (x5_1 : Int).toNat).length (c0 - x5_1.toNat)] rfl (by (try simp only [List.map_toArray, List.map_cons, List.map_nil]); first | done | (rw [show (l0.drop (x5_1 : Int).toNat).length = (l0.length - x5_1.toNat) from List.length_drop] <;> rfl) | rfl | (simp only [List.length_drop, List.length_take]; rfl)) ?_; (with_reducible refine (frame_Get.calls k1 _ _ (l0.drop (x5_1 : Int).toNat) t170 t171 t172 _ ?side1 ?side2 A4.out).mono ?_); (case side1 => exact cl_ (Kd.C_below HR169.out HB.out)); (case side2 => exact HC169.out); rintro e w12 ⟨v173, rfl, ho0, hb⟩; refine ⟨_, rfl, ?_⟩; have n0_ := Az.mk (Kd.S_elder' (sl_ HO_4.out) (Kd.R_base ho0) hb); have n1_ := Az.mk (Kd.R_lower ho0 (below_size (bl_ HB))); have n2_ := Az.mk (below_step (bl_ HB) hb); clear HO_4; clear HB; have HO_4 := n0_; have HO174 := n1_; have HB := n2_; clear n0_ n1_ n2_; (try clear hb); (try clear hb2); (try clear hk); (try clear hi); (try clear ho0)))
      go_ret2
      exact ⟨_, er_, by (with_reducible repeat (first | apply Kd.S_alloc | apply Kd.S_drewN | apply Kd.S_drew)); exact Kd.S_mono HO_4.out (fun _ hk => trivial), bl_ HB⟩
    ·rw [if_neg c3] at H
     exact absurd H (by simp)
   ·rw [if_neg c2] at H
    exact absurd H (by simp)
end Go.Proofs.Ytnabhfegbnfabaa.PRd
end
section
namespace Go.Proofs.Ytnabhfegbnfabaa.PRd
open Go.RowKit Go.Proofs.YtnabhfegbnfabaaW.PrintWords Go.Proofs.YtnabhfegbnfabaaW.PrintLast Go.Proofs.YtnabhfegbnfabaaW.PrintMore
attribute [local go_sem] max2_int min2_int max_two min_two max_three min_three max_four min_four
attribute [local go_sem] Go.Proofs.Ytnabhfegbnfabaa.MoreWords.str_leq Go.Proofs.Ytnabhfegbnfabaa.MoreWords.str_gtr Go.Proofs.Ytnabhfegbnfabaa.MoreWords.str_geq
set_option maxHeartbeats 8000000
set_option maxRecDepth 100000
set_option linter.unusedVariables false
set_option linter.unusedSimpArgs false
def ButTwo (w w' : World) (g1 g2 : Nat) : Prop := w'.os = w.os ∧ w'.tape = w.tape ∧ w'.output = w.output ∧ w.heap.size ≤ w'.heap.size ∧ ∀ k, k ≠ g1 → k ≠ g2 → k < w.heap.size → w'.heap[k]? = w.heap[k]?
theorem ButTwo.below {w0 w w' : World} {g1 g2 : Nat} (h : ButTwo w w' g1 g2) (hb : Below w0.heap.size w0 w) (h1 : w0.heap.size ≤ g1) (h2 : w0.heap.size ≤ g2) : Below w0.heap.size w0 w' :=
 ⟨h.1.trans hb.os, h.2.1.trans hb.tape, h.2.2.1.trans hb.output, Nat.le_trans hb.size h.2.2.2.1, fun k hk => (h.2.2.2.2 k (by omega) (by omega) (Nat.lt_of_lt_of_le hk hb.size)).trans (hb.block k hk)⟩
theorem ButTwo.blk {w w' : World} {g1 g2 g : Nat} {o : Obj} (h : ButTwo w w' g1 g2) (h1 : g ≠ g1) (h2 : g ≠ g2) (hb : w.heap[g]? = some o) : w'.heap[g]? = some o := (h.2.2.2.2 g h1 h2 (blk_lt hb)).trans hb
theorem run_entry1.calls (gl go : Nat) (hne : gl ≠ go) (A0 : Option Addr) (c0 : Nat) (l0 : List Int) (ok : Bool) (r1 r2 r3 : Int) (w : World) (hl : w.heap[gl]? = some (.cells #[.slice A0 l0.length c0] 22 (0, 0))) (ho : w.heap[go]? = some (.cells #[.bool ok] 4 (0, 0)))
  (hr0 : Kd.C (Kd.int .u8) w A0 l0.length l0) (hc0 : l0.length ≤ c0) (h : num_Get.f l0 = some (r1, r2, r3)) (h2 : 0 ≤ r2) (h2l : r2 ≤ l0.length) :
  Calls Try.prog 48 #[.pointer (some ⟨gl, 0, none⟩), .pointer (some ⟨go, 0, none⟩)] w fun e w' => e = .returned (.int .u64 r1) ∧ ButTwo w w' gl go ∧
   ∃ A' c', w'.heap[gl]? = some (.cells #[.slice A' (l0.drop r2.toNat).length c'] 22 (0, 0)) ∧ w'.heap[go]? = some (.cells #[.bool (ok && (r3 == 0))] 4 (0, 0)) ∧
    (l0.drop r2.toNat).length ≤ c' ∧ ∀ W, Kd.C (Kd.int .u8) W A0 l0.length l0 → Kd.C (Kd.int .u8) W A' (l0.drop r2.toNat).length (l0.drop r2.toNat) := by
 have HR0 := Az.mk hr0
 have HC0 := Az.mk hc0
 have A1 := Az.mk h
 have BL := Az.mk hl
 have BO := Az.mk ho
 have NE := Az.mk hne
 have hcl := blk_cell hl 0
 have hfl := blk_frozen hl 0
 have hco := blk_cell ho 0
 have hfo := blk_frozen ho 0
 have hcl' : w.cell? ⟨gl, 0, none⟩ = some (.slice A0 l0.length c0) := hcl.trans rfl
 have hco' : w.cell? ⟨go, 0, none⟩ = some (.bool ok) := hco.trans rfl
 clear hl ho hcl hco hr0 hc0 h
 obtain ⟨i0, hi0, _, hsz, _⟩ := info_parts info5
 obtain ⟨A', hcut, hA, hC⟩ := print_drop_of (P := Try.prog) (Value.int .u8) 0 22 5 .i64 Try.underlying22 hi0 hsz A0 c0 l0 r2 h2 h2l HC0.out
 have HA := Az.mk hA
 have HC := Az.mk hC
 have H2 := Az.mk h2
 have H2l := Az.mk h2l
 clear hA hC hi0 hsz h2 h2l hne
 go_enter Try.func48, Try.ntmps48
 have go_on : ∀ nd : Nat, ∀ b : Bool, b = (ok && (r3 == 0)) → ButTwo w (((w.drewN nd).setCell ⟨go, 0, none⟩ (.bool b)).setCell ⟨gl, 0, none⟩ (.slice A' (l0.length - r2.toNat) (c0 - r2.toNat))) gl go ∧
   ∃ A2 c2, (((w.drewN nd).setCell ⟨go, 0, none⟩ (.bool b)).setCell ⟨gl, 0, none⟩ (.slice A' (l0.length - r2.toNat) (c0 - r2.toNat))).heap[gl]? = some (.cells #[.slice A2 (l0.drop r2.toNat).length c2] 22 (0, 0)) ∧ (((w.drewN nd).setCell ⟨go, 0, none⟩ (.bool b)).setCell ⟨gl, 0, none⟩ (.slice A' (l0.length - r2.toNat) (c0 - r2.toNat))).heap[go]? = some (.cells #[.bool (ok && (r3 == 0))] 4 (0, 0)) ∧
    (l0.drop r2.toNat).length ≤ c2 ∧ ∀ W, Kd.C (Kd.int .u8) W A0 l0.length l0 → Kd.C (Kd.int .u8) W A2 (l0.drop r2.toNat).length (l0.drop r2.toNat) := by
  have el : l0.length - r2.toNat = (l0.drop r2.toNat).length := List.length_drop.symm
  intro nd b hb
  subst hb
  rw [el]
  refine ⟨⟨rfl, rfl, rfl, ?_, fun k h1 h2 hk => ?_⟩, A', c0 - r2.toNat, ?_, ?_, HC.out, fun W h => Kd.C_of_reads (h1 := fun _ => rfl) (HA.out W (Kd.reads_of_C h))⟩
  ·simp [World.size_setCell]
  ·exact (Below.heap_setCell _ ⟨gl, 0, none⟩ _ k (by simpa using h1)).trans ((Below.heap_setCell _ ⟨go, 0, none⟩ _ k (by simpa using h2)).trans rfl)
  ·exact blk_set (blk_far (blk_drewN BL.out nd) (p := ⟨go, 0, none⟩) NE.out _) 0 _
  ·exact blk_far (blk_set (blk_drewN BO.out nd) 0 _) (p := ⟨gl, 0, none⟩) (Ne.symm NE.out) _
 have GO := Az.mk go_on
 clear go_on
 by_cases hk : ok = true
 ·subst hk
  go_wp2_with (first | (go_at_call 25; refine (num_Get.calls A0 c0 l0 r1 r2 r3 _ HR0.out HC0.out A1.out).mono ?_; rintro e w' ⟨rfl, ⟨nd, rfl⟩⟩; have hx1 : ((w.drewN nd).setCell ⟨go, 0, none⟩ (.bool (r3 == 0))).cell? ⟨gl, 0, none⟩ = some (.slice A0 l0.length c0) := blk_cell (blk_far (blk_drewN BL.out nd) (p := ⟨go, 0, none⟩) NE.out _) 0; have hx2 : ((w.drewN nd).setCell ⟨go, 0, none⟩ (.bool (r3 == 0))).frozen? ⟨gl, 0, none⟩ = false := blk_frozen (blk_far (blk_drewN BL.out nd) (p := ⟨go, 0, none⟩) NE.out _) 0))
  go_ret
  exact ⟨rfl, GO.out nd (r3 == 0) (by simp)⟩
 ·have hk : ok = false := by simpa using hk
  subst hk
  go_wp2_with (first | (go_at_call 25; refine (num_Get.calls A0 c0 l0 r1 r2 r3 _ HR0.out HC0.out A1.out).mono ?_; rintro e w' ⟨rfl, ⟨nd, rfl⟩⟩; have hx1 : ((w.drewN nd).setCell ⟨go, 0, none⟩ (.bool false)).cell? ⟨gl, 0, none⟩ = some (.slice A0 l0.length c0) := blk_cell (blk_far (blk_drewN BL.out nd) (p := ⟨go, 0, none⟩) NE.out _) 0; have hx2 : ((w.drewN nd).setCell ⟨go, 0, none⟩ (.bool false)).frozen? ⟨gl, 0, none⟩ = false := blk_frozen (blk_far (blk_drewN BL.out nd) (p := ⟨go, 0, none⟩) NE.out _) 0))
  go_ret
  exact ⟨rfl, GO.out nd false (by simp)⟩
theorem num_Get.bounds (l : List Int) (r1 r2 r3 : Int) (h : num_Get.f l = some (r1, r2, r3)) : 0 ≤ r2 ∧ r2 ≤ l.length := by
 have hs : ∀ k s j, num_Get.scan l k s = some j → s ≤ l.length → j ≤ s + k ∧ (j < l.length ∨ j = s + k) := by
  intro k
  induction k with
  | zero => intro s j h hl; simp [num_Get.scan] at h; subst h; exact ⟨by omega, .inr rfl⟩
  | succ k ih =>
   intro s j h hl
   unfold num_Get.scan at h
   split at h
   ·simp at h
   ·split at h
    ·simp at h; subst h; exact ⟨by omega, .inl (by omega)⟩
    ·have := ih (s + 1) j h (by omega)
     omega
 unfold num_Get.f at h
 split at h
 ·have h := Option.some.inj h
  unfold num_Get.ans at h
  split at h
  ·simp at h; omega
  ·rename_i s hsc
   split at h
   ·simp at h; omega
   ·rename_i hn
    have := hs 10 0 s hsc (by omega)
    simp only [Prod.mk.injEq] at h
    omega
 ·simp at h
def run_entry.f (a0 : ByteArray) (l1 : List Int) : Option (ByteArray × Int × List Int × Bool) :=
 (num_Get.f l1).bind fun g1 => (num_Get.f (l1.drop g1.2.1.toNat)).bind fun g2 =>
  if (g1.2.2 == 0 && g2.2.2 == 0) = false then some (⟨#[]⟩, 0, [], false)
  else if g1.1 > IntKind.u64.wrap (a0.size : Int) then some (⟨#[]⟩, 0, [], false)
  else if g2.1 > IntKind.u64.wrap (((l1.drop g1.2.1.toNat).drop g2.2.1.toNat).length : Int) then some (⟨#[]⟩, 0, [], false)
  else if 0 ≤ g1.1 ∧ g1.1 ≤ a0.size ∧ 0 ≤ g2.1 ∧ g2.1 ≤ ((l1.drop g1.2.1.toNat).drop g2.2.1.toNat).length ∧ (a0.extract 0 g1.1.toNat).size + (strOfNums (((l1.drop g1.2.1.toNat).drop g2.2.1.toNat).take g2.1.toNat)).size ≤ 9223372036854775807 then
   (num_Get.f (((l1.drop g1.2.1.toNat).drop g2.2.1.toNat).drop g2.1.toNat)).bind fun g3 =>
    some (a0.extract 0 g1.1.toNat ++ strOfNums (((l1.drop g1.2.1.toNat).drop g2.2.1.toNat).take g2.1.toNat), g3.1, (((l1.drop g1.2.1.toNat).drop g2.2.1.toNat).drop g2.1.toNat).drop g3.2.1.toNat, g3.2.2 == 0)
  else none
theorem run_entry.calls (a0 : ByteArray) (A1 : Option Addr) (c1 : Nat) (l1 : List Int) (r1 : ByteArray) (r2 : Int) (r3 : List Int) (r4 : Bool) (w : World) (hr1 : Kd.C (Kd.int .u8) w A1 l1.length l1) (hc1 : l1.length ≤ c1) (h : run_entry.f a0 l1 = some (r1, r2, r3, r4)) :
  Calls Try.prog 39 #[.string a0, .slice A1 l1.length c1] w fun e w' => ∃ (A' : Option Addr) (c' : Nat), e = .returned (.tuple #[.agg #[.string r1, .int .u64 r2], .slice A' r3.length c', .bool r4]) ∧ r3.length ≤ c' ∧ (∀ W, Kd.C (Kd.int .u8) W A1 l1.length l1 → Kd.C (Kd.int .u8) W A' r3.length r3) ∧ Below w.heap.size w w' := by
 have HR1 := Az.mk hr1
 have HC1 := Az.mk hc1
 clear hr1 hc1
 unfold run_entry.f at h
 replace h := Option.bind_eq_some_iff.mp h
 obtain ⟨⟨n1, n2, n3⟩, G1, h⟩ := h
 replace h := Option.bind_eq_some_iff.mp h
 obtain ⟨⟨m1, m2, m3⟩, G2, h⟩ := h
 dsimp only at G2 h
 have b1 := num_Get.bounds _ _ _ _ G1
 have b2 := num_Get.bounds _ _ _ _ G2
 have G1' := Az.mk G1
 have G2' := Az.mk G2
 have B1 := Az.mk b1
 have B2 := Az.mk b2
 have H := Az.mk h
 clear G1 G2 b1 b2 h
 have HB := Az.mk (Below.refl w.heap.size w)
 go_enter Try.func39, Try.ntmps39
 go_upto_region 3 with (fail)
 have bl4 := blk_alloc (blk_alloc (blk_new w (.cells #[.string ⟨#[]⟩, .int .u64 0] 36 (0, 0))) (.cells #[.slice A1 l1.length c1] 22 (0, 0))) (.cells #[.bool true] 4 (0, 0))
 have bll := blk_alloc (blk_new (w.alloc (.cells #[.string ⟨#[]⟩, .int .u64 0] 36 (0, 0))) (.cells #[.slice A1 l1.length c1] 22 (0, 0))) (.cells #[.bool true] 4 (0, 0))
 have blo := blk_new ((w.alloc (.cells #[.string ⟨#[]⟩, .int .u64 0] 36 (0, 0))).alloc (.cells #[.slice A1 l1.length c1] 22 (0, 0))) (.cells #[.bool true] 4 (0, 0))
 rw [World.size_alloc] at bll blo
 rw [World.size_alloc] at blo
 have hb1 : Below w.heap.size w (((w.alloc (.cells #[.string ⟨#[]⟩, .int .u64 0] 36 (0, 0))).alloc (.cells #[.slice A1 l1.length c1] 22 (0, 0))).alloc (.cells #[.bool true] 4 (0, 0))) := below_alloc (below_alloc (below_alloc (Below.refl _ _) _) _) _
 obtain ⟨W1, hW1⟩ : ∃ W1, W1 = (((w.alloc (.cells #[.string ⟨#[]⟩, .int .u64 0] 36 (0, 0))).alloc (.cells #[.slice A1 l1.length c1] 22 (0, 0))).alloc (.cells #[.bool true] 4 (0, 0))) := ⟨_, rfl⟩
 rw [← hW1] at bl4 bll blo hb1 ⊢
 clear hW1
 have BL4 := Az.mk bl4
 have BLL := Az.mk bll
 have BLO := Az.mk blo
 have HB := Az.mk hb1
 clear bl4 bll blo hb1
 go_upto_region 4 with (first | (go_at_call 48; (with_reducible refine (run_entry1.calls (w.heap.size + 1) (w.heap.size + 1 + 1) (by omega) A1 c1 l1 true n1 n2 n3 W1 BLL.out BLO.out (Kd.C_below HR1.out HB.out) HC1.out G1'.out B1.out.1 B1.out.2).mono ?_); rintro e W2 ⟨rfl, hbt2, A2, c2, hl2, ho2, hc2, hC2⟩; have BL4' := Az.mk (hbt2.blk (by omega) (by omega) BL4.out); have HB' := Az.mk (hbt2.below HB.out (by omega) (by omega)); have BLL' := Az.mk hl2; have BLO' := Az.mk ho2; have HC2 := Az.mk hc2; have HR2 := Az.mk hC2; clear hbt2 hl2 ho2 hc2 hC2 BL4 BLL BLO HB) | (go_at_call 48; (with_reducible refine (run_entry1.calls (w.heap.size + 1) (w.heap.size + 1 + 1) (by omega) A2 c2 (l1.drop n2.toNat) (true && (n3 == 0)) m1 m2 m3 W2 BLL'.out BLO'.out (HR2.out _ (Kd.C_below HR1.out HB'.out)) HC2.out G2'.out B2.out.1 B2.out.2).mono ?_); rintro e W3 ⟨rfl, hbt3, A3, c3, hl3, ho3, hc3, hC3⟩; have BL4 := Az.mk (hbt3.blk (by omega) (by omega) BL4'.out); have HB := Az.mk (hbt3.below HB'.out (by omega) (by omega)); have BLL := Az.mk hl3; have BLO := Az.mk ho3; have HC3 := Az.mk hc3; have HR3 := Az.mk hC3; clear hbt3 hl3 ho3 hc3 hC3 BL4' BLL' BLO' HB'))
 have h := H.out
 clear H
 have hl3 := BLL.out
 have hc3 := HC3.out
 have hr3 := HR3.out
 clear BLL HC3 HR3
 generalize (l1.drop n2.toNat).drop m2.toNat = l3 at h hl3 hc3 hr3
 have BLL := Az.mk hl3
 have HC3 := Az.mk hc3
 have HR3 := Az.mk hr3
 clear hl3 hc3 hr3
 have hoo := blk_cell BLO.out 0
 have hol := blk_cell BLL.out 0
 have hfo := blk_frozen BLO.out 0
 have hfl := blk_frozen BLL.out 0
 have hf40 := blk_frozen BL4.out 0
 have hf41 := blk_frozen BL4.out 1
 have hc40 : W3.cell? ⟨w.heap.size, 0, none⟩ = some (.string ⟨#[]⟩) := blk_cell BL4.out 0
 have hc41 : W3.cell? ⟨w.heap.size, 1, none⟩ = some (.int .u64 0) := blk_cell BL4.out 1
 have hcl : W3.cell? ⟨w.heap.size + 1, 0, none⟩ = some (.slice A3 l3.length c3) := hol
 obtain ⟨b, hb⟩ : ∃ b, b = (n3 == 0 && m3 == 0) := ⟨_, rfl⟩
 have hco : W3.cell? ⟨w.heap.size + 1 + 1, 0, none⟩ = some (.bool b) := by rw [hb]; simpa using hoo
 rw [← hb] at h
 clear hoo hol
 cases b with
 | false =>
  rw [if_pos rfl] at h
  simp only [Option.some.injEq, Prod.mk.injEq] at h
  obtain ⟨rfl, rfl, rfl, rfl⟩ := h
  clear hb hcl hfl
  go_wp2
  refine bodyPost_ret (results_ctt rfl _ _ w.heap.size 36 #[.string (⟨#[]⟩ : ByteArray), .int .u64 0] (0, 0) _ rfl (by (with_reducible repeat (first | refine blk_drewN ?_ _ | refine blk_drew ?_ | refine blk_alloc ?_ _)); refine blk_put (cs := #[.string (⟨#[]⟩ : ByteArray), .int .u64 0]) ?_ 1 _ rfl; (with_reducible repeat (first | refine blk_drewN ?_ _ | refine blk_drew ?_ | refine blk_alloc ?_ _)); refine blk_put (cs := #[.string (⟨#[]⟩ : ByteArray), .int .u64 0]) ?_ 0 _ rfl; (with_reducible repeat (first | refine blk_drewN ?_ _ | refine blk_drew ?_ | refine blk_alloc ?_ _)); exact BL4.out) Try.underlying36 rfl (by kernel_rfl)) rfl ?_
  exact ⟨none, 0, rfl, Nat.le_refl _, fun W _ => Kd.C_nil _ _, by repeat (first | (with_reducible first | exact HB.out | apply below_alloc | apply pw_below_drewN | apply below_drew1 | refine below_set ?_ (Nat.le_refl _)) | exact HB.out)⟩
 | true =>
  rw [if_neg (by simp)] at h
  have blo' := BLO.out
  rw [show (true && (n3 == 0) && (m3 == 0)) = true by simpa using hb.symm] at blo'
  clear BLO
  have BLO := Az.mk blo'
  clear blo'
  by_cases c5 : n1 > IntKind.u64.wrap (a0.size : Int)
  ·rw [if_pos c5] at h
   have c5b : decide (IntKind.u64.wrap (a0.size : Int) < n1) = true := decide_eq_true c5
   simp only [Option.some.injEq, Prod.mk.injEq] at h
   obtain ⟨rfl, rfl, rfl, rfl⟩ := h
   clear hb hcl hfl c5
   go_wp2
   refine bodyPost_ret (results_ctt rfl _ _ w.heap.size 36 #[.string (⟨#[]⟩ : ByteArray), .int .u64 0] (0, 0) _ rfl (by (with_reducible repeat (first | refine blk_drewN ?_ _ | refine blk_drew ?_ | refine blk_alloc ?_ _)); refine blk_put (cs := #[.string (⟨#[]⟩ : ByteArray), .int .u64 0]) ?_ 1 _ rfl; (with_reducible repeat (first | refine blk_drewN ?_ _ | refine blk_drew ?_ | refine blk_alloc ?_ _)); refine blk_put (cs := #[.string (⟨#[]⟩ : ByteArray), .int .u64 0]) ?_ 0 _ rfl; (with_reducible repeat (first | refine blk_drewN ?_ _ | refine blk_drew ?_ | refine blk_alloc ?_ _)); exact BL4.out) Try.underlying36 rfl (by kernel_rfl)) rfl ?_
   exact ⟨none, 0, rfl, Nat.le_refl _, fun W _ => Kd.C_nil _ _, by repeat (first | (with_reducible first | exact HB.out | apply below_alloc | apply pw_below_drewN | apply below_drew1 | refine below_set ?_ (Nat.le_refl _)) | exact HB.out)⟩
  rw [if_neg c5] at h
  have c5b : decide (IntKind.u64.wrap (a0.size : Int) < n1) = false := decide_eq_false c5
  clear c5
  by_cases c6 : m1 > IntKind.u64.wrap (l3.length : Int)
  ·rw [if_pos c6] at h
   have c6b : decide (IntKind.u64.wrap (l3.length : Int) < m1) = true := decide_eq_true c6
   simp only [Option.some.injEq, Prod.mk.injEq] at h
   obtain ⟨rfl, rfl, rfl, rfl⟩ := h
   clear hb c6
   go_wp2
   refine bodyPost_ret (results_ctt rfl _ _ w.heap.size 36 #[.string (⟨#[]⟩ : ByteArray), .int .u64 0] (0, 0) _ rfl (by (with_reducible repeat (first | refine blk_drewN ?_ _ | refine blk_drew ?_ | refine blk_alloc ?_ _)); refine blk_put (cs := #[.string (⟨#[]⟩ : ByteArray), .int .u64 0]) ?_ 1 _ rfl; (with_reducible repeat (first | refine blk_drewN ?_ _ | refine blk_drew ?_ | refine blk_alloc ?_ _)); refine blk_put (cs := #[.string (⟨#[]⟩ : ByteArray), .int .u64 0]) ?_ 0 _ rfl; (with_reducible repeat (first | refine blk_drewN ?_ _ | refine blk_drew ?_ | refine blk_alloc ?_ _)); exact BL4.out) Try.underlying36 rfl (by kernel_rfl)) rfl ?_
   exact ⟨none, 0, rfl, Nat.le_refl _, fun W _ => Kd.C_nil _ _, by repeat (first | (with_reducible first | exact HB.out | apply below_alloc | apply pw_below_drewN | apply below_drew1 | refine below_set ?_ (Nat.le_refl _)) | exact HB.out)⟩
  rw [if_neg c6] at h
  have c6b : decide (IntKind.u64.wrap (l3.length : Int) < m1) = false := decide_eq_false c6
  clear c6
  by_cases c7 : 0 ≤ n1 ∧ n1 ≤ a0.size ∧ 0 ≤ m1 ∧ m1 ≤ l3.length ∧ (a0.extract 0 n1.toNat).size + (strOfNums (l3.take m1.toNat)).size ≤ 9223372036854775807
  ·rw [if_pos c7] at h
   obtain ⟨d0, d1, d2, d3, d4⟩ := c7
   replace h := Option.bind_eq_some_iff.mp h
   obtain ⟨⟨p1, p2, p3⟩, G3, h⟩ := h
   dsimp only at G3 h
   have b3 := num_Get.bounds _ _ _ _ G3
   have B3 := Az.mk b3
   have G3' := Az.mk G3
   have H := Az.mk h
   clear G3 b3 h hb
   go_upto_region 6 with (fail)
   obtain ⟨i0, hi0, _, hsz, _⟩ := info_parts info5
   obtain ⟨hcut, hA, hC⟩ := print_take_of (P := Try.prog) (Value.int .u8) 0 22 5 .u64 Try.underlying22 hi0 hsz A3 c3 l3 m1 d2 d3 HC3.out
   obtain ⟨A4, hcut4, hA4, hC4⟩ := print_drop_of (P := Try.prog) (Value.int .u8) 0 22 5 .u64 Try.underlying22 hi0 hsz A3 c3 l3 m1 d2 d3 HC3.out
   have HR4 : Az (∀ W, Kd.C (Kd.int .u8) W A3 l3.length l3 → Kd.C (Kd.int .u8) W A4 (l3.drop m1.toNat).length (l3.drop m1.toNat)) := Az.mk (fun W => fun h : Kd.C (Kd.int .u8) W A3 l3.length l3 => Kd.C_of_reads (h1 := fun _ => rfl) (hA4 W (Kd.reads_of_C h)))
   have HC4 := Az.mk hC4
   have HRt : Az (Kd.C (Kd.int .u8) W3 A3 (l3.take m1.toNat).length (l3.take m1.toNat)) := Az.mk (Kd.C_of_reads (h1 := fun _ => rfl) (hA _ (Kd.reads_of_C (HR3.out _ (HR2.out _ (Kd.C_below HR1.out HB.out))))))
   clear hA hC hA4 hC4 hi0 hsz
   have el : (l3.take m1.toNat).length = m1.toNat := by rw [List.length_take]; omega
   have hcvA := Kd.C_string (P := Try.prog) (c := c3) Try.underlying22 Try.underlying5 Try.underlying9 (Kd.C_drew HRt.out)
   have hcvB := Kd.C_string (P := Try.prog) (c := c3) Try.underlying22 Try.underlying5 Try.underlying9 (Kd.C_drew (Kd.C_alloc HRt.out (.cells #[.string ⟨#[]⟩, .int .u64 0] 36 (0, 0))))
   rw [el] at hcvA hcvB
   have hclB : ((W3.alloc (.cells #[.string ⟨#[]⟩, .int .u64 0] 36 (0, 0))).drew).cell? ⟨w.heap.size + 1, 0, none⟩ = some (.slice A3 l3.length c3) := blk_cell (blk_drew (blk_alloc BLL.out _)) 0
   obtain ⟨X, hX⟩ : ∃ X, X = a0.extract 0 n1.toNat ++ strOfNums (l3.take m1.toNat) := ⟨_, rfl⟩
   have HX := Az.mk hX
   have bl12 := blk_drew (blk_new W3 (.cells #[.string X, .int .u64 0] 36 (0, 0)))
   have bll4 := blk_drew (blk_alloc BLL.out (.cells #[.string X, .int .u64 0] 36 (0, 0)))
   have blo4 := blk_drew (blk_alloc BLO.out (.cells #[.string X, .int .u64 0] 36 (0, 0)))
   have bl44 := blk_drew (blk_alloc BL4.out (.cells #[.string X, .int .u64 0] 36 (0, 0)))
   have hb4 := below_drew1 (below_alloc HB.out (.cells #[.string X, .int .u64 0] 36 (0, 0)))
   have hlt := Az.mk (blk_lt BLO.out)
   have BL12 := Az.mk bl12
   have BLL4 := Az.mk bll4
   have BLO4 := Az.mk blo4
   have BL44 := Az.mk bl44
   have HB4 := Az.mk hb4
   clear bl12 bll4 blo4 bl44 hb4 hX
   go_region
   all_goals
    rw [← HX.out]
    clear hcvA hcvB hclB hco hcl hc40 hc41 hfo hfl hf40 hf41 BL4 BLL BLO HB
    have BL12_ := BL12.out
    have BLL4_ := BLL4.out
    have BLO4_ := BLO4.out
    have BL44_ := BL44.out
    have HB4_ := HB4.out
    clear BL12 BLL4 BLO4 BL44 HB4
    generalize hW4 : (W3.alloc (.cells #[.string X, .int .u64 0] 36 (0, 0))).drew = W4 at BL12_ BLL4_ BLO4_ BL44_ HB4_ ⊢
    clear hW4
    have hc := blk_cell BLL4_ 0
    have hc' : W4.cell? ⟨w.heap.size + 1, 0, none⟩ = some (.slice A3 l3.length c3) := hc
    have hf := blk_frozen BLL4_ 0
    clear hc
    have BL12 := Az.mk BL12_
    have BLL4 := Az.mk BLL4_
    have BLO4 := Az.mk BLO4_
    have BL44 := Az.mk BL44_
    have HB4 := Az.mk HB4_
    clear BL12_ BLL4_ BLO4_ BL44_ HB4_
    go_upto_region 8 with (fail)
    have BL12_ := blk_far BL12.out (p := ⟨w.heap.size + 1, 0, none⟩) (by have := hlt.out; simp; omega) (.slice A4 (l3.length - m1.toNat) (c3 - m1.toNat))
    have BLL_ := blk_set BLL4.out 0 (.slice A4 (l3.length - m1.toNat) (c3 - m1.toNat))
    have BLO_ := blk_far BLO4.out (p := ⟨w.heap.size + 1, 0, none⟩) (by simp) (.slice A4 (l3.length - m1.toNat) (c3 - m1.toNat))
    have BL4_ := blk_far BL44.out (p := ⟨w.heap.size + 1, 0, none⟩) (by simp) (.slice A4 (l3.length - m1.toNat) (c3 - m1.toNat))
    have HB_ := below_set (j := 0) (v := .slice A4 (l3.length - m1.toNat) (c3 - m1.toNat)) HB4.out (show w.heap.size ≤ w.heap.size + 1 by omega)
    clear hc' hf BL12 BLL4 BLO4 BL44 HB4
    generalize hW5 : W4.setCell ⟨w.heap.size + 1, 0, none⟩ (.slice A4 (l3.length - m1.toNat) (c3 - m1.toNat)) = W5 at BL12_ BLL_ BLO_ BL4_ HB_ ⊢
    clear hW5
    rw [show l3.length - m1.toNat = (l3.drop m1.toNat).length from List.length_drop.symm] at BLL_
    replace BLL_ : W5.heap[w.heap.size + 1]? = some (.cells #[.slice A4 (l3.drop m1.toNat).length (c3 - m1.toNat)] 22 (0, 0)) := BLL_
    have BL12 := Az.mk BL12_
    have BLL := Az.mk BLL_
    have BLO := Az.mk BLO_
    have BL4 := Az.mk BL4_
    have HB := Az.mk HB_
    clear BL12_ BLL_ BLO_ BL4_ HB_
    go_upto_region 9 with (go_at_call 48; (with_reducible refine (run_entry1.calls (w.heap.size + 1) (w.heap.size + 1 + 1) (by omega) A4 (c3 - m1.toNat) (l3.drop m1.toNat) true p1 p2 p3 W5 BLL.out BLO.out (HR4.out _ (HR3.out _ (HR2.out _ (Kd.C_below HR1.out HB.out)))) HC4.out G3'.out B3.out.1 B3.out.2).mono ?_); rintro e W6 ⟨rfl, hbt6, A6, c6, hl6, ho6, hc6, hC6⟩; have BL4' := Az.mk (hbt6.blk (by omega) (by omega) BL4.out); have BL12' := Az.mk (hbt6.blk (by have := hlt.out; omega) (by have := hlt.out; omega) BL12.out); have HB' := Az.mk (hbt6.below HB.out (by omega) (by omega)); have BLL' := Az.mk hl6; have BLO' := Az.mk ho6; have HC6 := Az.mk hc6; have HR6 := Az.mk hC6; clear hbt6 hl6 ho6 hc6 hC6 BL4 BL12 BLL BLO HB; have hx0 : W6.cell? ⟨W3.heap.size, 0, none⟩ = some (.string X) := blk_cell BL12'.out 0; have hx1 : W6.cell? ⟨W3.heap.size, 1, none⟩ = some (.int .u64 0) := blk_cell BL12'.out 1; have hy0 := blk_frozen BL12'.out 0; have hy1 := blk_frozen BL12'.out 1)
    have BL12_ := blk_set BL12'.out 1 (.int .u64 p1)
    have BLL_ := blk_far BLL'.out (p := ⟨W3.heap.size, 1, none⟩) (by have := hlt.out; simp; omega) (.int .u64 p1)
    have BLO_ := blk_far BLO'.out (p := ⟨W3.heap.size, 1, none⟩) (by have := hlt.out; simp; omega) (.int .u64 p1)
    have BL4_ := blk_far BL4'.out (p := ⟨W3.heap.size, 1, none⟩) (by have := hlt.out; simp; omega) (.int .u64 p1)
    have HB_ := below_set (j := 1) (v := .int .u64 p1) HB'.out (show w.heap.size ≤ W3.heap.size by have := hlt.out; omega)
    clear hx0 hx1 hy0 hy1 BL12' BLL' BLO' BL4' HB'
    generalize hW7 : W6.setCell ⟨W3.heap.size, 1, none⟩ (.int .u64 p1) = W7 at BL12_ BLL_ BLO_ BL4_ HB_ ⊢
    clear hW7
    have hx0 : W7.cell? ⟨W3.heap.size, 0, none⟩ = some (.string X) := blk_cell BL12_ 0
    have hx1 : W7.cell? ⟨W3.heap.size, 1, none⟩ = some (.int .u64 p1) := blk_cell BL12_ 1
    have hxl : W7.cell? ⟨w.heap.size + 1, 0, none⟩ = some (.slice A6 ((l3.drop m1.toNat).drop p2.toNat).length c6) := blk_cell BLL_ 0
    have hxo : W7.cell? ⟨w.heap.size + 1 + 1, 0, none⟩ = some (.bool (p3 == 0)) := by have := blk_cell BLO_ 0; simpa using this
    have hz0 : W7.cell? ⟨w.heap.size, 0, none⟩ = some (.string ⟨#[]⟩) := blk_cell BL4_ 0
    have hz1 : W7.cell? ⟨w.heap.size, 1, none⟩ = some (.int .u64 0) := blk_cell BL4_ 1
    have hf0 := blk_frozen BL4_ 0
    have hf1 := blk_frozen BL4_ 1
    have BL4 := Az.mk BL4_
    have HB := Az.mk HB_
    clear BL12_ BLL_ BLO_ BL4_ HB_
    have h := H.out
    simp only [Option.some.injEq, Prod.mk.injEq] at h
    rw [← HX.out] at h
    have hr7 := fun W hW => HR6.out W (HR4.out W (HR3.out W (HR2.out W hW)))
    have hc6 := HC6.out
    clear HR6 HC6
    obtain ⟨l5, hl5⟩ : ∃ l5, l5 = (l3.drop m1.toNat).drop p2.toNat := ⟨_, rfl⟩
    rw [← hl5] at h hxl hr7 hc6
    clear hl5
    have HR7 := Az.mk hr7
    have HC6 := Az.mk hc6
    clear hr7 hc6
    obtain ⟨rfl, rfl, rfl, rfl⟩ := h
    clear H
    go_region
    all_goals
     go_wp2
     refine bodyPost_ret (results_ctt rfl _ _ w.heap.size 36 #[.string X, .int .u64 p1] (0, 0) _ rfl (by (with_reducible repeat (first | refine blk_drewN ?_ _ | refine blk_drew ?_ | refine blk_alloc ?_ _)); refine blk_put (cs := #[.string X, .int .u64 0]) ?_ 1 _ rfl; (with_reducible repeat (first | refine blk_drewN ?_ _ | refine blk_drew ?_ | refine blk_alloc ?_ _)); refine blk_put (cs := #[.string (⟨#[]⟩ : ByteArray), .int .u64 0]) ?_ 0 _ rfl; (with_reducible repeat (first | refine blk_drewN ?_ _ | refine blk_drew ?_ | refine blk_alloc ?_ _)); exact BL4.out) Try.underlying36 rfl (by kernel_rfl)) rfl ?_
     exact ⟨_, _, rfl, HC6.out, HR7.out, by repeat (first | (with_reducible first | exact HB.out | apply below_alloc | apply pw_below_drewN | apply below_drew1 | refine below_set ?_ (Nat.le_refl _)) | exact HB.out)⟩
  ·rw [if_neg c7] at h
   exact absurd h (by simp)
def run_unblock.go : Nat → ByteArray → List Int → List S36 → Option (List S36 × Bool)
 | 0, _, left, acc => some (acc, left.length == 0)
 | n + 1, was, left, acc => (run_entry.f was left).bind fun r => if r.2.2.2 = false then some ([], false) else if acc.length < 5864062014805 then run_unblock.go n r.1 r.2.2.1 (acc ++ [⟨r.1, r.2.1⟩]) else none
def run_unblock.f (l0 : List Int) : Option (List S36 × Bool) :=
 (num_Get.f l0).bind fun g => if g.2.2 ≠ 0 then some ([], false) else if g.1 > 255 then some ([], false) else if 0 ≤ g.1 then run_unblock.go g.1.toNat ⟨#[]⟩ (l0.drop g.2.1.toNat) [] else none
theorem run_unblock.calls (A0 : Option Addr) (c0 : Nat) (l0 : List Int) (r1 : List S36) (r2 : Bool) (w : World) (hr0 : Kd.C (Kd.int .u8) w A0 l0.length l0) (hc0 : l0.length ≤ c0) (h : run_unblock.f l0 = some (r1, r2)) :
  Calls Try.prog 26 #[.slice A0 l0.length c0] w fun e w' => ∃ v0_ : Value, e = .returned (.tuple #[v0_, .bool r2]) ∧ Kd.R k36 36 w' w.heap.size (fun _ => True) v0_ r1 ∧ Below w.heap.size w w' := by
 have HR0 := Az.mk hr0
 have HC0 := Az.mk hc0
 clear hr0 hc0
 unfold run_unblock.f at h
 replace h := Option.bind_eq_some_iff.mp h
 obtain ⟨⟨n1, n2, n3⟩, G1, h⟩ := h
 dsimp only at h
 have b1 := num_Get.bounds _ _ _ _ G1
 have G1' := Az.mk G1
 have B1 := Az.mk b1
 have H := Az.mk h
 clear G1 b1 h
 have HB := Az.mk (Below.refl w.heap.size w)
 go_enter Try.func26, Try.ntmps26
 go_upto_region 2 with (go_at_call 25; refine (num_Get.calls A0 c0 l0 n1 n2 n3 _ HR0.out HC0.out G1'.out).mono ?_; rintro e w' ⟨rfl, ⟨nd, rfl⟩⟩)
 have h := H.out
 clear H
 by_cases c3 : n3 = 0
 ·rw [if_neg (by simpa using c3)] at h
  have c3b : (n3 != 0) = false := by simpa using c3
  clear c3
  by_cases c4 : n1 > 255
  ·rw [if_pos c4] at h
   have c4b : decide (255 < n1) = true := decide_eq_true c4
   clear c4
   simp only [Option.some.injEq, Prod.mk.injEq] at h
   obtain ⟨rfl, rfl⟩ := h
   go_wp2
   go_ret2
   exact ⟨_, rfl, Kd.R_nil _ _ _ _ _, pw_below_drewN HB.out _⟩
  ·rw [if_neg c4] at h
   have c4b : decide (255 < n1) = false := decide_eq_false c4
   have c4' := Az.mk c4
   clear c4
   by_cases c5 : 0 ≤ n1
   ·rw [if_pos c5] at h
    have H := Az.mk h
    have C5 := Az.mk c5
    clear h c5
    obtain ⟨i0, hi0, _, hsz, _⟩ := info_parts info5
    obtain ⟨A2, hcut2, hA2, hC2⟩ := print_drop_of (P := Try.prog) (Value.int .u8) 0 22 5 .i64 Try.underlying22 hi0 hsz A0 c0 l0 n2 B1.out.1 B1.out.2 HC0.out
    have HR2 : Az (Kd.C (Kd.int .u8) w A2 (l0.drop n2.toNat).length (l0.drop n2.toNat)) := Az.mk (Kd.C_of_reads (h1 := fun _ => rfl) (hA2 w (Kd.reads_of_C HR0.out)))
    have HC2 := Az.mk hC2
    clear hA2 hC2 hi0 hsz
    have b1 := B1.out.1
    have b2 := B1.out.2
    go_upto_region 5 with (fail)
    go_region
    go_wp2
    go_loopg [7, 8, 9, 29] n1.toNat (fun kq v7 v8 v9 v29 w' => ∃ (x7 : List S36) (x8 : ByteArray) (x9 : List Int) (x29 : Int) (A9 : Option Addr) (c9 : Nat), v8 = .string x8 ∧ v9 = .slice A9 x9.length c9 ∧ v29 = .int .u64 x29 ∧ Az (x29 = n1 - kq) ∧ Az (kq ≤ n1.toNat) ∧ Az (run_unblock.go kq x8 x9 x7 = some (r1, r2)) ∧ Az (x9.length ≤ c9) ∧ Az (Kd.C (Kd.int .u8) w A9 x9.length x9) ∧ Az (Kd.R k36 36 w' w.heap.size (fun _ => True) v7 x7) ∧ Az (Below w.heap.size w w'))
    case atStart => exact ⟨[], ⟨#[]⟩, l0.drop n2.toNat, 0, A2, c0 - n2.toNat, rfl, by rw [List.length_drop], rfl, ⟨by have := C5.out; omega⟩, ⟨Nat.le_refl _⟩, H, HC2, HR2, ⟨Kd.R_nil _ _ _ _ _⟩, ⟨pw_below_drewN HB.out _⟩⟩
    case round =>
     clear H HC2 HR2 HB hcut2
     obtain ⟨x7, x8, x9, x29, A9, c9, rfl, rfl, rfl, E29, K9, H, HC9, HR9, HO, HB⟩ := hrel
     cases gk with
     | zero =>
      have hlt : decide (x29 < n1) = false := by have := E29.out; simp; omega
      have h := H.out
      simp only [run_unblock.go, Option.some.injEq, Prod.mk.injEq] at h
      obtain ⟨rfl, hr2⟩ := h
      have hr2' : (((x9.length : Nat) : Int) == 0) = r2 := by rw [← hr2]; cases x9 <;> simp <;> omega
      clear hr2 H
      go_wp2
      go_ret2
      exact ⟨_, rfl, HO.out, HB.out⟩
     | succ k1 =>
      have hlt : decide (x29 < n1) = true := by have := E29.out; have := K9.out; simp; omega
      have h := H.out
      clear H
      simp only [run_unblock.go] at h
      replace h := Option.bind_eq_some_iff.mp h
      obtain ⟨⟨e1, e2, e3, e4⟩, G, h⟩ := h
      dsimp only at h
      have G := Az.mk G
      have H := Az.mk h
      clear h
      go_upto_region 9 with (go_at_call 39; (refine (run_entry.calls x8 A9 c9 x9 e1 e2 e3 e4 _ (Kd.C_below HR9.out HB.out) HC9.out G.out).mono ?_); rintro e w1 ⟨A3, c3, rfl, hc3, hr3, hb⟩; have HC3 := Az.mk hc3; have HR3 := Az.mk (hr3 _ HR9.out); have HB1 := Az.mk hb; clear hc3 hr3 hb)
      have bk := blk_new w1 (.cells #[.string e1, .int .u64 e2] 36 (0, 0))
      have ho2 := Kd.R_alloc (Kd.R_elderB (Kd.R_below HO.out HB1.out) w1.heap.size (Nat.le_refl _)) (.cells #[.string e1, .int .u64 e2] 36 (0, 0))
      have hb2 := below_alloc (below_step HB.out HB1.out) (.cells #[.string e1, .int .u64 e2] 36 (0, 0))
      have hg2 : w.heap.size ≤ w1.heap.size := (below_step HB.out HB1.out).size
      generalize hg : w1.heap.size = g at *
      generalize hW2 : w1.alloc (.cells #[.string e1, .int .u64 e2] 36 (0, 0)) = W2 at *
      clear hW2 hg
      have hc0 : W2.cell? ⟨g, 0, none⟩ = some (.string e1) := blk_cell bk 0
      have hc1 : W2.cell? ⟨g, 1, none⟩ = some (.int .u64 e2) := blk_cell bk 1
      have BK := Az.mk bk
      have HO2 := Az.mk ho2
      have HB2 := Az.mk hb2
      have HG := Az.mk hg2
      clear bk ho2 hb2 hg2 HB1 HB HO
      have h := H.out
      clear H
      cases e4 with
      | false =>
       rw [if_pos rfl] at h
       simp only [Option.some.injEq, Prod.mk.injEq] at h
       obtain ⟨rfl, rfl⟩ := h
       go_wp2
       go_ret2
       exact ⟨_, rfl, Kd.R_nil _ _ _ _ _, HB2.out⟩
      | true =>
       rw [if_neg (by simp)] at h
       by_cases c6 : x7.length < 5864062014805
       ·rw [if_pos c6] at h
        have LM := Az.mk c6
        have H := Az.mk h
        clear h c6
        have hw : IntKind.u64.wrap (x29 + 1) = n1 - k1 := by
         have := E29.out
         have := K9.out
         have := C5.out
         have := c4'.out
         simp [IntKind.wrap, IntKind.bits, IntKind.signed]
         omega
        have HW := Az.mk hw
        clear hw
        go_wp2_with ((with_reducible refine gate_builtin (b := .append) (xs := #[.tmp 40, .tmp 42]) rfl ?_); at_builtin; refine Kd.R_append k36 (w0 := w) w.heap.size rfl (.tmp 40) (.tmp 42) 29 36 (.agg #[(.string ⟨#[]⟩), (.int .u64 0)]) 24 rfl Try.underlying29 info36 rfl (by decide) (by omega) u7 x7 (⟨e1, e2⟩ : S36) [.string e1, .int .u64 e2] (fun k_ => k_ ≠ g) (fun _ => False) rfl (by first | (go_simp; done) | (go_simp; rfl)) ?aP (fun _ hk => hk.elim) ?aF ?aO ?aB ?aS ?aL ?_; (case aP => exact k36_mkM _ _ _ (⟨e1, e2⟩ : S36)); (case aB => exact (bl_ HB2)); (case aF => exact (fun k_ hk => Kd.freshB (g := g) (o := .cells #[.string e1, .int .u64 e2] 36 (0, 0)) (bk_ BK.out) k_ hk)); (case aO => exact (by (with_reducible repeat (first | apply Kd.R_alloc | apply Kd.R_drewN | apply Kd.R_drew)); exact Kd.R_mono HO2.out (fun _ hk => hk.2))); (case aS => exact (below_size (bl_ HB2))); (case aL => have := LM.out; omega); intro v8_ w3 ho hb hg hat; have BK3 := Az.mk (blk_grown (g := g) (o := .cells #[.string e1, .int .u64 e2] 36 (0, 0)) (bk_ BK.out) hg (Kd.R_away HO2.out (fun _ hk => hk.2))); have HO3 := Az.mk ho; have HB3 := Az.mk hb; clear ho hb hg hat BK HO2 HB2; have hcz0 : w3.cell? ⟨g, 0, none⟩ = some (.string e1) := blk_cell BK3.out 0; have hcz1 : w3.cell? ⟨g, 1, none⟩ = some (.int .u64 e2) := blk_cell BK3.out 1)
        go_roundg k1
        case measure => have := K9.out; omega
        case rel => exact ⟨x7 ++ [⟨e1, e2⟩], e1, e3, _, A3, c3, rfl, rfl, rfl, HW, ⟨by have := K9.out; omega⟩, H, HC3, HR3, ⟨by (with_reducible repeat (first | apply Kd.R_alloc | apply Kd.R_drewN | apply Kd.R_drew)); exact Kd.R_mono HO3.out (fun _ hk => trivial)⟩, ⟨bl_ HB3⟩⟩
       ·rw [if_neg c6] at h
        exact absurd h (by simp)
   ·rw [if_neg c5] at h
    exact absurd h (by simp)
 ·rw [if_pos c3] at h
  have c3b : (n3 != 0) = true := by simpa using c3
  clear c3
  simp only [Option.some.injEq, Prod.mk.injEq] at h
  obtain ⟨rfl, rfl⟩ := h
  go_wp2
  go_ret2
  exact ⟨_, rfl, Kd.R_nil _ _ _ _ _, pw_below_drewN HB.out _⟩
mutual
def run_Decode.j0 : Nat → List Int → List (List Int) → Int → Bool → Option ((List (S36)) × Int)
 | 0, _, _, _, _ => none
 | k + 1, x0, x4, x6, x36 => if x36 = true then (some (([] : List (S36)), 2)) else (if 1 ≤ (wrap64 ((x4.length : Int) - 1)) then (if (wrap64 ((x4.length : Int) - 1)) ≤ (x4.length : Int) then ((some ((x4.take ((wrap64 ((x4.length : Int) - 1)) : Int).toNat).drop 1 : List (List Int))).bind fun y187 => (run_Decode.l0 k x0 x6 ([] : List (S36)) y187 (y187.length : Int) 0)) else (none)) else (none))
def run_Decode.l0 : Nat → List Int → Int → List (S36) → List (List Int) → Int → Int → Option ((List (S36)) × Int)
 | 0, _, _, _, _, _, _ => none
 | k + 1, x0, x6, x9, x41, x42, x43 => if x43 < x42 then (if 0 ≤ x43 then (if x43 < (x41.length : Int) then ((run_unblock.f (rd_L4 x41 x43)).bind fun bt192 => (if bt192.2 = true then (if x9.length + bt192.1.length < 5864062014805 then (run_Decode.l0 k x0 x6 (x9 ++ bt192.1) x41 x42 (wrap64 (x43 + 1))) else (none)) else (some (([] : List (S36)), 2)))) else (none)) else (none)) else ((run_Encode.f k x9 (wrap64 (x6))).bind fun bt199 => (if bt199.2 = 0 then ((bytes_Equal.f bt199.1 x0).bind fun t203 => (if t203 = true then (some (x9, 0)) else (some (([] : List (S36)), 2)))) else (some (([] : List (S36)), 2))))
end
def run_Decode.f (k : Nat) (l0 : List Int) : Option ((List (S36)) × Int) := (frame_Scan.f k l0).bind fun bt179 => (if (bt179.1.length : Int) < 2 then (some (([] : List (S36)), 2)) else (if 0 < (bt179.1.length : Int) then ((num_Get.f (rd_L4 bt179.1 0)).bind fun bt184 => (if bt184.2.2 = 0 then (run_Decode.j0 k l0 bt179.1 bt184.1 (decide (bt184.1 > 255))) else (run_Decode.j0 k l0 bt179.1 bt184.1 true))) else (none)))
theorem run_Decode.mono_l : ∀ k, (∀ y0 y1 y2 y3, LeO (run_Decode.j0 k y0 y1 y2 y3) (run_Decode.j0 (k + 1) y0 y1 y2 y3)) ∧ (∀ y0 y1 y2 y3 y4 y5, LeO (run_Decode.l0 k y0 y1 y2 y3 y4 y5) (run_Decode.l0 (k + 1) y0 y1 y2 y3 y4 y5))
 | 0 => ⟨fun _ _ _ _ r h => by simp [run_Decode.j0] at h, fun _ _ _ _ _ _ r h => by simp [run_Decode.l0] at h⟩
 | k + 1 => by
  obtain ⟨ih0, ih1⟩ := run_Decode.mono_l k
  refine ⟨?_, ?_⟩
  ·intro y0 y1 y2 y3
   unfold run_Decode.j0
   repeat' first
   | (with_reducible exact ih0 _ _ _ _)
   | (with_reducible exact ih1 _ _ _ _ _ _)
   | (with_reducible exact frame_Scan.mono _ _)
   | (with_reducible exact run_Encode.mono _ _ _)
   | (with_reducible exact LeO.refl _)
   | (with_reducible exact LeO.none _)
   | (with_reducible refine LeO.ite ?_ ?_)
   | (with_reducible refine LeO.bind ?_ (fun _ => ?_))
   | exact ih0 _ _ _ _
   | exact ih1 _ _ _ _ _ _
   | exact frame_Scan.mono _ _
   | exact run_Encode.mono _ _ _
   | exact LeO.none _
   | refine LeO.ite ?_ ?_
   | refine LeO.bind ?_ (fun _ => ?_)
  ·intro y0 y1 y2 y3 y4 y5
   unfold run_Decode.l0
   repeat' first
   | (with_reducible exact ih0 _ _ _ _)
   | (with_reducible exact ih1 _ _ _ _ _ _)
   | (with_reducible exact frame_Scan.mono _ _)
   | (with_reducible exact run_Encode.mono _ _ _)
   | (with_reducible exact LeO.refl _)
   | (with_reducible exact LeO.none _)
   | (with_reducible refine LeO.ite ?_ ?_)
   | (with_reducible refine LeO.bind ?_ (fun _ => ?_))
   | exact ih0 _ _ _ _
   | exact ih1 _ _ _ _ _ _
   | exact frame_Scan.mono _ _
   | exact run_Encode.mono _ _ _
   | exact LeO.none _
   | refine LeO.ite ?_ ?_
   | refine LeO.bind ?_ (fun _ => ?_)
theorem run_Decode.mono : ∀ a0 k, LeO (run_Decode.f k a0) (run_Decode.f (k + 1) a0) := by
 intro a0 k
 obtain ⟨ih0, ih1⟩ := run_Decode.mono_l k
 unfold run_Decode.f
 repeat' first
   | (with_reducible exact ih0 _ _ _ _)
   | (with_reducible exact ih1 _ _ _ _ _ _)
   | (with_reducible exact frame_Scan.mono _ _)
   | (with_reducible exact run_Encode.mono _ _ _)
   | (with_reducible exact LeO.refl _)
   | (with_reducible exact LeO.none _)
   | (with_reducible refine LeO.ite ?_ ?_)
   | (with_reducible refine LeO.bind ?_ (fun _ => ?_))
   | exact ih0 _ _ _ _
   | exact ih1 _ _ _ _ _ _
   | exact frame_Scan.mono _ _
   | exact run_Encode.mono _ _ _
   | exact LeO.none _
   | refine LeO.ite ?_ ?_
   | refine LeO.bind ?_ (fun _ => ?_)
theorem run_Decode.calls (k : Nat) (A0 : Option Addr) (c0 : Nat) (l0 : List Int) (r1 : List (S36)) (r2 : Int) (w : World) (hr0 : Kd.C (Kd.int .u8) w A0 l0.length l0) (hc0 : l0.length ≤ c0) (h : run_Decode.f k l0 = some (r1, r2)) :
  Calls Try.prog 17 #[.slice A0 l0.length c0] w fun e w' => ∃ v0_ : Value, e = .returned (.tuple #[v0_, .int .i64 r2]) ∧ Kd.R k36 36 w' w.heap.size (fun _ => True) v0_ r1 ∧ Below w.heap.size w w' := by
 have HR0 := Az.mk hr0
 have HC0 := Az.mk hc0
 clear hr0 hc0
 have HB := Az.mk (Below.refl w.heap.size w)
 have H : ((frame_Scan.f k l0).bind fun bt179 => (if (bt179.1.length : Int) < 2 then (some (([] : List (S36)), 2)) else (if 0 < (bt179.1.length : Int) then ((num_Get.f (rd_L4 bt179.1 0)).bind fun bt184 => (if bt184.2.2 = 0 then (run_Decode.j0 k l0 bt179.1 bt184.1 (decide (bt184.1 > 255))) else (run_Decode.j0 k l0 bt179.1 bt184.1 true))) else (none)))) = some (r1, r2) := h
 clear h
 replace H := Option.bind_eq_some_iff.mp H
 obtain ⟨⟨t179, t180⟩, A20, H⟩ := H
 replace H : (if (t179.length : Int) < 2 then (some (([] : List (S36)), 2)) else (if 0 < (t179.length : Int) then ((num_Get.f (rd_L4 t179 0)).bind fun bt184 => (if bt184.2.2 = 0 then (run_Decode.j0 k l0 t179 bt184.1 (decide (bt184.1 > 255))) else (run_Decode.j0 k l0 t179 bt184.1 true))) else (none))) = some (r1, r2) := H
 have A2 := Az.mk A20
 clear A20
 by_cases c3 : (t179.length : Int) < 2
 ·rw [if_pos c3] at H
  have c3b0 := decide_eq_true c3
  have c3b1 : decide (t179.length < 2) = true := decide_eq_true (by omega)
  clear c3
  simp only [Option.some.injEq, Prod.mk.injEq] at H
  obtain ⟨rfl, rfl⟩ := H
  go_enter Try.func17, Try.ntmps17
  go_wp2_with (first | ((with_reducible refine gate_callee (f := 24) rfl ?_); refine goesL_ (some 17) rfl rfl Try.func24 (by kernel_rfl) rfl #[.slice A0 l0.length c0] rfl ar_ ?_; (with_reducible refine (frame_Scan.calls k _ _ l0 t179 t180 _ ?side1 ?side2 A2.out).mono ?_); (case side1 => exact cl_ HR0.out); (case side2 => exact HC0.out); rintro e w4 ⟨v181, rfl, ho0, hb⟩; refine ⟨_, rfl, ?_⟩; have n0_ := Az.mk (Kd.S_lower ho0 (below_size (bl_ HB))); have n1_ := Az.mk (below_step (bl_ HB) hb); clear HB; have HO182 := n0_; have HB := n1_; clear n0_ n1_; (try clear hb); (try clear hb2); (try clear hk); (try clear hi); (try clear ho0); obtain ⟨Ao5, co5, eo5⟩ := Kd.S_slice HO182.out; subst eo5))
  go_ret2
  exact ⟨_, er_, nl_, bl_ HB⟩
 ·rw [if_neg c3] at H
  have c3b0 := decide_eq_false c3
  have c3b1 : decide (t179.length < 2) = false := decide_eq_false (by omega)
  clear c3
  by_cases c6 : 0 < (t179.length : Int)
  ·rw [if_pos c6] at H
   have c6b0 := decide_eq_true c6
   have c6b1 : decide (0 < t179.length) = true := decide_eq_true (by omega)
   clear c6
   replace H := Option.bind_eq_some_iff.mp H
   obtain ⟨⟨t184, t185, t186⟩, A70, H⟩ := H
   replace H : (if t186 = 0 then (run_Decode.j0 k l0 t179 t184 (decide (t184 > 255))) else (run_Decode.j0 k l0 t179 t184 true)) = some (r1, r2) := H
   have A7 := Az.mk A70
   clear A70
   have HC8 := Az.mk H
   clear H
   go_enter Try.func17, Try.ntmps17
   go_upto_region 5 with (first | ((with_reducible refine gate_callee (f := 24) rfl ?_); refine goesL_ (some 17) rfl rfl Try.func24 (by kernel_rfl) rfl #[.slice A0 l0.length c0] rfl ar_ ?_; (with_reducible refine (frame_Scan.calls k _ _ l0 t179 t180 _ ?side1 ?side2 A2.out).mono ?_); (case side1 => exact cl_ HR0.out); (case side2 => exact HC0.out); rintro e w9 ⟨v181, rfl, ho0, hb⟩; refine ⟨_, rfl, ?_⟩; have n0_ := Az.mk (Kd.S_lower ho0 (below_size (bl_ HB))); have n1_ := Az.mk (below_step (bl_ HB) hb); clear HB; have HO182 := n0_; have HB := n1_; clear n0_ n1_; (try clear hb); (try clear hb2); (try clear hk); (try clear hi); (try clear ho0); obtain ⟨Ao10, co10, eo10⟩ := Kd.S_slice HO182.out; subst eo10; have p183 : 0 ≤ (0 : Int) := (by omega); have q183 : 0 < (t179.length : Int) := of_decide_eq_true as_; obtain ⟨ad183, A183_0, c183_0, e183, hx183_0, hl183_0, hi183_0⟩ := at_L4 (Kd.S_reads' HO182.out).2.2 0 p183 q183; cases e183; obtain ⟨ce183, hce183, hMe183, hcc183⟩ := Kd.S_get HO182.out [] 0 p183 (by first | exact q183 | exact of_decide_eq_true as_ | (have e_ := (Kd.S_reads' HO182.out).1; omega)); obtain ⟨ve183_0, rfl, ge183_0⟩ := hMe183; have hv183_0 := hcc183 0 _ rfl; rw [Nat.add_zero, show ((Kd.slice 5 (Kd.int .u8))).sz = 1 from rfl, Nat.mul_one] at hv183_0; replace hv183_0 := Option.some.inj (hv183_0.symm.trans hx183_0); rw [hv183_0] at ge183_0; have HL183_0 := Az.mk (show Kd.R (Kd.int .u8) 5 _ _ _ _ (rd_L4 t179 0) from ge183_0); clear hv183_0 ge183_0; clear hcc183 hce183; have qi183 : (0 < t179.length) = True := eq_true (by omega); (try rw [show ((0 : Int)).toNat = 0 from rfl] at hx183_0); (try rw [Addr.add_zero'] at hx183_0); have HR183_0 := Az.mk hi183_0; have HC183_0 := Az.mk hl183_0; clear hi183_0 hl183_0; replace p183 := eq_true p183; replace q183 := eq_true q183) | ((with_reducible refine gate_callee (f := 25) rfl ?_); refine goesL_ (some 27) rfl rfl Try.func25 (by kernel_rfl) rfl #[.slice A183_0 (rd_L4 t179 0).length c183_0] rfl ar_ ?_; (with_reducible refine (num_Get.calls _ _ (rd_L4 t179 0) t184 t185 t186 _ ?side1 ?side2 A7.out).mono ?_); (case side1 => repeat (first | exact (by repeat (first | (with_reducible exact HR183_0.out) | (with_reducible refine Kd.C_alloc ?_ _) | (with_reducible refine Kd.C_drewN ?_ _) | (with_reducible refine Kd.C_drew ?_) | exact HR183_0.out)) | (with_reducible refine Kd.C_alloc ?_ _) | (with_reducible refine Kd.C_drewN ?_ _) | (with_reducible refine Kd.C_drew ?_))); (case side2 => exact HC183_0.out); rintro e w' ⟨rfl, ⟨nd, rfl⟩⟩; refine ⟨_, rfl, ?_⟩))
   (try simp only [Act.put, List.setIfInBounds_toArray, List.set_cons_zero, List.set_cons_succ])
   go_cut [36] (fun v36 wc => ∃ (kq : Nat) (x36_7 : Bool), v36 = .bool x36_7 ∧ Az (run_Decode.j0 kq l0 t179 t184 x36_7 = some (r1, r2)) ∧ Az (kq ≤ k) ∧ Az (Kd.S (Kd.slice 5 (Kd.int .u8)) 22 wc w.heap.size (fun _ => True) (.slice (some ad183) t179.length co10) t179) ∧ Az (Kd.C (Kd.int .u8) wc A183_0 (rd_L4 t179 0).length (rd_L4 t179 0)) ∧ Az (Below w.heap.size w wc))
   case first =>
    have H := HC8.out
    clear HC8
    by_cases c11 : t186 = 0
    ·rw [if_pos c11] at H
     have c11b0 : (t186 == 0) = true := beq_iff_eq.mpr c11
     have c11b1 : (t186 != 0) = false := bne_eq_false_iff_eq.mpr c11
     clear c11
     (first | rw [c11b0] | (simp only [i64_w, i32_w]; rw [c11b0]) | skip)
     have H' := Az.mk H
     clear H
     go_wp2
     go_meet
     case rel => exact ⟨_, (decide (t184 > 255)), (es_), H', ⟨by first | omega | exact Nat.le_refl _⟩, ⟨sl_ HO182.out⟩, ⟨by repeat (first | (with_reducible exact HR183_0.out) | (with_reducible refine Kd.C_alloc ?_ _) | (with_reducible refine Kd.C_drewN ?_ _) | (with_reducible refine Kd.C_drew ?_) | exact HR183_0.out)⟩, ⟨bl_ HB⟩⟩
    ·rw [if_neg c11] at H
     have c11b0 : (t186 == 0) = false := beq_eq_false_iff_ne.mpr c11
     have c11b1 : (t186 != 0) = true := bne_iff_ne.mpr c11
     (first | rw [c11b0] | (simp only [i64_w, i32_w]; rw [c11b0]) | skip)
     have H' := Az.mk H
     clear H
     go_wp2
     go_meet
     case rel => exact ⟨_, (true), (es_), H', ⟨by first | omega | exact Nat.le_refl _⟩, ⟨sl_ HO182.out⟩, ⟨by repeat (first | (with_reducible exact HR183_0.out) | (with_reducible refine Kd.C_alloc ?_ _) | (with_reducible refine Kd.C_drewN ?_ _) | (with_reducible refine Kd.C_drew ?_) | exact HR183_0.out)⟩, ⟨bl_ HB⟩⟩
   case rest =>
    clear HC8
    try clear c1
    try clear p1
    try clear q1
    try clear hx1
    try clear qi1
    try clear c2
    try clear p2
    try clear c3
    try clear c3b0
    try clear c3b1
    try clear c6
    try clear c6b0
    try clear c6b1
    try clear c11
    try clear c11b0
    try clear c11b1
    try clear hx183_0
    try clear p183
    try clear q183
    obtain ⟨kq, x36_7, rfl, HA, HJ7, HO_4, HR183_0, HB⟩ := hcut
    cases kq with
    | zero => exact absurd HA.out (by simp [run_Decode.j0])
    | succ kj7 =>
     have H := HA.out
     clear HA
     simp only [run_Decode.j0] at H
     by_cases c12 : x36_7 = true
     ·subst c12
      have H1 : (some (([] : List (S36)), 2)) = some (r1, r2) := by rw [if_pos rfl] at H; exact H
      clear H
      have H := H1
      clear H1
      simp only [Option.some.injEq, Prod.mk.injEq] at H
      obtain ⟨rfl, rfl⟩ := H
      go_wp2
      go_ret2
      exact ⟨_, er_, nl_, bl_ HB⟩
     ·replace c12 := Bool.eq_false_iff.mpr c12
      subst c12
      have H1 : (if 1 ≤ (wrap64 ((t179.length : Int) - 1)) then (if (wrap64 ((t179.length : Int) - 1)) ≤ (t179.length : Int) then ((some ((t179.take ((wrap64 ((t179.length : Int) - 1)) : Int).toNat).drop 1 : List (List Int))).bind fun y187 => (run_Decode.l0 kj7 l0 t184 ([] : List (S36)) y187 (y187.length : Int) 0)) else (none)) else (none)) = some (r1, r2) := by rw [if_neg (show ¬ (false = true) by decide)] at H; exact H
      clear H
      have H := H1
      clear H1
      by_cases c13 : 1 ≤ (wrap64 ((t179.length : Int) - 1))
      ·rw [if_pos c13] at H
       have c13b0 := eq_true c13
       have c13b1 := decide_eq_true c13
       clear c13
       by_cases c14 : (wrap64 ((t179.length : Int) - 1)) ≤ (t179.length : Int)
       ·rw [if_pos c14] at H
        have c14b0 := eq_true c14
        have c14b1 := decide_eq_true c14
        clear c14
        obtain ⟨y187, hy187⟩ : ∃ y_ : List (List Int), y_ = ((t179.take ((wrap64 ((t179.length : Int) - 1)) : Int).toNat).drop 1) := ⟨_, rfl⟩
        replace H : (run_Decode.l0 kj7 l0 t184 ([] : List (S36)) y187 (y187.length : Int) 0) = some (r1, r2) := hr_ hy187 H
        have Ny187 := Az.mk hy187
        clear hy187
        have H' := Az.mk H
        clear H
        have q15 : ((wrap64 ((t179.length : Int) - 1)) : Int) ≤ ((t179.length : Int) : Int) := of_decide_eq_true as_
        obtain ⟨i015, hi015, _, hsz15, _⟩ := info_parts info22
        have hroom15 : t179.length ≤ co10 := (Kd.S_reads' HO_4.out).2.1
        have hC15 : Kd.C (Kd.slice 5 (Kd.int .u8)) _ (some ad183) t179.length t179 := (Kd.S_reads' HO_4.out).2.2
        have ql15 : (1 : Int) ≤ ((wrap64 ((t179.length : Int) - 1)) : Int) := of_decide_eq_true as_
        have hcut15 := cut_mid (P := Try.prog) 58 22 .i64 .i64 Try.underlying58 hi015 1 hsz15 (some ad183) t179.length co10 1 (wrap64 ((t179.length : Int) - 1)) (by omega) ql15 q15 hroom15
        have hr15 := Kd.C_mid (lo := (1 : Int).toNat) (hi := ((wrap64 ((t179.length : Int) - 1)) : Int).toNat) (c := co10) hC15 (by omega) (by omega) hroom15
        obtain ⟨A15, hA15⟩ : ∃ A1, A1 = (if co10 = (1 : Int).toNat then (some ad183) else ((some ad183) : Option Addr).map (·.add ((1 : Int).toNat * 1))) := ⟨_, rfl⟩
        obtain ⟨c15, hc15⟩ : ∃ c1, c1 = co10 - (1 : Int).toNat := ⟨_, rfl⟩
        have hy15 : y187.length = ((wrap64 ((t179.length : Int) - 1)) : Int).toNat - (1 : Int).toNat := (by rw [Ny187.out, List.length_drop, List.length_take] <;> omega)
        rw [show ((t179).take ((wrap64 ((t179.length : Int) - 1)) : Int).toNat).drop (1 : Int).toNat = y187 from Ny187.out.symm] at hr15
        replace hr15 : Kd.C (Kd.slice 5 (Kd.int .u8)) _ A15 y187.length y187 := (by rw [hA15]; exact hr15)
        rw [← hy15, ← hA15, ← hc15] at hcut15
        have HFC := Az.mk (fun W => fun hC_ : Kd.C (Kd.slice 5 (Kd.int .u8)) W (some ad183) t179.length t179 => (by have q_ := Kd.C_mid (lo := (1 : Int).toNat) (hi := ((wrap64 ((t179.length : Int) - 1)) : Int).toNat) (c := co10) hC_ (by omega) (by omega) hroom15; rw [show ((t179).take ((wrap64 ((t179.length : Int) - 1)) : Int).toNat).drop (1 : Int).toNat = y187 from Ny187.out.symm] at q_; rw [hA15]; exact q_ : Kd.C (Kd.slice 5 (Kd.int .u8)) W A15 y187.length y187))
        have HR190 := Az.mk hr15
        have HC190 := Az.mk (show y187.length ≤ c15 from by rw [hy15, hc15]; exact Nat.sub_le_sub_right (Nat.le_trans (by omega) hroom15) _)
        clear hr15 hC15 hroom15 hi015 hsz15 hc15
        have KY15 := Az.mk hy15
        have KA15 := Az.mk hA15
        clear hy15 hA15
        have KL15 := Az.mk (show ((wrap64 ((t179.length : Int) - 1)) : Int).toNat ≤ t179.length from by omega)
        have KM15 := Az.mk (show 1 ≤ ((wrap64 ((t179.length : Int) - 1)) : Int).toNat from by omega)
        replace q15 := eq_true q15
        go_wp2
        go_loopg [9, 43] kj7 (fun kq v9 v43 w' => ∃ (x9_2 : List (S36)) (x43_2 : Int), v43 = .int .i64 x43_2 ∧ Az (run_Decode.l0 kq l0 t184 x9_2 y187 (y187.length : Int) x43_2 = some (r1, r2)) ∧ Az (kq ≤ kj7) ∧ Az (Kd.R k36 36 w' w.heap.size (fun _ => True) v9 x9_2) ∧ Az (Below w.heap.size w w') ∧ Az (Kd.S (Kd.slice 5 (Kd.int .u8)) 22 w' w.heap.size (fun _ => True) (.slice (some ad183) t179.length co10) t179))
        case atStart => exact ⟨(([] : List (S36))), (0), (es_), H', ⟨Nat.le_refl _⟩, ⟨nl_⟩, ⟨bl_ HB⟩, ⟨(by (with_reducible repeat (first | apply Kd.S_alloc | apply Kd.S_drewN | apply Kd.S_drew)); exact Kd.S_mono HO_4.out (fun _ _ => trivial))⟩⟩
        case round =>
         clear H'
         try clear c1
         try clear p1
         try clear q1
         try clear hx1
         try clear qi1
         try clear c2
         try clear p2
         try clear c3
         try clear c3b0
         try clear c3b1
         try clear c6
         try clear c6b0
         try clear c6b1
         try clear p6
         try clear c11
         try clear c11b0
         try clear c11b1
         try clear c12
         try clear c13
         try clear c13b0
         try clear c13b1
         try clear c14
         try clear c14b0
         try clear c14b1
         try clear c15
         try clear q15
         try clear hx183_0
         try clear p1
         try clear p183
         try clear p2
         try clear q1
         try clear q15
         try clear q183
         obtain ⟨x9_2, x43_2, rfl, HA, HK2, HO_9, HB, HS4⟩ := hrel
         have HR15w := Az.mk (HFC.out _ (Kd.S_reads' HS4.out).2.2)
         cases gk with
         | zero => exact absurd HA.out (by simp [run_Decode.l0])
         | succ k2 =>
          have H := HA.out
          clear HA
          simp only [run_Decode.l0] at H
          by_cases c16 : x43_2 < (y187.length : Int)
          ·rw [if_pos c16] at H
           have c16b0 := decide_eq_true c16
           clear c16
           by_cases c17 : 0 ≤ x43_2
           ·rw [if_pos c17] at H
            have c17b0 := decide_eq_true c17
            clear c17
            by_cases c18 : x43_2 < (y187.length : Int)
            ·rw [if_pos c18] at H
             have c18b0 := decide_eq_true c18
             clear c18
             replace H := Option.bind_eq_some_iff.mp H
             obtain ⟨⟨t192, t193⟩, A190, H⟩ := H
             replace H : (if t193 = true then (if x9_2.length + t192.length < 5864062014805 then (run_Decode.l0 k2 l0 t184 (x9_2 ++ t192) y187 (y187.length : Int) (wrap64 (x43_2 + 1))) else (none)) else (some (([] : List (S36)), 2))) = some (r1, r2) := H
             have A19 := Az.mk A190
             clear A190
             by_cases c20 : t193 = true
             ·subst c20
              have H1 : (if x9_2.length + t192.length < 5864062014805 then (run_Decode.l0 k2 l0 t184 (x9_2 ++ t192) y187 (y187.length : Int) (wrap64 (x43_2 + 1))) else (none)) = some (r1, r2) := by rw [if_pos rfl] at H; exact H
              clear H
              have H := H1
              clear H1
              by_cases c21 : x9_2.length + t192.length < 5864062014805
              ·rw [if_pos c21] at H
               have LMc21 := Az.mk c21
               clear c21
               obtain ⟨y196, hy196⟩ : ∃ y_ : List (S36), y_ = (x9_2 ++ t192) := ⟨_, rfl⟩
               replace H : (run_Decode.l0 k2 l0 t184 y196 y187 (y187.length : Int) (wrap64 (x43_2 + 1))) = some (r1, r2) := hr_ hy196 H
               have Ny196 := Az.mk hy196
               clear hy196
               have H' := Az.mk H
               clear H
               have p191 : 0 ≤ (x43_2 : Int) := of_decide_eq_true as_
               have q191 : x43_2 < (y187.length : Int) := of_decide_eq_true as_
               obtain ⟨ad191, A191_0, c191_0, e191, hx191_0, hl191_0, hi191_0⟩ := at_L4 HR15w.out x43_2 p191 q191
               cases e191
               have HR191_0 := Az.mk hi191_0
               have HC191_0 := Az.mk hl191_0
               clear hi191_0 hl191_0
               replace p191 := eq_true p191
               replace q191 := eq_true q191
               go_wp2_with (first | ((with_reducible refine gate_callee (f := 26) rfl ?_); refine goesL_ (some 49) rfl rfl Try.func26 (by kernel_rfl) rfl #[.slice A191_0 (rd_L4 y187 x43_2).length c191_0] rfl ar_ ?_; (with_reducible refine (run_unblock.calls _ _ (rd_L4 y187 x43_2) t192 true _ ?side1 ?side2 A19.out).mono ?_); (case side1 => exact cl_ HR191_0.out); (case side2 => exact HC191_0.out); rintro e w22 ⟨v194, rfl, ho0, hb⟩; refine ⟨_, rfl, ?_⟩; have s4_ := Az.mk (Kd.S_below (sl_ HS4.out) hb); clear HS4; have HS4 := s4_; clear s4_; have n0_ := Az.mk (Kd.R_elder' (rl_ HO_9.out) (Kd.R_base ho0) hb); have n1_ := Az.mk (Kd.R_lower (Kd.R_new' ho0 (Kd.R_lt (rl_ HO_9.out))) (below_size (bl_ HB))); have n2_ := Az.mk (below_step (bl_ HB) hb); clear HO_9; clear HB; have HO_9 := n0_; have HO195 := n1_; have HB := n2_; clear n0_ n1_ n2_; (try clear hb); (try clear hb2); (try clear hk); (try clear hi); (try clear ho0); obtain ⟨Ao24, co24, eo24⟩ := Kd.R_slice HO195.out; subst eo24) | ((with_reducible refine gate_builtin (b := .append) (xs := #[.tmp 54, .tmp 55]) rfl ?_); at_builtin; refine Kd.R_append_rows k36 (w0 := w) w.heap.size rfl (.tmp 54) (.tmp 55) 29 36 (.agg #[(.string ⟨#[]⟩), (.int .u64 0)]) 24 rfl Try.underlying29 info36 rfl (by decide) (by omega) u9 x9_2 t192 _ _ _ (fun k_ => some k_ ≠ (.slice Ao24 t192.length co24 : Value).ownBlock) (fun _ => False) rfl rfl ?aO ?aR (fun _ _ h => h) (fun _ h => h.elim) ?aF ?aB ?aS ?aL ?_; (case aR => exact cl_ (Kd.R_reads' HO195.out).2.2); (case aB => exact (bl_ HB)); (case aF => exact (fun k_ hk => Kd.fresh' (Kd.R_lt (rl_ HO195.out)) k_ hk)); (case aO => exact (by (with_reducible repeat (first | apply Kd.R_alloc | apply Kd.R_drewN | apply Kd.R_drew)); exact Kd.R_mono HO_9.out (fun _ hk => hk.2))); (case aS => exact (below_size (bl_ HB))); (case aL => have := LMc21.out; omega); intro v197 w23 ho hb hg hat; have s4_ := Az.mk (Kd.S_over' (sl_ HS4.out) (Kd.R_typed (by (with_reducible repeat (first | apply Kd.R_alloc | apply Kd.R_drewN | apply Kd.R_drew)); exact Kd.R_mono HO_9.out (fun _ hk => hk.2))) (by decide) hg); clear HS4; have HS4 := s4_; clear s4_; rw [← Ny196.out] at ho; have n0_ := Az.mk (Kd.R_after (ok := (fun _ => True)) (rl_ HO195.out) hg hat); have n1_ := Az.mk (hb); have n2_ := Az.mk (ho); clear HO195; clear HB; clear HO_9; have HO195 := n0_; have HB := n1_; have HO198 := n2_; clear n0_ n1_ n2_; clear ho hb hg hat))
               go_roundg k2
               case measure => have := HJ7.out; have := HK2.out; omega
               case rel => exact ⟨(y196), (wrap64 (x43_2 + 1)), (es_), H', ⟨by have := HJ7.out; have := HK2.out; omega⟩, ⟨by (with_reducible repeat (first | apply Kd.R_alloc | apply Kd.R_drewN | apply Kd.R_drew)); exact Kd.R_mono HO198.out (fun _ hk => trivial)⟩, ⟨bl_ HB⟩, ⟨(sl_ HS4.out)⟩⟩
              ·rw [if_neg c21] at H
               exact absurd H (by simp)
             ·replace c20 := Bool.eq_false_iff.mpr c20
              subst c20
              have H1 : (some (([] : List (S36)), 2)) = some (r1, r2) := by rw [if_neg (show ¬ (false = true) by decide)] at H; exact H
              clear H
              have H := H1
              clear H1
              simp only [Option.some.injEq, Prod.mk.injEq] at H
              obtain ⟨rfl, rfl⟩ := H
              have p191 : 0 ≤ (x43_2 : Int) := of_decide_eq_true as_
              have q191 : x43_2 < (y187.length : Int) := of_decide_eq_true as_
              obtain ⟨ad191, A191_0, c191_0, e191, hx191_0, hl191_0, hi191_0⟩ := at_L4 HR15w.out x43_2 p191 q191
              cases e191
              have HR191_0 := Az.mk hi191_0
              have HC191_0 := Az.mk hl191_0
              clear hi191_0 hl191_0
              replace p191 := eq_true p191
              replace q191 := eq_true q191
              go_wp2_with (first | ((with_reducible refine gate_callee (f := 26) rfl ?_); refine goesL_ (some 49) rfl rfl Try.func26 (by kernel_rfl) rfl #[.slice A191_0 (rd_L4 y187 x43_2).length c191_0] rfl ar_ ?_; (with_reducible refine (run_unblock.calls _ _ (rd_L4 y187 x43_2) t192 false _ ?side1 ?side2 A19.out).mono ?_); (case side1 => exact cl_ HR191_0.out); (case side2 => exact HC191_0.out); rintro e w25 ⟨v194, rfl, ho0, hb⟩; refine ⟨_, rfl, ?_⟩; have s4_ := Az.mk (Kd.S_below (sl_ HS4.out) hb); clear HS4; have HS4 := s4_; clear s4_; have n0_ := Az.mk (Kd.R_elder' (rl_ HO_9.out) (Kd.R_base ho0) hb); have n1_ := Az.mk (Kd.R_lower (Kd.R_new' ho0 (Kd.R_lt (rl_ HO_9.out))) (below_size (bl_ HB))); have n2_ := Az.mk (below_step (bl_ HB) hb); clear HO_9; clear HB; have HO_9 := n0_; have HO195 := n1_; have HB := n2_; clear n0_ n1_ n2_; (try clear hb); (try clear hb2); (try clear hk); (try clear hi); (try clear ho0)))
              go_ret2
              exact ⟨_, er_, nl_, bl_ HB⟩
            ·rw [if_neg c18] at H
             exact absurd H (by simp)
           ·rw [if_neg c17] at H
            exact absurd H (by simp)
          ·rw [if_neg c16] at H
           have c16b0 := decide_eq_false c16
           clear c16
           replace H := Option.bind_eq_some_iff.mp H
           obtain ⟨⟨t199, t200⟩, A260, H⟩ := H
           replace H : (if t200 = 0 then ((bytes_Equal.f t199 l0).bind fun t203 => (if t203 = true then (some (x9_2, 0)) else (some (([] : List (S36)), 2)))) else (some (([] : List (S36)), 2))) = some (r1, r2) := H
           have A26 := Az.mk A260
           clear A260
           by_cases c27 : t200 = 0
           ·rw [if_pos c27] at H
            have c27b0 : (t200 == 0) = true := beq_iff_eq.mpr c27
            have c27b1 : (t200 != 0) = false := bne_eq_false_iff_eq.mpr c27
            clear c27
            replace H := Option.bind_eq_some_iff.mp H
            obtain ⟨t203, A280, H⟩ := H
            replace H : (if t203 = true then (some (x9_2, 0)) else (some (([] : List (S36)), 2))) = some (r1, r2) := H
            have A28 := Az.mk A280
            clear A280
            by_cases c29 : t203 = true
            ·subst c29
             have H1 : (some (x9_2, 0)) = some (r1, r2) := by rw [if_pos rfl] at H; exact H
             clear H
             have H := H1
             clear H1
             simp only [Option.some.injEq, Prod.mk.injEq] at H
             obtain ⟨rfl, rfl⟩ := H
             obtain ⟨Ao30, co30, eo30⟩ := Kd.R_slice HO_9.out
             subst eo30
             go_wp2_with (first | ((with_reducible refine gate_callee (f := 15) rfl ?_); refine goesL_ (some 62) rfl rfl Try.func15 (by kernel_rfl) rfl #[.slice Ao30 x9_2.length co30, .int .i64 (wrap64 (t184))] rfl ar_ ?_; (with_reducible refine (run_Encode.calls k2 _ _ x9_2 (wrap64 (t184)) t199 t200 _ ?side1 ?side2 A26.out).mono ?_); (case side1 => exact cl_ (Kd.R_reads' HO_9.out).2.2); (case side2 => exact (Kd.R_reads' HO_9.out).2.1); rintro e w31 ⟨v201, rfl, ho0, hb⟩; refine ⟨_, rfl, ?_⟩; have n0_ := Az.mk (Kd.R_below (rl_ HO_9.out) hb); have n1_ := Az.mk (Kd.R_lower ho0 (below_size (bl_ HB))); have n2_ := Az.mk (below_step (bl_ HB) hb); clear HO_9; clear HB; have HO_9 := n0_; have HO202 := n1_; have HB := n2_; clear n0_ n1_ n2_; (try clear hb); (try clear hb2); (try clear hk); (try clear hi); (try clear ho0); obtain ⟨Ao32, co32, eo32⟩ := Kd.R_slice HO202.out; subst eo32) | (go_at_call 27; (with_reducible refine (bytes_Equal.calls _ _ t199 _ _ l0 true _ ?side1 ?side2 ?side3 ?side4 A28.out).mono ?_); (case side1 => exact cl_ (Kd.R_reads' HO202.out).2.2); (case side2 => exact (Kd.R_reads' HO202.out).2.1); (case side3 => exact cl_ (Kd.C_below HR0.out HB.out)); (case side4 => exact HC0.out); rintro e w' ⟨rfl, ⟨nd, rfl⟩⟩))
             go_ret2
             exact ⟨_, er_, by (with_reducible repeat (first | apply Kd.R_alloc | apply Kd.R_drewN | apply Kd.R_drew)); exact HO_9.out, bl_ HB⟩
            ·replace c29 := Bool.eq_false_iff.mpr c29
             subst c29
             have H1 : (some (([] : List (S36)), 2)) = some (r1, r2) := by rw [if_neg (show ¬ (false = true) by decide)] at H; exact H
             clear H
             have H := H1
             clear H1
             simp only [Option.some.injEq, Prod.mk.injEq] at H
             obtain ⟨rfl, rfl⟩ := H
             obtain ⟨Ao33, co33, eo33⟩ := Kd.R_slice HO_9.out
             subst eo33
             go_wp2_with (first | ((with_reducible refine gate_callee (f := 15) rfl ?_); refine goesL_ (some 62) rfl rfl Try.func15 (by kernel_rfl) rfl #[.slice Ao33 x9_2.length co33, .int .i64 (wrap64 (t184))] rfl ar_ ?_; (with_reducible refine (run_Encode.calls k2 _ _ x9_2 (wrap64 (t184)) t199 t200 _ ?side1 ?side2 A26.out).mono ?_); (case side1 => exact cl_ (Kd.R_reads' HO_9.out).2.2); (case side2 => exact (Kd.R_reads' HO_9.out).2.1); rintro e w34 ⟨v201, rfl, ho0, hb⟩; refine ⟨_, rfl, ?_⟩; have n0_ := Az.mk (Kd.R_below (rl_ HO_9.out) hb); have n1_ := Az.mk (Kd.R_lower ho0 (below_size (bl_ HB))); have n2_ := Az.mk (below_step (bl_ HB) hb); clear HO_9; clear HB; have HO_9 := n0_; have HO202 := n1_; have HB := n2_; clear n0_ n1_ n2_; (try clear hb); (try clear hb2); (try clear hk); (try clear hi); (try clear ho0); obtain ⟨Ao35, co35, eo35⟩ := Kd.R_slice HO202.out; subst eo35) | (go_at_call 27; (with_reducible refine (bytes_Equal.calls _ _ t199 _ _ l0 false _ ?side1 ?side2 ?side3 ?side4 A28.out).mono ?_); (case side1 => exact cl_ (Kd.R_reads' HO202.out).2.2); (case side2 => exact (Kd.R_reads' HO202.out).2.1); (case side3 => exact cl_ (Kd.C_below HR0.out HB.out)); (case side4 => exact HC0.out); rintro e w' ⟨rfl, ⟨nd, rfl⟩⟩))
             go_ret2
             exact ⟨_, er_, nl_, bl_ HB⟩
           ·rw [if_neg c27] at H
            have c27b0 : (t200 == 0) = false := beq_eq_false_iff_ne.mpr c27
            have c27b1 : (t200 != 0) = true := bne_iff_ne.mpr c27
            simp only [Option.some.injEq, Prod.mk.injEq] at H
            obtain ⟨rfl, rfl⟩ := H
            obtain ⟨Ao36, co36, eo36⟩ := Kd.R_slice HO_9.out
            subst eo36
            go_wp2_with (first | ((with_reducible refine gate_callee (f := 15) rfl ?_); refine goesL_ (some 62) rfl rfl Try.func15 (by kernel_rfl) rfl #[.slice Ao36 x9_2.length co36, .int .i64 (wrap64 (t184))] rfl ar_ ?_; (with_reducible refine (run_Encode.calls k2 _ _ x9_2 (wrap64 (t184)) t199 t200 _ ?side1 ?side2 A26.out).mono ?_); (case side1 => exact cl_ (Kd.R_reads' HO_9.out).2.2); (case side2 => exact (Kd.R_reads' HO_9.out).2.1); rintro e w37 ⟨v201, rfl, ho0, hb⟩; refine ⟨_, rfl, ?_⟩; have n0_ := Az.mk (Kd.R_below (rl_ HO_9.out) hb); have n1_ := Az.mk (Kd.R_lower ho0 (below_size (bl_ HB))); have n2_ := Az.mk (below_step (bl_ HB) hb); clear HO_9; clear HB; have HO_9 := n0_; have HO202 := n1_; have HB := n2_; clear n0_ n1_ n2_; (try clear hb); (try clear hb2); (try clear hk); (try clear hi); (try clear ho0)))
            go_ret2
            exact ⟨_, er_, nl_, bl_ HB⟩
       ·rw [if_neg c14] at H
        exact absurd H (by simp)
      ·rw [if_neg c13] at H
       exact absurd H (by simp)
  ·rw [if_neg c6] at H
   exact absurd H (by simp)
end Go.Proofs.Ytnabhfegbnfabaa.PRd
end
section
namespace Go.Proofs.Ytnabhfegbnfabaa.PRd
open Go.RowKit Go.Proofs.YtnabhfegbnfabaaW.PrintWords Go.Proofs.YtnabhfegbnfabaaW.PrintLast Go.Proofs.YtnabhfegbnfabaaW.PrintMore
attribute [local go_sem] max2_int min2_int max_two min_two max_three min_three max_four min_four
attribute [local go_sem] Go.Proofs.Ytnabhfegbnfabaa.MoreWords.str_leq Go.Proofs.Ytnabhfegbnfabaa.MoreWords.str_gtr Go.Proofs.Ytnabhfegbnfabaa.MoreWords.str_geq
set_option maxHeartbeats 8000000
set_option maxRecDepth 100000
set_option linter.unusedVariables false
set_option linter.unusedSimpArgs false
def rhd (l : List S36) : S36 := l.getD 0 z36
def ButOne (w w' : World) (g : Nat) : Prop := w'.os = w.os ∧ w'.tape = w.tape ∧ w'.output = w.output ∧ w.heap.size ≤ w'.heap.size ∧ ∀ k, k ≠ g → k < w.heap.size → w'.heap[k]? = w.heap[k]?
theorem ButOne.refl (w : World) (g : Nat) : ButOne w w g := ⟨rfl, rfl, rfl, Nat.le_refl _, fun _ _ _ => rfl⟩
theorem ButOne.blk {w w' : World} {g i : Nat} {o : Obj} (h : ButOne w w' g) (h1 : i ≠ g) (hb : w.heap[i]? = some o) : w'.heap[i]? = some o := (h.2.2.2.2 i h1 (blk_lt hb)).trans hb
theorem ButOne.low {w0 w w' : World} {g : Nat} (h : ButOne w w' g) (hb : Below w0.heap.size w0 w) (hg : w0.heap.size ≤ g) : Below w0.heap.size w0 w' :=
 ⟨h.1.trans hb.os, h.2.1.trans hb.tape, h.2.2.1.trans hb.output, Nat.le_trans hb.size h.2.2.2.1, fun k hk => (h.2.2.2.2 k (by omega) (Nat.lt_of_lt_of_le hk hb.size)).trans (hb.block k hk)⟩
theorem ButOne.of_below {w w' : World} (h : Below w.heap.size w w') (g : Nat) : ButOne w w' g := ⟨h.os, h.tape, h.output, h.size, fun k _ hk => h.block k hk⟩
theorem ButOne.trans {w w1 w2 : World} {g : Nat} (h : ButOne w w1 g) (k : ButOne w1 w2 g) : ButOne w w2 g :=
 ⟨k.1.trans h.1, k.2.1.trans h.2.1, k.2.2.1.trans h.2.2.1, Nat.le_trans h.2.2.2.1 k.2.2.2.1, fun i h1 h2 => (k.2.2.2.2 i h1 (Nat.lt_of_lt_of_le h2 h.2.2.2.1)).trans (h.2.2.2.2 i h1 h2)⟩
theorem ButOne.put {w w' : World} {g : Nat} (h : ButOne w w' g) (i : Nat) (u : Value) : ButOne w (w'.setCell ⟨g, i, none⟩ u) g :=
 ⟨h.1, h.2.1, h.2.2.1, by simpa [World.size_setCell] using h.2.2.2.1, fun k h1 h2 => (Below.heap_setCell _ ⟨g, i, none⟩ u k (by simpa using h1)).trans (h.2.2.2.2 k h1 h2)⟩
theorem ButOne.alloc {w w' : World} {g : Nat} (h : ButOne w w' g) (o : Obj) : ButOne w (w'.alloc o) g := h.trans (ButOne.of_below (below_alloc (Below.refl _ _) o) g)
theorem ButOne.drewN {w w' : World} {g : Nat} (h : ButOne w w' g) (n : Nat) : ButOne w (w'.drewN n) g := h.trans (ButOne.of_below (pw_below_drewN (Below.refl _ _) n) g)
theorem ButOne.setNew {w w' : World} {g b : Nat} (h : ButOne w w' g) (hb : w.heap.size ≤ b) (i : Nat) (u : Value) : ButOne w (w'.setCell ⟨b, i, none⟩ u) g :=
 ⟨h.1, h.2.1, h.2.2.1, by simpa [World.size_setCell] using h.2.2.2.1, fun k h1 h2 => (Below.heap_setCell _ ⟨b, i, none⟩ u k (by simp only; omega)).trans (h.2.2.2.2 k h1 h2)⟩
structure ReaderIs (base : Nat) (w : World) (g : Nat) (l : List S36) : Prop where
 blk : ∃ A c, w.heap[g]? = some (.cells #[.slice A l.length c] 54 (0, 0)) ∧ l.length ≤ c ∧ Kd.F k36 w (fun k => base ≤ k ∧ k < g) A l.length l
 ge : base ≤ g
theorem ReaderIs.lt {w : World} {base g : Nat} {l : List S36} (h : ReaderIs base w g l) : g < w.heap.size := by
 obtain ⟨A, c, hb, _⟩ := h.blk
 exact blk_lt hb
theorem ReaderIs.move {w w' : World} {base g : Nat} {l : List S36} (h : ReaderIs base w g l) (hb : ∀ k, base ≤ k → k ≤ g → w'.heap[k]? = w.heap[k]?) : ReaderIs base w' g l := by
 obtain ⟨A, c, h1, h2, h3⟩ := h.blk
 exact ⟨⟨A, c, (hb g h.ge (Nat.le_refl _)).trans h1, h2, Kd.F_step h3 (fun k hk _ => hb k hk.1 (Nat.le_of_lt hk.2))⟩, h.ge⟩
theorem ReaderIs.below {w w' : World} {base g : Nat} {l : List S36} (h : ReaderIs base w g l) (hb : Below w.heap.size w w') : ReaderIs base w' g l := h.move (fun k _ hk => hb.block k (Nat.lt_of_le_of_lt hk h.lt))
theorem ReaderIs.alloc {w : World} {base g : Nat} {l : List S36} (h : ReaderIs base w g l) (o : Obj) : ReaderIs base (w.alloc o) g l := h.below (below_alloc (Below.refl _ _) o)
theorem ReaderIs.drewN {w : World} {base g : Nat} {l : List S36} (h : ReaderIs base w g l) (n : Nat) : ReaderIs base (w.drewN n) g l := h.below (pw_below_drewN (Below.refl _ _) n)
theorem ReaderIs.far {w : World} {base g b : Nat} {l : List S36} (h : ReaderIs base w g l) (hb : b < base ∨ g < b) (i : Nat) (u : Value) : ReaderIs base (w.setCell ⟨b, i, none⟩ u) g l :=
 h.move (fun k h1 h2 => Below.heap_setCell _ ⟨b, i, none⟩ u k (by simp only; omega))
theorem ReaderIs.head {w : World} {base g : Nat} {l : List S36} (h : ReaderIs base w g l) (hp : l.length ≠ 0) :
  ∃ ad c, w.heap[g]? = some (.cells #[.slice (some ad) l.length c] 54 (0, 0)) ∧ l.length ≤ c ∧ w.cell? ad = some (.string (rhd l).f0) ∧ w.cell? ⟨ad.block, ad.off + 1, none⟩ = some (.int .u64 (rhd l).f1) ∧ Kd.F k36 w (fun k => base ≤ k ∧ k < g) (some ad) l.length l := by
 obtain ⟨A, c, h1, h2, h3⟩ := h.blk
 obtain ⟨ad, rfl, h4, h5⟩ := at_T36 (Kd.F_now h3) 0 (Int.le_refl _) (by omega)
 have eh : rd_T36 l 0 = rhd l := rfl
 rw [show ((0 : Int)).toNat = 0 from rfl, show 0 * 2 = 0 from rfl, Addr.add_zero'] at h4 h5
 rw [eh] at h4 h5
 exact ⟨ad, c, h1, h2, h4, h5, h3⟩
theorem rhd_nil {l : List S36} (h : l.length = 0) : rhd l = z36 := by rw [List.eq_nil_of_length_eq_zero h]; rfl
theorem reader_Peek.calls (base : Nat) (w : World) (g : Nat) (l : List S36) (hR : ReaderIs base w g l) :
  Calls Try.prog 12 #[.pointer (some ⟨g, 0, none⟩)] w fun e w' => e = .returned (.tuple #[.agg #[.string (rhd l).f0, .int .u64 (rhd l).f1], .bool (decide (l.length ≠ 0))]) ∧ ReaderIs base w' g l ∧ Below w.heap.size w w' := by
 have HR := Az.mk hR
 clear hR
 go_enter Try.func12, Try.ntmps12
 go_upto_region 1 with (fail)
 have HR1 := Az.mk (HR.out.alloc (.cells #[.string ⟨#[]⟩, .int .u64 0] 36 (0, 0)))
 have hbk : (w.alloc (.cells #[.string ⟨#[]⟩, .int .u64 0] 36 (0, 0))).heap[w.heap.size]? = some (.cells #[.string ⟨#[]⟩, .int .u64 0] 36 (0, 0)) := blk_new _ _
 have HB1 := Az.mk (below_alloc (Below.refl w.heap.size w) (.cells #[.string ⟨#[]⟩, .int .u64 0] 36 (0, 0)))
 obtain ⟨W1, hW1⟩ : ∃ W1, W1 = w.alloc (.cells #[.string ⟨#[]⟩, .int .u64 0] 36 (0, 0)) := ⟨_, rfl⟩
 rw [← hW1] at HR1 hbk HB1 ⊢
 obtain ⟨b, hb⟩ : ∃ b, b = w.heap.size := ⟨_, rfl⟩
 have hgb : g < b := by have := HR.out.lt; omega
 rw [← hb] at hbk ⊢
 have BK := Az.mk hbk
 have HBG := Az.mk hgb
 have HBW := Az.mk (Nat.le_of_eq hb.symm)
 clear hW1 hbk hb hgb
 have hf0 := blk_frozen BK.out 0
 have hb0 : W1.cell? ⟨b, 0, none⟩ = some (.string ⟨#[]⟩) := blk_cell BK.out 0
 have hb1 : W1.cell? ⟨b, 1, none⟩ = some (.int .u64 0) := blk_cell BK.out 1
 have hf1 := blk_frozen BK.out 1
 by_cases c1 : l.length = 0
 ·obtain ⟨A, c, h1, h2, h3⟩ := HR1.out.blk
  have hc0 : W1.cell? ⟨g, 0, none⟩ = some (.slice A l.length c) := blk_cell h1 0
  have e1 : ((l.length : Int) == 0) = true := beq_iff_eq.mpr (by omega)
  have EZ := Az.mk (rhd_nil c1)
  have ED := Az.mk (decide_eq_false (by omega : ¬ l.length ≠ 0))
  clear h1 h2 h3 c1
  go_wp2
  refine bodyPost_ret (results_ct rfl _ _ b 36 #[.string (⟨#[]⟩ : ByteArray), .int .u64 0] (0, 0) _ rfl (by (with_reducible repeat (first | refine blk_drewN ?_ _ | refine blk_drew ?_ | refine blk_alloc ?_ _)); refine blk_put (cs := #[.string (⟨#[]⟩ : ByteArray), .int .u64 0]) ?_ 1 _ rfl; (with_reducible repeat (first | refine blk_drewN ?_ _ | refine blk_drew ?_ | refine blk_alloc ?_ _)); refine blk_put (cs := #[.string (⟨#[]⟩ : ByteArray), .int .u64 0]) ?_ 0 _ rfl; exact BK.out) Try.underlying36 rfl (by kernel_rfl)) rfl ?_
  exact ⟨by rw [EZ.out, ED.out]; rfl, (HR1.out.far (.inr HBG.out) 0 _).far (.inr HBG.out) 1 _, below_set (below_set HB1.out HBW.out) HBW.out⟩
 ·obtain ⟨ad, c, h1, h2, h3, h4, _⟩ := HR1.out.head c1
  have hc0 : W1.cell? ⟨g, 0, none⟩ = some (.slice (some ad) l.length c) := blk_cell h1 0
  have e1 : ((l.length : Int) == 0) = false := beq_eq_false_iff_ne.mpr (by omega)
  have i1 : ((0 : Int) < (l.length : Int)) = True := eq_true (by omega)
  have i3 : (0 < l.length) = True := eq_true (by omega)
  have ED := Az.mk (decide_eq_true (by omega : l.length ≠ 0))
  clear h1 h2 c1
  go_wp2
  refine bodyPost_ret (results_ct rfl _ _ b 36 #[.string (rhd l).f0, .int .u64 (rhd l).f1] (0, 0) _ rfl (by (with_reducible repeat (first | refine blk_drewN ?_ _ | refine blk_drew ?_ | refine blk_alloc ?_ _)); refine blk_put (cs := #[.string (rhd l).f0, .int .u64 0]) ?_ 1 _ rfl; (with_reducible repeat (first | refine blk_drewN ?_ _ | refine blk_drew ?_ | refine blk_alloc ?_ _)); refine blk_put (cs := #[.string (⟨#[]⟩ : ByteArray), .int .u64 0]) ?_ 0 _ rfl; exact BK.out) Try.underlying36 rfl (by kernel_rfl)) rfl ?_
  exact ⟨by rw [ED.out]; rfl, (HR1.out.far (.inr HBG.out) 0 _).far (.inr HBG.out) 1 _, below_set (below_set HB1.out HBW.out) HBW.out⟩
theorem k36_sz : k36.sz = 2 := rfl
theorem reader_Next.calls (base : Nat) (w : World) (g : Nat) (l : List S36) (hR : ReaderIs base w g l) :
  Calls Try.prog 10 #[.pointer (some ⟨g, 0, none⟩)] w fun e w' => e = .returned (.tuple #[.agg #[.string (rhd l).f0, .int .u64 (rhd l).f1], .bool (decide (l.length ≠ 0))]) ∧ ReaderIs base w' g (l.drop 1) ∧ ButOne w w' g := by
 have HR := Az.mk hR
 clear hR
 go_enter Try.func10, Try.ntmps10
 go_upto_region 1 with (fail)
 have HR1 := Az.mk (HR.out.alloc (.cells #[.string ⟨#[]⟩, .int .u64 0] 36 (0, 0)))
 have hbk : (w.alloc (.cells #[.string ⟨#[]⟩, .int .u64 0] 36 (0, 0))).heap[w.heap.size]? = some (.cells #[.string ⟨#[]⟩, .int .u64 0] 36 (0, 0)) := blk_new _ _
 have HB1 := Az.mk (below_alloc (Below.refl w.heap.size w) (.cells #[.string ⟨#[]⟩, .int .u64 0] 36 (0, 0)))
 obtain ⟨W1, hW1⟩ : ∃ W1, W1 = w.alloc (.cells #[.string ⟨#[]⟩, .int .u64 0] 36 (0, 0)) := ⟨_, rfl⟩
 rw [← hW1] at HR1 hbk HB1 ⊢
 obtain ⟨b, hb⟩ : ∃ b, b = w.heap.size := ⟨_, rfl⟩
 have hgb : g < b := by have := HR.out.lt; omega
 rw [← hb] at hbk ⊢
 have BK := Az.mk hbk
 have HBG := Az.mk hgb
 have HBW := Az.mk (Nat.le_of_eq hb.symm)
 clear hW1 hbk hb hgb
 by_cases c1 : l.length = 0
 ·have ED := Az.mk (decide_eq_false (by omega : ¬ l.length ≠ 0))
  have EL := Az.mk (List.eq_nil_of_length_eq_zero c1)
  clear c1
  go_upto_region 2 with (go_at_call 12; refine (reader_Peek.calls base _ g l HR1.out).mono ?_; rintro e_ W2 ⟨he_, hR2, hB2⟩; rw [ED.out] at he_; subst he_; have HR2 := Az.mk hR2; have HB2 := Az.mk (below_step HB1.out hB2); have BK2 := Az.mk ((hB2.block _ (blk_lt BK.out)).trans BK.out); clear hR2 hB2)
  have HR3 := Az.mk (HR2.out.alloc (.cells #[.string (rhd l).f0, .int .u64 (rhd l).f1] 36 (0, 0)))
  have hbx : (W2.alloc (.cells #[.string (rhd l).f0, .int .u64 (rhd l).f1] 36 (0, 0))).heap[W2.heap.size]? = some (.cells #[.string (rhd l).f0, .int .u64 (rhd l).f1] 36 (0, 0)) := blk_new _ _
  have hbk := blk_alloc BK2.out (.cells #[.string (rhd l).f0, .int .u64 (rhd l).f1] 36 (0, 0))
  have HB3 := Az.mk (below_alloc HB2.out (.cells #[.string (rhd l).f0, .int .u64 (rhd l).f1] 36 (0, 0)))
  have hbx2 : b ≠ W2.heap.size := by have := blk_lt BK2.out; omega
  have hgx : g ≠ W2.heap.size := by have := HR2.out.lt; omega
  obtain ⟨W3, hW3⟩ : ∃ W3, W3 = W2.alloc (.cells #[.string (rhd l).f0, .int .u64 (rhd l).f1] 36 (0, 0)) := ⟨_, rfl⟩
  rw [← hW3] at HR3 hbx hbk HB3 ⊢
  obtain ⟨bx, hx⟩ : ∃ bx, bx = W2.heap.size := ⟨_, rfl⟩
  rw [← hx] at hbx hbx2 hgx ⊢
  have BX3 := Az.mk hbx
  have BK3 := Az.mk hbk
  have HNX := Az.mk hbx2
  have HGX := Az.mk hgx
  clear hW3 hx hbx hbk hbx2 hgx HR2 HB2 BK2 HR1 HB1 BK
  have hf0 := blk_frozen BK3.out 0
  have hb0 : W3.cell? ⟨b, 0, none⟩ = some (.string ⟨#[]⟩) := blk_cell BK3.out 0
  have hb1 : W3.cell? ⟨b, 1, none⟩ = some (.int .u64 0) := blk_cell BK3.out 1
  have hf1 := blk_frozen BK3.out 1
  have hx0 : W3.cell? ⟨bx, 0, none⟩ = some (.string (rhd l).f0) := blk_cell BX3.out 0
  have hx1 : W3.cell? ⟨bx, 1, none⟩ = some (.int .u64 (rhd l).f1) := blk_cell BX3.out 1
  go_wp2
  refine bodyPost_ret (results_ct rfl _ _ b 36 #[.string (rhd l).f0, .int .u64 (rhd l).f1] (0, 0) _ rfl (by (with_reducible repeat (first | refine blk_drewN ?_ _ | refine blk_drew ?_ | refine blk_alloc ?_ _)); refine blk_put (cs := #[.string (rhd l).f0, .int .u64 0]) ?_ 1 _ rfl; (with_reducible repeat (first | refine blk_drewN ?_ _ | refine blk_drew ?_ | refine blk_alloc ?_ _)); refine blk_put (cs := #[.string (⟨#[]⟩ : ByteArray), .int .u64 0]) ?_ 0 _ rfl; exact BK3.out) Try.underlying36 rfl (by kernel_rfl)) rfl ?_
  refine ⟨by rw [ED.out]; rfl, ?_, ((ButOne.of_below HB3.out g).setNew HBW.out 0 _).setNew HBW.out 1 _⟩
  have hr := (HR3.out.far (.inr HBG.out) 0 (Value.string (rhd l).f0)).far (.inr HBG.out) 1 (Value.int .u64 (rhd l).f1)
  rw [EL.out] at hr ⊢
  exact hr
 ·have ED := Az.mk (decide_eq_true (by omega : l.length ≠ 0))
  have C1 := Az.mk c1
  clear c1
  go_upto_region 2 with (go_at_call 12; refine (reader_Peek.calls base _ g l HR1.out).mono ?_; rintro e_ W2 ⟨he_, hR2, hB2⟩; rw [ED.out] at he_; subst he_; have HR2 := Az.mk hR2; have HB2 := Az.mk (below_step HB1.out hB2); have BK2 := Az.mk ((hB2.block _ (blk_lt BK.out)).trans BK.out); clear hR2 hB2)
  have HR3 := Az.mk (HR2.out.alloc (.cells #[.string (rhd l).f0, .int .u64 (rhd l).f1] 36 (0, 0)))
  have hbx : (W2.alloc (.cells #[.string (rhd l).f0, .int .u64 (rhd l).f1] 36 (0, 0))).heap[W2.heap.size]? = some (.cells #[.string (rhd l).f0, .int .u64 (rhd l).f1] 36 (0, 0)) := blk_new _ _
  have hbk := blk_alloc BK2.out (.cells #[.string (rhd l).f0, .int .u64 (rhd l).f1] 36 (0, 0))
  have HB3 := Az.mk (below_alloc HB2.out (.cells #[.string (rhd l).f0, .int .u64 (rhd l).f1] 36 (0, 0)))
  have hbx2 : b ≠ W2.heap.size := by have := blk_lt BK2.out; omega
  have hgx : g ≠ W2.heap.size := by have := HR2.out.lt; omega
  obtain ⟨W3, hW3⟩ : ∃ W3, W3 = W2.alloc (.cells #[.string (rhd l).f0, .int .u64 (rhd l).f1] 36 (0, 0)) := ⟨_, rfl⟩
  rw [← hW3] at HR3 hbx hbk HB3 ⊢
  obtain ⟨bx, hx⟩ : ∃ bx, bx = W2.heap.size := ⟨_, rfl⟩
  rw [← hx] at hbx hbx2 hgx ⊢
  have BX3 := Az.mk hbx
  have BK3 := Az.mk hbk
  have HNX := Az.mk hbx2
  have HGX := Az.mk hgx
  clear hW3 hx hbx hbk hbx2 hgx HR2 HB2 BK2 HR1 HB1 BK
  have hf0 := blk_frozen BK3.out 0
  have hb0 : W3.cell? ⟨b, 0, none⟩ = some (.string ⟨#[]⟩) := blk_cell BK3.out 0
  have hb1 : W3.cell? ⟨b, 1, none⟩ = some (.int .u64 0) := blk_cell BK3.out 1
  have hf1 := blk_frozen BK3.out 1
  have hx0 : W3.cell? ⟨bx, 0, none⟩ = some (.string (rhd l).f0) := blk_cell BX3.out 0
  have hx1 : W3.cell? ⟨bx, 1, none⟩ = some (.int .u64 (rhd l).f1) := blk_cell BX3.out 1
  go_upto_region 3 with (fail)
  obtain ⟨ad, c, h1, h2, h3, h4, h5⟩ := HR3.out.head C1.out
  have hc0 : W3.cell? ⟨g, 0, none⟩ = some (.slice (some ad) l.length c) := blk_cell h1 0
  have hfg : W3.frozen? ⟨g, 0, none⟩ = false := blk_frozen h1 0
  have h2' : (l.length : Int) ≤ (c : Int) := by omega
  have hl1 : (1 : Int) ≤ (l.length : Int) := by have := C1.out; omega
  go_region
  have hC := Kd.F_cut (m := 1) (c := l.length) h5 (by have := C1.out; omega) (Nat.le_refl _)
  rw [k36_sz] at hC
  have hA : (if l.length = 1 then some ad else (some ad).map (·.add (1 * 2))) = (if l.length = 1 then some ad else some ⟨ad.block, ad.off + 2, none⟩) := rfl
  rw [hA] at hC
  generalize (if l.length = 1 then some ad else some ⟨ad.block, ad.off + 2, none⟩ : Option Addr) = A3 at hC ⊢
  have hld : l.length - 1 = (l.drop 1).length := List.length_drop.symm
  rw [hld]
  have hr4 : ReaderIs base (W3.setCell ⟨g, 0, none⟩ (.slice A3 (l.drop 1).length (l.drop 1).length)).drew g (l.drop 1) := by
   refine ⟨⟨A3, (l.drop 1).length, blk_drew (blk_put h1 0 _ rfl), Nat.le_refl _, Kd.F_drew (Kd.F_far hC (p := ⟨g, 0, none⟩) (fun k hk => by show k ≠ g; omega) _)⟩, HR3.out.ge⟩
  have hb4 : ButOne w (W3.setCell ⟨g, 0, none⟩ (.slice A3 (l.drop 1).length (l.drop 1).length)).drew g := ((ButOne.of_below HB3.out g).put 0 _).drewN 1
  have bk4 := blk_drew (blk_far BK3.out (p := ⟨g, 0, none⟩) (by have := HBG.out; show b ≠ g; omega) (.slice A3 (l.drop 1).length (l.drop 1).length))
  have bx4 := blk_drew (blk_far BX3.out (p := ⟨g, 0, none⟩) (by have := HGX.out; show bx ≠ g; omega) (.slice A3 (l.drop 1).length (l.drop 1).length))
  generalize (W3.setCell ⟨g, 0, none⟩ (.slice A3 (l.drop 1).length (l.drop 1).length)).drew = W4 at hr4 hb4 bk4 bx4 ⊢
  have HR4 := Az.mk hr4
  have HB4 := Az.mk hb4
  have BK4 := Az.mk bk4
  clear h1 h2 h3 h4 h5 hc0 hfg h2' hl1 hC hA hr4 hb4 bk4 hf0 hb0 hb1 hf1 hx0 hx1 hld
  have hf0 := blk_frozen BK4.out 0
  have hb0 : W4.cell? ⟨b, 0, none⟩ = some (.string ⟨#[]⟩) := blk_cell BK4.out 0
  have hb1 : W4.cell? ⟨b, 1, none⟩ = some (.int .u64 0) := blk_cell BK4.out 1
  have hf1 := blk_frozen BK4.out 1
  have hx0 : W4.cell? ⟨bx, 0, none⟩ = some (.string (rhd l).f0) := blk_cell bx4 0
  have hx1 : W4.cell? ⟨bx, 1, none⟩ = some (.int .u64 (rhd l).f1) := blk_cell bx4 1
  clear bx4
  go_wp2
  refine bodyPost_ret (results_ct rfl _ _ b 36 #[.string (rhd l).f0, .int .u64 (rhd l).f1] (0, 0) _ rfl (by (with_reducible repeat (first | refine blk_drewN ?_ _ | refine blk_drew ?_ | refine blk_alloc ?_ _)); refine blk_put (cs := #[.string (rhd l).f0, .int .u64 0]) ?_ 1 _ rfl; (with_reducible repeat (first | refine blk_drewN ?_ _ | refine blk_drew ?_ | refine blk_alloc ?_ _)); refine blk_put (cs := #[.string (⟨#[]⟩ : ByteArray), .int .u64 0]) ?_ 0 _ rfl; exact BK4.out) Try.underlying36 rfl (by kernel_rfl)) rfl ?_
  exact ⟨by rw [ED.out]; rfl, (HR4.out.far (.inr HBG.out) 0 _).far (.inr HBG.out) 1 _, (HB4.out.setNew HBW.out 0 _).setNew HBW.out 1 _⟩
theorem reader_Open.calls (k : Nat) (A0 : Option Addr) (c0 : Nat) (l0 : List Int) (r1 : List S36) (r2 : Int) (w : World) (hr0 : Kd.C (Kd.int .u8) w A0 l0.length l0) (hc0 : l0.length ≤ c0) (h : run_Decode.f k l0 = some (r1, r2)) :
  Calls Try.prog 8 #[.slice A0 l0.length c0] w fun e w' => Below w.heap.size w w' ∧ ((r2 ≠ 0 ∧ e = .returned (.tuple #[.pointer none, .int .i64 r2])) ∨
   (r2 = 0 ∧ ∃ g, e = .returned (.tuple #[.pointer (some ⟨g, 0, none⟩), .int .i64 0]) ∧ ReaderIs w.heap.size w' g r1)) := by
 have HR0 := Az.mk hr0
 have HC0 := Az.mk hc0
 have H := Az.mk h
 clear hr0 hc0 h
 by_cases c1 : r2 = 0
 ·subst c1
  go_enter Try.func8, Try.ntmps8
  go_wp2_with (go_at_call 17; refine (run_Decode.calls k _ _ l0 r1 0 _ HR0.out HC0.out H.out).mono ?_; rintro e_ W1 ⟨v1, rfl, ho, hb⟩; have HO := Az.mk ho; have HB := Az.mk hb; obtain ⟨A, c, rfl⟩ := Kd.R_slice ho; clear ho hb)
  obtain ⟨A_, c_, e_, hlc, hF⟩ := Kd.R_V (base' := 0) (Kd.R_bound HO.out)
  injection e_ with e1_ e2_ e3_
  subst e1_ e3_
  have hnew : ReaderIs w.heap.size (W1.alloc (.cells #[.slice A r1.length c] 54)) W1.heap.size r1 := ⟨⟨A, c, blk_new _ _, hlc, Kd.F_alloc (Kd.F_mono hF (fun k hk => ⟨hk.2.1, hk.2.2.1⟩)) _⟩, HB.out.size⟩
  all_goals (go_ret2; exact ⟨below_alloc HB.out _, .inr ⟨trivial, _, rfl, hnew⟩⟩)
 ·have e1 : (r2 != 0) = true := bne_iff_ne.mpr c1
  have C1 := Az.mk c1
  clear c1
  go_enter Try.func8, Try.ntmps8
  go_wp2_with (go_at_call 17; refine (run_Decode.calls k _ _ l0 r1 r2 _ HR0.out HC0.out H.out).mono ?_; rintro e_ W1 ⟨v1, rfl, ho, hb⟩; have HB := Az.mk hb; obtain ⟨A, c, rfl⟩ := Kd.R_slice ho; clear ho hb)
  go_ret2
  exact ⟨HB.out, .inl ⟨C1.out, rfl⟩⟩
theorem reader_Left.calls (base : Nat) (w : World) (g : Nat) (l : List S36) (hR : ReaderIs base w g l) :
  Calls Try.prog 14 #[.pointer (some ⟨g, 0, none⟩)] w fun e w' => e = .returned (.int .i64 (l.length : Int)) ∧ w' = w := by
 obtain ⟨A, c, h1, h2, h3⟩ := hR.blk
 have hc0 : w.cell? ⟨g, 0, none⟩ = some (.slice A l.length c) := blk_cell h1 0
 clear h1 h2 h3 hR
 go_enter Try.func14, Try.ntmps14
 go_wp2
 go_ret
 exact ⟨rfl, rfl⟩
theorem reader_Left.nil (w : World) :
  Calls Try.prog 14 #[.pointer none] w fun e w' => e = .returned (.int .i64 0) ∧ w' = w := by
 go_enter Try.func14, Try.ntmps14
 go_wp2
 go_ret
 exact ⟨rfl, rfl⟩
theorem reader_Peek.nil (w : World) :
  Calls Try.prog 12 #[.pointer none] w fun e w' => e = .returned (.tuple #[.agg #[.string ⟨#[]⟩, .int .u64 0], .bool false]) ∧ Below w.heap.size w w' := by
 go_enter Try.func12, Try.ntmps12
 go_upto_region 1 with (fail)
 have hbk : (w.alloc (.cells #[.string ⟨#[]⟩, .int .u64 0] 36 (0, 0))).heap[w.heap.size]? = some (.cells #[.string ⟨#[]⟩, .int .u64 0] 36 (0, 0)) := blk_new _ _
 have HB1 := Az.mk (below_alloc (Below.refl w.heap.size w) (.cells #[.string ⟨#[]⟩, .int .u64 0] 36 (0, 0)))
 obtain ⟨W1, hW1⟩ : ∃ W1, W1 = w.alloc (.cells #[.string ⟨#[]⟩, .int .u64 0] 36 (0, 0)) := ⟨_, rfl⟩
 rw [← hW1] at hbk HB1 ⊢
 obtain ⟨b, hb⟩ : ∃ b, b = w.heap.size := ⟨_, rfl⟩
 rw [← hb] at hbk ⊢
 have BK := Az.mk hbk
 have HBW := Az.mk (Nat.le_of_eq hb.symm)
 clear hW1 hbk hb
 have hf0 := blk_frozen BK.out 0
 have hb0 : W1.cell? ⟨b, 0, none⟩ = some (.string ⟨#[]⟩) := blk_cell BK.out 0
 have hb1 : W1.cell? ⟨b, 1, none⟩ = some (.int .u64 0) := blk_cell BK.out 1
 have hf1 := blk_frozen BK.out 1
 go_wp2
 refine bodyPost_ret (results_ct rfl _ _ b 36 #[.string (⟨#[]⟩ : ByteArray), .int .u64 0] (0, 0) _ rfl (by (with_reducible repeat (first | refine blk_drewN ?_ _ | refine blk_drew ?_ | refine blk_alloc ?_ _)); refine blk_put (cs := #[.string (⟨#[]⟩ : ByteArray), .int .u64 0]) ?_ 1 _ rfl; (with_reducible repeat (first | refine blk_drewN ?_ _ | refine blk_drew ?_ | refine blk_alloc ?_ _)); refine blk_put (cs := #[.string (⟨#[]⟩ : ByteArray), .int .u64 0]) ?_ 0 _ rfl; exact BK.out) Try.underlying36 rfl (by kernel_rfl)) rfl ?_
 exact ⟨rfl, below_set (below_set HB1.out HBW.out) HBW.out⟩
theorem reader_Next.nil (w : World) :
  Calls Try.prog 10 #[.pointer none] w fun e w' => e = .returned (.tuple #[.agg #[.string ⟨#[]⟩, .int .u64 0], .bool false]) ∧ Below w.heap.size w w' := by
 go_enter Try.func10, Try.ntmps10
 go_upto_region 1 with (fail)
 have hbk : (w.alloc (.cells #[.string ⟨#[]⟩, .int .u64 0] 36 (0, 0))).heap[w.heap.size]? = some (.cells #[.string ⟨#[]⟩, .int .u64 0] 36 (0, 0)) := blk_new _ _
 have HB1 := Az.mk (below_alloc (Below.refl w.heap.size w) (.cells #[.string ⟨#[]⟩, .int .u64 0] 36 (0, 0)))
 obtain ⟨W1, hW1⟩ : ∃ W1, W1 = w.alloc (.cells #[.string ⟨#[]⟩, .int .u64 0] 36 (0, 0)) := ⟨_, rfl⟩
 rw [← hW1] at hbk HB1 ⊢
 obtain ⟨b, hb⟩ : ∃ b, b = w.heap.size := ⟨_, rfl⟩
 rw [← hb] at hbk ⊢
 have BK := Az.mk hbk
 have HBW := Az.mk (Nat.le_of_eq hb.symm)
 clear hW1 hbk hb
 go_upto_region 2 with (go_at_call 12; refine (reader_Peek.nil _).mono ?_; rintro e_ W2 ⟨rfl, hB2⟩; have HB2 := Az.mk (below_step HB1.out hB2); have BK2 := Az.mk ((hB2.block _ (blk_lt BK.out)).trans BK.out); clear hB2)
 have hbx : (W2.alloc (.cells #[.string ⟨#[]⟩, .int .u64 0] 36 (0, 0))).heap[W2.heap.size]? = some (.cells #[.string ⟨#[]⟩, .int .u64 0] 36 (0, 0)) := blk_new _ _
 have hbk := blk_alloc BK2.out (.cells #[.string ⟨#[]⟩, .int .u64 0] 36 (0, 0))
 have HB3 := Az.mk (below_alloc HB2.out (.cells #[.string ⟨#[]⟩, .int .u64 0] 36 (0, 0)))
 have hbx2 : b ≠ W2.heap.size := by have := blk_lt BK2.out; omega
 obtain ⟨W3, hW3⟩ : ∃ W3, W3 = W2.alloc (.cells #[.string ⟨#[]⟩, .int .u64 0] 36 (0, 0)) := ⟨_, rfl⟩
 rw [← hW3] at hbx hbk HB3 ⊢
 obtain ⟨bx, hx⟩ : ∃ bx, bx = W2.heap.size := ⟨_, rfl⟩
 rw [← hx] at hbx hbx2 ⊢
 have BX3 := Az.mk hbx
 have BK3 := Az.mk hbk
 have HNX := Az.mk hbx2
 clear hW3 hx hbx hbk hbx2 HB2 BK2 HB1 BK
 have hf0 := blk_frozen BK3.out 0
 have hb0 : W3.cell? ⟨b, 0, none⟩ = some (.string ⟨#[]⟩) := blk_cell BK3.out 0
 have hb1 : W3.cell? ⟨b, 1, none⟩ = some (.int .u64 0) := blk_cell BK3.out 1
 have hf1 := blk_frozen BK3.out 1
 have hx0 : W3.cell? ⟨bx, 0, none⟩ = some (.string ⟨#[]⟩) := blk_cell BX3.out 0
 have hx1 : W3.cell? ⟨bx, 1, none⟩ = some (.int .u64 0) := blk_cell BX3.out 1
 go_wp2
 refine bodyPost_ret (results_ct rfl _ _ b 36 #[.string (⟨#[]⟩ : ByteArray), .int .u64 0] (0, 0) _ rfl (by (with_reducible repeat (first | refine blk_drewN ?_ _ | refine blk_drew ?_ | refine blk_alloc ?_ _)); refine blk_put (cs := #[.string (⟨#[]⟩ : ByteArray), .int .u64 0]) ?_ 1 _ rfl; (with_reducible repeat (first | refine blk_drewN ?_ _ | refine blk_drew ?_ | refine blk_alloc ?_ _)); refine blk_put (cs := #[.string (⟨#[]⟩ : ByteArray), .int .u64 0]) ?_ 0 _ rfl; exact BK3.out) Try.underlying36 rfl (by kernel_rfl)) rfl ?_
 exact ⟨rfl, below_set (below_set HB3.out HBW.out) HBW.out⟩
def exOne : S36 := ⟨(⟨#[97]⟩ : ByteArray), 1⟩
def l10_shown.f (k : Nat) : Option Bool := (run_Encode.f k [exOne] 1).bind fun r => (run_Decode.f k r.1).bind fun d => if r.2 = 0 ∧ d.2 = 0 ∧ d.1.length = 1 ∧ (rhd d.1).f0.toList = [97] ∧ (rhd d.1).f1 = 1 then some true else none
theorem l10_shown.calls (k : Nat) (r : Bool) (w : World) (h : l10_shown.f k = some r) :
  Calls Try.prog 7 #[] w fun e w' => e = .returned (.bool r) ∧ Below w.heap.size w w' := by
 unfold l10_shown.f at h
 replace h := Option.bind_eq_some_iff.mp h
 obtain ⟨⟨B, e1⟩, hE, h⟩ := h
 replace h := Option.bind_eq_some_iff.mp h
 obtain ⟨⟨L, e2⟩, hD, h⟩ := h
 by_cases hc : e1 = 0 ∧ e2 = 0 ∧ L.length = 1 ∧ (rhd L).f0.toList = [97] ∧ (rhd L).f1 = 1
 case neg => rw [if_neg hc] at h; exact absurd h (by simp)
 rw [if_pos hc] at h
 obtain rfl := Option.some.inj h
 obtain ⟨rfl, rfl, hl1, hw1, hn1⟩ := hc
 clear h
 have hx : (rhd L).f0 = (⟨#[97]⟩ : ByteArray) := ByteArray.ext (Array.ext' (by simpa [ByteArray.toList_eq] using hw1))
 have HX := Az.mk hx
 have HN := Az.mk hn1
 have HL := Az.mk hl1
 obtain ⟨y, hy⟩ : ∃ y : List S36, y = [exOne] := ⟨_, rfl⟩
 rw [← hy] at hE
 have Ny := Az.mk hy
 have HE := Az.mk hE
 have HD := Az.mk hD
 have ED := Az.mk (decide_eq_true (by omega : L.length ≠ 0))
 obtain ⟨M, hM⟩ : ∃ M, M = L.drop 1 := ⟨_, rfl⟩
 have EF := Az.mk (decide_eq_false (by rw [hM, List.length_drop]; omega : ¬ M.length ≠ 0))
 have EM := Az.mk hM
 clear hM
 clear hy hE hD hx hn1 hl1 hw1
 go_enter Try.func7, Try.ntmps7
 go_upto_region 3 with (first | ((with_reducible refine gate_dst (N := 13) rfl ?_); (try (refine gate_guard (by rfl) ?_; dsimp only)); refine Kd.R_lit k36 _ 36 ?hg (N := 13) ?hd (xs := [exOne]) (inner := [.string (⟨#[97]⟩ : ByteArray), .int .u64 1]) (ok := fun _ => True) (okp := fun _ => True) ?hr ?hp (fun _ hk => hk) trivial (Below.refl _ _) (Nat.le_refl _) (by simp) ?_; (case hd => rfl); (case hg => rfl); (case hr => first | (go_simp; done) | (go_simp; rfl)); (case hp => exact (Reps.c2 (show Kd.M k36 _ _ _ exOne [.string (⟨#[97]⟩ : ByteArray), .int .u64 1] from (k36_mkM _ _ _ exOne)) (Reps.none _ _))); intro v1 W1 ho hb hg_ hnew_; clear hg_ hnew_; rw [← Ny.out] at ho; have HO1 := Az.mk ho; have HB1 := Az.mk hb; clear hb ho; obtain ⟨A1, c1, e1⟩ := Kd.R_slice HO1.out; subst e1) | (go_at_call 15; refine (run_Encode.calls k _ _ y 1 B 0 _ (Kd.R_reads' HO1.out).2.2 (Kd.R_reads' HO1.out).2.1 HE.out).mono ?_; rintro e_ W2 ⟨v2, rfl, ho, hb⟩; have HO2 := Az.mk ho; have HB2 := Az.mk (below_step HB1.out hb); clear ho hb; obtain ⟨A2, c2, e2⟩ := Kd.R_slice HO2.out; subst e2) | (go_at_call 8; refine (reader_Open.calls k _ _ B L 0 _ (Kd.R_reads' HO2.out).2.2 (Kd.R_reads' HO2.out).2.1 HD.out).mono ?_; rintro e_ W3 ⟨hb, ⟨h_, _⟩ | ⟨_, g, rfl, hT⟩⟩; exact absurd rfl h_; have HB3 := Az.mk (below_step HB2.out hb); have HT3 := Az.mk hT; have HS3 := Az.mk HB2.out.size; clear hb hT))
 go_upto_region 6 with (go_at_call 12; refine (reader_Peek.calls W2.heap.size W3 g L HT3.out).mono ?_; rintro e_ W4 ⟨he_, hT, hb⟩; rw [ED.out] at he_; subst he_; have HT4 := Az.mk hT; have HB4 := Az.mk (below_step HB3.out hb); clear hT hb)
 have HTa := Az.mk (HT4.out.alloc (.cells #[.string (rhd L).f0, .int .u64 (rhd L).f1] 36))
 have HBa := Az.mk (below_alloc HB4.out (.cells #[.string (rhd L).f0, .int .u64 (rhd L).f1] 36))
 have HXa := Az.mk (blk_new W4 (.cells #[.string (rhd L).f0, .int .u64 (rhd L).f1] 36))
 have HG4 := Az.mk (show g < W4.heap.size from HT4.out.lt)
 have HWg := Az.mk (Nat.le_trans HS3.out HT4.out.ge)
 obtain ⟨Wa, hWa⟩ : ∃ Wa, Wa = W4.alloc (.cells #[.string (rhd L).f0, .int .u64 (rhd L).f1] 36) := ⟨_, rfl⟩
 rw [← hWa] at HTa HBa HXa ⊢
 obtain ⟨ba, hba⟩ : ∃ ba, ba = W4.heap.size := ⟨_, rfl⟩
 rw [← hba] at HXa HG4 ⊢
 clear hWa hba HT4 HB4 HT3 HB3 HS3
 go_upto_region 7 with (go_at_call 10; refine (reader_Next.calls W2.heap.size Wa g L HTa.out).mono ?_; rintro e_ W5 ⟨he_, hT, hb⟩; rw [ED.out] at he_; subst he_; rw [← EM.out] at hT; have HT5 := Az.mk hT; have HB5 := Az.mk (hb.low HBa.out HWg.out); have HX5 := Az.mk (hb.blk (by have := HG4.out; omega) HXa.out); clear hT hb)
 have HTb := Az.mk (HT5.out.alloc (.cells #[.string (rhd L).f0, .int .u64 (rhd L).f1] 36))
 have HBb := Az.mk (below_alloc HB5.out (.cells #[.string (rhd L).f0, .int .u64 (rhd L).f1] 36))
 have HXb := Az.mk (blk_alloc HX5.out (.cells #[.string (rhd L).f0, .int .u64 (rhd L).f1] 36))
 have HYb := Az.mk (blk_new W5 (.cells #[.string (rhd L).f0, .int .u64 (rhd L).f1] 36))
 have HG5 := Az.mk (show g < W5.heap.size from HT5.out.lt)
 obtain ⟨Wb, hWb⟩ : ∃ Wb, Wb = W5.alloc (.cells #[.string (rhd L).f0, .int .u64 (rhd L).f1] 36) := ⟨_, rfl⟩
 rw [← hWb] at HTb HBb HXb HYb ⊢
 obtain ⟨bb, hbb⟩ : ∃ bb, bb = W5.heap.size := ⟨_, rfl⟩
 rw [← hbb] at HYb HG5 ⊢
 clear hWb hbb HT5 HB5 HX5 HTa HBa HXa
 go_upto_region 8 with (go_at_call 10; refine (reader_Next.calls W2.heap.size Wb g M HTb.out).mono ?_; rintro e_ W6 ⟨he_, hT, hb⟩; rw [EF.out] at he_; subst he_; have HB6 := Az.mk (hb.low HBb.out HWg.out); have HX6 := Az.mk (hb.blk (by have := HG4.out; omega) HXb.out); have HY6 := Az.mk (hb.blk (by have := HG5.out; omega) HYb.out); clear hT hb)
 have HBc := Az.mk (below_alloc HB6.out (.cells #[.string (rhd M).f0, .int .u64 (rhd M).f1] 36))
 have HXc := Az.mk (blk_alloc HX6.out (.cells #[.string (rhd M).f0, .int .u64 (rhd M).f1] 36))
 have HYc := Az.mk (blk_alloc HY6.out (.cells #[.string (rhd M).f0, .int .u64 (rhd M).f1] 36))
 obtain ⟨Wc, hWc⟩ : ∃ Wc, Wc = W6.alloc (.cells #[.string (rhd M).f0, .int .u64 (rhd M).f1] 36) := ⟨_, rfl⟩
 rw [← hWc] at HBc HXc HYc ⊢
 rw [HX.out, HN.out] at HXc HYc
 clear hWc
 have hx0 : Wc.cell? ⟨ba, 0, none⟩ = some (.string ⟨#[97]⟩) := blk_cell HXc.out 0
 have hx1 : Wc.cell? ⟨ba, 1, none⟩ = some (.int .u64 1) := blk_cell HXc.out 1
 have hy0 : Wc.cell? ⟨bb, 0, none⟩ = some (.string ⟨#[97]⟩) := blk_cell HYc.out 0
 have hy1 : Wc.cell? ⟨bb, 1, none⟩ = some (.int .u64 1) := blk_cell HYc.out 1
 go_wp2
 go_ret
 exact ⟨rfl, bl_ HBc⟩
def eqS : List S36 → List S36 → Bool
 | [], [] => true
 | a :: x, b :: y => a.f0.toList == b.f0.toList && (a.f1 == b.f1 && eqS x y)
 | _, _ => false
theorem eqS_eq : ∀ {x y : List S36}, eqS x y = true → x = y
 | [], [], _ => rfl
 | [], _ :: _, h => by simp [eqS] at h
 | _ :: _, [], h => by simp [eqS] at h
 | a :: x, b :: y, h => by
  simp only [eqS, Bool.and_eq_true, beq_iff_eq] at h
  obtain ⟨h1, h2, h3⟩ := h
  have e : a.f0 = b.f0 := ByteArray.ext (Array.ext' (by simpa [ByteArray.toList_eq] using h1))
  cases a; cases b
  simp only at e h2
  subst e; subst h2
  rw [eqS_eq h3]
theorem eqS_refl : ∀ x : List S36, eqS x x = true
 | [] => rfl
 | a :: x => by simp [eqS, eqS_refl x]
theorem ReaderIs.grown {w w' : World} {base g : Nat} {l : List S36} {row : Option Nat} (h : ReaderIs base w g l) (hg : w.grownBy w' row) (hr : ∀ k, row = some k → g < k) : ReaderIs base w' g l :=
 h.move (fun k _ h2 => hg.block k (Nat.lt_of_le_of_lt h2 h.lt) (fun e => by have := hr k e.symm; omega))
mutual
def r01_Get.l0 : Nat → List Int → Int → Int → Int → Option (Int × Int × Int)
 | 0, _, _, _, _ => none
 | k + 1, x0, x5, x6, x7 => if x7 < 10 then (if x7 = (x0.length : Int) then (some (0, 0, 3)) else (if 0 ≤ x7 then (if x7 < (x0.length : Int) then (if x7 = 9 then (if (IntKind.u64.wrap (Int.tmod (rd x0 x7) 128)) > 1 then (r01_Get.j1 k x0 x5 x6 x7 (IntKind.u64.wrap (Int.tmod (rd x0 x7) 128)) true) else (r01_Get.j1 k x0 x5 x6 x7 (IntKind.u64.wrap (Int.tmod (rd x0 x7) 128)) (decide ((rd x0 x7) > 127)))) else (r01_Get.j1 k x0 x5 x6 x7 (IntKind.u64.wrap (Int.tmod (rd x0 x7) 128)) false)) else (none)) else (none))) else (some (0, 0, 2))
def r01_Get.j1 : Nat → List Int → Int → Int → Int → Int → Bool → Option (Int × Int × Int)
 | 0, _, _, _, _, _, _ => none
 | k + 1, x0, x5, x6, x7, x8, x35 => if x35 = true then (some (0, 0, 2)) else (if 0 ≤ x7 then (if x7 < (x0.length : Int) then (if (rd x0 x7) < 128 then (if x7 > 0 then (if (rd x0 x7) = 0 then (some (0, 0, 2)) else (some (IntKind.u64.wrap (x5 + (IntKind.u64.wrap (x8 * x6))), wrap64 (x7 + 1), 0))) else (some (IntKind.u64.wrap (x5 + (IntKind.u64.wrap (x8 * x6))), wrap64 (x7 + 1), 0))) else (r01_Get.l0 k x0 (IntKind.u64.wrap (x5 + (IntKind.u64.wrap (x8 * x6)))) (IntKind.u64.wrap (x6 * 128)) (wrap64 (x7 + 1)))) else (none)) else (none))
end
def r01_Get.f (k : Nat) (l0 : List Int) : Option (Int × Int × Int) := r01_Get.l0 k l0 0 1 0
theorem r01_Get.mono_l : ∀ k, (∀ y0 y1 y2 y3, LeO (r01_Get.l0 k y0 y1 y2 y3) (r01_Get.l0 (k + 1) y0 y1 y2 y3)) ∧ (∀ y0 y1 y2 y3 y4 y5, LeO (r01_Get.j1 k y0 y1 y2 y3 y4 y5) (r01_Get.j1 (k + 1) y0 y1 y2 y3 y4 y5))
 | 0 => ⟨fun _ _ _ _ r h => by simp [r01_Get.l0] at h, fun _ _ _ _ _ _ r h => by simp [r01_Get.j1] at h⟩
 | k + 1 => by
  obtain ⟨ih0, ih1⟩ := r01_Get.mono_l k
  refine ⟨?_, ?_⟩
  ·intro y0 y1 y2 y3
   unfold r01_Get.l0
   repeat' first
   | (with_reducible exact ih0 _ _ _ _)
   | (with_reducible exact ih1 _ _ _ _ _ _)
   | (with_reducible exact LeO.refl _)
   | (with_reducible exact LeO.none _)
   | (with_reducible refine LeO.ite ?_ ?_)
   | (with_reducible refine LeO.bind ?_ (fun _ => ?_))
   | exact ih0 _ _ _ _
   | exact ih1 _ _ _ _ _ _
   | exact LeO.none _
   | refine LeO.ite ?_ ?_
   | refine LeO.bind ?_ (fun _ => ?_)
  ·intro y0 y1 y2 y3 y4 y5
   unfold r01_Get.j1
   repeat' first
   | (with_reducible exact ih0 _ _ _ _)
   | (with_reducible exact ih1 _ _ _ _ _ _)
   | (with_reducible exact LeO.refl _)
   | (with_reducible exact LeO.none _)
   | (with_reducible refine LeO.ite ?_ ?_)
   | (with_reducible refine LeO.bind ?_ (fun _ => ?_))
   | exact ih0 _ _ _ _
   | exact ih1 _ _ _ _ _ _
   | exact LeO.none _
   | refine LeO.ite ?_ ?_
   | refine LeO.bind ?_ (fun _ => ?_)
theorem r01_Get.mono : ∀ a0 k, LeO (r01_Get.f k a0) (r01_Get.f (k + 1) a0) := by
 intro a0 k
 obtain ⟨ih0, ih1⟩ := r01_Get.mono_l k
 unfold r01_Get.f
 repeat' first
   | (with_reducible exact ih0 _ _ _ _)
   | (with_reducible exact ih1 _ _ _ _ _ _)
   | (with_reducible exact LeO.refl _)
   | (with_reducible exact LeO.none _)
   | (with_reducible refine LeO.ite ?_ ?_)
   | (with_reducible refine LeO.bind ?_ (fun _ => ?_))
   | exact ih0 _ _ _ _
   | exact ih1 _ _ _ _ _ _
   | exact LeO.none _
   | refine LeO.ite ?_ ?_
   | refine LeO.bind ?_ (fun _ => ?_)
theorem r01_Get.calls (k : Nat) (A0 : Option Addr) (c0 : Nat) (l0 : List Int) (r1 : Int) (r2 : Int) (r3 : Int) (w : World) (hr0 : Kd.C (Kd.int .u8) w A0 l0.length l0) (hc0 : l0.length ≤ c0) (h : r01_Get.f k l0 = some (r1, r2, r3)) :
  Calls Try.prog 32 #[.slice A0 l0.length c0] w fun e w' => e = .returned (.tuple #[.int .u64 r1, .int .i64 r2, .int .i64 r3]) ∧ Drawn0 w w' := by
 have HR0 := Az.mk hr0
 have HC0 := Az.mk hc0
 clear hr0 hc0
 have H : (r01_Get.l0 k l0 0 1 0) = some (r1, r2, r3) := h
 clear h
 have H' := Az.mk H
 clear H
 go_enter Try.func32, Try.ntmps32
 go_wp2
 go_loopg [5, 6, 7] k (fun kq v5 v6 v7 w' => ∃ (x5_1 : Int) (x6_1 : Int) (x7_1 : Int), v5 = .int .u64 x5_1 ∧ v6 = .int .u64 x6_1 ∧ v7 = .int .i64 x7_1 ∧ Az (r01_Get.l0 kq l0 x5_1 x6_1 x7_1 = some (r1, r2, r3)) ∧ Az (kq ≤ k) ∧ Drawn0 w w')
 case atStart => exact ⟨(0), (1), (0), (es_), (es_), (es_), H', ⟨Nat.le_refl _⟩, dw_⟩
 case round =>
  clear H'
  obtain ⟨x5_1, x6_1, x7_1, rfl, rfl, rfl, HA, HK1, ⟨m1, rfl⟩⟩ := hrel
  cases gk with
  | zero => exact absurd HA.out (by simp [r01_Get.l0])
  | succ k1 =>
   have H := HA.out
   clear HA
   simp only [r01_Get.l0] at H
   by_cases c2 : x7_1 < 10
   ·rw [if_pos c2] at H
    have c2b0 := decide_eq_true c2
    clear c2
    by_cases c3 : x7_1 = (l0.length : Int)
    ·rw [if_pos c3] at H
     have c3b0 : (x7_1 == (l0.length : Int)) = true := beq_iff_eq.mpr c3
     have c3b1 : (x7_1 != (l0.length : Int)) = false := bne_eq_false_iff_eq.mpr c3
     clear c3
     simp only [Option.some.injEq, Prod.mk.injEq] at H
     obtain ⟨rfl, rfl, rfl⟩ := H
     go_wp2
     go_ret3
     exact ⟨es_, dw_⟩
    ·rw [if_neg c3] at H
     have c3b0 : (x7_1 == (l0.length : Int)) = false := beq_eq_false_iff_ne.mpr c3
     have c3b1 : (x7_1 != (l0.length : Int)) = true := bne_iff_ne.mpr c3
     by_cases c4 : 0 ≤ x7_1
     ·rw [if_pos c4] at H
      have c4b0 := decide_eq_true c4
      clear c4
      by_cases c5 : x7_1 < (l0.length : Int)
      ·rw [if_pos c5] at H
       have c5b0 := decide_eq_true c5
       clear c5
       have HC6 := Az.mk H
       clear H
       have p206 : 0 ≤ (x7_1 : Int) := of_decide_eq_true as_
       have q206 : x7_1 < (l0.length : Int) := of_decide_eq_true as_
       obtain ⟨ad206, e206, hx206_0⟩ := Kd.at_int HR0.out x7_1 p206 q206
       cases e206
       replace p206 := eq_true p206
       replace q206 := eq_true q206
       go_upto_region 9 with (fail)
       go_cut [35] (fun v35 wc => ∃ (kq : Nat) (x35_5 : Bool), v35 = .bool x35_5 ∧ Az (r01_Get.j1 kq l0 x5_1 x6_1 x7_1 (IntKind.u64.wrap (Int.tmod (rd l0 x7_1) 128)) x35_5 = some (r1, r2, r3)) ∧ Az (kq ≤ k1) ∧ Drawn0 w wc)
       case first =>
        have H := HC6.out
        clear HC6
        by_cases c7 : x7_1 = 9
        ·rw [if_pos c7] at H
         have c7b0 : (x7_1 == 9) = true := beq_iff_eq.mpr c7
         have c7b1 : (x7_1 != 9) = false := bne_eq_false_iff_eq.mpr c7
         clear c7
         (first | rw [c7b0] | (simp only [i64_w, i32_w]; rw [c7b0]) | skip)
         by_cases c8 : (IntKind.u64.wrap (Int.tmod (rd l0 x7_1) 128)) > 1
         ·rw [if_pos c8] at H
          have c8b0 := decide_eq_true c8
          clear c8
          have H' := Az.mk H
          clear H
          go_wp2
          go_meet
          case rel => exact ⟨_, (true), (es_), H', ⟨by have := HK1.out; first | omega | exact Nat.le_refl _⟩, dw_⟩
         ·rw [if_neg c8] at H
          have c8b0 := decide_eq_false c8
          clear c8
          have H' := Az.mk H
          clear H
          have p207 : 0 ≤ (x7_1 : Int) := of_decide_eq_true as_
          have q207 : x7_1 < (l0.length : Int) := of_decide_eq_true as_
          obtain ⟨ad207, e207, hx207_0⟩ := Kd.at_int HR0.out x7_1 p207 q207
          obtain rfl : ad206 = ad207 := (by injection e207)
          replace p207 := eq_true p207
          replace q207 := eq_true q207
          go_wp2
          go_meet
          case rel => exact ⟨_, (decide ((rd l0 x7_1) > 127)), (es_), H', ⟨by have := HK1.out; first | omega | exact Nat.le_refl _⟩, dw_⟩
        ·rw [if_neg c7] at H
         have c7b0 : (x7_1 == 9) = false := beq_eq_false_iff_ne.mpr c7
         have c7b1 : (x7_1 != 9) = true := bne_iff_ne.mpr c7
         (first | rw [c7b0] | (simp only [i64_w, i32_w]; rw [c7b0]) | skip)
         have H' := Az.mk H
         clear H
         go_wp2
         go_meet
         case rel => exact ⟨_, (false), (es_), H', ⟨by have := HK1.out; first | omega | exact Nat.le_refl _⟩, dw_⟩
       case rest =>
        clear HC6
        try clear c2
        try clear c2b0
        try clear p2
        try clear q2
        try clear hx2
        try clear c3
        try clear c3b0
        try clear c3b1
        try clear c4
        try clear c4b0
        try clear c5
        try clear c5b0
        try clear c7
        try clear c7b0
        try clear c7b1
        try clear c8
        try clear c8b0
        try clear hx206_0
        try clear hx207_0
        try clear p206
        try clear p207
        try clear q206
        try clear q207
        obtain ⟨kq, x35_5, rfl, HA, HJ5, ⟨mc5, rfl⟩⟩ := hcut
        cases kq with
        | zero => exact absurd HA.out (by simp [r01_Get.j1])
        | succ kj5 =>
         have H := HA.out
         clear HA
         simp only [r01_Get.j1] at H
         by_cases c9 : x35_5 = true
         ·subst c9
          have H1 : (some (0, 0, 2)) = some (r1, r2, r3) := by rw [if_pos rfl] at H; exact H
          clear H
          have H := H1
          clear H1
          simp only [Option.some.injEq, Prod.mk.injEq] at H
          obtain ⟨rfl, rfl, rfl⟩ := H
          go_wp2
          go_ret3
          exact ⟨es_, dw_⟩
         ·replace c9 := Bool.eq_false_iff.mpr c9
          subst c9
          have H1 : (if 0 ≤ x7_1 then (if x7_1 < (l0.length : Int) then (if (rd l0 x7_1) < 128 then (if x7_1 > 0 then (if (rd l0 x7_1) = 0 then (some (0, 0, 2)) else (some (IntKind.u64.wrap (x5_1 + (IntKind.u64.wrap ((IntKind.u64.wrap (Int.tmod (rd l0 x7_1) 128)) * x6_1))), wrap64 (x7_1 + 1), 0))) else (some (IntKind.u64.wrap (x5_1 + (IntKind.u64.wrap ((IntKind.u64.wrap (Int.tmod (rd l0 x7_1) 128)) * x6_1))), wrap64 (x7_1 + 1), 0))) else (r01_Get.l0 kj5 l0 (IntKind.u64.wrap (x5_1 + (IntKind.u64.wrap ((IntKind.u64.wrap (Int.tmod (rd l0 x7_1) 128)) * x6_1)))) (IntKind.u64.wrap (x6_1 * 128)) (wrap64 (x7_1 + 1)))) else (none)) else (none)) = some (r1, r2, r3) := by rw [if_neg (show ¬ (false = true) by decide)] at H; exact H
          clear H
          have H := H1
          clear H1
          by_cases c10 : 0 ≤ x7_1
          ·rw [if_pos c10] at H
           have c10b0 := decide_eq_true c10
           clear c10
           by_cases c11 : x7_1 < (l0.length : Int)
           ·rw [if_pos c11] at H
            have c11b0 := decide_eq_true c11
            clear c11
            by_cases c12 : (rd l0 x7_1) < 128
            ·rw [if_pos c12] at H
             have c12b0 := decide_eq_true c12
             clear c12
             by_cases c13 : x7_1 > 0
             ·rw [if_pos c13] at H
              have c13b0 := decide_eq_true c13
              clear c13
              by_cases c14 : (rd l0 x7_1) = 0
              ·rw [if_pos c14] at H
               have c14b0 : ((rd l0 x7_1) == 0) = true := beq_iff_eq.mpr c14
               have c14b1 : ((rd l0 x7_1) != 0) = false := bne_eq_false_iff_eq.mpr c14
               clear c14
               simp only [Option.some.injEq, Prod.mk.injEq] at H
               obtain ⟨rfl, rfl, rfl⟩ := H
               have p208 : 0 ≤ (x7_1 : Int) := of_decide_eq_true as_
               have q208 : x7_1 < (l0.length : Int) := of_decide_eq_true as_
               obtain ⟨ad208, e208, hx208_0⟩ := Kd.at_int HR0.out x7_1 p208 q208
               obtain rfl : ad206 = ad208 := (by injection e208)
               replace p208 := eq_true p208
               replace q208 := eq_true q208
               have p209 : 0 ≤ (x7_1 : Int) := of_decide_eq_true as_
               have q209 : x7_1 < (l0.length : Int) := of_decide_eq_true as_
               obtain ⟨ad209, e209, hx209_0⟩ := Kd.at_int HR0.out x7_1 p209 q209
               obtain rfl : ad206 = ad209 := (by injection e209)
               replace p209 := eq_true p209
               replace q209 := eq_true q209
               go_wp2
               go_ret3
               exact ⟨es_, dw_⟩
              ·rw [if_neg c14] at H
               have c14b0 : ((rd l0 x7_1) == 0) = false := beq_eq_false_iff_ne.mpr c14
               have c14b1 : ((rd l0 x7_1) != 0) = true := bne_iff_ne.mpr c14
               simp only [Option.some.injEq, Prod.mk.injEq] at H
               obtain ⟨rfl, rfl, rfl⟩ := H
               have p208 : 0 ≤ (x7_1 : Int) := of_decide_eq_true as_
               have q208 : x7_1 < (l0.length : Int) := of_decide_eq_true as_
               obtain ⟨ad208, e208, hx208_0⟩ := Kd.at_int HR0.out x7_1 p208 q208
               obtain rfl : ad206 = ad208 := (by injection e208)
               replace p208 := eq_true p208
               replace q208 := eq_true q208
               have p209 : 0 ≤ (x7_1 : Int) := of_decide_eq_true as_
               have q209 : x7_1 < (l0.length : Int) := of_decide_eq_true as_
               obtain ⟨ad209, e209, hx209_0⟩ := Kd.at_int HR0.out x7_1 p209 q209
               obtain rfl : ad206 = ad209 := (by injection e209)
               replace p209 := eq_true p209
               replace q209 := eq_true q209
               go_wp2
               go_ret3
               exact ⟨es_, dw_⟩
             ·rw [if_neg c13] at H
              have c13b0 := decide_eq_false c13
              clear c13
              simp only [Option.some.injEq, Prod.mk.injEq] at H
              obtain ⟨rfl, rfl, rfl⟩ := H
              have p208 : 0 ≤ (x7_1 : Int) := of_decide_eq_true as_
              have q208 : x7_1 < (l0.length : Int) := of_decide_eq_true as_
              obtain ⟨ad208, e208, hx208_0⟩ := Kd.at_int HR0.out x7_1 p208 q208
              obtain rfl : ad206 = ad208 := (by injection e208)
              replace p208 := eq_true p208
              replace q208 := eq_true q208
              go_wp2
              go_ret3
              exact ⟨es_, dw_⟩
            ·rw [if_neg c12] at H
             have c12b0 := decide_eq_false c12
             clear c12
             have H' := Az.mk H
             clear H
             have p208 : 0 ≤ (x7_1 : Int) := of_decide_eq_true as_
             have q208 : x7_1 < (l0.length : Int) := of_decide_eq_true as_
             obtain ⟨ad208, e208, hx208_0⟩ := Kd.at_int HR0.out x7_1 p208 q208
             obtain rfl : ad206 = ad208 := (by injection e208)
             replace p208 := eq_true p208
             replace q208 := eq_true q208
             go_wp2
             go_roundg kj5
             case measure => have := HK1.out; have := HJ5.out; omega
             case rel => exact ⟨(IntKind.u64.wrap (x5_1 + (IntKind.u64.wrap ((IntKind.u64.wrap (Int.tmod (rd l0 x7_1) 128)) * x6_1)))), (IntKind.u64.wrap (x6_1 * 128)), (wrap64 (x7_1 + 1)), (es_), (es_), (es_), H', ⟨by have := HK1.out; have := HJ5.out; omega⟩, dw_⟩
           ·rw [if_neg c11] at H
            exact absurd H (by simp)
          ·rw [if_neg c10] at H
           exact absurd H (by simp)
      ·rw [if_neg c5] at H
       exact absurd H (by simp)
     ·rw [if_neg c4] at H
      exact absurd H (by simp)
   ·rw [if_neg c2] at H
    have c2b0 := decide_eq_false c2
    clear c2
    simp only [Option.some.injEq, Prod.mk.injEq] at H
    obtain ⟨rfl, rfl, rfl⟩ := H
    go_wp2
    go_ret3
    exact ⟨es_, dw_⟩
def r01_Put.l0 : Nat → Int → List Int → Option (List Int)
 | 0, _, _ => none
 | k + 1, x1, x5 => if x1 > 127 then (if x5.length < 140737488355328 then (r01_Put.l0 k (IntKind.u64.wrap (Int.tdiv x1 128)) (x5 ++ [(IntKind.u64.wrap (128 + (Int.tmod x1 128))) % 256])) else (none)) else (if x5.length < 140737488355328 then (some (x5 ++ [(x1) % 256])) else (none))
def r01_Put.f (k : Nat) (l0 : List Int) (a1 : Int) : Option (List Int) := (some (([] : List Int) : List Int)).bind fun y210 => (if y210.length + l0.length < 140737488355328 then (r01_Put.l0 k a1 (y210 ++ l0)) else (none))
theorem r01_Put.mono_l : ∀ k, (∀ y0 y1, LeO (r01_Put.l0 k y0 y1) (r01_Put.l0 (k + 1) y0 y1))
 | 0 => fun _ _ r h => by simp [r01_Put.l0] at h
 | k + 1 => by
  have ih0 := r01_Put.mono_l k
  ·intro y0 y1
   unfold r01_Put.l0
   repeat' first
   | (with_reducible exact ih0 _ _)
   | (with_reducible exact LeO.refl _)
   | (with_reducible exact LeO.none _)
   | (with_reducible refine LeO.ite ?_ ?_)
   | (with_reducible refine LeO.bind ?_ (fun _ => ?_))
   | exact ih0 _ _
   | exact LeO.none _
   | refine LeO.ite ?_ ?_
   | refine LeO.bind ?_ (fun _ => ?_)
theorem r01_Put.mono : ∀ a0 a1 k, LeO (r01_Put.f k a0 a1) (r01_Put.f (k + 1) a0 a1) := by
 intro a0 a1 k
 have ih0 := r01_Put.mono_l k
 unfold r01_Put.f
 repeat' first
   | (with_reducible exact ih0 _ _)
   | (with_reducible exact LeO.refl _)
   | (with_reducible exact LeO.none _)
   | (with_reducible refine LeO.ite ?_ ?_)
   | (with_reducible refine LeO.bind ?_ (fun _ => ?_))
   | exact ih0 _ _
   | exact LeO.none _
   | refine LeO.ite ?_ ?_
   | refine LeO.bind ?_ (fun _ => ?_)
theorem r01_Put.calls (k : Nat) (A0 : Option Addr) (c0 : Nat) (l0 : List Int) (a1 : Int) (r : List Int) (w : World) (hr0 : Kd.C (Kd.int .u8) w A0 l0.length l0) (hc0 : l0.length ≤ c0) (h : r01_Put.f k l0 a1 = some r) :
  Calls Try.prog 44 #[.slice A0 l0.length c0, .int .u64 a1] w fun e w' => ∃ v0_ : Value, e = .returned (v0_) ∧ Kd.R (Kd.int .u8) 5 w' w.heap.size (fun _ => True) v0_ r ∧ Below w.heap.size w w' := by
 have HR0 := Az.mk hr0
 have HC0 := Az.mk hc0
 clear hr0 hc0
 have HB := Az.mk (Below.refl w.heap.size w)
 have H : ((some (([] : List Int) : List Int)).bind fun y210 => (if y210.length + l0.length < 140737488355328 then (r01_Put.l0 k a1 (y210 ++ l0)) else (none))) = some r := h
 clear h
 obtain ⟨y210, hy210⟩ : ∃ y_ : List Int, y_ = (([] : List Int)) := ⟨_, rfl⟩
 replace H : (if y210.length + l0.length < 140737488355328 then (r01_Put.l0 k a1 (y210 ++ l0)) else (none)) = some r := hr_ hy210 H
 have Ny210 := Az.mk hy210
 clear hy210
 by_cases c3 : y210.length + l0.length < 140737488355328
 ·rw [if_pos c3] at H
  have LMc3 := Az.mk c3
  clear c3
  obtain ⟨y213, hy213⟩ : ∃ y_ : List Int, y_ = (y210 ++ l0) := ⟨_, rfl⟩
  replace H : (r01_Put.l0 k a1 y213) = some r := hr_ hy213 H
  have Ny213 := Az.mk hy213
  clear hy213
  have H' := Az.mk H
  clear H
  go_enter Try.func44, Try.ntmps44
  go_wp2_with (first | ((with_reducible refine gate_dst (N := 6) rfl ?_); refine Kd.R_lit (Kd.int .u8) _ 5 ?hg (N := 6) ?hd (xs := ([] : List Int)) (inner := []) (ok := fun _ => True) (okp := fun _ => True) ?hr ?hp (fun _ hk => hk) trivial (Below.refl _ _) (Nat.le_refl _) (by simp) ?_; (case hd => rfl); (case hg => rfl); (case hr => first | (go_simp; done) | (go_simp; rfl)); (case hp => exact (Reps.none _ _)); intro v211 w4 ho5 hb hg_ hnew_; clear hg_ hnew_; (first | rw [← Ny210.out] at ho5 | (simp only [Int.reduceToNat] at ho5; rw [← Ny210.out] at ho5)); have n0_ := Az.mk (Kd.R_lower ho5 (below_size (bl_ HB))); have n1_ := Az.mk (below_step (bl_ HB) hb); clear HB; have HO212 := n0_; have HB := n1_; clear n0_ n1_; clear hb ho5) | ((with_reducible refine gate_builtin (b := .append) (xs := #[.tmp 6, .tmp 7]) rfl ?_); at_builtin; refine Kd.R_append_rows (Kd.int .u8) (w0 := w) w.heap.size rfl (.tmp 6) (.tmp 7) 22 5 (.int .u8 0) 1 rfl Try.underlying22 info5 rfl (by decide) (by omega) v211 y210 l0 _ _ _ (fun _ => True) (fun _ => False) rfl rfl ?aO ?aR (fun _ _ h => h) (fun _ h => h.elim) ?aF ?aB ?aS ?aL ?_; (case aR => exact cl_ (Kd.C_below HR0.out HB.out)); (case aB => exact (bl_ HB)); (case aF => exact (fun _ _ => trivial)); (case aO => exact (rl_ HO212.out)); (case aS => exact (below_size (bl_ HB))); (case aL => have := LMc3.out; omega); intro v214 w6 ho hb hg hat; rw [← Ny213.out] at ho; have n0_ := Az.mk (hb); have n1_ := Az.mk (ho); clear HB; clear HO212; have HB := n0_; have HO215 := n1_; clear n0_ n1_; clear ho hb hg hat))
  go_loopg [1, 5] k (fun kq v1 v5 w' => ∃ (x1_1 : Int) (x5_1 : List Int), v1 = .int .u64 x1_1 ∧ Az (r01_Put.l0 kq x1_1 x5_1 = some r) ∧ Az (kq ≤ k) ∧ Az (Kd.R (Kd.int .u8) 5 w' w.heap.size (fun _ => True) v5 x5_1) ∧ Az (Below w.heap.size w w'))
  case atStart => exact ⟨(a1), (y213), (es_), H', ⟨Nat.le_refl _⟩, ⟨rl_ HO215.out⟩, ⟨bl_ HB⟩⟩
  case round =>
   clear H'
   try clear p2
   try clear c3
   try clear c4
   obtain ⟨x1_1, x5_1, rfl, HA, HK1, HO_5, HB⟩ := hrel
   cases gk with
   | zero => exact absurd HA.out (by simp [r01_Put.l0])
   | succ k1 =>
    have H := HA.out
    clear HA
    simp only [r01_Put.l0] at H
    by_cases c7 : x1_1 > 127
    ·rw [if_pos c7] at H
     have c7b0 := decide_eq_true c7
     clear c7
     by_cases c8 : x5_1.length < 140737488355328
     ·rw [if_pos c8] at H
      have LMc8 := Az.mk c8
      clear c8
      obtain ⟨y216, hy216⟩ : ∃ y_ : List Int, y_ = (x5_1 ++ [(IntKind.u64.wrap (128 + (Int.tmod x1_1 128))) % 256]) := ⟨_, rfl⟩
      replace H : (r01_Put.l0 k1 (IntKind.u64.wrap (Int.tdiv x1_1 128)) y216) = some r := hr_ hy216 H
      have Ny216 := Az.mk hy216
      clear hy216
      have H' := Az.mk H
      clear H
      go_wp2_with (first | ((with_reducible refine gate_builtin (b := .append) (xs := #[.tmp 11, .tmp 16]) rfl ?_); at_builtin; refine Kd.R_append (Kd.int .u8) (w0 := w) w.heap.size rfl (.tmp 11) (.tmp 16) 22 5 (.int .u8 0) 1 rfl Try.underlying22 info5 rfl (by decide) (by omega) u5 x5_1 ((IntKind.u64.wrap (128 + (Int.tmod x1_1 128))) % 256) [.int .u8 ((IntKind.u64.wrap (128 + (Int.tmod x1_1 128))) % 256)] (fun _ => True) (fun _ => False) rfl rfl ?aP (fun _ hk => hk.elim) ?aF ?aO ?aB ?aS ?aL ?_; (case aP => exact rfl); (case aB => exact (bl_ HB)); (case aF => exact (fun _ _ => trivial)); (case aO => exact (rl_ HO_5.out)); (case aS => exact (below_size (bl_ HB))); (case aL => have := LMc8.out; omega); intro v217 w9 ho hb hg hat; rw [← Ny216.out] at ho; have n0_ := Az.mk (hb); have n1_ := Az.mk (ho); clear HB; clear HO_5; have HB := n0_; have HO218 := n1_; clear n0_ n1_; clear ho hb hg hat))
      go_roundg k1
      case measure => have := HK1.out; omega
      case rel => exact ⟨(IntKind.u64.wrap (Int.tdiv x1_1 128)), (y216), (es_), H', ⟨by have := HK1.out; omega⟩, ⟨rl_ HO218.out⟩, ⟨bl_ HB⟩⟩
     ·rw [if_neg c8] at H
      exact absurd H (by simp)
    ·rw [if_neg c7] at H
     have c7b0 := decide_eq_false c7
     clear c7
     by_cases c10 : x5_1.length < 140737488355328
     ·rw [if_pos c10] at H
      have LMc10 := Az.mk c10
      clear c10
      obtain ⟨y219, hy219⟩ : ∃ y_ : List Int, y_ = (x5_1 ++ [(x1_1) % 256]) := ⟨_, rfl⟩
      replace H : (some y219) = some r := hr_ hy219 H
      have Ny219 := Az.mk hy219
      clear hy219
      obtain rfl := Option.some.inj H
      go_wp2_with (first | ((with_reducible refine gate_builtin (b := .append) (xs := #[.tmp 20, .tmp 23]) rfl ?_); at_builtin; refine Kd.R_append (Kd.int .u8) (w0 := w) w.heap.size rfl (.tmp 20) (.tmp 23) 22 5 (.int .u8 0) 1 rfl Try.underlying22 info5 rfl (by decide) (by omega) u5 x5_1 ((x1_1) % 256) [.int .u8 ((x1_1) % 256)] (fun _ => True) (fun _ => False) rfl rfl ?aP (fun _ hk => hk.elim) ?aF ?aO ?aB ?aS ?aL ?_; (case aP => exact rfl); (case aB => exact (bl_ HB)); (case aF => exact (fun _ _ => trivial)); (case aO => exact (rl_ HO_5.out)); (case aS => exact (below_size (bl_ HB))); (case aL => have := LMc10.out; omega); intro v220 w11 ho hb hg hat; rw [← Ny219.out] at ho; have n0_ := Az.mk (hb); have n1_ := Az.mk (ho); clear HB; clear HO_5; have HB := n0_; have HO221 := n1_; clear n0_ n1_; clear ho hb hg hat))
      go_ret
      exact ⟨_, er_, by (with_reducible repeat (first | apply Kd.R_alloc | apply Kd.R_drewN | apply Kd.R_drew)); exact HO221.out, bl_ HB⟩
     ·rw [if_neg c10] at H
      exact absurd H (by simp)
 ·rw [if_neg c3] at H
  exact absurd H (by simp)
end Go.Proofs.Ytnabhfegbnfabaa.PRd
end
