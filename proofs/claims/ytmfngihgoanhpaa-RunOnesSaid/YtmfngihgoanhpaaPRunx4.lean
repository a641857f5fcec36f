/- Contracts of Go functions: called with what reads as these lists and numbers, a function returns what its plain Lean function says, and leaves what was there. Written by a program of this session. -/
import Derived.Test.YtmfngihgoanhpaaPRunx0
import Derived.Test.YtmfngihgoanhpaaPRunx2
import Derived.Test.YtmfngihgoanhpaaPRunx3
namespace Go.Proofs.Ytmfngihgoanhpaa.PRun
open Go.RowKit Go.Proofs.YtmfngihgoanhpaaW.PrintWords Go.Proofs.YtmfngihgoanhpaaW.PrintLast Go.Proofs.YtmfngihgoanhpaaW.PrintMore
attribute [local go_sem] max2_int min2_int max_two min_two max_three min_three max_four min_four   -- for this text's walks alone
attribute [local go_sem] Go.Proofs.Ytmfngihgoanhpaa.MoreWords.str_leq Go.Proofs.Ytmfngihgoanhpaa.MoreWords.str_gtr Go.Proofs.Ytmfngihgoanhpaa.MoreWords.str_geq
set_option linter.unusedVariables false
set_option linter.unusedSimpArgs false

/-! ### run_Encode: function 11 -/
section
open Go.Proofs.Ytmfngihgoanhpaa.RunWords
attribute [local go_sem] Oper.semAt_some
def run_Encode.piece (l : List S44) (size j : Nat) : List S44 := (l.take (j * size + min size (l.length - j * size))).drop (j * size)
def run_Encode.all (k : Nat) (l : List S44) (size : Nat) : Nat → Option (List (List Int))
  | 0 => some []
  | c + 1 => (run_Encode.all k l size c).bind fun bs => if c * size < l.length then (run_block.f k (run_Encode.piece l size c)).bind fun b => some (bs ++ [b]) else some bs
def run_Encode.out (k : Nat) : List (List Int) → List Int → Option (List Int × Int)
  | [], b => some (b, 0)
  | x :: xs, b => (frame_Put.f k b x).bind fun r => if r.2 = 0 then run_Encode.out k xs r.1 else some ([], r.2)
def run_Encode.f (k : Nat) (l0 : List S44) (a1 : Int) : Option (List Int × Int) :=
  if a1 < 1 then some ([], 1) else if a1 > 255 then some ([], 1) else
  (run_May.f k l0).bind fun e => if e = 0 then
    (if l0.length < 5000000000000 then
      (num_Put.f k [] (IntKind.u64.wrap a1)).bind fun t =>
      (run_Encode.all k l0 a1.toNat l0.length).bind fun bs =>
      (num_Put.f k [] 0).bind fun z => (num_Put.f k z (IntKind.u64.wrap (l0.length : Int))).bind fun en =>
      run_Encode.out k ((t :: bs) ++ [en]) []
    else none)
  else some ([], e)

theorem run_Encode.all_mono (l : List S44) (size k : Nat) : ∀ c, LeO (run_Encode.all k l size c) (run_Encode.all (k + 1) l size c)
  | 0 => LeO.refl _
  | c + 1 => by
    unfold run_Encode.all
    refine LeO.bind (run_Encode.all_mono l size k c) (fun bs => LeO.ite (LeO.bind (run_block.mono _ _) (fun _ => LeO.refl _)) (LeO.refl _))
theorem run_Encode.out_mono (k : Nat) : ∀ xs b, LeO (run_Encode.out k xs b) (run_Encode.out (k + 1) xs b)
  | [], _ => LeO.refl _
  | x :: xs, b => by
    unfold run_Encode.out
    exact LeO.bind (frame_Put.mono _ _ _) (fun r => LeO.ite (run_Encode.out_mono k xs _) (LeO.refl _))
theorem run_Encode.mono : ∀ a0 a1 k, LeO (run_Encode.f k a0 a1) (run_Encode.f (k + 1) a0 a1) := by
  intro a0 a1 k
  unfold run_Encode.f
  refine LeO.ite (LeO.refl _) (LeO.ite (LeO.refl _) (LeO.bind (run_May.mono _ _) (fun e => LeO.ite (LeO.ite (LeO.bind (num_Put.mono _ _ _) (fun t => LeO.bind (run_Encode.all_mono _ _ _ _) (fun bs => LeO.bind (num_Put.mono _ _ _) (fun z => LeO.bind (num_Put.mono _ _ _) (fun en => run_Encode.out_mono _ _ _))))) (LeO.none _)) (LeO.refl _))))

theorem lit_one {α : Type} {d : Kd α} {w : World} {base : Nat} {okj : Nat → Nat → Prop} {x : α} {u : Value} (h : d.M w base (okj 0) x (([u].drop (0 * d.sz)).take d.sz)) : ∀ j y, [x][j]? = some y → d.M w base (okj j) y (([u].drop (j * d.sz)).take d.sz)
  | 0, y, e => by cases e; exact h
  | j + 1, y, e => by simp at e
/-- The frame's end where no mark was laid. -/
theorem leaves_two {P : Program} {fn : Func} {t u : Tmp} (h : fn.results = #[.tmp t, .tmp u]) {R : Ending → World → Prop} {tmps : Array Value} {w : World} (hR : R (.returned (.tuple #[tmps.getD t undef, tmps.getD u undef])) w) :
    bodyPostM Fence.wide 3 P fn R .ret { tmps := tmps, defers := [] } w := ⟨_, results_tmp2 h tmps P w, hR⟩

theorem enc_piece_len {l : List S44} {size j : Nat} (h : j * size < l.length) : (run_Encode.piece l size j).length = min size (l.length - j * size) := by
  unfold run_Encode.piece
  rw [List.length_drop, List.length_take]
  omega
theorem enc_piece_C {l : List S44} {size j c0 : Nat} {A0 : Option Addr} {W : World} (h : j * size < l.length) (hC : Kd.C k44 W A0 l.length l) (hc : l.length ≤ c0) : Kd.C k44 W (A0.map (·.add (j * size * 2))) (run_Encode.piece l size j).length (run_Encode.piece l size j) := by
  have := Kd.C_mid (c := c0) (lo := j * size) (hi := j * size + min size (l.length - j * size)) hC (by omega) (by omega) hc
  rwa [if_neg (by omega)] at this
theorem enc_all_some (k : Nat) (l : List S44) (size : Nat) : ∀ {c : Nat} (bs : List (List Int)), run_Encode.all k l size c = some bs → ∀ j, j < c → j * size < l.length → ∃ b, run_block.f k (run_Encode.piece l size j) = some b
  | 0, _, _, j, hj, _ => by omega
  | c + 1, bs, h, j, hj, hl => by
    unfold run_Encode.all at h
    obtain ⟨bs', h1, h2⟩ := Option.bind_eq_some_iff.mp h
    by_cases e : j = c
    · subst e
      rw [if_pos hl] at h2
      obtain ⟨b, hb, _⟩ := Option.bind_eq_some_iff.mp h2
      exact ⟨b, hb⟩
    · exact enc_all_some k l size bs' h1 j (by omega) hl
theorem enc_lt {size j n : Nat} (h1 : 1 ≤ size) (h : j * size < n) : j < n := Nat.lt_of_le_of_lt (Nat.le_mul_of_pos_right j h1) h
theorem enc_all_eq (k : Nat) (l : List S44) (size : Nat) : ∀ (c : Nat) (bs : List (List Int)), run_Encode.all k l size c = some bs → bs = (pieces l.length size c).map fun x => (run_block.f k (run_Encode.piece l size x.1)).getD []
  | 0, bs, h => by cases h; rfl
  | c + 1, bs, h => by
    unfold run_Encode.all at h
    obtain ⟨bs', h1, h2⟩ := Option.bind_eq_some_iff.mp h
    have ih := enc_all_eq k l size c bs' h1
    by_cases hl : c * size < l.length
    · rw [if_pos hl] at h2
      obtain ⟨b, hb, h3⟩ := Option.bind_eq_some_iff.mp h2
      cases h3
      rw [pieces_succ hl, List.map_append, ← ih]
      simp [hb]
    · rw [if_neg hl] at h2
      cases h2
      rw [pieces, dif_neg hl]
      exact ih
theorem enc_okp {w5 W : World} {base g : Nat} {v v5 : Value} {xs : List (List Int)} {bk : List Int} (hs : Kd.S (Kd.slice 5 (Kd.int .u8)) 23 w5 base (fun k_ => (k_ ≠ g ∧ k_ ≠ g + 1 ∧ k_ ≠ g + 1 + 1) ∧ some k_ ≠ v5.ownBlock) v xs) (ho : Kd.R (Kd.int .u8) 5 w5 W.drew.heap.size (fun _ => True) v5 bk) (hg : g + 1 + 1 < W.heap.size) :
    ∀ k_, some k_ = v5.ownBlock → (k_ ≠ g ∧ k_ ≠ g + 1 ∧ k_ ≠ g + 1 + 1) ∧ some k_ ≠ v.ownBlock := by
  intro k_ hk
  have h1 : W.heap.size ≤ k_ := Kd.R_base ho k_ hk.symm
  refine ⟨by omega, fun e => ?_⟩
  obtain ⟨_, h2⟩ := Kd.R_typed ho k_ hk.symm
  obtain ⟨_, h3⟩ := Kd.S_typed hs k_ e.symm
  rw [h2] at h3
  cases h3
/-- Between two rounds: the records so far. -/
def encI (k : Nat) (l0 : List S44) (A0 : Option Addr) (c0 : Nat) (t : List Int) (size g : Nat) (w : World) (pre : List (Piece l0.length size)) (W : World) : Prop :=
  ∃ v, W.heap[g]? = some (.cells #[v] 46 (0, 0)) ∧ Kd.S (Kd.slice 5 (Kd.int .u8)) 23 W w.heap.size (fun k_ => k_ ≠ g ∧ k_ ≠ g + 1 ∧ k_ ≠ g + 1 + 1) v (t :: pre.map fun x => (run_block.f k (run_Encode.piece l0 size x.1)).getD []) ∧
    W.heap[g + 1]? = some (.cells #[.slice A0 l0.length c0] 22 (0, 0)) ∧ W.heap[g + 1 + 1]? = some (.cells #[.int .i64 size] 3 (0, 0)) ∧ Below w.heap.size w W
theorem encI_own (k : Nat) (l0 : List S44) (A0 : Option Addr) (c0 : Nat) (t : List Int) (size g : Nat) (w W4 : World) (hg : g + 1 + 1 < W4.heap.size) (hw : w.heap.size ≤ W4.heap.size) : OwnFrom W4.heap.size (encI k l0 A0 c0 t size g w) := by
  rintro s A B row ⟨v, h1, h2, h3, h4, h5⟩ hgr hr
  have hne : ∀ j, j < W4.heap.size → some j ≠ row := fun j hj e => by have := (hr j e.symm).1; omega
  refine ⟨v, blk_grown h1 hgr (hne _ (by omega)), Kd.S_mono (Kd.S_step (Kd.S_bound h2) (fun k_ hk hlt => hgr.block k_ hlt (fun e => ?_))) (fun _ hk => hk.1), blk_grown h3 hgr (hne _ (by omega)), blk_grown h4 hgr (hne _ hg), ownFrom_below (β := Unit) (Nat.le_refl _) hw () A B row h5 hgr hr⟩
  obtain ⟨_, o, ho, hc⟩ := hr k_ e.symm
  obtain ⟨_, _, _, q, _, cells, hcc⟩ := hk
  rw [ho] at hcc
  cases hcc
  cases hc

theorem enc_okp2 {w7 : World} {base b2 g : Nat} {v v7 : Value} {xs : List (List Int)} {bk : List Int} (hs : Kd.S (Kd.slice 5 (Kd.int .u8)) 23 w7 base (fun k_ => (k_ ≠ g ∧ k_ ≠ g + 1 ∧ k_ ≠ g + 1 + 1) ∧ some k_ ≠ v7.ownBlock) v xs) (ho : Kd.R (Kd.int .u8) 5 w7 b2 (fun _ => True) v7 bk) (hg : g + 1 + 1 < b2) :
    ∀ k_, some k_ = v7.ownBlock → (k_ ≠ g ∧ k_ ≠ g + 1 ∧ k_ ≠ g + 1 + 1) ∧ some k_ ≠ v.ownBlock := by
  intro k_ hk
  have h1 : b2 ≤ k_ := Kd.R_base ho k_ hk.symm
  refine ⟨by omega, fun e => ?_⟩
  obtain ⟨_, h2⟩ := Kd.R_typed ho k_ hk.symm
  obtain ⟨_, h3⟩ := Kd.S_typed hs k_ e.symm
  rw [h2] at h3
  cases h3
theorem enc_def {w7 : World} {base D : Nat} {ok : Nat → Prop} {v : Value} {xs : List (List Int)} {o : Option (List Deferred)} (hs : Kd.S (Kd.slice 5 (Kd.int .u8)) 23 w7 base ok v xs) (hd : w7.heap[D]? = some (.deferred o)) : some D ≠ v.ownBlock := fun e => by
  obtain ⟨_, h3⟩ := Kd.S_typed hs D e.symm
  rw [hd] at h3
  cases h3
theorem blk_far' {w : World} {g D : Nat} {o : Obj} (h : w.heap[D]? = some o) (hne : D ≠ g) {u : Value} : (w.setCell ⟨g, 0, none⟩ u).heap[D]? = some o := (Below.heap_setCell w ⟨g, 0, none⟩ u D hne).trans h
theorem enc_all_len (k : Nat) (l : List S44) (size : Nat) : ∀ (c : Nat) (bs : List (List Int)), run_Encode.all k l size c = some bs → bs.length ≤ c
  | 0, bs, h => by cases h; simp
  | c + 1, bs, h => by
    unfold run_Encode.all at h
    obtain ⟨bs', h1, h2⟩ := Option.bind_eq_some_iff.mp h
    have ih := enc_all_len k l size c bs' h1
    by_cases hl : c * size < l.length
    · rw [if_pos hl] at h2
      obtain ⟨b, hb, h3⟩ := Option.bind_eq_some_iff.mp h2
      cases h3
      rw [List.length_append, List.length_singleton]
      omega
    · rw [if_neg hl] at h2
      cases h2
      omega
/-- The frame's end behind a range over a function: the mark is taken up. -/
theorem leaves_mark {P : Program} {fn : Func} {t u : Tmp} (h : fn.results = #[.tmp t, .tmp u]) {w w' W4 : World} {D : Nat} {r1 : List Int} {r2 : Int} {tmps : Array Value} {v : Value} (hw : w.heap.size ≤ W4.heap.size) (hD : W4.heap.size ≤ D) (hd : w'.heap[D]? = some (.deferred (some []))) (hR : Kd.R (Kd.int .u8) 5 w' w.heap.size (fun _ => True) v r1) (hb : Below w.heap.size w w')
    (hv : tmps.getD t undef = v) (hu : tmps.getD u undef = .int .i64 r2) :
    bodyPostM Fence.wide 3 P fn (fun e w' => ∃ v0_ : Value, e = .returned (.tuple #[v0_, .int .i64 r2]) ∧ Kd.R (Kd.int .u8) 5 w' w.heap.size (fun _ => True) v0_ r1 ∧ Below w.heap.size w w') .ret { tmps := tmps, defers := [{ target := .collected D, args := #[] }] } w' := by
  refine ⟨by simp, .inl ⟨_, _, rfl, run_takeDeferred hd, _, results_tmp2 h tmps P _, v, by rw [hv, hu], Kd.R_mono (Kd.R_step (Kd.R_bound hR) (fun k_ hk hlt => World.putObj_heap_other (fun e => ?_))) (fun _ _ => trivial), ⟨hb.os, hb.tape, hb.output, Nat.le_trans hb.size (by simp [World.putObj]), fun k_ hk => (World.putObj_heap_other (by omega)).trans (hb.block k_ hk)⟩⟩⟩
  obtain ⟨_, _, _, q, _, cells, hcc⟩ := hk
  first | (rw [← e, hd] at hcc; cases hcc) | (rw [e, hd] at hcc; cases hcc)
theorem enc_done {k : Nat} {l0 : List S44} {A0 : Option Addr} {c0 : Nat} {t : List Int} {size g : Nat} {w W w5 w6 : World} {B : Nat} {pre : List (Piece l0.length size)} {x : Piece l0.length size} {v v5 : Value} {A6 : Option Addr} {c6 n6 : Nat} {bk : List Int}
    (b7 : W.heap[g]? = some (.cells #[v] 46 (0, 0))) (bsx : W.heap[g + 1]? = some (.cells #[.slice A0 l0.length c0] 22 (0, 0))) (bnx : W.heap[g + 1 + 1]? = some (.cells #[.int .i64 size] 3 (0, 0))) (hb5 : Below W.drew.heap.size W.drew w5)
    {xs : List (List Int)} (hs5 : Kd.S (Kd.slice 5 (Kd.int .u8)) 23 w5 w.heap.size (fun k_ => (k_ ≠ g ∧ k_ ≠ g + 1 ∧ k_ ≠ g + 1 + 1) ∧ some k_ ≠ v5.ownBlock) v xs) (hg6 : w5.grownBy w6 v.ownBlock)
    (ho6 : Kd.S (Kd.slice 5 (Kd.int .u8)) 23 w6 w.heap.size (fun k_ => k_ ≠ g ∧ k_ ≠ g + 1 ∧ k_ ≠ g + 1 + 1) (.slice A6 n6 c6) ((t :: pre.map fun x => (run_block.f k (run_Encode.piece l0 size x.1)).getD []) ++ [bk])) (hb6 : Below w.heap.size w w6) (hbk : run_block.f k (run_Encode.piece l0 size x.1) = some bk) (hwg : w.heap.size ≤ g) :
    KeepsFrom B W (w6.setCell ⟨g, 0, none⟩ (.slice A6 n6 c6)) ∧ KeepsTwo (g + 1) (g + 1 + 1) W (w6.setCell ⟨g, 0, none⟩ (.slice A6 n6 c6)) ∧ encI k l0 A0 c0 t size g w (pre ++ [x]) (w6.setCell ⟨g, 0, none⟩ (.slice A6 n6 c6)) := by
  have e7 := blk_grown (blk_below (blk_drew b7) hb5) hg6 (Kd.S_away hs5 (fun _ hk => hk.1.1))
  have es := blk_far (blk_grown (blk_below (blk_drew bsx) hb5) hg6 (Kd.S_away hs5 (fun _ hk => hk.1.2.1))) (p := ⟨g, 0, none⟩) (by simp) (.slice A6 n6 c6)
  have en := blk_far (blk_grown (blk_below (blk_drew bnx) hb5) hg6 (Kd.S_away hs5 (fun _ hk => hk.1.2.2))) (p := ⟨g, 0, none⟩) (by show g + 1 + 1 ≠ g; omega) (.slice A6 n6 c6)
  refine ⟨⟨?_, fun k_ o _ hk hc => ?_⟩, ⟨es.trans bsx.symm, en.trans bnx.symm⟩, ⟨_, blk_set e7 0 _, ?_, es, en, below_set hb6 hwg⟩⟩
  · rw [World.size_setCell]
    exact Nat.le_trans hb5.size hg6.size
  · have h5 : w5.heap[k_]? = some o := blk_below (blk_drew hk) hb5
    have hne : some k_ ≠ v.ownBlock := fun e => by
      obtain ⟨_, h⟩ := Kd.S_typed hs5 k_ e.symm
      rw [h] at h5
      cases h5
      cases hc
    have h6 := blk_grown h5 hg6 hne
    refine (Below.heap_setCell _ ⟨g, 0, none⟩ _ k_ (fun e => ?_)).trans h6
    rw [show k_ = g from e, b7] at hk
    cases hk
    cases hc
  · have := Kd.S_far ho6 (p := ⟨g, 0, none⟩) (fun _ hk => hk.1) (.slice A6 n6 c6)
    rw [List.map_append, List.map_cons, List.map_nil, hbk, Option.getD_some]
    exact this

set_option maxHeartbeats 4000000 in
set_option maxRecDepth 100000 in
theorem run_Encode.calls (k : Nat) (A0 : Option Addr) (c0 : Nat) (l0 : List (S44)) (a1 : Int) (r1 : List Int) (r2 : Int) (w : World) (hr0 : Kd.C k44 w A0 l0.length l0) (hc0 : l0.length ≤ c0) (h : run_Encode.f k l0 a1 = some (r1, r2)) :
    Calls Try.prog 11 #[.slice A0 l0.length c0, .int .i64 a1] w fun e w' => ∃ v0_ : Value, e = .returned (.tuple #[v0_, .int .i64 r2]) ∧ Kd.R (Kd.int .u8) 5 w' w.heap.size (fun _ => True) v0_ r1 ∧ Below w.heap.size w w' := by
  have HR0 := Aside0.mk hr0
  have HC0 := Aside0.mk hc0
  clear hr0 hc0
  unfold run_Encode.f at h
  refine (callsIn_wide (n := 3)).1 (callsIn_of_wp_marks Try.func11 rfl trivial (wpIn_wide.2 ?_) rfl)
  simp only [Try.ntmps11, List.size_toArray, List.length_cons, List.length_nil, Nat.reduceAdd, Nat.reduceSub, Array.replicate_succ, Array.replicate_zero, List.push_toArray, List.append_toArray, List.nil_append, List.cons_append]
  have HB := Aside0.mk (Below.refl w.heap.size w)
  by_cases c1 : a1 < 1
  · rw [if_pos c1] at h
    have c1b : decide (a1 < 1) = true := decide_eq_true c1
    clear c1
    simp only [Option.some.injEq, Prod.mk.injEq] at h
    obtain ⟨rfl, rfl⟩ := h
    go_wp2
    exact leaves_two rfl ⟨_, rfl, Kd.R_nil _ _ _ _ _, HB.out⟩
  rw [if_neg c1] at h
  have c1b : decide (a1 < 1) = false := decide_eq_false c1
  by_cases c2 : a1 > 255
  · rw [if_pos c2] at h
    have c2b : decide (255 < a1) = true := decide_eq_true c2
    clear c2 c1
    simp only [Option.some.injEq, Prod.mk.injEq] at h
    obtain ⟨rfl, rfl⟩ := h
    go_wp2
    exact leaves_two rfl ⟨_, rfl, Kd.R_nil _ _ _ _ _, HB.out⟩
  rw [if_neg c2] at h
  have c2b : decide (255 < a1) = false := decide_eq_false c2
  replace h := Option.bind_eq_some_iff.mp h
  obtain ⟨e, G1, h⟩ := h
  have G1 := Aside0.mk G1
  obtain ⟨size, rfl⟩ := Int.eq_ofNat_of_zero_le (show 0 ≤ a1 by omega)
  have C12 := Aside0.mk (show 1 ≤ size ∧ size ≤ 255 by omega)
  clear c1 c2
  by_cases c3 : e = 0
  · rw [if_pos c3] at h
    have c3b : (e != 0) = false := bne_eq_false_iff_eq.mpr c3
    clear c3
    by_cases c4 : l0.length < 5000000000000
    · rw [if_pos c4] at h
      have LM := Aside0.mk c4
      clear c4
      replace h := Option.bind_eq_some_iff.mp h
      obtain ⟨t, G2, h⟩ := h
      replace h := Option.bind_eq_some_iff.mp h
      obtain ⟨bs, G3, h⟩ := h
      replace h := Option.bind_eq_some_iff.mp h
      obtain ⟨z, G4, h⟩ := h
      replace h := Option.bind_eq_some_iff.mp h
      obtain ⟨en, G5, h⟩ := h
      have G2 := Aside0.mk G2
      have G3 := Aside0.mk G3
      have G4 := Aside0.mk G4
      have G5 := Aside0.mk G5
      have H := Aside0.mk h
      clear h
      go_upto_region 7 with (first | (go_at_call 15; refine (run_May.calls k A0 c0 l0 e _ (Kd.C_below HR0.out HB.out) HC0.out G1.out).mono ?_; rintro e_ w1 ⟨rfl, hb⟩; have HB1 := Aside0.mk (below_step HB.out hb); clear hb HB) | (go_at_call 19; refine (num_Put.calls k _ _ ([] : List Int) (IntKind.u64.wrap (size : Int)) t _ (Kd.C_nil _ _) (Nat.le_refl _) G2.out).mono ?_; rintro e_ w2 ⟨v2, rfl, ho2, hb2⟩; have HO2 := Aside0.mk (Kd.R_lower ho2 HB1.out.size); have HB2 := Aside0.mk (below_step HB1.out hb2); clear ho2 hb2 HB1; obtain ⟨Av, cv, eo2⟩ := Kd.R_slice HO2.out; subst eo2) | ((with_reducible refine gate_dst (N := 28) rfl ?_); refine Kd.S_lits (Kd.slice 5 (Kd.int .u8)) (w0 := w) w.heap.size 23 ?hg (N := 28) ?hd (xs := [t]) (inner := [.slice Av t.length cv]) (ok := fun _ => True) (fun j k_ => j = 0 ∧ some k_ = (.slice Av t.length cv : Value).ownBlock) ?hr ?hl ?hrep ?hap (fun _ _ _ => trivial) trivial ?hB ?hS (by simp) ?_; (case hd => rfl); (case hg => rfl); (case hr => first | (go_simp; done) | (go_simp; rfl)); (case hl => rfl); (case hB => exact HB2.out); (case hS => exact HB2.out.size); (case hap => exact (fun i j k_ h1 h2 => h1.1.trans h2.1.symm)); (case hrep => exact lit_one (Kd.M_row (Kd.R_mono (Kd.R_tight rfl HO2.out) (fun k_ hk => ⟨rfl, hk⟩)))); intro v3 w3 ho3 hb3 hg3 hnew3; have HS3 := Aside0.mk ho3; have HB3 := Aside0.mk hb3; clear ho3 hb3 hg3 hnew3 HO2 HB2; obtain ⟨A3, c3, eo3, _⟩ := Kd.S_reads HS3.out; subst eo3))
      go_wp2_with (go_at_call 20; refine (chunk.calls A0 l0.length c0 (size : Int) (by have := C12.out.1; omega) _).mono ?_; rintro e_ w4 ⟨rfl, rfl⟩)
      have hs3 := Kd.S_elderB (Kd.S_elderB (Kd.S_elderB HS3.out w3.heap.size (Nat.le_refl _)) (w3.heap.size + 1) (by omega)) (w3.heap.size + 1 + 1) (by omega)
      have hs4 := Kd.S_alloc (Kd.S_alloc (Kd.S_alloc hs3 (.cells #[.slice A3 1 c3] 46 (0, 0))) (.cells #[.slice A0 l0.length c0] 22 (0, 0))) (.cells #[.int .i64 size] 3 (0, 0))
      have bk7 := blk_alloc (blk_alloc (blk_new w3 (.cells #[.slice A3 1 c3] 46 (0, 0))) (.cells #[.slice A0 l0.length c0] 22 (0, 0))) (.cells #[.int .i64 size] 3 (0, 0))
      have bks := blk_alloc (blk_new (w3.alloc (.cells #[.slice A3 1 c3] 46 (0, 0))) (.cells #[.slice A0 l0.length c0] 22 (0, 0))) (.cells #[.int .i64 size] 3 (0, 0))
      have bkn := blk_new ((w3.alloc (.cells #[.slice A3 1 c3] 46 (0, 0))).alloc (.cells #[.slice A0 l0.length c0] 22 (0, 0))) (.cells #[.int .i64 size] 3 (0, 0))
      rw [World.size_alloc] at bks bkn
      rw [World.size_alloc] at bkn
      have hb4 := below_alloc (below_alloc (below_alloc HB3.out (.cells #[.slice A3 1 c3] 46 (0, 0))) (.cells #[.slice A0 l0.length c0] 22 (0, 0))) (.cells #[.int .i64 size] 3 (0, 0))
      have hg3 : w.heap.size ≤ w3.heap.size := HB3.out.size
      clear hs3
      generalize hgg : w3.heap.size = g at *
      generalize hW4 : ((w3.alloc (.cells #[.slice A3 1 c3] 46 (0, 0))).alloc (.cells #[.slice A0 l0.length c0] 22 (0, 0))).alloc (.cells #[.int .i64 size] 3 (0, 0)) = W4 at *
      have hgn : g + 1 + 1 < W4.heap.size := blk_lt bkn
      refine wpIn_wide.1 (wpIn_rangeFunc_ownG (n := 3) (w0 := W4) rfl (by decide) (gf := 36) (lb := #[.pointer (some ⟨g + 1, 0, none⟩), .pointer (some ⟨g + 1 + 1, 0, none⟩)]) rfl trivial (Go.Proofs.enters_of Try.func36 (by kernel_rfl) rfl)
        (chunk_stops 2 (by decide) (g + 1) (g + 1 + 1) A0 l0.length c0 size C12.out.1 C12.out.2 HC0.out (by have := LM.out; omega) W4 bks bkn) (fun h1 h2 => ⟨h2.1.trans h1.1, h2.2.trans h1.2⟩) (fun W l o o' hl _ _ _ => ⟨World.putObj_heap_other (by omega), World.putObj_heap_other (by omega)⟩) (Below.refl _ _) (fun _ => rfl)
        (fun pre W => encI k l0 A0 c0 t size g w pre W) (fun _ _ _ => False) (encI_own k l0 A0 c0 t size g w W4 hgn (by omega)) (fun _ _ _ _ _ hs _ _ => hs)
        ⟨_, bk7, Kd.S_mono hs4 (fun k_ hk => ⟨hk.1.1.2, hk.1.2, hk.2⟩), bks, bkn, hb4⟩
        (fun x => { tmps := #[Value.slice A0 l0.length c0, Value.int IntKind.i64 size, undef, undef, Value.slice none 0 0, Value.int IntKind.i64 0, Value.int IntKind.i64 e, Value.pointer (some ⟨g, 0, none⟩), pieceVal A0 l0.length size x, undef, undef, undef, undef, undef, Value.int IntKind.i64 size, Value.bool false, Value.bool false, Value.int IntKind.i64 size, Value.bool false, Value.bool false, Value.slice A0 l0.length c0, Value.int IntKind.i64 e, Value.int IntKind.i64 e, Value.bool false, undef, Value.int IntKind.i64 size, Value.int IntKind.u64 (IntKind.u64.wrap (size : Int)), Value.slice Av t.length cv, Value.slice A3 1 c3, Value.slice A0 l0.length c0, Value.int IntKind.i64 size, Value.func (Fn.func 36) #[] #[Value.pointer (some ⟨g + 1, 0, none⟩), Value.pointer (some ⟨g + 1 + 1, 0, none⟩)], pieceVal A0 l0.length size x, undef, undef, undef, undef, undef, undef, undef, undef, undef, undef, undef, undef, undef, undef, undef, undef, undef, undef, undef, undef, undef, undef, undef, undef, undef, undef, undef, undef, undef, undef, undef], defers := [] }) ?assign ?body ?done ?stop)
      case assign =>
        intro l x W K hK
        gi_wp2
        exact hK
      case body =>
        rintro l pre x W ⟨v, b7, hs, bsx, bnx, hb⟩ hpre
        have hpieceC : Kd.C k44 W (A0.map (·.add (x.1 * size * 2))) (run_Encode.piece l0 size x.1).length (run_Encode.piece l0 size x.1) := enc_piece_C (by have := x.2; exact this) (Kd.C_below HR0.out hb) HC0.out
        have hpv : pieceVal A0 l0.length size x = .slice (A0.map (·.add (x.1 * size * 2))) (run_Encode.piece l0 size x.1).length (min size (l0.length - x.1 * size)) := by
          unfold pieceVal
          rw [enc_piece_len (by have := x.2; exact this)]
        obtain ⟨bk, hbk⟩ : ∃ bk, run_block.f k (run_Encode.piece l0 size x.1) = some bk := enc_all_some k l0 size _ G3.out x.1 (enc_lt C12.out.1 x.2) x.2
        have hcl7 : W.cell? ⟨g, 0, none⟩ = some v := blk_cell b7 0
        refine wpIn_block ?_
        refine region_round (by kernel_rfl) (noDefer_spec (by kernel_rfl)) (fun h => by obtain ⟨_, _, h⟩ := h; exact h) ?_
        change wpAny _ _ _ _ _ _ _ (World.drew W)
        refine wpAny_take (i := 1) (v := ?_) rfl (by kernel_rfl) (by kernel_rfl) (by kernel_rfl) (fun _ _ _ h => h) (Or.inl ⟨by rfl, ?_⟩) ?_
        rotate_left
        · intro w_
          go_simp
          with_reducible rfl
        have hpl : (run_Encode.piece l0 size x.1).length ≤ min size (l0.length - x.1 * size) := by rw [enc_piece_len (by have := x.2; exact this)]; exact Nat.le_refl _
        have hgW : g + 1 + 1 < W.heap.size := blk_lt bnx
        refine wpAny_ready (rs := [0, 2]) (by kernel_rfl) (by simp) ?_
        refine AllReady.cons rfl (fun K hK => ?_) (AllReady.cons rfl (fun K hK => ?_) AllReady.nil)
        · go_simp
          refine hK _ _ ?_
          clear hK K
          refine wpAny_ready (rs := [2]) (by kernel_rfl) (by simp) ?_
          refine AllReady.cons rfl (fun K hK => ?_) AllReady.nil
          go_simp
          refine (run_block.calls k _ _ (run_Encode.piece l0 size x.1) bk _ (Kd.C_drew hpieceC) hpl hbk).mono ?_
          rintro e_ w5 ⟨v5, rfl, ho5, hb5⟩
          have hcl5 : w5.cell? ⟨g, 0, none⟩ = some v := blk_cell (blk_below (blk_drew b7) hb5) 0
          obtain ⟨A5, c5, eo5⟩ := Kd.R_slice ho5
          subst eo5
          have hcl5' : (w5.alloc (.cells #[.slice A5 bk.length c5] 23 (0, 0))).cell? ⟨g, 0, none⟩ = some v := blk_cell (blk_alloc (blk_below (blk_drew b7) hb5) _) 0
          refine hK _ _ ?_
          clear hK K
          have hs5 := Kd.S_elder' (Kd.S_below hs (below_drew1 (Below.refl _ W))) (Kd.R_base ho5) hb5
          have hbw5 := below_step (below_drew1 hb) hb5
          have hs5' := Kd.S_mono (ok' := fun k_ => (k_ ≠ g ∧ k_ ≠ g + 1 ∧ k_ ≠ g + 1 + 1) ∧ ¬ some k_ = (.slice A5 bk.length c5 : Value).ownBlock) hs5 (fun _ hk => hk)
          refine wpAny_ready (rs := [3]) (by kernel_rfl) (by simp) ?_
          refine AllReady.cons rfl (fun K hK => ?_) AllReady.nil
          go_simp
          refine hK _ _ ?_
          clear hK K
          refine wpAny_ready (rs := [4]) (by kernel_rfl) (by simp) ?_
          refine AllReady.cons rfl (fun K hK => ?_) AllReady.nil
          refine Kd.S_append_step (Kd.slice 5 (Kd.int .u8)) (w0 := w) w.heap.size rfl (.tmp 33) (.tmp 36) 46 23 (.slice none 0 0) 24 rfl Try.underlying46 info23 rfl (by decide) (by omega) v _ bk [.slice A5 bk.length c5] (fun k_ => k_ ≠ g ∧ k_ ≠ g + 1 ∧ k_ ≠ g + 1 + 1) (fun k_ => some k_ = (.slice A5 bk.length c5 : Value).ownBlock) rfl rfl (Kd.M_row (Kd.R_tight rfl (Kd.R_lower ho5 hb.size))) (enc_okp hs5 ho5 hgW) (fun k_ hk => by have : W.heap.size ≤ w5.heap.size := hb5.size; omega) hs5' hbw5 hbw5.size ?_ ?_
          · rw [List.length_cons, List.length_map]
            have := LM.out
            omega
          intro v6 w6 ho6 hb6 hg6 hat6
          refine hK _ _ ?_
          clear hK K
          have b76 := blk_grown (blk_below (blk_drew b7) hb5) hg6 (Kd.S_away hs5 (fun _ hk => hk.1.1))
          obtain ⟨A6, c6, eo6, _⟩ := Kd.S_reads ho6
          generalize (t :: pre.map (fun x => (run_block.f k (run_Encode.piece l0 size x.1)).getD []) ++ [bk]).length = n6 at eo6
          subst eo6
          have hcl6 : w6.cell? ⟨g, 0, none⟩ = some v := blk_cell b76 0
          have hfr6 : w6.frozen? ⟨g, 0, none⟩ = false := blk_frozen b76 0
          refine wpAny_ready (rs := [5]) (by kernel_rfl) (by simp) ?_
          refine AllReady.cons rfl (fun K hK => ?_) AllReady.nil
          go_simp
          refine hK _ _ ?_
          refine wpAny_done (by kernel_rfl) ?_ _
          exact enc_done b7 bsx bnx hb5 hs5 hg6 ho6 hb6 hbk (by omega)
        · go_simp
          refine (run_block.calls k _ _ (run_Encode.piece l0 size x.1) bk _ (Kd.C_drew hpieceC) hpl hbk).mono ?_
          rintro e_ w5 ⟨v5, rfl, ho5, hb5⟩
          have hcl5 : w5.cell? ⟨g, 0, none⟩ = some v := blk_cell (blk_below (blk_drew b7) hb5) 0
          obtain ⟨A5, c5, eo5⟩ := Kd.R_slice ho5
          subst eo5
          have hcl5' : (w5.alloc (.cells #[.slice A5 bk.length c5] 23 (0, 0))).cell? ⟨g, 0, none⟩ = some v := blk_cell (blk_alloc (blk_below (blk_drew b7) hb5) _) 0
          refine hK _ _ ?_
          clear hK K
          have hs5 := Kd.S_elder' (Kd.S_below hs (below_drew1 (Below.refl _ W))) (Kd.R_base ho5) hb5
          have hbw5 := below_step (below_drew1 hb) hb5
          have hs5' := Kd.S_mono (ok' := fun k_ => (k_ ≠ g ∧ k_ ≠ g + 1 ∧ k_ ≠ g + 1 + 1) ∧ ¬ some k_ = (.slice A5 bk.length c5 : Value).ownBlock) hs5 (fun _ hk => hk)
          refine wpAny_ready (rs := [0, 3]) (by kernel_rfl) (by simp) ?_
          refine AllReady.cons rfl (fun K hK => ?_) (AllReady.cons rfl (fun K hK => ?_) AllReady.nil)
          · go_simp
            refine hK _ _ ?_
            clear hK K
            refine wpAny_ready (rs := [3]) (by kernel_rfl) (by simp) ?_
            refine AllReady.cons rfl (fun K hK => ?_) AllReady.nil
            go_simp
            refine hK _ _ ?_
            clear hK K
            refine wpAny_ready (rs := [4]) (by kernel_rfl) (by simp) ?_
            refine AllReady.cons rfl (fun K hK => ?_) AllReady.nil
            refine Kd.S_append_step (Kd.slice 5 (Kd.int .u8)) (w0 := w) w.heap.size rfl (.tmp 33) (.tmp 36) 46 23 (.slice none 0 0) 24 rfl Try.underlying46 info23 rfl (by decide) (by omega) v _ bk [.slice A5 bk.length c5] (fun k_ => k_ ≠ g ∧ k_ ≠ g + 1 ∧ k_ ≠ g + 1 + 1) (fun k_ => some k_ = (.slice A5 bk.length c5 : Value).ownBlock) rfl rfl (Kd.M_row (Kd.R_tight rfl (Kd.R_lower ho5 hb.size))) (enc_okp hs5 ho5 hgW) (fun k_ hk => by have : W.heap.size ≤ w5.heap.size := hb5.size; omega) hs5' hbw5 hbw5.size ?_ ?_
            · rw [List.length_cons, List.length_map]
              have := LM.out
              omega
            intro v6 w6 ho6 hb6 hg6 hat6
            refine hK _ _ ?_
            clear hK K
            have b76 := blk_grown (blk_below (blk_drew b7) hb5) hg6 (Kd.S_away hs5 (fun _ hk => hk.1.1))
            obtain ⟨A6, c6, eo6, _⟩ := Kd.S_reads ho6
            generalize (t :: pre.map (fun x => (run_block.f k (run_Encode.piece l0 size x.1)).getD []) ++ [bk]).length = n6 at eo6
            subst eo6
            have hcl6 : w6.cell? ⟨g, 0, none⟩ = some v := blk_cell b76 0
            have hfr6 : w6.frozen? ⟨g, 0, none⟩ = false := blk_frozen b76 0
            refine wpAny_ready (rs := [5]) (by kernel_rfl) (by simp) ?_
            refine AllReady.cons rfl (fun K hK => ?_) AllReady.nil
            go_simp
            refine hK _ _ ?_
            refine wpAny_done (by kernel_rfl) ?_ _
            exact enc_done b7 bsx bnx hb5 hs5 hg6 ho6 hb6 hbk (by omega)
          · go_simp
            refine hK _ _ ?_
            clear hK K
            refine wpAny_ready (rs := [0]) (by kernel_rfl) (by simp) ?_
            refine AllReady.cons rfl (fun K hK => ?_) AllReady.nil
            go_simp
            refine hK _ _ ?_
            clear hK K
            refine wpAny_ready (rs := [4]) (by kernel_rfl) (by simp) ?_
            refine AllReady.cons rfl (fun K hK => ?_) AllReady.nil
            refine Kd.S_append_step (Kd.slice 5 (Kd.int .u8)) (w0 := w) w.heap.size rfl (.tmp 33) (.tmp 36) 46 23 (.slice none 0 0) 24 rfl Try.underlying46 info23 rfl (by decide) (by omega) v _ bk [.slice A5 bk.length c5] (fun k_ => k_ ≠ g ∧ k_ ≠ g + 1 ∧ k_ ≠ g + 1 + 1) (fun k_ => some k_ = (.slice A5 bk.length c5 : Value).ownBlock) rfl rfl (Kd.M_row (Kd.R_tight rfl (Kd.R_lower ho5 hb.size))) (enc_okp hs5 ho5 hgW) (fun k_ hk => by have : W.heap.size ≤ w5.heap.size := hb5.size; omega) hs5' hbw5 hbw5.size ?_ ?_
            · rw [List.length_cons, List.length_map]
              have := LM.out
              omega
            intro v6 w6 ho6 hb6 hg6 hat6
            refine hK _ _ ?_
            clear hK K
            have b76 := blk_grown (blk_below (blk_drew b7) hb5) hg6 (Kd.S_away hs5 (fun _ hk => hk.1.1))
            obtain ⟨A6, c6, eo6, _⟩ := Kd.S_reads ho6
            generalize (t :: pre.map (fun x => (run_block.f k (run_Encode.piece l0 size x.1)).getD []) ++ [bk]).length = n6 at eo6
            subst eo6
            have hcl6 : w6.cell? ⟨g, 0, none⟩ = some v := blk_cell b76 0
            have hfr6 : w6.frozen? ⟨g, 0, none⟩ = false := blk_frozen b76 0
            refine wpAny_ready (rs := [5]) (by kernel_rfl) (by simp) ?_
            refine AllReady.cons rfl (fun K hK => ?_) AllReady.nil
            go_simp
            refine hK _ _ ?_
            refine wpAny_done (by kernel_rfl) ?_ _
            exact enc_done b7 bsx bnx hb5 hs5 hg6 ho6 hb6 hbk (by omega)
      case done =>
        rintro D ys W hD rfl ⟨v, b7, hs, bsx, bnx, hb⟩ hK0
        rw [← enc_all_eq k l0 size _ bs (by have := G3.out; simpa using this)] at hs
        have hgW : g + 1 + 1 < W.heap.size := blk_lt bnx
        go_wp2
        refine wp_mono (Q := fun e_ a_ w_ => e_ = .normal ∧ ∃ x38 x39 x43 x44 x45 : Value, a_ = { tmps := #[Value.slice A0 l0.length c0, Value.int IntKind.i64 size, undef, undef, Value.slice none 0 0, Value.int IntKind.i64 0, Value.int IntKind.i64 e, Value.pointer (some ⟨g, 0, none⟩), undef, undef, undef, undef, undef, undef, Value.int IntKind.i64 size, Value.bool false, Value.bool false, Value.int IntKind.i64 size, Value.bool false, Value.bool false, Value.slice A0 l0.length c0, Value.int IntKind.i64 e, Value.int IntKind.i64 e, Value.bool false, undef, Value.int IntKind.i64 size, Value.int IntKind.u64 (IntKind.u64.wrap (size : Int)), Value.slice Av t.length cv, Value.slice A3 1 c3, Value.slice A0 l0.length c0, Value.int IntKind.i64 size, Value.func (Fn.func 36) #[] #[Value.pointer (some ⟨g + 1, 0, none⟩), Value.pointer (some ⟨g + 1 + 1, 0, none⟩)], undef, undef, undef, undef, undef, undef, x38, x39, Value.slice A0 l0.length c0, Value.int IntKind.i64 l0.length, Value.int IntKind.u64 (IntKind.u64.wrap ((l0.length : Nat) : Int)), x43, x44, x45, undef, undef, undef, undef, undef, undef, undef, undef, undef, undef, undef, undef, undef, undef, undef, undef, undef, undef], defers := [{ target := .collected D, args := #[] }] } ∧ ∃ (A6 : Option Addr) (n6 c6 : Nat), n6 = ((t :: bs) ++ [en]).length ∧ w_.heap[g]? = some (.cells #[.slice A6 n6 c6] 46 (0, 0)) ∧ Kd.S (Kd.slice 5 (Kd.int .u8)) 23 w_ w.heap.size (fun _ => True) (.slice A6 n6 c6) ((t :: bs) ++ [en]) ∧ Below w.heap.size w w_ ∧ w_.heap[D]? = some (.deferred (some []))) ?reg ?rest
        case reg =>
          have hcl0 : W.cell? ⟨g, 0, none⟩ = some v := blk_cell b7 0
          refine wp_region_any (by kernel_rfl) ?_
          change wpAny _ _ _ _ _ _ _ (World.drew W)
          refine wpAny_take (i := 2) (v := ?_) rfl (by kernel_rfl) (by kernel_rfl) (by kernel_rfl) (fun _ _ _ h => absurd h.1 (by simp)) (Or.inl ⟨by rfl, ?_⟩) ?_
          rotate_left
          · intro w_
            go_simp
            with_reducible rfl
          refine wpAny_take (i := 3) (v := ?_) rfl (by kernel_rfl) (by kernel_rfl) (by kernel_rfl) (fun _ _ _ h => absurd h.1 (by simp)) (Or.inl ⟨by rfl, ?_⟩) ?_
          rotate_left
          · intro w_
            go_simp
            with_reducible rfl
          refine wpAny_take (i := 4) (v := ?_) rfl (by kernel_rfl) (by kernel_rfl) (by kernel_rfl) (fun _ _ _ h => absurd h.1 (by simp)) (Or.inl ⟨by rfl, ?_⟩) ?_
          rotate_left
          · intro w_
            go_simp
            with_reducible rfl
          refine wpAny_ready (rs := [0, 1]) (by kernel_rfl) (by simp) ?_
          refine AllReady.cons rfl (fun K hK => ?_) (AllReady.cons rfl (fun K hK => ?_) AllReady.nil)
          · go_simp
            refine hK _ _ ?_
            clear hK K
            refine wpAny_ready (rs := [1]) (by kernel_rfl) (by simp) ?_
            refine AllReady.cons rfl (fun K hK => ?_) AllReady.nil
            go_simp
            refine (num_Put.calls k _ _ ([] : List Int) 0 z _ (Kd.C_nil _ _) (Nat.le_refl _) G4.out).mono ?_
            rintro e_ w5 ⟨v5, rfl, ho5, hb5⟩
            obtain ⟨A5, c5, eo5⟩ := Kd.R_slice ho5
            subst eo5
            have b75 := blk_below (blk_drew b7) hb5
            have hcl5 : w5.cell? ⟨g, 0, none⟩ = some v := blk_cell b75 0
            have hs5 := Kd.S_below (Kd.S_below hs (below_drew1 (Below.refl _ W))) hb5
            have hbw5 := below_step (below_drew1 hb) hb5
            have hd5 := blk_below (blk_drew hK0) hb5
            refine hK _ _ ?_
            clear hK K
            refine wpAny_ready (rs := [5]) (by kernel_rfl) (by simp) ?_
            refine AllReady.cons rfl (fun K hK => ?_) AllReady.nil
            go_simp
            refine (num_Put.calls k _ _ z (IntKind.u64.wrap ((l0.length : Nat) : Int)) en _ (Kd.R_reads' ho5).2.2 (Kd.R_reads' ho5).2.1 G5.out).mono ?_
            rintro e_ w7 ⟨v7, rfl, ho7, hb7⟩
            obtain ⟨A7, c7, eo7⟩ := Kd.R_slice ho7
            subst eo7
            have b77 := blk_below b75 hb7
            have hcl7 : w7.cell? ⟨g, 0, none⟩ = some v := blk_cell b77 0
            have hcl7' : (w7.alloc (.cells #[.slice A7 en.length c7] 23 (0, 0))).cell? ⟨g, 0, none⟩ = some v := blk_cell (blk_alloc b77 _) 0
            have hs7 := Kd.S_elder' hs5 (Kd.R_base ho7) hb7
            have hbw7 := below_step hbw5 hb7
            have hd7 := blk_below hd5 hb7
            have hs7' := Kd.S_mono (ok' := fun k_ => (k_ ≠ g ∧ k_ ≠ g + 1 ∧ k_ ≠ g + 1 + 1) ∧ ¬ some k_ = (.slice A7 en.length c7 : Value).ownBlock) hs7 (fun _ hk => hk)
            refine hK _ _ ?_
            clear hK K
            refine wpAny_ready (rs := [6]) (by kernel_rfl) (by simp) ?_
            refine AllReady.cons rfl (fun K hK => ?_) AllReady.nil
            go_simp
            refine hK _ _ ?_
            clear hK K
            refine wpAny_ready (rs := [7]) (by kernel_rfl) (by simp) ?_
            refine AllReady.cons rfl (fun K hK => ?_) AllReady.nil
            refine Kd.S_append_step (Kd.slice 5 (Kd.int .u8)) (w0 := w) w.heap.size rfl (.tmp 38) (.tmp 44) 46 23 (.slice none 0 0) 24 rfl Try.underlying46 info23 rfl (by decide) (by omega) v _ en [.slice A7 en.length c7] (fun k_ => k_ ≠ g ∧ k_ ≠ g + 1 ∧ k_ ≠ g + 1 + 1) (fun k_ => some k_ = (.slice A7 en.length c7 : Value).ownBlock) rfl rfl (Kd.M_row (Kd.R_tight rfl (Kd.R_lower ho7 hbw5.size))) (enc_okp2 hs7 ho7 (by have : W.heap.size ≤ w5.heap.size := hb5.size; omega)) (fun k_ hk => by have : W.heap.size ≤ w5.heap.size := hb5.size; have : w5.heap.size ≤ w7.heap.size := hb7.size; omega) hs7' hbw7 hbw7.size ?_ ?_
            · rw [List.length_cons]; have := LM.out; have := enc_all_len _ _ _ _ _ G3.out; omega
            intro v6 w6 ho6 hb6 hg6 hat6
            refine hK _ _ ?_
            clear hK K
            have b76 := blk_grown b77 hg6 (Kd.S_away hs7 (fun _ hk => hk.1.1))
            obtain ⟨A6, c6, eo6, _⟩ := Kd.S_reads ho6
            generalize hn6 : (t :: bs ++ [en]).length = n6 at eo6
            subst eo6
            have hcl6 : w6.cell? ⟨g, 0, none⟩ = some v := blk_cell b76 0
            have hfr6 : w6.frozen? ⟨g, 0, none⟩ = false := blk_frozen b76 0
            have hd6 := blk_grown hd7 hg6 (enc_def hs7 hd7)
            refine wpAny_ready (rs := [8]) (by kernel_rfl) (by simp) ?_
            refine AllReady.cons rfl (fun K hK => ?_) AllReady.nil
            go_simp
            refine hK _ _ ?_
            refine wpAny_done (by kernel_rfl) ?_ _
            exact ⟨rfl, _, _, _, _, _, rfl, A6, n6, c6, rfl, blk_set b76 0 _, Kd.S_mono (Kd.S_far ho6 (p := ⟨g, 0, none⟩) (fun _ hk => hk.1) (.slice A6 n6 c6)) (fun _ _ => trivial), below_set hb6 (by omega), blk_far' hd6 (by intro e_; have := hD; omega)⟩
          · go_simp
            refine (num_Put.calls k _ _ ([] : List Int) 0 z _ (Kd.C_nil _ _) (Nat.le_refl _) G4.out).mono ?_
            rintro e_ w5 ⟨v5, rfl, ho5, hb5⟩
            obtain ⟨A5, c5, eo5⟩ := Kd.R_slice ho5
            subst eo5
            have b75 := blk_below (blk_drew b7) hb5
            have hcl5 : w5.cell? ⟨g, 0, none⟩ = some v := blk_cell b75 0
            have hs5 := Kd.S_below (Kd.S_below hs (below_drew1 (Below.refl _ W))) hb5
            have hbw5 := below_step (below_drew1 hb) hb5
            have hd5 := blk_below (blk_drew hK0) hb5
            refine hK _ _ ?_
            clear hK K
            refine wpAny_ready (rs := [0, 5]) (by kernel_rfl) (by simp) ?_
            refine AllReady.cons rfl (fun K hK => ?_) (AllReady.cons rfl (fun K hK => ?_) AllReady.nil)
            · go_simp
              refine hK _ _ ?_
              clear hK K
              refine wpAny_ready (rs := [5]) (by kernel_rfl) (by simp) ?_
              refine AllReady.cons rfl (fun K hK => ?_) AllReady.nil
              go_simp
              refine (num_Put.calls k _ _ z (IntKind.u64.wrap ((l0.length : Nat) : Int)) en _ (Kd.R_reads' ho5).2.2 (Kd.R_reads' ho5).2.1 G5.out).mono ?_
              rintro e_ w7 ⟨v7, rfl, ho7, hb7⟩
              obtain ⟨A7, c7, eo7⟩ := Kd.R_slice ho7
              subst eo7
              have b77 := blk_below b75 hb7
              have hcl7 : w7.cell? ⟨g, 0, none⟩ = some v := blk_cell b77 0
              have hcl7' : (w7.alloc (.cells #[.slice A7 en.length c7] 23 (0, 0))).cell? ⟨g, 0, none⟩ = some v := blk_cell (blk_alloc b77 _) 0
              have hs7 := Kd.S_elder' hs5 (Kd.R_base ho7) hb7
              have hbw7 := below_step hbw5 hb7
              have hd7 := blk_below hd5 hb7
              have hs7' := Kd.S_mono (ok' := fun k_ => (k_ ≠ g ∧ k_ ≠ g + 1 ∧ k_ ≠ g + 1 + 1) ∧ ¬ some k_ = (.slice A7 en.length c7 : Value).ownBlock) hs7 (fun _ hk => hk)
              refine hK _ _ ?_
              clear hK K
              refine wpAny_ready (rs := [6]) (by kernel_rfl) (by simp) ?_
              refine AllReady.cons rfl (fun K hK => ?_) AllReady.nil
              go_simp
              refine hK _ _ ?_
              clear hK K
              refine wpAny_ready (rs := [7]) (by kernel_rfl) (by simp) ?_
              refine AllReady.cons rfl (fun K hK => ?_) AllReady.nil
              refine Kd.S_append_step (Kd.slice 5 (Kd.int .u8)) (w0 := w) w.heap.size rfl (.tmp 38) (.tmp 44) 46 23 (.slice none 0 0) 24 rfl Try.underlying46 info23 rfl (by decide) (by omega) v _ en [.slice A7 en.length c7] (fun k_ => k_ ≠ g ∧ k_ ≠ g + 1 ∧ k_ ≠ g + 1 + 1) (fun k_ => some k_ = (.slice A7 en.length c7 : Value).ownBlock) rfl rfl (Kd.M_row (Kd.R_tight rfl (Kd.R_lower ho7 hbw5.size))) (enc_okp2 hs7 ho7 (by have : W.heap.size ≤ w5.heap.size := hb5.size; omega)) (fun k_ hk => by have : W.heap.size ≤ w5.heap.size := hb5.size; have : w5.heap.size ≤ w7.heap.size := hb7.size; omega) hs7' hbw7 hbw7.size ?_ ?_
              · rw [List.length_cons]; have := LM.out; have := enc_all_len _ _ _ _ _ G3.out; omega
              intro v6 w6 ho6 hb6 hg6 hat6
              refine hK _ _ ?_
              clear hK K
              have b76 := blk_grown b77 hg6 (Kd.S_away hs7 (fun _ hk => hk.1.1))
              obtain ⟨A6, c6, eo6, _⟩ := Kd.S_reads ho6
              generalize hn6 : (t :: bs ++ [en]).length = n6 at eo6
              subst eo6
              have hcl6 : w6.cell? ⟨g, 0, none⟩ = some v := blk_cell b76 0
              have hfr6 : w6.frozen? ⟨g, 0, none⟩ = false := blk_frozen b76 0
              have hd6 := blk_grown hd7 hg6 (enc_def hs7 hd7)
              refine wpAny_ready (rs := [8]) (by kernel_rfl) (by simp) ?_
              refine AllReady.cons rfl (fun K hK => ?_) AllReady.nil
              go_simp
              refine hK _ _ ?_
              refine wpAny_done (by kernel_rfl) ?_ _
              exact ⟨rfl, _, _, _, _, _, rfl, A6, n6, c6, rfl, blk_set b76 0 _, Kd.S_mono (Kd.S_far ho6 (p := ⟨g, 0, none⟩) (fun _ hk => hk.1) (.slice A6 n6 c6)) (fun _ _ => trivial), below_set hb6 (by omega), blk_far' hd6 (by intro e_; have := hD; omega)⟩
            · go_simp
              refine (num_Put.calls k _ _ z (IntKind.u64.wrap ((l0.length : Nat) : Int)) en _ (Kd.R_reads' ho5).2.2 (Kd.R_reads' ho5).2.1 G5.out).mono ?_
              rintro e_ w7 ⟨v7, rfl, ho7, hb7⟩
              obtain ⟨A7, c7, eo7⟩ := Kd.R_slice ho7
              subst eo7
              have b77 := blk_below b75 hb7
              have hcl7 : w7.cell? ⟨g, 0, none⟩ = some v := blk_cell b77 0
              have hcl7' : (w7.alloc (.cells #[.slice A7 en.length c7] 23 (0, 0))).cell? ⟨g, 0, none⟩ = some v := blk_cell (blk_alloc b77 _) 0
              have hs7 := Kd.S_elder' hs5 (Kd.R_base ho7) hb7
              have hbw7 := below_step hbw5 hb7
              have hd7 := blk_below hd5 hb7
              have hs7' := Kd.S_mono (ok' := fun k_ => (k_ ≠ g ∧ k_ ≠ g + 1 ∧ k_ ≠ g + 1 + 1) ∧ ¬ some k_ = (.slice A7 en.length c7 : Value).ownBlock) hs7 (fun _ hk => hk)
              refine hK _ _ ?_
              clear hK K
              refine wpAny_ready (rs := [0, 6]) (by kernel_rfl) (by simp) ?_
              refine AllReady.cons rfl (fun K hK => ?_) (AllReady.cons rfl (fun K hK => ?_) AllReady.nil)
              · go_simp
                refine hK _ _ ?_
                clear hK K
                refine wpAny_ready (rs := [6]) (by kernel_rfl) (by simp) ?_
                refine AllReady.cons rfl (fun K hK => ?_) AllReady.nil
                go_simp
                refine hK _ _ ?_
                clear hK K
                refine wpAny_ready (rs := [7]) (by kernel_rfl) (by simp) ?_
                refine AllReady.cons rfl (fun K hK => ?_) AllReady.nil
                refine Kd.S_append_step (Kd.slice 5 (Kd.int .u8)) (w0 := w) w.heap.size rfl (.tmp 38) (.tmp 44) 46 23 (.slice none 0 0) 24 rfl Try.underlying46 info23 rfl (by decide) (by omega) v _ en [.slice A7 en.length c7] (fun k_ => k_ ≠ g ∧ k_ ≠ g + 1 ∧ k_ ≠ g + 1 + 1) (fun k_ => some k_ = (.slice A7 en.length c7 : Value).ownBlock) rfl rfl (Kd.M_row (Kd.R_tight rfl (Kd.R_lower ho7 hbw5.size))) (enc_okp2 hs7 ho7 (by have : W.heap.size ≤ w5.heap.size := hb5.size; omega)) (fun k_ hk => by have : W.heap.size ≤ w5.heap.size := hb5.size; have : w5.heap.size ≤ w7.heap.size := hb7.size; omega) hs7' hbw7 hbw7.size ?_ ?_
                · rw [List.length_cons]; have := LM.out; have := enc_all_len _ _ _ _ _ G3.out; omega
                intro v6 w6 ho6 hb6 hg6 hat6
                refine hK _ _ ?_
                clear hK K
                have b76 := blk_grown b77 hg6 (Kd.S_away hs7 (fun _ hk => hk.1.1))
                obtain ⟨A6, c6, eo6, _⟩ := Kd.S_reads ho6
                generalize hn6 : (t :: bs ++ [en]).length = n6 at eo6
                subst eo6
                have hcl6 : w6.cell? ⟨g, 0, none⟩ = some v := blk_cell b76 0
                have hfr6 : w6.frozen? ⟨g, 0, none⟩ = false := blk_frozen b76 0
                have hd6 := blk_grown hd7 hg6 (enc_def hs7 hd7)
                refine wpAny_ready (rs := [8]) (by kernel_rfl) (by simp) ?_
                refine AllReady.cons rfl (fun K hK => ?_) AllReady.nil
                go_simp
                refine hK _ _ ?_
                refine wpAny_done (by kernel_rfl) ?_ _
                exact ⟨rfl, _, _, _, _, _, rfl, A6, n6, c6, rfl, blk_set b76 0 _, Kd.S_mono (Kd.S_far ho6 (p := ⟨g, 0, none⟩) (fun _ hk => hk.1) (.slice A6 n6 c6)) (fun _ _ => trivial), below_set hb6 (by omega), blk_far' hd6 (by intro e_; have := hD; omega)⟩
              · go_simp
                refine hK _ _ ?_
                clear hK K
                refine wpAny_ready (rs := [0]) (by kernel_rfl) (by simp) ?_
                refine AllReady.cons rfl (fun K hK => ?_) AllReady.nil
                go_simp
                refine hK _ _ ?_
                clear hK K
                refine wpAny_ready (rs := [7]) (by kernel_rfl) (by simp) ?_
                refine AllReady.cons rfl (fun K hK => ?_) AllReady.nil
                refine Kd.S_append_step (Kd.slice 5 (Kd.int .u8)) (w0 := w) w.heap.size rfl (.tmp 38) (.tmp 44) 46 23 (.slice none 0 0) 24 rfl Try.underlying46 info23 rfl (by decide) (by omega) v _ en [.slice A7 en.length c7] (fun k_ => k_ ≠ g ∧ k_ ≠ g + 1 ∧ k_ ≠ g + 1 + 1) (fun k_ => some k_ = (.slice A7 en.length c7 : Value).ownBlock) rfl rfl (Kd.M_row (Kd.R_tight rfl (Kd.R_lower ho7 hbw5.size))) (enc_okp2 hs7 ho7 (by have : W.heap.size ≤ w5.heap.size := hb5.size; omega)) (fun k_ hk => by have : W.heap.size ≤ w5.heap.size := hb5.size; have : w5.heap.size ≤ w7.heap.size := hb7.size; omega) hs7' hbw7 hbw7.size ?_ ?_
                · rw [List.length_cons]; have := LM.out; have := enc_all_len _ _ _ _ _ G3.out; omega
                intro v6 w6 ho6 hb6 hg6 hat6
                refine hK _ _ ?_
                clear hK K
                have b76 := blk_grown b77 hg6 (Kd.S_away hs7 (fun _ hk => hk.1.1))
                obtain ⟨A6, c6, eo6, _⟩ := Kd.S_reads ho6
                generalize hn6 : (t :: bs ++ [en]).length = n6 at eo6
                subst eo6
                have hcl6 : w6.cell? ⟨g, 0, none⟩ = some v := blk_cell b76 0
                have hfr6 : w6.frozen? ⟨g, 0, none⟩ = false := blk_frozen b76 0
                have hd6 := blk_grown hd7 hg6 (enc_def hs7 hd7)
                refine wpAny_ready (rs := [8]) (by kernel_rfl) (by simp) ?_
                refine AllReady.cons rfl (fun K hK => ?_) AllReady.nil
                go_simp
                refine hK _ _ ?_
                refine wpAny_done (by kernel_rfl) ?_ _
                exact ⟨rfl, _, _, _, _, _, rfl, A6, n6, c6, rfl, blk_set b76 0 _, Kd.S_mono (Kd.S_far ho6 (p := ⟨g, 0, none⟩) (fun _ hk => hk.1) (.slice A6 n6 c6)) (fun _ _ => trivial), below_set hb6 (by omega), blk_far' hd6 (by intro e_; have := hD; omega)⟩
        case rest =>
          rintro _ _ W6 ⟨rfl, x38, x39, x43, x44, x45, rfl, A6, n6, c6, hn6, b76, hs6, hb6, hd6⟩
          have hcl6 : W6.cell? ⟨g, 0, none⟩ = some (.slice A6 n6 c6) := blk_cell b76 0
          clear hs b7 hb hK0
          obtain ⟨-, hc6, hC6⟩ := Kd.S_reads' hs6
          have H := H.out
          have hrl : ((t :: bs) ++ [en]).length ≤ l0.length + 2 := by
            have := enc_all_len _ _ _ _ _ G3.out
            rw [List.length_append, List.length_cons, List.length_singleton]
            omega
          generalize hrecs : (t :: bs) ++ [en] = recs at hn6 hC6 H hs6 hrl
          have HRL := Aside0.mk hrl
          clear hrl
          subst hn6
          have HH := Aside0.mk H
          have HC6 := Aside0.mk hC6
          have HB6 := Aside0.mk hb6
          have HD6 := Aside0.mk hd6
          have HDD := Aside0.mk hD
          have hw4 : w.heap.size ≤ W4.heap.size := by omega
          clear hrecs H hC6 hb6 hd6 hs6 b76 hD G2 G3 G4 G5
          go_wp2
          go_loopg [9, 48] recs.length (fun kq v9 v48 w' => ∃ (x9 : List Int) (i : Int), v48 = .int .i64 i ∧ Aside0 (0 ≤ i ∧ i + kq = recs.length) ∧ Aside0 (run_Encode.out k (recs.drop i.toNat) x9 = some (r1, r2)) ∧ Aside0 (Kd.R (Kd.int .u8) 5 w' w.heap.size (fun _ => True) v9 x9) ∧ Aside0 (Kd.C (Kd.slice 5 (Kd.int .u8)) w' A6 recs.length recs) ∧ Aside0 (Below w.heap.size w w') ∧ Aside0 (w'.heap[D]? = some (.deferred (some []))))
          case atStart => exact ⟨[], 0, rfl, ⟨by omega⟩, HH, ⟨Kd.R_nil _ _ _ _ _⟩, HC6, HB6, HD6⟩
          case round =>
            clear HH HC6 HB6 HD6 hcl6
            obtain ⟨x9, i, rfl, HI, HA, HR, HC, HB, HD⟩ := hrel
            cases gk with
            | zero =>
              have hi := HI.out
              have hlt : decide (i < (recs.length : Int)) = false := by simp; omega
              have h := HA.out
              rw [List.drop_of_length_le (by omega)] at h
              simp only [run_Encode.out, Option.some.injEq, Prod.mk.injEq] at h
              obtain ⟨rfl, rfl⟩ := h
              clear hi
              go_wp2
              refine leaves_mark (P := Try.prog) (fn := Try.f11) (t := 4) (u := 5) (W4 := W4) rfl hw4 HDD.out HD.out HR.out HB.out ?_ ?_ <;> rfl
            | succ k1 =>
              have hi := HI.out
              have hlt : decide (i < (recs.length : Int)) = true := by simp; omega
              obtain ⟨ad, cs, rfl, _, ⟨Ax, cx, rfl, hcx, hCx⟩, hcell⟩ := Kd.C_get HC.out [] i hi.1 (by omega)
              have hcx0 := hcell 0 _ rfl
              simp only [show (Kd.slice 5 (Kd.int .u8)).sz = 1 from rfl, Nat.mul_one, Nat.add_zero] at hcx0
              have hex : recs.getD i.toNat [] = recs[i.toNat]'(by omega) := by rw [List.getD_eq_getElem?_getD, List.getElem?_eq_getElem (by omega), Option.getD_some]
              have h := HA.out
              rw [List.drop_eq_getElem_cons (by omega)] at h
              rw [hex] at hcx hCx hcx0
              generalize recs[i.toNat]'(by omega) = x at h hcx hCx hcx0
              simp only [run_Encode.out] at h
              replace h := Option.bind_eq_some_iff.mp h
              obtain ⟨⟨f1, f2⟩, G, h⟩ := h
              have G := Aside0.mk G
              have H := Aside0.mk h
              have HCX := Aside0.mk hcx
              have HX := Aside0.mk hCx
              have h0 := hi.1
              have hil : i < (recs.length : Int) := by omega
              clear h HA hcell hex hcx hCx hi
              obtain ⟨A9, c9, e9⟩ := Kd.R_slice HR.out
              subst e9
              go_upto_region 16 with (go_at_call 22; refine (frame_Put.calls k _ _ x9 _ _ x f1 f2 _ (Kd.R_reads' HR.out).2.2 (Kd.R_reads' HR.out).2.1 HX.out HCX.out G.out).mono ?_; rintro e_ w8 ⟨v8, rfl, ho8, hb8⟩; have HR8 := Aside0.mk (Kd.R_lower ho8 HB.out.size); have HC8 := Aside0.mk (Kd.C_below HC.out hb8); have HB8 := Aside0.mk (below_step HB.out hb8); have HD8 := Aside0.mk (blk_below HD.out hb8); clear ho8 hb8 HR HC HB HD)
              have h := H.out
              clear H
              by_cases c9 : f2 = 0
              · rw [if_pos c9] at h
                have c9b : (f2 != 0) = false := bne_eq_false_iff_eq.mpr c9
                have H := Aside0.mk h
                clear h c9
                have hw64 : wrap64 (i + 1) = i + 1 := by
                  have := HRL.out
                  have := LM.out
                  unfold wrap64
                  omega
                have HW := Aside0.mk hw64
                clear hw64
                go_wp2
                go_roundg k1
                case measure => omega
                case rel => exact ⟨f1, _, rfl, ⟨by have := HI.out; rw [HW.out]; omega⟩, ⟨by have := H.out; rwa [HW.out, show (i + 1).toNat = i.toNat + 1 by omega]⟩, HR8, HC8, HB8, HD8⟩
              · rw [if_neg c9] at h
                have c9b : (f2 != 0) = true := bne_iff_ne.mpr c9
                simp only [Option.some.injEq, Prod.mk.injEq] at h
                obtain ⟨rfl, rfl⟩ := h
                clear c9
                go_wp2
                refine leaves_mark (P := Try.prog) (fn := Try.f11) (t := 4) (u := 5) (W4 := W4) rfl hw4 HDD.out HD8.out (Kd.R_nil _ _ _ _ _) HB8.out ?_ ?_ <;> rfl
      case stop => exact fun _ _ _ _ _ _ h _ => h.elim
    · rw [if_neg c4] at h
      exact absurd h (by simp)
  · rw [if_neg c3] at h
    have c3b : (e != 0) = true := bne_iff_ne.mpr c3
    clear c3
    simp only [Option.some.injEq, Prod.mk.injEq] at h
    obtain ⟨rfl, rfl⟩ := h
    go_wp2_with (go_at_call 15; refine (run_May.calls k A0 c0 l0 e _ (Kd.C_below HR0.out HB.out) HC0.out G1.out).mono ?_; rintro e_ w1 ⟨rfl, hb⟩)
    exact leaves_two rfl ⟨_, rfl, Kd.R_nil _ _ _ _ _, below_step HB.out hb⟩
end

/-! ### num_Get: function 27 -/
/-- c numbers from i on, seven bits each, the least first. -/
def num_Get.vals (l : List Int) : Nat → Nat → Int
  | _, 0 => 0
  | i, c + 1 => rd l i % 128 + 128 * num_Get.vals l (i + 1) c
/-- The place of the first number below 128 from s on, k places at most; none: the list ends before. -/
def num_Get.scan (l : List Int) : Nat → Nat → Option Nat
  | 0, s => some s
  | k + 1, s => if s = l.length then none else if rd l s < 128 then some s else num_Get.scan l k (s + 1)
def num_Get.ans (l : List Int) : Int × Int × Int :=
  match num_Get.scan l 10 0 with
  | none => (0, 0, 3)
  | some s => if s = 10 ∨ (s = 9 ∧ rd l s > 1) ∨ (0 < s ∧ rd l s = 0) then (0, 0, 2) else (num_Get.vals l 0 (s + 1), (s : Int) + 1, 0)
def num_Get.f (l : List Int) : Option (Int × Int × Int) := if ∀ x ∈ l, 0 ≤ x ∧ x ≤ 255 then some (num_Get.ans l) else none

theorem num_Get.scan_eq (l : List Int) (s : Nat) (h : s < 10) : num_Get.scan l (10 - s) s = if s = l.length then none else if rd l s < 128 then some s else num_Get.scan l (10 - (s + 1)) (s + 1) := by
  obtain ⟨m, hm⟩ : ∃ m, 10 - s = m + 1 := ⟨9 - s, by omega⟩
  rw [hm, show 10 - (s + 1) = m by omega]
  rfl
theorem num_Get.vals_lt (l : List Int) : ∀ (c i : Nat), 0 ≤ num_Get.vals l i c ∧ num_Get.vals l i c < 128 ^ c
  | 0, _ => by simp [num_Get.vals]
  | c + 1, i => by
    have := num_Get.vals_lt l c (i + 1)
    simp only [num_Get.vals, Int.pow_succ]
    omega
theorem num_Get.vals_top (l : List Int) : ∀ (c i : Nat), rd l (i + c : Nat) % 128 ≤ 1 → num_Get.vals l i (c + 1) < 2 * 128 ^ c
  | 0, i, h => by
    simp only [num_Get.vals, Nat.add_zero] at h ⊢
    omega
  | c + 1, i, h => by
    have := num_Get.vals_top l c (i + 1) (by rw [show i + 1 + c = i + (c + 1) by omega]; exact h)
    rw [num_Get.vals, Int.pow_succ]
    have h2 : num_Get.vals l (i + 1) (c + 1) < 2 * 128 ^ c := this
    have h3 : rd l (i : Int) % 128 < 128 := by omega
    generalize num_Get.vals l (i + 1) (c + 1) = v at *
    generalize (128 : Int) ^ c = p at *
    omega
theorem num_Get.found (l : List Int) (s : Nat) (r1 r2 r3 : Int) (hf : num_Get.f l = some (r1, r2, r3)) (hs : num_Get.scan l 10 0 = some s) :
    (if s = 10 ∨ (s = 9 ∧ rd l s > 1) ∨ (0 < s ∧ rd l s = 0) then (0, 0, 2) else (num_Get.vals l 0 (s + 1), (s : Int) + 1, 0)) = (r1, r2, r3) := by
  unfold num_Get.f at hf
  split at hf
  · have := Option.some.inj hf
    rw [num_Get.ans, hs] at this
    exact this
  · simp at hf
theorem num_Get.short (l : List Int) (r1 r2 r3 : Int) (hf : num_Get.f l = some (r1, r2, r3)) (hs : num_Get.scan l 10 0 = none) : (0, 0, 3) = (r1, r2, r3) := by
  unfold num_Get.f at hf
  split at hf
  · have := Option.some.inj hf
    rw [num_Get.ans, hs] at this
    exact this
  · simp at hf
theorem num_Get.range (l : List Int) (r : Int × Int × Int) (hf : num_Get.f l = some r) (i : Nat) (hi : i < l.length) : 0 ≤ rd l i ∧ rd l i ≤ 255 := by
  unfold num_Get.f at hf
  split at hf
  · rename_i h
    unfold rd
    rw [Int.toNat_natCast, List.getD_eq_getElem?_getD, List.getElem?_eq_getElem hi, Option.getD_some]
    exact h _ (List.getElem_mem hi)
  · simp at hf
theorem num_Get.step (n x : Int) (h0 : 0 ≤ n) (h1 : n < 2 ^ 57) (hx0 : 0 ≤ x) (hx1 : x ≤ 255) : Go.bits .or .u64 (IntKind.u64.wrap (n * 128)) (IntKind.u64.wrap (Go.bits .and .u8 x 127)) = x % 128 + 128 * n := by
  have hw : ∀ n : Int, 0 ≤ n → n < 2 ^ 64 → IntKind.u64.wrap n = n := fun n a b => by
    simp [IntKind.wrap, IntKind.bits, IntKind.signed]; omega
  rw [hw _ (by omega) (by omega)]
  have e : Go.bits .and .u8 x 127 = x % 128 := bits_mask .u8 8 (by decide) wraps_u8 7 (by decide) x hx0 (by omega)
  rw [e, hw (x % 128) (by omega) (by omega), bits_join .u64 64 (by decide) hw 7 _ _ (by omega) (by omega) (by omega) (by omega) (by omega) (by omega)]
  omega
theorem num_Get.goes (l : List Int) (s : Nat) (hs : s < 10) (h0 : 0 ≤ rd l s) (hb : rd l s < 128) (hn : ¬ ((s = 9 ∧ rd l s > 1) ∨ (0 < s ∧ rd l s = 0))) (i : Int) (hi0 : 0 ≤ i) (hi : i ≤ s)
    (x : Int) (hx : x = rd l i) (hx0 : 0 ≤ x ∧ x ≤ 255) :
    Go.bits .or .u64 (IntKind.u64.wrap (num_Get.vals l (i + 1).toNat (s - i).toNat * 128)) (IntKind.u64.wrap (Go.bits .and .u8 x 127)) = num_Get.vals l (i - 1 + 1).toNat (s - (i - 1)).toNat := by
  obtain ⟨j, rfl⟩ := Int.eq_ofNat_of_zero_le hi0
  have e1 : ((j : Int) + 1).toNat = j + 1 := by omega
  have e2 : ((s : Int) - j).toNat = s - j := by omega
  have e3 : ((j : Int) - 1 + 1).toNat = j := by omega
  have e4 : ((s : Int) - (j - 1)).toNat = s - j + 1 := by omega
  rw [e1, e2, e3, e4, num_Get.vals, ← hx]
  have hv := num_Get.vals_lt l (s - j) (j + 1)
  refine num_Get.step _ _ hv.1 ?_ hx0.1 hx0.2
  by_cases h8 : s - j ≤ 8
  · exact Int.lt_of_lt_of_le hv.2 (by
      have : (128 : Int) ^ (s - j) ≤ 128 ^ 8 := by
        have := Nat.pow_le_pow_right (n := 128) (by decide) h8
        exact_mod_cast this
      exact Int.le_trans this (by decide))
  · have e9 : s - j = 8 + 1 := by omega
    rw [e9]
    have ht := num_Get.vals_top l 8 (j + 1) (by
      have : j + 1 + 8 = s := by omega
      rw [this]
      have : s = 9 := by omega
      omega)
    exact Int.lt_of_lt_of_le ht (by decide)

theorem num_Get.calls (A0 : Option Addr) (c0 : Nat) (l0 : List Int) (r1 : Int) (r2 : Int) (r3 : Int) (w : World) (hr0 : Kd.C (Kd.int .u8) w A0 l0.length l0) (hc0 : l0.length ≤ c0) (h : num_Get.f l0 = some (r1, r2, r3)) :
    Calls Try.prog 27 #[.slice A0 l0.length c0] w fun e w' => e = .returned (.tuple #[.int .u64 r1, .int .i64 r2, .int .i64 r3]) ∧ Drawn0 w w' := by
  have HR0 := Aside0.mk hr0
  clear hr0
  have H := Aside0.mk h
  clear h
  go_enter Try.func27, Try.ntmps27
  go_wp2
  go_step3
  go_wp2
  go_step3
  go_wp2
  go_loop [5] (fun v => ∃ s : Nat, v = .int .i64 s ∧ Aside0 (s ≤ 10 ∧ s ≤ l0.length ∧ num_Get.scan l0 (10 - s) s = num_Get.scan l0 10 0)) (fun v => 10 - (intOf v).toNat)
  case atStart => exact ⟨0, rfl, ⟨by omega, by omega, rfl⟩⟩
  case round =>
    obtain ⟨s, rfl, hs⟩ := hrel
    by_cases h10 : s = 10
    · subst h10
      go_wp2
      go_ret3
      have hr := num_Get.found l0 10 _ _ _ H.out (by rw [← hs.out.2.2]; rfl)
      rw [if_pos (.inl rfl)] at hr
      obtain ⟨rfl, rfl, rfl⟩ : 0 = r1 ∧ 0 = r2 ∧ 2 = r3 := by simpa using hr
      exact ⟨rfl, Drawn0.refl _⟩
    · have h10' : decide ((s : Int) < 10) = true := by have := hs.out; simp; omega
      have h10n : s < 10 := by have := hs.out; omega
      have HS := Aside0.mk (num_Get.scan_eq l0 s h10n)
      by_cases hl : s = l0.length
      · have hl' : ((s : Int) == (l0.length : Int)) = true := by simp; omega
        have hl2 := Aside0.mk hl
        clear hl
        go_wp2
        go_ret3
        have hr := num_Get.short l0 _ _ _ H.out (by rw [← hs.out.2.2, HS.out, if_pos hl2.out])
        obtain ⟨rfl, rfl, rfl⟩ : 0 = r1 ∧ 0 = r2 ∧ 3 = r3 := by simpa using hr
        exact ⟨rfl, Drawn0.refl _⟩
      · have hl' : ((s : Int) == (l0.length : Int)) = false := by simp; omega
        have hlt : s < l0.length := by have := hs.out; omega
        obtain ⟨ad, e, hx⟩ := Kd.at_int HR0.out s (by omega) (by omega)
        cases e
        have hx' : w.cell? (ad.add s) = some (.int .u8 (rd l0 s)) := hx
        clear hx
        by_cases hb : rd l0 s < 128
        · have hb' : decide (rd l0 s < 128) = true := by simpa using hb
          have HF := Aside0.mk (num_Get.found l0 s _ _ _ H.out (by rw [← hs.out.2.2, HS.out, if_neg hl, if_pos hb]))
          have hrg := num_Get.range l0 _ H.out s hlt
          by_cases hbad : (s = 9 ∧ rd l0 s > 1) ∨ (0 < s ∧ rd l0 s = 0)
          · have e : (0, 0, 2) = (r1, r2, r3) := by have := HF.out; rw [if_pos (.inr hbad)] at this; exact this
            obtain ⟨rfl, rfl, rfl⟩ : 0 = r1 ∧ 0 = r2 ∧ 2 = r3 := by simpa using e
            clear e
            have e10 : ((s : Int) == 10) = false := by simp; omega
            by_cases h9 : s = 9
            · have e9 : ((s : Int) == 9) = true := by simp; omega
              have h9' := Aside0.mk h9
              clear h9
              by_cases h1 : rd l0 s > 1
              · have e1 : decide (1 < rd l0 s) = true := by simpa using h1
                go_wp2
                go_ret3
                exact ⟨rfl, Drawn0.refl _⟩
              · have e1 : decide (1 < rd l0 s) = false := by simpa using h1
                have e0 : (rd l0 s == 0) = true := by simp; omega
                have ep : decide (0 < s) = true := by have := h9'.out; simp; omega
                clear h1
                go_wp2
                go_ret3
                exact ⟨rfl, Drawn0.refl _⟩
            · have e9 : ((s : Int) == 9) = false := by simp; omega
              have e0 : (rd l0 s == 0) = true := by simp; omega
              have ep : decide (0 < s) = true := by simp; omega
              go_wp2
              go_ret3
              exact ⟨rfl, Drawn0.refl _⟩
          · have e : (num_Get.vals l0 0 (s + 1), (s : Int) + 1, 0) = (r1, r2, r3) := by have := HF.out; rw [if_neg (by omega)] at this; exact this
            obtain ⟨rfl, rfl, rfl⟩ : num_Get.vals l0 0 (s + 1) = r1 ∧ (s : Int) + 1 = r2 ∧ 0 = r3 := by simpa using e
            have HR := Aside0.mk (num_Get.range l0 _ H.out)
            have HG := Aside0.mk (num_Get.goes l0 s h10n hrg.1 hb hbad)
            have e10 : ((s : Int) == 10) = false := by simp; omega
            have HW : ((s : Int) == 9) = true ∧ decide (1 < rd l0 s) = false ∧ decide (0 < s) = true ∧ (rd l0 s == 0) = false ∨ ((s : Int) == 9) = false ∧ decide (0 < s) = true ∧ (rd l0 s == 0) = false ∨ ((s : Int) == 9) = false ∧ decide (0 < s) = false := by
              simp
              omega
            clear e HF H hs HS hbad hrg hb
            rcases HW with ⟨e9, e1, ep, e0⟩ | ⟨e9, ep, e0⟩ | ⟨e9, ep⟩
            all_goals
              go_wp2
              go_loop [6, 7] (fun v6 v7 => ∃ i : Int, v7 = .int .i64 i ∧ -1 ≤ i ∧ i ≤ s ∧ v6 = .int .u64 (num_Get.vals l0 (i + 1).toNat (s - i).toNat)) (fun _ v7 => (intOf v7 + 1).toNat)
              case atStart => exact ⟨s, rfl, by omega, by omega, by simp [num_Get.vals]⟩
              case round =>
                obtain ⟨i, rfl, hi0, hi1, rfl⟩ := hrel
                by_cases hc : 0 ≤ i
                · obtain ⟨ad', e', hxi⟩ := Kd.at_int HR0.out i hc (by omega)
                  obtain rfl : ad = ad' := by injection e'
                  have HS := Aside0.mk (HG.out i hc hi1 _ rfl (by have := HR.out i.toNat (by omega); rwa [Int.toNat_of_nonneg hc] at this))
                  have hi2 : i < (l0.length : Int) := by omega
                  go_wp2
                  go_round
                  case rel => exact ⟨i - 1, rfl, by omega, by omega, by rw [← HS.out]⟩
                  case measure => simp [intOf]; omega
                · have hc' : i = -1 := by omega
                  subst hc'
                  go_wp2
                  go_ret3
                  exact ⟨rfl, Drawn0.refl _⟩
        · have hb' : decide (rd l0 s < 128) = false := by simpa using hb
          go_wp2
          go_round
          case rel => exact ⟨s + 1, by go_num, by have := hs.out; omega, by omega, by rw [← hs.out.2.2, HS.out, if_neg hl, if_neg hb]⟩
          case measure => simp [intOf]; omega

end Go.Proofs.Ytmfngihgoanhpaa.PRun
