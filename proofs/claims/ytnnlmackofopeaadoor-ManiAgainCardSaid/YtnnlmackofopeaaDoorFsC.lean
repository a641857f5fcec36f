/- Contract of (*Fs).Crash. -/
import Derived.Test.YtnnlmackofopeaaDoorFsB
import Derived.StillTailTactics
import Derived.Lib.BufferRead
import Derived.Laws.BytesString
namespace Go.Proofs.YtnnlmackofopeaaDoor.Fs
open Go.RowKit Go.Lib Go.Maps Go.Shelf Go.Proofs.YtnnlmackofopeaaDoorW.PrintWords Go.Proofs.YtnnlmackofopeaaDoorW.PrintLast Go.Proofs.YtnnlmackofopeaaDoorW.PrintMore
set_option linter.unusedVariables false
set_option linter.unusedSimpArgs false
/-- Ints to be read: none, or cells. -/
def IR (w : World) (A : Option Addr) (bs : List Int) : Prop := ∀ (i : Nat) (h : i < bs.length), ∃ ad, A = some ad ∧ w.cell? (ad.add i) = some (.int .i64 bs[i])
theorem IR.turn {w w' : World} {own : Nat → Prop} {A : Option Addr} {bs : List Int} (h : IR w A bs) (hb : Turn own w w') (hn : bs = [] ∨ ∀ ad, A = some ad → ¬ own ad.block) : IR w' A bs := fun i hi => by
  rcases hn with hn | hn
  · subst hn; exact absurd hi (Nat.not_lt_zero _)
  obtain ⟨ad, e, hc⟩ := h i hi
  refine ⟨ad, e, ?_⟩
  rw [← hc]
  refine World.cell?_of_block (hb.block _ (World.block_lt_of_cell? w _ hc) ?_)
  rw [add_block]
  exact hn ad e
theorem IR.there {w : World} {A : Option Addr} {bs : List Int} (h : IR w A bs) : bs = [] ∨ ∀ ad, A = some ad → ad.block < w.heap.size := by
  cases bs with
  | nil => exact .inl rfl
  | cons y r =>
    refine .inr fun ad e => ?_
    obtain ⟨ad', e', hc⟩ := h 0 (by simp)
    rw [e] at e'
    injection e' with e'
    subst e'
    have := World.block_lt_of_cell? w _ hc
    rwa [add_block] at this
theorem crash_nil (nm : Int) (A : Option Addr) (n c : Nat) (w : World) : Calls Tryd.prog 17 #[.pointer none, .agg #[.int .i64 nm, .slice A n c]] w fun e w' => e = .returned (.tuple #[]) ∧ Below w.heap.size w w' := by
  go_enter Tryd.func17, Tryd.ntmps17
  go_wp2
  refine bodyPost_ret (results_none rfl _ _ _) rfl ?_
  exact ⟨rfl, below_alloc (Below.refl _ _) _⟩
/-- A row: its slice, its cells. -/
theorem row_cells {w : World} {e : TypeId} {n : Nat} {v : Value} {xs : List Value} (h : w.ownsRow 0 e 1 v n xs) : (v = .slice none 0 0 ∧ n = 0 ∧ xs = []) ∨ ∃ b c, v = .slice (some ⟨b, 0, none⟩) n c ∧ n ≤ c ∧ ∀ j u, xs[j]? = some u → w.cell? ⟨b, j, none⟩ = some u := by
  obtain ⟨hl, h⟩ := h
  rcases h with ⟨rfl, rfl⟩ | ⟨b, c, cur, rfl, _, hb, hn, _, hs, ht⟩
  · exact .inl ⟨rfl, rfl, List.eq_nil_of_length_eq_zero (by simpa using hl)⟩
  · refine .inr ⟨b, c, rfl, hn, fun j u hu => ?_⟩
    rw [cell_of_row w b j cur e (0, 0) hb]
    rw [← ht, List.getElem?_take] at hu
    split at hu
    · simpa using hu
    · cases hu
theorem drow_cut {w : World} {own : Nat → Prop} {B : Option Addr} {c s : Nat} {xs : List Int} (h : DRow w own (.slice B xs.length c) xs) (hs : s ≤ xs.length) : DRow w own (.slice B s s) (xs.take s) := by
  obtain ⟨A, cc, e, hl, h⟩ := h
  injection e with e1 _ e3
  subst e1 e3
  have hlen : (xs.take s).length = s := by rw [List.length_take]; omega
  refine ⟨B, s, by rw [hlen], by rw [hlen]; exact Nat.le_refl _, ?_⟩
  rcases h with ⟨h1, h2⟩ | ⟨b, cells, h1, h2, h3, h4, h5⟩
  · exact .inl ⟨h1, by omega⟩
  · refine .inr ⟨b, cells, h1, h2, h3, by omega, ?_⟩
    rw [hlen, List.map_take, ← h5, List.take_take, Nat.min_eq_left hs]
theorem sub_wrap (a b : Nat) (h : a ≤ 1000000000) (h2 : b ≤ a) : IntKind.i64.wrap ((a : Int) - (b : Int)) = (a : Int) - (b : Int) := IntWalk.i64_in _ (by omega)
theorem add_wrap (a b n : Nat) (h : n ≤ 1000000000) (h2 : a + b ≤ n) : wrap64 ((a : Int) + (b : Int)) = ((a + b : Nat) : Int) := by unfold wrap64; omega
theorem stay_int (bs : List Int) (j : Nat) (f : List Int × Nat) (y : Int) (hb : j < bs.length) (hy : y = bs[j]) : max (min y ((f.1.length : Int) - (f.2 : Int))) 0 = (stayS bs j f : Int) := by
  unfold stayS
  rw [if_pos hb, show bs.getD j 0 = y by rw [hy]; simp [List.getD, List.getElem?_eq_getElem hb]]
  omega
/-- A file is cut. -/
theorem cut_step {V2 : World} {own : Nat → Prop} {g : Nat} {S1 : FsS} {bs : List Int} {G' : FsG} {st : Nat} (j b : Nat) (f : List Int × Nat) (s : Nat) (B : Option Addr) (cc2 : Nat) (V4 : World) (h : FsAt V2 own g (S1.cutN bs j) G') (p1 : G'.fs[j]? = some (b, .slice B f.1.length cc2)) (p2 : (S1.cutN bs j).files[j]? = some f)
    (hb : V4.heap[b]? = some (.cells #[.slice B f.1.length cc2, .int .i64 (s : Int)] 70 (0, 0))) (ho : ∀ k, k ≠ b → V4.heap[k]? = V2.heap[k]?) (hs : s = f.2 + st) (hst : st = stayS bs j f) :
    FsAt (V4.setCell ⟨b, 0, none⟩ (.slice B s s)) own g (S1.cutN bs (j + 1)) { G' with fs := G'.fs.set j (b, .slice B s s) } := by
  obtain ⟨q1, q2, q3, q4, q5⟩ := h.file j b _ f p1 p2
  have hsl : s ≤ f.1.length := by rw [hs, hst]; exact stay_le bs j f q4
  have hcut : cutF bs j f = (f.1.take s, s) := by unfold cutF; rw [← hst, ← hs]
  have hk : ∀ k, k ≠ b → (V4.setCell ⟨b, 0, none⟩ (.slice B s s)).heap[k]? = V2.heap[k]? := fun k hk => (Below.heap_setCell _ ⟨b, 0, none⟩ _ k hk).trans (ho k hk)
  have hlt : (f.1.take s).length = s := by rw [List.length_take]; omega
  have hob : ∀ k, (Value.slice B s s).ownBlock = some k → (Value.slice B f.1.length cc2).ownBlock = some k := fun k hk => by
    cases B with
    | none => simp [Value.ownBlock] at hk
    | some a => exact hk
  refine h.setFile (w' := V4.setCell ⟨b, 0, none⟩ (.slice B s s)) (own' := own) j b _ f p1 p2 (.slice B s s) (cutF bs j) (S1.cutN bs j).dat ?_ ?_ (fun _ h => h) ?_ ?_ (Nat.le_refl _) (fun k _ _ h1 _ => hk k h1) (fun k hk => .inl (hob k hk))
  · rw [hcut]
    exact blk_put hb 0 _ rfl
  · rw [hcut]
    exact (drow_cut q3 hsl).step (fun k hkk => hk k (by
      obtain ⟨_, _, cells, hc⟩ := q3.own k (hob k hkk)
      exact ne_of_type hc q1 (by decide))) (fun _ h => h)
  · rw [hcut, hlt]
    exact Nat.le_refl _
  · rw [hcut]
    show (f.1.take s).length ≤ _
    rw [hlt]
    exact Nat.le_trans hsl q5
theorem cutN_files {S S' : FsS} (bs : List Int) (h : S.files = S'.files) : ∀ n, (S.cutN bs n).files = (S'.cutN bs n).files
  | 0 => h
  | n + 1 => by
    show (S.cutN bs n).files.modify n (cutF bs n) = (S'.cutN bs n).files.modify n (cutF bs n)
    rw [cutN_files bs h n]
theorem crash_eq {S S1 : FsS} {nm : Int} {bs : List Int} {i L : Nat} (h1 : S1 = { S with durable := foldD S.durable (S.changes.take i), ops := S.ops + i }) (hi : i = kept nm S.changes.length) (hL : L = S1.files.length) :
    ({ ({ S1.cutN bs L with limited := false, names := (S1.cutN bs L).durable, durable := (S1.cutN bs L).durable, changes := [] } : FsS) with ops := S.ops } : FsS) = S.crash nm bs := by
  have hf : (S1.cutN bs L).files = (S.cutN bs S.files.length).files := by
    have : L = S.files.length := by rw [hL, h1]
    rw [this]
    exact cutN_files bs (by rw [h1]) _
  obtain ⟨a1, a2, a3, a4, a5, a6, a7, a8, a9⟩ := cutN_rest S1 bs L
  obtain ⟨b1, b2, b3, b4, b5, b6, b7, b8, b9⟩ := cutN_rest S bs S.files.length
  have d1 : S1.durable = foldD S.durable (S.changes.take (kept nm S.changes.length)) := by rw [h1, hi]
  have d2 : S1.quota = S.quota ∧ S1.left = S.left ∧ S1.dat = S.dat := by rw [h1]; exact ⟨rfl, rfl, rfl⟩
  unfold FsS.crash
  rw [FsS.mk.injEq]
  exact ⟨by simp only [a1, b1, d2], by simp only [a2, b2, d2], rfl, hf, by simp only [a5, d1], by simp only [a5, d1], rfl, by simp only [b7], by simp only [a8, b8, d2]⟩
set_option maxHeartbeats 4000000 in
set_option maxRecDepth 100000 in
theorem crash_calls (nm : Int) (A : Option Addr) (bs : List Int) (c : Nat) (w : World) (own : Nat → Prop) (g : Nat) (S : FsS) (hS : FsIs w own g S) (hu : Under own w) (hr : IR w A bs) (hA : bs = [] ∨ ∀ ad, A = some ad → ¬ own ad.block) (hops : S.ops ≤ 90000) (hdat : S.dat ≤ 1000000000) (hbl : bs.length ≤ maxLen) :
    Calls Tryd.prog 17 #[.pointer (some ⟨g, 0, none⟩), .agg #[.int .i64 nm, .slice A bs.length c]] w fun e w' => e = .returned (.tuple #[]) ∧ FsIs w' (More own w w') g (S.crash nm bs) ∧ Turn own w w' := by
  obtain ⟨G, hG0⟩ := hS
  have hG : FsAt (w.alloc (.cells #[.int .i64 nm, .slice A bs.length c] 25)) own g S G := hG0.move (fun k hk _ => Below.heap_alloc w _ k hk) (fun _ h => h)
  have hx := blk_new w (.cells #[.int .i64 nm, .slice A bs.length c] 25)
  have HT0 := Aside0.mk (Turn.below (below_alloc (Below.refl w.heap.size w) (.cells #[.int .i64 nm, .slice A bs.length c] 25)) own)
  have HNX := Aside0.mk (show ¬ own w.heap.size from fun h => absurd (hu _ h) (Nat.lt_irrefl _))
  obtain ⟨W, hW⟩ : ∃ W, W = w.alloc (.cells #[.int .i64 nm, .slice A bs.length c] 25) := ⟨_, rfl⟩
  obtain ⟨r, hr0⟩ : ∃ r, r = w.heap.size := ⟨_, rfl⟩
  rw [← hW, ← hr0] at hx
  rw [← hW] at hG HT0
  rw [← hr0] at HNX
  obtain ⟨k, hk⟩ : ∃ k, k = kept nm S.changes.length := ⟨_, rfl⟩
  have hkl : k ≤ S.changes.length := by rw [hk]; exact kept_le _ _
  have ek : max (min nm (S.changes.length : Int)) 0 = (k : Int) := by rw [hk]; unfold kept; omega
  have c6 : W.cell? ⟨g, 6, none⟩ = some G.cv := blk_cell hG.blk 6
  have x0 : W.cell? ⟨r, 0, none⟩ = some (.int .i64 nm) := blk_cell hx 0
  have HG := Aside0.mk hG
  have HX := Aside0.mk hx
  have HR := Aside0.mk (And.intro hr (And.intro hA hbl))
  have HK := Aside0.mk (And.intro hk hkl)
  have HO := Aside0.mk (And.intro hops hdat)
  have hcv := row_cells hG.cv
  clear hG0 hG hx hu hr hA hops hdat hbl hkl
  go_enter Tryd.func17, Tryd.ntmps17
  go_upto_region 2 with (fail)
  rw [← hW, ← hr0]
  have HR0 := Aside0.mk hr0
  clear hW hr0 hk
  obtain ⟨A0, cc, hcv, hcc⟩ : ∃ A0 cc, G.cv = .slice A0 S.changes.length cc ∧ S.changes.length ≤ cc := by
    rcases hcv with ⟨e1, e2, e3⟩ | ⟨cb, cc, e1, e2, e3⟩
    · exact ⟨none, 0, by rw [e1, e2], by omega⟩
    · exact ⟨some ⟨cb, 0, none⟩, cc, e1, e2⟩
  rw [hcv] at c6
  have k0 : (0 : Int) ≤ (k : Int) := by omega
  have k1 : (k : Int) ≤ (cc : Int) := by have := HK.out; omega
  have k2 : k ≤ cc := by have := HK.out; omega
  go_region_held3 (fun w' => w'.cell? ⟨g, 6, none⟩ = some (.slice A0 S.changes.length cc) ∧ w'.cell? ⟨r, 0, none⟩ = some (.int .i64 nm)) (first | exact ⟨c6, x0⟩) (fail)
  have HCV := Aside0.mk (And.intro hcv hcc)
  have HV := Aside0.mk (show FsAt W.drew own g S G from HG.out.move (fun _ _ _ => rfl) (fun _ h => h))
  have HXV := Aside0.mk (show W.drew.heap[r]? = some (.cells #[.int .i64 nm, .slice A bs.length c] 25) from HX.out)
  have HTV := Aside0.mk (show Turn own w W.drew from HT0.out.trans (own2 := own) ⟨rfl, rfl, rfl, Nat.le_refl _, fun _ _ _ => rfl⟩ (fun _ h => .inl h))
  obtain ⟨V, hV⟩ : ∃ V, V = W.drew := ⟨_, rfl⟩
  rw [← hV] at HV HXV HTV ⊢
  clear hV c6 x0 ek k0 k1 k2 hcv hcc HG HX HT0
  go_upto_region 3 with (fail)
  go_loopg [26] k (fun kq v26 wr => ∃ i : Nat, v26 = .int .i64 (i : Int) ∧ i + kq = k ∧ Aside0 (FsAt wr own g { S with durable := foldD S.durable (S.changes.take i), ops := S.ops + i } { G with dn := G.dn + i }) ∧ Aside0 (Turn own V wr))
  case atStart => exact ⟨0, rfl, by omega, ⟨HV.out⟩, ⟨Turn.refl _ _⟩⟩
  case round =>
    obtain ⟨i, rfl, hi, HF, HT⟩ := hrel
    have hkl := HK.out.2
    cases gk with
    | succ d =>
      have e1 : ((i : Int) < (k : Int)) = True := eq_true (by omega)
      have e2 : (i < k) = True := eq_true (by omega)
      have hil : i < S.changes.length := by omega
      have hb1 : S.files.length ≤ S.ops + i := HF.out.bnd.1
      have hb2 : S.changes.length ≤ S.ops + i := HF.out.bnd.2.1
      have hb4 : G.dn + i + S.changes.length ≤ S.ops + i := HF.out.bnd.2.2.2
      have hbo := HO.out.1
      rcases row_cells HF.out.cv with ⟨q1, q2, q3⟩ | ⟨cb, cc2, q1, q2, q3⟩
      · exact absurd (show S.changes.length = 0 from q2) (by omega)
      obtain ⟨rfl, rfl⟩ : A0 = some ⟨cb, 0, none⟩ ∧ cc = cc2 := by
        have := HCV.out.1.symm.trans q1
        injection this with h1 h2 h3
        exact ⟨h1, h3⟩
      obtain ⟨ch, hch⟩ : ∃ ch, S.changes[i]? = some ch := ⟨_, List.getElem?_eq_getElem hil⟩
      have hcell := q3 i ch.val (by rw [List.getElem?_map, hch]; rfl)
      obtain ⟨t, p, hv⟩ := val_iface ch
      have hok : ch.okL S.files.length := HF.out.lc _ (List.mem_of_getElem? hch)
      have hap := apply_calls ch S.files.length hok (by omega) (foldD S.durable (S.changes.take i)) G.db (G.dn + i) (by omega) wr HF.out.dm
      have hfd : ch.app (foldD S.durable (S.changes.take i)) = foldD S.durable (S.changes.take (i + 1)) := by
        unfold foldD
        rw [List.take_add_one, hch, List.foldl_append]
        rfl
      rw [hv] at hap hcell
      have c5 : wr.cell? ⟨g, 5, none⟩ = some (.map (some G.db)) := blk_cell HF.out.blk 5
      have HOK := Aside0.mk hok
      have HFD := Aside0.mk hfd
      have HI := Aside0.mk (show i + (d + 1) = k ∧ k ≤ S.changes.length ∧ i ≤ 90000 from ⟨hi, hkl, by omega⟩)
      clear hi hkl hil q1 q2 q3 hv hok hfd hch hb1 hb2 hb4 hbo
      go_wp2_with (go_at_call 36; refine hap.mono ?_; rintro e w1 ⟨rfl, hm, hg⟩; have HM1 := Aside0.mk hm; have HG1 := Aside0.mk hg; clear hm hg hap)
      go_roundg d
      case measure => have := HI.out; omega
      case rel =>
        refine ⟨i + 1, by rw [show wrap64 ((i : Int) + 1) = ((i + 1 : Nat) : Int) by have := HI.out; unfold wrap64; omega], by have := HI.out; omega, ⟨?_⟩, ⟨HT.out.trans (Turn.grown (own := own) HG1.out (fun j hj => by injection hj with hj; rw [← hj]; exact HF.out.om.2.1)) (fun _ h => .inl h)⟩⟩
        have := HF.out.onDurable ch HOK.out HG1.out HM1.out
        simp only [HFD.out] at this
        exact this
    | zero =>
      obtain rfl : i = k := by omega
      obtain ⟨wq, hwq⟩ : ∃ wq, wq = wr := ⟨_, rfl⟩
      subst hwq
      have e1 : ((i : Int) < (i : Int)) = False := eq_false (by omega)
      obtain ⟨S1, hS1⟩ : ∃ S1 : FsS, S1 = { S with durable := foldD S.durable (S.changes.take i), ops := S.ops + i } := ⟨_, rfl⟩
      obtain ⟨G1, hG1⟩ : ∃ G1 : FsG, G1 = { G with dn := G.dn + i } := ⟨_, rfl⟩
      have HF1 := Aside0.mk (show FsAt wq own g S1 G1 by rw [hS1, hG1]; exact HF.out)
      have HS1 := Aside0.mk hS1
      have HG1 := Aside0.mk hG1
      have hlen : S1.files.length = S.files.length := by rw [hS1]
      obtain ⟨FA, fc, hfv⟩ := row_slice HF1.out.fv
      have c3 : wq.cell? ⟨g, 3, none⟩ = some G1.fv := blk_cell HF1.out.blk 3
      rw [hfv] at c3
      obtain ⟨L, hL⟩ : ∃ L, L = S1.files.length := ⟨_, rfl⟩
      rw [← hL] at hfv c3
      have HL := Aside0.mk hL
      have HFV := Aside0.mk hfv
      have HLB := Aside0.mk (show L ≤ 1000000 by have : S1.files.length ≤ S1.ops := HF1.out.bnd.1; have h2 := HO.out.1; have h3 : i ≤ S.ops := Nat.le_trans hkl HV.out.bnd.2.1; rw [hL]; rw [hS1] at this ⊢; simp only at this ⊢; omega)
      have HTW := Aside0.mk (HTV.out.trans HT.out (fun _ h => .inl h))
      have HXW := Aside0.mk (HT.out.blk HXV.out HNX.out)
      clear hi hS1 hG1 hlen hfv hL hkl HF HT
      go_upto_region 8 with (fail)
      clear c3 e1
      go_loopg [42] L (fun kq v42 wx => ∃ j : Nat, v42 = .int .i64 (j : Int) ∧ j + kq = L ∧ Aside0 (∃ G', FsAt wx own g (S1.cutN bs j) G' ∧ G'.fv = G1.fv ∧ G'.cv = G1.cv ∧ G'.nb = G1.nb ∧ G'.db = G1.db ∧ G'.nn = G1.nn ∧ G'.dn = G1.dn) ∧ Aside0 (Turn own wq wx))
      case atStart => exact ⟨0, rfl, by omega, ⟨⟨G1, HF1.out, rfl, rfl, rfl, rfl, rfl, rfl⟩⟩, ⟨Turn.refl _ _⟩⟩
      case round =>
        obtain ⟨j, rfl, hj, HF, HT⟩ := hrel
        cases gk with
        | succ d =>
          obtain ⟨G', hF, g1, g2, g3, g4, g5, g6⟩ := HF.out
          have hjl : j < (S1.cutN bs j).files.length := by rw [(cutN_rest S1 bs j).2.2.2.2.2.2.2.2, ← HL.out]; omega
          obtain ⟨b, v, f, fb, cap, p1, p2, p3, p4⟩ := hF.get j hjl
          obtain ⟨q1, q2, q3, q4, q5⟩ := hF.file j b v f p1 p2
          obtain ⟨B, cc2, rfl⟩ := q3.slice
          have hB : f.1.length ≤ cc2 := by
            obtain ⟨_, _, h1, h2, _⟩ := q3
            injection h1 with _ _ h1
            omega
          have hFA : FA = some ⟨fb, 0, none⟩ := by
            have := (HFV.out.symm.trans (g1.symm.trans p3))
            injection this
          subst hFA
          unfold ptr at p4
          have hx := HT.out.blk HXW.out HNX.out
          have x1 : wr.cell? ⟨r, 1, none⟩ = some (.slice A bs.length c) := blk_cell hx 1
          have c0 : wr.cell? ⟨b, 0, none⟩ = some (.slice B f.1.length cc2) := blk_cell q1 0
          have c1 : wr.cell? ⟨b, 1, none⟩ = some (.int .i64 (f.2 : Int)) := blk_cell q1 1
          have e1 : ((j : Int) < (L : Int)) = True := eq_true (by omega)
          have e2 : (j < L) = True := eq_true (by omega)
          have hdat : f.1.length ≤ 1000000000 := by
            have h1 := (cutN_rest S1 bs j).2.2.2.2.2.2.2.1
            rw [HS1.out] at h1
            have h2 := HO.out.2
            simp only at h1
            rw [HS1.out] at q5
            omega
          obtain ⟨st, hst⟩ : ∃ st, st = stayS bs j f := ⟨_, rfl⟩
          have hsl : f.2 + st ≤ f.1.length := by rw [hst]; exact stay_le bs j f q4
          obtain ⟨s, hs⟩ : ∃ s, s = f.2 + st := ⟨_, rfl⟩
          have e7 : wrap64 ((f.2 : Int) + (st : Int)) = (s : Int) := by rw [hs]; exact add_wrap _ _ _ hdat hsl
          have k0 : (0 : Int) ≤ (s : Int) := Int.natCast_nonneg s
          have k2 : s ≤ cc2 := by rw [hs]; exact Nat.le_trans hsl hB
          have k1 : (s : Int) ≤ (cc2 : Int) := Int.ofNat_le.2 k2
          have HSS := Aside0.mk (show s = f.2 + st ∧ st = stayS bs j f from ⟨hs, hst⟩)
          have HQ := Aside0.mk (And.intro hF (And.intro p1 (And.intro p2 (And.intro q1 (And.intro q2 (And.intro q3 hsl))))))
          have HGG := Aside0.mk (And.intro g1 (And.intro g2 (And.intro g3 (And.intro g4 (And.intro g5 g6)))))
          have HJ := Aside0.mk hj
          have hwr : IntKind.i64.wrap ((f.1.length : Int) - (f.2 : Int)) = (f.1.length : Int) - (f.2 : Int) := sub_wrap _ _ hdat q4
          have HIR := Aside0.mk ((HR.out.1.turn HTW.out HR.out.2.1).turn HT.out HR.out.2.1)
          by_cases hb : j < bs.length
          · obtain ⟨ad, hAd, hcell⟩ := HIR.out j hb
            subst hAd
            have e3 : ((j : Int) < (bs.length : Int)) = True := eq_true (by omega)
            have e4 : (j < bs.length) = True := eq_true hb
            obtain ⟨y, hy⟩ : ∃ y, y = bs[j] := ⟨_, rfl⟩
            rw [← hy] at hcell
            have e6 : max (min y ((f.1.length : Int) - (f.2 : Int))) 0 = (st : Int) := by
              rw [hst]
              exact stay_int bs j f y hb hy
            clear hs hy hst hj hF g1 g2 g3 g4 g5 g6 hjl p1 p2 p3 q1 q2 q3 q4 q5 hB hx hdat hsl hb
            go_upto_region 12 with (fail)
            go_region_held3 (fun w' => w'.cell? ⟨r, 1, none⟩ = some (.slice (some ad) bs.length c) ∧ w'.cell? (ad.add j) = some (.int .i64 y) ∧ w'.cell? ⟨b, 0, none⟩ = some (.slice B f.1.length cc2) ∧ w'.cell? ⟨b, 1, none⟩ = some (.int .i64 (f.2 : Int))) (first | exact ⟨x1, hcell, c0, c1⟩) (fail)
            obtain ⟨V2, hV2⟩ : ∃ V2, V2 = wr.drew := ⟨_, rfl⟩
            have HF2 := Aside0.mk (show FsAt V2 own g (S1.cutN bs j) G' from by rw [hV2]; exact HQ.out.1.move (fun _ _ _ => rfl) (fun _ h => h))
            have HT2 := Aside0.mk (show Turn own wq V2 from by rw [hV2]; exact HT.out.trans (own2 := own) ⟨rfl, rfl, rfl, Nat.le_refl _, fun _ _ _ => rfl⟩ (fun _ h => .inl h))
            rw [← hV2]
            clear hV2 x1 hcell c0 c1 e3 e4 e6 hwr
            have hqb := (HF2.out.file j b _ f HQ.out.2.1 HQ.out.2.2.1).1
            have c1 : V2.cell? ⟨b, 1, none⟩ = some (.int .i64 (f.2 : Int)) := blk_cell hqb 1
            have fr1 := blk_frozen hqb 1
            have hb3 : (V2.setCell ⟨b, 1, none⟩ (.int .i64 (s : Int))).heap[b]? = some (.cells #[.slice B f.1.length cc2, .int .i64 (s : Int)] 70 (0, 0)) := blk_put hqb 1 _ rfl
            have HQ2 := Aside0.mk (show ∀ k, k ≠ b → (V2.setCell ⟨b, 1, none⟩ (.int .i64 (s : Int))).heap[k]? = V2.heap[k]? from fun k hk => Below.heap_setCell _ ⟨b, 1, none⟩ _ k hk)
            have HT3 := Aside0.mk (HT2.out.trans (Turn.set (own := own) b 1 (.int .i64 (s : Int)) HQ.out.2.2.2.2.1) (fun _ h => .inl h))
            have HB3 := Aside0.mk hb3
            clear hqb hb3
            go_upto_region 14 with (fail)
            obtain ⟨V3, hV3⟩ : ∃ V3, V3 = V2.setCell ⟨b, 1, none⟩ (.int .i64 (s : Int)) := ⟨_, rfl⟩
            rw [← hV3]
            rw [← hV3] at HB3 HQ2 HT3
            clear hV3 c1 fr1
            have c0 : V3.cell? ⟨b, 0, none⟩ = some (.slice B f.1.length cc2) := blk_cell HB3.out 0
            have c1 : V3.cell? ⟨b, 1, none⟩ = some (.int .i64 (s : Int)) := blk_cell HB3.out 1
            have fr0 := blk_frozen HB3.out 0
            go_still_tail 16, (by kernel_rfl)
            change wpList _ _ _ _ _ V3.drew
            have HB4 := Aside0.mk (show V3.drew.heap[b]? = some (.cells #[.slice B f.1.length cc2, .int .i64 (s : Int)] 70 (0, 0)) from HB3.out)
            have HQ4 := Aside0.mk (show ∀ k, k ≠ b → V3.drew.heap[k]? = V2.heap[k]? from HQ2.out)
            have HT4 := Aside0.mk (show Turn own wq V3.drew from ⟨HT3.out.os, HT3.out.tape, HT3.out.output, HT3.out.size, HT3.out.block⟩)
            obtain ⟨V4, hV4⟩ : ∃ V4, V4 = V3.drew := ⟨_, rfl⟩
            rw [← hV4]
            rw [← hV4] at HB4 HQ4 HT4
            clear hV4 c0 c1 fr0 HB3 HQ2 HT3
            have fr0 := blk_frozen HB4.out 0
            have c0 : V4.cell? ⟨b, 0, none⟩ = some (.slice B f.1.length cc2) := blk_cell HB4.out 0
            go_wp2
            go_roundg d
            case measure => have := HJ.out; omega
            case rel =>
              refine ⟨j + 1, by rw [show wrap64 ((j : Int) + 1) = ((j + 1 : Nat) : Int) by have := HJ.out; have := HLB.out; exact add_wrap j 1 1000000000 (Nat.le_refl _) (by omega)], by have := HJ.out; omega, ⟨?_⟩, ⟨HT4.out.trans (Turn.set (own := own) b 0 (.slice B s s) HQ.out.2.2.2.2.1) (fun _ h => .inl h)⟩⟩
              obtain ⟨g1, g2, g3, g4, g5, g6⟩ := HGG.out
              exact ⟨_, cut_step j b f s B cc2 V4 HF2.out HQ.out.2.1 HQ.out.2.2.1 HB4.out HQ4.out HSS.out.1 HSS.out.2, g1, g2, g3, g4, g5, g6⟩
          · have e3 : ((j : Int) < (bs.length : Int)) = False := eq_false (by omega)
            obtain rfl : st = 0 := by rw [hst]; unfold stayS; rw [if_neg hb]
            have e8 : wrap64 (f.2 : Int) = (s : Int) := by rw [← e7]; simp
            clear e7
            clear hs hst hj hF g1 g2 g3 g4 g5 g6 hjl p1 p2 p3 q1 q2 q3 q4 q5 hB hx hdat hsl hb
            go_upto_region 13 with (fail)
            obtain ⟨V2, hV2⟩ : ∃ V2, V2 = wr := ⟨_, rfl⟩
            have HF2 := Aside0.mk (show FsAt V2 own g (S1.cutN bs j) G' from by rw [hV2]; exact HQ.out.1.move (fun _ _ _ => rfl) (fun _ h => h))
            have HT2 := Aside0.mk (show Turn own wq V2 from by rw [hV2]; exact HT.out)
            rw [← hV2]
            clear hV2 x1 c0 c1 e3 hwr
            have hqb := (HF2.out.file j b _ f HQ.out.2.1 HQ.out.2.2.1).1
            have c1 : V2.cell? ⟨b, 1, none⟩ = some (.int .i64 (f.2 : Int)) := blk_cell hqb 1
            have fr1 := blk_frozen hqb 1
            have hb3 : (V2.setCell ⟨b, 1, none⟩ (.int .i64 (s : Int))).heap[b]? = some (.cells #[.slice B f.1.length cc2, .int .i64 (s : Int)] 70 (0, 0)) := blk_put hqb 1 _ rfl
            have HQ2 := Aside0.mk (show ∀ k, k ≠ b → (V2.setCell ⟨b, 1, none⟩ (.int .i64 (s : Int))).heap[k]? = V2.heap[k]? from fun k hk => Below.heap_setCell _ ⟨b, 1, none⟩ _ k hk)
            have HT3 := Aside0.mk (HT2.out.trans (Turn.set (own := own) b 1 (.int .i64 (s : Int)) HQ.out.2.2.2.2.1) (fun _ h => .inl h))
            have HB3 := Aside0.mk hb3
            clear hqb hb3
            go_upto_region 14 with (fail)
            obtain ⟨V3, hV3⟩ : ∃ V3, V3 = V2.setCell ⟨b, 1, none⟩ (.int .i64 (s : Int)) := ⟨_, rfl⟩
            rw [← hV3]
            rw [← hV3] at HB3 HQ2 HT3
            clear hV3 c1 fr1
            have c0 : V3.cell? ⟨b, 0, none⟩ = some (.slice B f.1.length cc2) := blk_cell HB3.out 0
            have c1 : V3.cell? ⟨b, 1, none⟩ = some (.int .i64 (s : Int)) := blk_cell HB3.out 1
            have fr0 := blk_frozen HB3.out 0
            go_still_tail 16, (by kernel_rfl)
            change wpList _ _ _ _ _ V3.drew
            have HB4 := Aside0.mk (show V3.drew.heap[b]? = some (.cells #[.slice B f.1.length cc2, .int .i64 (s : Int)] 70 (0, 0)) from HB3.out)
            have HQ4 := Aside0.mk (show ∀ k, k ≠ b → V3.drew.heap[k]? = V2.heap[k]? from HQ2.out)
            have HT4 := Aside0.mk (show Turn own wq V3.drew from ⟨HT3.out.os, HT3.out.tape, HT3.out.output, HT3.out.size, HT3.out.block⟩)
            obtain ⟨V4, hV4⟩ : ∃ V4, V4 = V3.drew := ⟨_, rfl⟩
            rw [← hV4]
            rw [← hV4] at HB4 HQ4 HT4
            clear hV4 c0 c1 fr0 HB3 HQ2 HT3
            have fr0 := blk_frozen HB4.out 0
            have c0 : V4.cell? ⟨b, 0, none⟩ = some (.slice B f.1.length cc2) := blk_cell HB4.out 0
            go_wp2
            go_roundg d
            case measure => have := HJ.out; omega
            case rel =>
              refine ⟨j + 1, by rw [show wrap64 ((j : Int) + 1) = ((j + 1 : Nat) : Int) by have := HJ.out; have := HLB.out; exact add_wrap j 1 1000000000 (Nat.le_refl _) (by omega)], by have := HJ.out; omega, ⟨?_⟩, ⟨HT4.out.trans (Turn.set (own := own) b 0 (.slice B s s) HQ.out.2.2.2.2.1) (fun _ h => .inl h)⟩⟩
              obtain ⟨g1, g2, g3, g4, g5, g6⟩ := HGG.out
              exact ⟨_, cut_step j b f s B cc2 V4 HF2.out HQ.out.2.1 HQ.out.2.2.1 HB4.out HQ4.out HSS.out.1 HSS.out.2, g1, g2, g3, g4, g5, g6⟩
        | zero =>
          obtain rfl : j = L := by omega
          have e1 : ((j : Int) < (j : Int)) = False := eq_false (by omega)
          obtain ⟨G', hF, g1, g2, g3, g4, g5, g6⟩ := HF.out
          have c5 : wr.cell? ⟨g, 5, none⟩ = some (.map (some G'.db)) := blk_cell hF.blk 5
          have hcl := AnyW.maps_Clone_owns Tryd.cloneA 9 (plainElem Tryd.prog 3) G'.db G'.dn (S1.cutN bs j).durable wr hF.dm
          change Calls Tryd.prog 37 _ _ _ at hcl
          have HF2 := Aside0.mk hF
          have HB := Aside0.mk (show G'.dn ≤ S.ops ∧ (S1.cutN bs j).files.length ≤ S.ops from by
            have h1 := HV.out.bnd
            have h2 := HK.out.2
            have h3 : G1.dn = G.dn + i := by rw [HG1.out]
            have h4 : (S1.cutN bs j).files.length = S.files.length := by rw [(cutN_rest S1 bs j).2.2.2.2.2.2.2.2, HS1.out]
            exact ⟨by omega, by omega⟩)
          have HTT := Aside0.mk (HTW.out.trans HT.out (fun _ h => .inl h))
          clear hF g1 g2 g3 g4 g5 g6 hj HF HT
          go_wp2_with (go_at_call 37; refine hcl.mono ?_; rintro e w2 ⟨rfl, hm1, hm2, hb⟩; have HB2 := Aside0.mk hb; have HM1 := Aside0.mk hm1; have HM2 := Aside0.mk hm2; have d4 : w2.cell? ⟨g, 4, none⟩ = some (.map (some G'.nb)) := blk_cell (blk_below HF2.out.blk HB2.out) 4; have f4 := blk_frozen (blk_below HF2.out.blk HB2.out) 4; have f6 := blk_frozen (blk_below HF2.out.blk HB2.out) 6; have d6 : w2.cell? ⟨g, 6, none⟩ = some G'.cv := blk_cell (blk_below HF2.out.blk HB2.out) 6; have f2 := blk_frozen (blk_below HF2.out.blk HB2.out) 2; have d2 : w2.cell? ⟨g, 2, none⟩ = some (.bool (S1.cutN bs j).limited) := blk_cell (blk_below HF2.out.blk HB2.out) 2; clear hb hm1 hm2 hcl)
          go_end0
          have hbl := blk_put (w := ((w2.setCell ⟨g, 4, none⟩ (.map (some wr.heap.size))).setCell ⟨g, 6, none⟩ (.slice none 0 0))) (blk_put (w := w2.setCell ⟨g, 4, none⟩ (.map (some wr.heap.size))) (blk_put (blk_below HF2.out.blk HB2.out) 4 _ rfl) 6 (.slice none 0 0) rfl) 2 (.bool false) rfl
          have hset : ∀ k, k ≠ g → (((w2.setCell ⟨g, 4, none⟩ (.map (some wr.heap.size))).setCell ⟨g, 6, none⟩ (.slice none 0 0)).setCell ⟨g, 2, none⟩ (.bool false)).heap[k]? = w2.heap[k]? := fun k hk => (Below.heap_setCell _ ⟨g, 2, none⟩ _ k hk).trans ((Below.heap_setCell _ ⟨g, 6, none⟩ _ k hk).trans (Below.heap_setCell _ ⟨g, 4, none⟩ _ k hk))
          have hlt := blk_lt HF2.out.blk
          have hnlt := HF2.out.dm.lt
          obtain ⟨es, cl, hnb⟩ := map_blk HF2.out.dm
          have hng := ne_of_obj hnb HF2.out.blk (by simp)
          have hsz : wr.heap.size < w2.heap.size := HM1.out.lt
          have hX := HF2.out.maps (W := (((w2.setCell ⟨g, 4, none⟩ (.map (some wr.heap.size))).setCell ⟨g, 6, none⟩ (.slice none 0 0)).setCell ⟨g, 2, none⟩ (.bool false))) (own' := More own wr w2) false wr.heap.size G'.db G'.dn G'.dn (S1.cutN bs j).durable (S1.cutN bs j).durable hbl
            (fun k hk hl _ => (hset k hk).trans (HB2.out.block k hl)) (fun _ h => .inl h) (map_kept HM1.out (hset _ (by omega))) (map_kept HM2.out (hset _ hng)) (.inr ⟨Nat.le_refl _, hsz⟩) (.inl HF2.out.om.2.1) (by omega) (by have h1 := (cutN_rest S1 bs j).2.2.2.2.2.2.1; have h2 := HF2.out.bnd.2.2.2; omega) (by have h2 := HF2.out.bnd.2.2.2; omega) HF2.out.ld HF2.out.ld
          have hY := hX.setOps S.ops ⟨HB.out.2, Nat.zero_le _, HB.out.1, by have := HB.out.1; simpa using this⟩
          have hT5 := (((HTT.out.then_below HB2.out).trans (Turn.set (own := own) g 4 (.map (some wr.heap.size)) HF2.out.og) (fun _ h => .inl h)).trans (Turn.set (own := own) g 6 (.slice none 0 0) HF2.out.og) (fun _ h => .inl h)).trans (Turn.set (own := own) g 2 (.bool false) HF2.out.og) (fun _ h => .inl h)
          have hSz : (((w2.setCell ⟨g, 4, none⟩ (.map (some wr.heap.size))).setCell ⟨g, 6, none⟩ (.slice none 0 0)).setCell ⟨g, 2, none⟩ (.bool false)).heap.size = w2.heap.size := by rw [World.size_setCell, World.size_setCell, World.size_setCell]
          refine ⟨rfl, ?_, hT5⟩
          rw [← crash_eq HS1.out HK.out.1 HL.out]
          refine FsIs.mono ⟨_, hY⟩ (fun k hk => ?_)
          rcases hk with hk | hk
          · exact .inl hk
          · exact .inr ⟨Nat.le_trans HTT.out.size hk.1, by rw [hSz]; exact hk.2⟩
end Go.Proofs.YtnnlmackofopeaaDoor.Fs
/- The file system's contracts, for a chain of calls. -/
namespace Go.Proofs.YtnnlmackofopeaaDoor.Fs
open Go.RowKit Go.Lib Go.Maps Go.Shelf Go.Sort Go.Proofs.YtnnlmackofopeaaDoorW.PrintWords Go.Proofs.YtnnlmackofopeaaDoorW.PrintLast Go.Proofs.YtnnlmackofopeaaDoorW.PrintMore
set_option linter.unusedVariables false
set_option linter.unusedSimpArgs false
/-- Since wB: block g is a file system in the state S; nothing has turned but blocks of B and new ones. -/
def One (wB : World) (B : Nat → Prop) (w : World) (g : Nat) (S : FsS) : Prop := ∃ own : Nat → Prop, (∀ k, own k → B k ∨ wB.heap.size ≤ k) ∧ Under own w ∧ FsIs w own g S ∧ Turn B wB w
theorem One.turn {wB w : World} {B : Nat → Prop} {g : Nat} {S : FsS} (h : One wB B w g S) : Turn B wB w := by
  obtain ⟨_, _, _, _, h⟩ := h
  exact h
theorem One.step {wB w w' : World} {B own : Nat → Prop} {g : Nat} {S' : FsS} (h1 : ∀ k, own k → B k ∨ wB.heap.size ≤ k) (h2 : Under own w) (h4 : Turn B wB w) (h5 : FsIs w' (More own w w') g S') (h6 : Turn own w w') : One wB B w' g S' :=
  ⟨More own w w', fun k hk => by
    rcases hk with hk | hk
    · exact h1 k hk
    · exact .inr (Nat.le_trans h4.size hk.1), h2.more h6.size, h5, h4.trans h6 h1⟩
theorem One.same {wB w w' : World} {B own : Nat → Prop} {g : Nat} {S' : FsS} (h1 : ∀ k, own k → B k ∨ wB.heap.size ≤ k) (h2 : Under own w) (h4 : Turn B wB w) (h5 : FsIs w' own g S') (h6 : Turn own w w') : One wB B w' g S' :=
  ⟨own, h1, fun k hk => Nat.lt_of_lt_of_le (h2 k hk) h6.size, h5, h4.trans h6 h1⟩
theorem One.below {wB w w' : World} {B : Nat → Prop} {g : Nat} {S : FsS} (h : One wB B w g S) (hb : Below w.heap.size w w') : One wB B w' g S := by
  obtain ⟨own, h1, h2, h3, h4⟩ := h
  exact ⟨own, h1, fun k hk => Nat.lt_of_lt_of_le (h2 k hk) hb.size, h3.below hb, h4.then_below hb⟩
/-- An address that a call may read: not of the file system. -/
theorem far_of {wB : World} {B : Nat → Prop} {A : Option Addr} {p : Prop} (h : p ∨ ∀ ad, A = some ad → ¬ B ad.block ∧ ad.block < wB.heap.size) {own : Nat → Prop} (h1 : ∀ k, own k → B k ∨ wB.heap.size ≤ k) : p ∨ ∀ ad, A = some ad → ¬ own ad.block := h.imp id fun h ad e => by
  obtain ⟨a, b⟩ := h ad e
  refine fun hk => ?_
  rcases h1 _ hk with h | h
  · exact a h
  · omega
variable {wB w : World} {B : Nat → Prop} {g : Nat} {S : FsS}
theorem one_new (q : Int) (w : World) : Calls Tryd.prog 14 #[.int .i64 q] w fun e w' => ∃ g, e = .returned (.pointer (some ⟨g, 0, none⟩)) ∧ One w (fun _ => False) w' g (fs0 q) :=
  (new_calls q w).mono fun e w' ⟨g, he, hS, hb⟩ => ⟨g, he, _, fun k hk => .inr hk.1, fun k hk => hk.2, hS, Turn.below hb _⟩
theorem One.create (h : One wB B w g S) (n : ByteArray) (hops : S.ops ≤ 90000) : Calls Tryd.prog 22 #[.pointer (some ⟨g, 0, none⟩), .string n] w fun e w' => e = .returned (.int .i64 (S.create n).1) ∧ One wB B w' g (S.create n).2 := by
  obtain ⟨own, h1, h2, h3, h4⟩ := h
  exact (create_calls n w own g S h3 h2 hops).mono fun e w' ⟨he, hS, ht⟩ => ⟨he, One.step h1 h2 h4 hS ht⟩
theorem One.remove (h : One wB B w g S) (n : ByteArray) (hops : S.ops ≤ 90000) : Calls Tryd.prog 27 #[.pointer (some ⟨g, 0, none⟩), .string n] w fun e w' => e = .returned (.int .i64 (S.remove n).1) ∧ One wB B w' g (S.remove n).2 := by
  obtain ⟨own, h1, h2, h3, h4⟩ := h
  exact (remove_calls n w own g S h3 h2 hops).mono fun e w' ⟨he, hS, ht⟩ => ⟨he, One.step h1 h2 h4 hS ht⟩
theorem One.rename (h : One wB B w g S) (n o : ByteArray) (hops : S.ops ≤ 90000) : Calls Tryd.prog 29 #[.pointer (some ⟨g, 0, none⟩), .string n, .string o] w fun e w' => e = .returned (.int .i64 (S.rename n o).1) ∧ One wB B w' g (S.rename n o).2 := by
  obtain ⟨own, h1, h2, h3, h4⟩ := h
  exact (rename_calls n o w own g S h3 h2 hops).mono fun e w' ⟨he, hS, ht⟩ => ⟨he, One.step h1 h2 h4 hS ht⟩
theorem One.sync (h : One wB B w g S) (n : ByteArray) (hdat : S.dat ≤ 1000000000) : Calls Tryd.prog 25 #[.pointer (some ⟨g, 0, none⟩), .string n] w fun e w' => e = .returned (.int .i64 (S.sync n).1) ∧ One wB B w' g (S.sync n).2 := by
  obtain ⟨own, h1, h2, h3, h4⟩ := h
  exact (sync_calls n w own g S h3 h2 hdat).mono fun e w' ⟨he, hS, ht⟩ => ⟨he, One.step h1 h2 h4 hS ht⟩
theorem One.syncNames (h : One wB B w g S) : Calls Tryd.prog 23 #[.pointer (some ⟨g, 0, none⟩)] w fun e w' => e = .returned (.int .i64 S.syncNames.1) ∧ One wB B w' g S.syncNames.2 := by
  obtain ⟨own, h1, h2, h3, h4⟩ := h
  exact (syncNames_calls w own g S h3 h2).mono fun e w' ⟨he, hS, ht⟩ => ⟨he, One.step h1 h2 h4 hS ht⟩
theorem One.append (h : One wB B w g S) (n : ByteArray) (A : Option Addr) (c : Nat) (ys : List Int) (hr : BR w A ys) (hA : ys = [] ∨ ∀ ad, A = some ad → ¬ B ad.block ∧ ad.block < wB.heap.size) (hbig : S.ops * S.dat ≤ 1000000000000000) (hdat : S.dat ≤ 1000000000) (hyl : ys.length ≤ 1000000000) :
    Calls Tryd.prog 24 #[.pointer (some ⟨g, 0, none⟩), .string n, .slice A ys.length c] w fun e w' => e = .returned (.int .i64 (S.append n ys).1) ∧ One wB B w' g (S.append n ys).2 := by
  obtain ⟨own, h1, h2, h3, h4⟩ := h
  exact (append_calls n A c ys w own g S h3 h2 hr (far_of hA h1) hbig hdat hyl).mono fun e w' ⟨he, hS, ht⟩ => ⟨he, One.step h1 h2 h4 hS ht⟩
/-- The same, at bytes in a block of the caller's, made since. -/
theorem One.append_new (h : One wB B w g S) (n : ByteArray) (o : Obj) (c : Nat) (ys : List Int) (hr : BR (w.alloc o) (some ⟨w.heap.size, 0, none⟩) ys) (hbig : S.ops * S.dat ≤ 1000000000000000) (hdat : S.dat ≤ 1000000000) (hyl : ys.length ≤ 1000000000) :
    Calls Tryd.prog 24 #[.pointer (some ⟨g, 0, none⟩), .string n, .slice (some ⟨w.heap.size, 0, none⟩) ys.length c] (w.alloc o) fun e w' => e = .returned (.int .i64 (S.append n ys).1) ∧ One wB B w' g (S.append n ys).2 := by
  obtain ⟨own, h1, h2, h3, h4⟩ := h
  have hb := below_alloc (Below.refl w.heap.size w) o
  have h2' : Under own (w.alloc o) := fun k hk => Nat.lt_of_lt_of_le (h2 k hk) hb.size
  exact (append_calls n _ c ys (w.alloc o) own g S (h3.below hb) h2' hr (.inr fun ad e => by injection e with e; subst e; exact fun hk => absurd (h2 _ hk) (Nat.lt_irrefl _)) hbig hdat hyl).mono fun e w' ⟨he, hS, ht⟩ => ⟨he, One.step h1 h2' (h4.then_below hb) hS ht⟩
theorem One.crash (h : One wB B w g S) (nm : Int) (A : Option Addr) (c : Nat) (bs : List Int) (hr : IR w A bs) (hA : bs = [] ∨ ∀ ad, A = some ad → ¬ B ad.block ∧ ad.block < wB.heap.size) (hops : S.ops ≤ 90000) (hdat : S.dat ≤ 1000000000) (hbl : bs.length ≤ maxLen) :
    Calls Tryd.prog 17 #[.pointer (some ⟨g, 0, none⟩), .agg #[.int .i64 nm, .slice A bs.length c]] w fun e w' => e = .returned (.tuple #[]) ∧ One wB B w' g (S.crash nm bs) := by
  obtain ⟨own, h1, h2, h3, h4⟩ := h
  exact (crash_calls nm A bs c w own g S h3 h2 hr (far_of hA h1) hops hdat hbl).mono fun e w' ⟨he, hS, ht⟩ => ⟨he, One.step h1 h2 h4 hS ht⟩
theorem One.limit (h : One wB B w g S) (n : Int) : Calls Tryd.prog 16 #[.pointer (some ⟨g, 0, none⟩), .int .i64 n] w fun e w' => e = .returned (.tuple #[]) ∧ One wB B w' g { S with left := n, limited := decide (0 ≤ n) } := by
  obtain ⟨own, h1, h2, h3, h4⟩ := h
  exact (limit_calls n w own g S h3).mono fun e w' ⟨he, hS, ht⟩ => ⟨he, One.same h1 h2 h4 hS ht⟩
theorem One.quota (h : One wB B w g S) (q : Int) : Calls Tryd.prog 32 #[.pointer (some ⟨g, 0, none⟩), .int .i64 q] w fun e w' => e = .returned (.tuple #[]) ∧ One wB B w' g { S with quota := q } := by
  obtain ⟨own, h1, h2, h3, h4⟩ := h
  exact (quota_calls q w own g S h3).mono fun e w' ⟨he, hS, ht⟩ => ⟨he, One.same h1 h2 h4 hS ht⟩
theorem One.read (h : One wB B w g S) (n : ByteArray) (hdat : S.dat ≤ 1000000000) : Calls Tryd.prog 26 #[.pointer (some ⟨g, 0, none⟩), .string n] w fun e w' => ∃ v, e = .returned (.tuple #[v, .int .i64 (S.read n).1]) ∧ w'.ownsRow w.heap.size 5 1 v (S.read n).2.length ((S.read n).2.map (Value.int .u8)) ∧ Below w.heap.size w w' ∧ One wB B w' g S := by
  have h' := h
  obtain ⟨own, h1, h2, h3, h4⟩ := h
  exact (read_calls n w own g S h3 hdat).mono fun e w' ⟨v, he, hr, hb⟩ => ⟨v, he, hr, hb, h'.below hb⟩
theorem One.list (h : One wB B w g S) (hops : S.ops ≤ 1000000) : Calls Tryd.prog 20 #[.pointer (some ⟨g, 0, none⟩)] w fun e w' => ∃ v, e = .returned v ∧ w'.ownsRow w.heap.size 9 1 v (listD S.names).length ((listD S.names).map encStr) ∧ Below w.heap.size w w' ∧ One wB B w' g S := by
  have h' := h
  obtain ⟨own, h1, h2, h3, h4⟩ := h
  exact (list_calls w own g S h3 hops).mono fun e w' ⟨v, he, hr, hb⟩ => ⟨v, he, hr, hb, h'.below hb⟩
theorem One.usedC (h : One wB B w g S) (hbig : S.ops * S.dat ≤ 1000000000000000) : Calls Tryd.prog 28 #[.pointer (some ⟨g, 0, none⟩)] w fun e w' => e = .returned (.int .i64 (S.used : Int)) ∧ Below w.heap.size w w' ∧ One wB B w' g S := by
  have h' := h
  obtain ⟨own, h1, h2, h3, h4⟩ := h
  exact (used_calls w own g S h3 hbig).mono fun e w' ⟨he, hb⟩ => ⟨he, hb, h'.below hb⟩
/-! ### where no limit is -/
theorem beginC_ok (hl : S.limited = false) (ns : List ByteArray) (hm : ns.all mayS = true) : S.beginC ns = 0 := by
  unfold FsS.beginC FsS.stops
  rw [hl, hm]
  rfl
theorem beginT_ok (hl : S.limited = false) : S.beginT = S := by
  unfold FsS.beginT FsS.stops FsS.tick
  rw [hl]
  rfl
theorem create_ok (hl : S.limited = false) {n : ByteArray} (hm : mayS n = true) : S.create n = (0, S.file1.chg (.link n S.files.length)) := by
  unfold FsS.create
  rw [beginC_ok hl [n] (by simp [hm]), if_pos rfl, beginT_ok hl]
theorem append_ok (hl : S.limited = false) {n : ByteArray} (hm : mayS n = true) {i : Nat} (hi : S.at_ n = some i) {ys : List Int} (hq : (S.used : Int) + (ys.length : Int) ≤ S.quota) : S.append n ys = (0, S.app i ys) := by
  unfold FsS.append
  rw [beginC_ok hl [n] (by simp [hm]), if_pos rfl, beginT_ok hl, hi]
  simp only
  rw [if_neg (by omega)]
theorem append_more (hl : S.limited = false) {n : ByteArray} (hm : mayS n = true) {i : Nat} (hi : S.at_ n = some i) {ys : List Int} (hq : S.quota < (S.used : Int) + (ys.length : Int)) : S.append n ys = (10, S) := by
  unfold FsS.append
  rw [beginC_ok hl [n] (by simp [hm]), if_pos rfl, beginT_ok hl, hi]
  simp only
  rw [if_pos hq]
theorem sync_ok (hl : S.limited = false) {n : ByteArray} (hm : mayS n = true) {i : Nat} (hi : S.at_ n = some i) : S.sync n = (0, S.upd i (fun f => (f.1, f.1.length))) := by
  unfold FsS.sync
  rw [beginC_ok hl [n] (by simp [hm]), if_pos rfl, beginT_ok hl, hi]
theorem syncNames_ok (hl : S.limited = false) : S.syncNames = (0, { S with durable := S.names, changes := [] }) := by
  have es : S.stops = false := by unfold FsS.stops; rw [hl]; rfl
  have et : S.tick = S := by unfold FsS.tick; rw [hl]; rfl
  unfold FsS.syncNames
  rw [es, et]
  rfl
theorem remove_ok (hl : S.limited = false) {n : ByteArray} (hm : mayS n = true) (hh : has S.names (kl n) = true) : S.remove n = (0, S.chg (.gone n)) := by
  unfold FsS.remove
  rw [beginC_ok hl [n] (by simp [hm]), if_pos rfl, if_pos hh, beginT_ok hl]
theorem rename_ok (hl : S.limited = false) {n o : ByteArray} (hm : mayS n = true) (hm2 : mayS o = true) (hh : has S.names (kl n) = true) (hne : n.toList ≠ o.toList) : S.rename n o = (0, S.chg (.moved o ((S.at_ n).getD 0) n)) := by
  unfold FsS.rename
  rw [beginC_ok hl [n, o] (by simp [hm, hm2]), if_pos rfl, if_pos hh, if_neg hne, beginT_ok hl]
end Go.Proofs.YtnnlmackofopeaaDoor.Fs
/- Two file systems. -/
namespace Go.Proofs.YtnnlmackofopeaaDoor.Fs
open Go.RowKit Go.Lib Go.Maps Go.Shelf Go.Sort Go.Proofs.YtnnlmackofopeaaDoorW.PrintWords Go.Proofs.YtnnlmackofopeaaDoorW.PrintLast Go.Proofs.YtnnlmackofopeaaDoorW.PrintMore
set_option linter.unusedVariables false
set_option linter.unusedSimpArgs false
def Both (w0 w : World) (f : Nat) (Sf : FsS) (g : Nat) (Sg : FsS) : Prop :=
  ∃ of og : Nat → Prop, (∀ k, of k → w0.heap.size ≤ k ∧ ¬ og k) ∧ (∀ k, og k → w0.heap.size ≤ k) ∧ Under of w ∧ Under og w ∧ FsIs w of f Sf ∧ FsIs w og g Sg ∧ Below w0.heap.size w0 w
theorem Both.swap {w0 w : World} {f g : Nat} {Sf Sg : FsS} (h : Both w0 w f Sf g Sg) : Both w0 w g Sg f Sf := by
  obtain ⟨of, og, h1, h2, h3, h4, h5, h6, h7⟩ := h
  exact ⟨og, of, fun k hk => ⟨h2 k hk, fun hf => (h1 k hf).2 hk⟩, fun k hk => (h1 k hk).1, h4, h3, h6, h5, h7⟩
theorem Both.below {w0 w w' : World} {f g : Nat} {Sf Sg : FsS} (h : Both w0 w f Sf g Sg) (hb : Below w.heap.size w w') : Both w0 w' f Sf g Sg := by
  obtain ⟨of, og, h1, h2, h3, h4, h5, h6, h7⟩ := h
  exact ⟨of, og, h1, h2, fun k hk => Nat.lt_of_lt_of_le (h3 k hk) hb.size, fun k hk => Nat.lt_of_lt_of_le (h4 k hk) hb.size, h5.below hb, h6.below hb, below_step h7 hb⟩
theorem Both.lift {w0 w wc : World} {f g : Nat} {S S' Sg : FsS} {k : Nat} {args : Array Value} {R : Ending → World → Prop} (h : Both w0 w f S g Sg) (hc : ∀ B, One w B w f S → Calls Tryd.prog k args wc fun e w' => R e w' ∧ One w B w' f S') :
    Calls Tryd.prog k args wc fun e w' => R e w' ∧ Both w0 w' f S' g Sg := by
  obtain ⟨of, og, h1, h2, h3, h4, h5, h6, h7⟩ := h
  refine (hc of ⟨of, fun k hk => .inl hk, h3, h5, Turn.refl _ _⟩).mono fun e w' ⟨hr, own, a1, a2, a3, a4⟩ => ⟨hr, own, og, fun k hk => ?_, h2, a2, fun k hk => Nat.lt_of_lt_of_le (h4 k hk) a4.size, a3, h6.turn a4 (fun k hk => (h1 k hk).2), a4.low h7 (fun k hk => (h1 k hk).1)⟩
  rcases a1 k hk with hk | hk
  · exact h1 k hk
  · exact ⟨Nat.le_trans h7.size hk, fun hg => by have := h4 k hg; omega⟩
theorem both_start {w0 w1 w2 : World} {f g : Nat} {Sf Sg : FsS} (hf : One w0 (fun _ => False) w1 f Sf) (hg : One w1 (fun _ => False) w2 g Sg) : Both w0 w2 f Sf g Sg := by
  obtain ⟨of, a1, a2, a3, a4⟩ := hf
  obtain ⟨og, b1, b2, b3, b4⟩ := hg
  have hb : Below w1.heap.size w1 w2 := ⟨b4.os, b4.tape, b4.output, b4.size, fun k hk => b4.block k hk (fun h => h)⟩
  have ha : Below w0.heap.size w0 w1 := ⟨a4.os, a4.tape, a4.output, a4.size, fun k hk => a4.block k hk (fun h => h)⟩
  refine ⟨of, og, fun k hk => ⟨(a1 k hk).elim (fun h => h.elim) (fun h => h), fun hg => ?_⟩, fun k hk => ?_, fun k hk => Nat.lt_of_lt_of_le (a2 k hk) hb.size, b2, a3.below hb, b3, below_step ha hb⟩
  · have := a2 k hk
    rcases b1 k hg with h | h
    · exact h
    · omega
  · rcases b1 k hk with h | h
    · exact h.elim
    · exact Nat.le_trans ha.size h
/-! ### the document's example -/
abbrev na : ByteArray := ⟨#[97]⟩
abbrev abc : List Int := [97, 98, 99]
def sh1 : FsS := ((fs0 9).create na).2
def sh2 : FsS := (sh1.append na abc).2
def sh3 : FsS := (sh2.sync na).2
theorem sh_sync : (sh2.sync na).1 = 0 := by kernel_rfl
theorem sh_bounds : sh1.ops = 2 ∧ sh1.dat = 0 ∧ sh2.ops = 2 ∧ sh2.dat = 3 ∧ sh3.ops = 2 ∧ sh3.dat = 3 := ⟨by kernel_rfl, by kernel_rfl, by kernel_rfl, by kernel_rfl, by kernel_rfl, by kernel_rfl⟩
theorem sh_list : listD (sh3.crash 0 []).names = [] := by kernel_rfl
theorem sh_read : (sh3.crash 1 []).read na = (0, abc) := by kernel_rfl
end Go.Proofs.YtnnlmackofopeaaDoor.Fs
/- Contract of the laws' shown (layer 19). -/
namespace Go.Proofs.YtnnlmackofopeaaDoor.Fs
open Go.RowKit Go.Lib Go.Maps Go.Shelf Go.Sort Go.Proofs.YtnnlmackofopeaaDoorW.PrintWords Go.Proofs.YtnnlmackofopeaaDoorW.PrintLast Go.Proofs.YtnnlmackofopeaaDoorW.PrintMore
set_option linter.unusedVariables false
set_option linter.unusedSimpArgs false
/-- The string of a row of bytes. -/
def sOf (xs : List Int) : ByteArray := xs.foldl (fun r n => r.push (UInt8.ofNat n.toNat)) ByteArray.empty
theorem str_BR {w : World} {A : Option Addr} {xs : List Int} (h : BR w A xs) (c : Nat) : (convert 22 9 (.slice A xs.length c)).run Tryd.prog w = .ok (.string (sOf xs)) w := by
  cases A with
  | none =>
    rcases h with rfl | ⟨a, e, _⟩
    · exact run_convert_nil_bytes (P := Tryd.prog) w 22 9 5 c Tryd.underlying22 Tryd.underlying5 Tryd.underlying9
    · cases e
  | some a =>
    rw [run_convert_bytes_string w 22 9 5 (some a) xs.length c Tryd.underlying22 Tryd.underlying5 Tryd.underlying9]
    have hl := run_loadCells_list (P := Tryd.prog) w a (xs.map (Value.int .u8)) (fun j v hj => by
      rcases h with rfl | ⟨a', e, h⟩
      · simp at hj
      · injection e with e
        subst e
        exact h j v hj)
    rw [List.length_map] at hl
    exact run_bytesToString w a xs.length c xs hl
theorem row_BR {w : World} {base : Nat} {v : Value} {xs : List Int} (h : w.ownsRow base 5 1 v xs.length (xs.map (Value.int .u8))) : ∃ A c, v = .slice A xs.length c ∧ BR w A xs ∧ (∀ ad, A = some ad → base ≤ ad.block ∧ ad.block < w.heap.size) := by
  rcases h.2 with ⟨rfl, h0⟩ | ⟨b, c, cur, rfl, hb, hc, _, _, _, ht⟩
  · have hx : xs = [] := List.eq_nil_of_length_eq_zero h0
    subst hx
    exact ⟨none, 0, rfl, .inl rfl, fun _ e => by cases e⟩
  · refine ⟨_, c, rfl, .inr ⟨_, rfl, fun j u hu => ?_⟩, fun ad e => by injection e with e; subst e; exact ⟨hb, blk_lt hc⟩⟩
    have hadd : (⟨b, 0, none⟩ : Addr).add j = ⟨b, j, none⟩ := by unfold Addr.add; split <;> simp_all
    rw [hadd, cell_of_row w b j cur 5 (0, 0) hc]
    rw [← ht, List.getElem?_take] at hu
    split at hu
    · simpa using hu
    · cases hu
theorem conv_run (w : World) (cs : Array Value) : (convert 22 22 (.slice (some ⟨w.heap.size, 0, none⟩) 3 3)).run Tryd.prog (w.alloc (.cells cs 5)) = .ok (.slice (some ⟨w.heap.size, 0, none⟩) 3 3) ((w.alloc (.cells cs 5)).freeze ⟨w.heap.size, cs.size, none⟩ 1) := by
  have hsh : (w.alloc (.cells cs 5)).shape? w.heap.size = some (5, cs.size) := by
    simp [World.shape?, World.alloc, -World.alloc_eq]
  simp [convert, run_underlying Tryd.underlying22, run_underlying Tryd.underlying5, markStringish, hsh, Result.andThen]
theorem freeze_eq (w : World) (cs : Array Value) : (w.alloc (.cells cs 5)).freeze ⟨w.heap.size, cs.size, none⟩ 1 = w.alloc (.cells cs 5 (cs.size, cs.size + 1)) := by
  have h : ((w.heap.push (Obj.cells cs 5)).modify w.heap.size fun x =>
      match x with
      | Obj.cells c elem (lo, hi) =>
        Obj.cells c elem (if lo == hi then (cs.size, cs.size + 1) else (min lo cs.size, max hi (cs.size + 1)))
      | o => o) = w.heap.push (Obj.cells cs 5 (cs.size, cs.size + 1)) := by
    refine Array.ext_getElem? fun i => ?_
    rw [Array.getElem?_modify, Array.getElem?_push, Array.getElem?_push]
    by_cases hi : w.heap.size = i
    · subst hi
      simp
    · simp [hi, Ne.symm hi]
  unfold World.freeze
  rw [if_neg (by decide)]
  show ({ (w.alloc (.cells cs 5)) with heap := _ } : World) = _
  simp only [World.alloc]
  exact congrArg (fun hh => ({ w with heap := hh } : World)) h
theorem conv_abc (w : World) (x y z : Value) : (convert 22 22 (.slice (some ⟨w.heap.size, 0, none⟩) 3 3)).run Tryd.prog (w.alloc (.cells #[x, y, z] 5)) = .ok (.slice (some ⟨w.heap.size, 0, none⟩) 3 3) (w.alloc (.cells #[x, y, z] 5 (3, 4))) := by
  have h := conv_run w #[x, y, z]
  rw [freeze_eq] at h
  exact h
abbrev oABC : Obj := .cells #[.int .u8 97, .int .u8 98, .int .u8 99] 5 (3, 4)
theorem br_abc (w : World) : BR (w.alloc oABC) (some ⟨w.heap.size, 0, none⟩) abc := by
  refine .inr ⟨_, rfl, fun j u hu => ?_⟩
  have hb := blk_new w oABC
  have hadd : (⟨w.heap.size, 0, none⟩ : Addr).add j = ⟨w.heap.size, j, none⟩ := by unfold Addr.add; split <;> simp_all
  rw [hadd, cell_of_row _ _ j _ 5 (3, 4) hb]
  have hj : j < 3 := by
    have := (List.getElem?_eq_some_iff.1 hu).1
    simpa using this
  match j, hj with
  | 0, _ => exact hu
  | 1, _ => exact hu
  | 2, _ => exact hu
set_option maxHeartbeats 4000000 in
set_option maxRecDepth 100000 in
theorem shown_calls (w : World) : Calls Tryd.prog 21 #[] w fun e w' => e = .returned (.bool true) ∧ Below w.heap.size w w' := by
  have hcv := conv_abc
  go_enter Tryd.func21, Tryd.ntmps21
  go_upto_region 2 with (go_at_call 14; refine (one_new 9 w).mono ?_; rintro e w1 ⟨f, rfl, h⟩; have HF := Aside0.mk h; clear h)
  go_upto_region 5 with (go_at_call 14; refine (one_new 9 w1).mono ?_; rintro e w2 ⟨g, rfl, h⟩; have HB := Aside0.mk (both_start HF.out h); clear h HF)
  go_upto_region 6 with (go_at_call 22; refine (HB.out.lift (R := fun e _ => e = .returned (.int .i64 ((fs0 9).create na).1)) (S' := sh1) (fun B h => h.create na (by decide))).mono ?_; rintro e w3 ⟨rfl, h⟩; have HB1 := Aside0.mk h; clear h HB)
  go_upto_region 7 with (go_at_call 24; refine (HB1.out.lift (R := fun e _ => e = .returned (.int .i64 (sh1.append na abc).1)) (S' := sh2) (fun B h => h.append_new na oABC 3 abc (br_abc _) (by decide) (by decide) (by decide))).mono ?_; rintro e w4 ⟨rfl, h⟩; have HB2 := Aside0.mk h; clear h HB1)
  go_upto_region 8 with (go_at_call 25; refine (HB2.out.lift (R := fun e _ => e = .returned (.int .i64 (sh2.sync na).1)) (S' := sh3) (fun B h => h.sync na (by decide))).mono ?_; rintro e w5 ⟨rfl, h⟩; rw [sh_sync]; have HB3 := Aside0.mk h; clear h HB2)
  go_upto_region 9 with (go_at_call 17; refine (HB3.out.lift (R := fun e _ => e = .returned (.tuple #[])) (S' := sh3.crash 0 []) (fun B h => h.crash 0 none 0 [] (fun i hi => absurd hi (Nat.not_lt_zero i)) (.inl rfl) (by decide) (by decide) (by decide))).mono ?_; rintro e w6 ⟨rfl, h⟩; have HB4 := Aside0.mk h.swap; clear h HB3)
  go_upto_region 10 with (go_at_call 22; refine (HB4.out.lift (R := fun e _ => e = .returned (.int .i64 ((fs0 9).create na).1)) (S' := sh1) (fun B h => h.create na (by decide))).mono ?_; rintro e w7 ⟨rfl, h⟩; have HB5 := Aside0.mk h; clear h HB4)
  go_upto_region 11 with (go_at_call 24; refine (HB5.out.lift (R := fun e _ => e = .returned (.int .i64 (sh1.append na abc).1)) (S' := sh2) (fun B h => h.append_new na oABC 3 abc (br_abc _) (by decide) (by decide) (by decide))).mono ?_; rintro e w8 ⟨rfl, h⟩; have HB6 := Aside0.mk h; clear h HB5)
  go_upto_region 12 with (go_at_call 25; refine (HB6.out.lift (R := fun e _ => e = .returned (.int .i64 (sh2.sync na).1)) (S' := sh3) (fun B h => h.sync na (by decide))).mono ?_; rintro e w9 ⟨rfl, h⟩; have HB7 := Aside0.mk h; clear h HB6)
  go_upto_region 13 with (go_at_call 17; refine (HB7.out.lift (R := fun e _ => e = .returned (.tuple #[])) (S' := sh3.crash 1 []) (fun B h => h.crash 1 none 0 [] (fun i hi => absurd hi (Nat.not_lt_zero i)) (.inl rfl) (by decide) (by decide) (by decide))).mono ?_; rintro e w10 ⟨rfl, h⟩; have HB8 := Aside0.mk h; clear h HB7)
  have hrd := HB8.out.lift (R := fun e w' => ∃ v, e = .returned (.tuple #[v, .int .i64 0]) ∧ w'.ownsRow w10.heap.size 5 1 v 3 (abc.map (Value.int .u8))) (S' := sh3.crash 1 []) (fun B h => (h.read na (by decide)).mono fun e w' ⟨v, he, hr, hb, h⟩ => by
    rw [sh_read] at he hr
    exact ⟨⟨v, he, hr⟩, h⟩)
  clear hcv
  go_upto_region 14 with (go_at_call 26; refine hrd.mono ?_; rintro e w11 ⟨⟨v, rfl, hr⟩, h⟩; obtain ⟨A, c, rfl, hbr, _⟩ := row_BR (xs := abc) hr; have HR := Aside0.mk hbr; have HB9 := Aside0.mk h.swap; clear h hr hbr hrd HB8)
  have hls := HB9.out.lift (R := fun e w' => ∃ A c, e = .returned (.slice A 0 c) ∧ Below w11.heap.size w11 w') (S' := sh3.crash 0 []) (fun B h => (h.list (by decide)).mono fun e w' ⟨v, he, hr, hb, h⟩ => by
    rw [sh_list] at hr
    obtain ⟨A, c, hv⟩ := row_slice hr
    exact ⟨⟨A, c, by rw [he, hv]; rfl, hb⟩, h⟩)
  go_wp2_with (go_at_call 20; refine hls.mono ?_; rintro e w12 ⟨⟨A2, c2, rfl, hb⟩, h⟩; have hst : (convert 22 9 (.slice A 3 c)).run Tryd.prog w12 = .ok (.string ⟨#[97, 98, 99]⟩) w12 := str_BR (HR.out.below hb) c; have HB10 := Aside0.mk h; clear h hb hls)
  go_ret
  obtain ⟨_, _, _, _, _, _, _, _, h⟩ := HB10.out
  exact ⟨rfl, h⟩
end Go.Proofs.YtnnlmackofopeaaDoor.Fs
/- FsGone: the states. -/
namespace Go.Proofs.YtnnlmackofopeaaDoor.Fs
open Go.RowKit Go.Lib Go.Maps Go.Shelf Go.Sort Go.Proofs.YtnnlmackofopeaaDoorW.PrintWords Go.Proofs.YtnnlmackofopeaaDoorW.PrintLast Go.Proofs.YtnnlmackofopeaaDoorW.PrintMore
set_option linter.unusedVariables false
set_option linter.unusedSimpArgs false
theorem crash_read {S : FsS} {nm : Int} {bs : List Int} {n : ByteArray} {i : Nat} {f : List Int × Nat} (hm : mayS n = true) (hi : (S.crash nm bs).at_ n = some i) (hf : S.files[i]? = some f) (hs : f.2 = f.1.length) : (S.crash nm bs).read n = (0, f.1) := by
  have hil : i < S.files.length := (List.getElem?_eq_some_iff.1 hf).1
  have hfile : (S.crash nm bs).files[i]? = some (cutF bs i f) := by
    show (S.cutN bs S.files.length).files[i]? = _
    rw [cutN_file, if_pos hil, hf]
    rfl
  have hst : stayS bs i f = 0 := by
    unfold stayS
    split
    · rw [hs]; omega
    · rfl
  unfold FsS.read
  rw [if_pos hm, hi]
  simp only [hfile, Option.map_some, Option.getD_some]
  unfold cutF
  rw [hst, hs, Nat.add_zero, List.take_length]
theorem read_none {S : FsS} {n : ByteArray} (hm : mayS n = true) (hi : S.at_ n = none) : S.read n = (7, []) := by
  unfold FsS.read
  rw [if_pos hm, hi]
/-! ### FsGone -/
abbrev q20 : Int := 1048576
def go1 : FsS := ((fs0 q20).create na).2
def go2 (ys : List Int) : FsS := go1.app 0 ys
def go3 (ys : List Int) : FsS := (go2 ys).upd 0 (fun f => (f.1, f.1.length))
def go4 (ys : List Int) : FsS := { go3 ys with durable := (go3 ys).names, changes := [] }
def go5 (ys : List Int) : FsS := (go4 ys).chg (.gone na)
def go6 (ys : List Int) : FsS := { go5 ys with durable := (go5 ys).names, changes := [] }
theorem may_a : mayS na = true := by kernel_rfl
theorem go1_eq : (fs0 q20).create na = (0, go1) := by kernel_rfl
theorem go1_at : go1.at_ na = some 0 := by kernel_rfl
theorem go1_used : go1.used = 0 := by kernel_rfl
theorem go2_eq (ys : List Int) (hl : ys.length ≤ 1000) : go1.append na ys = (0, go2 ys) :=
  append_ok (S := go1) rfl may_a go1_at (by rw [go1_used]; show ((0 : Nat) : Int) + (ys.length : Int) ≤ 1048576; omega)
theorem go3_eq (ys : List Int) : (go2 ys).sync na = (0, go3 ys) := sync_ok (S := go2 ys) rfl may_a go1_at
theorem go4_eq (ys : List Int) : (go3 ys).syncNames = (0, go4 ys) := syncNames_ok (S := go3 ys) rfl
theorem go5_eq (ys : List Int) : (go4 ys).remove na = (0, go5 ys) := remove_ok (S := go4 ys) rfl may_a (by
  show has go1.names (kl na) = true
  kernel_rfl)
theorem go6_eq (ys : List Int) : (go5 ys).syncNames = (0, go6 ys) := syncNames_ok (S := go5 ys) rfl
theorem go5_file (ys : List Int) : (go5 ys).files[0]? = some (ys, ys.length) := rfl
/-- Nothing survives: it comes back. -/
theorem gone_back (ys : List Int) (nm : Int) (bs : List Int) (hn : nm ≤ 0) : ((go5 ys).crash nm bs).read na = (0, ys) := by
  have hk : kept nm (go5 ys).changes.length = 0 := by unfold kept; omega
  refine crash_read (f := (ys, ys.length)) may_a (i := 0) ?_ (go5_file ys) rfl
  have hnm : ((go5 ys).crash nm bs).names = go1.names := by
    show foldD (go5 ys).durable ((go5 ys).changes.take (kept nm (go5 ys).changes.length)) = _
    rw [hk]
    rfl
  unfold FsS.at_
  rw [hnm]
  exact go1_at
theorem gone_stay (ys : List Int) (nm : Int) (bs : List Int) (hn : 0 < nm) : ((go5 ys).crash nm bs).read na = (7, []) ∧ ((go5 ys).crash nm bs).used = 0 := by
  have hk : kept nm (go5 ys).changes.length = 1 := by
    have : (go5 ys).changes.length = 1 := rfl
    unfold kept
    omega
  have hnm : ((go5 ys).crash nm bs).names = .map [] := by
    show foldD (go5 ys).durable ((go5 ys).changes.take (kept nm (go5 ys).changes.length)) = _
    rw [hk]
    show foldD go1.names [.gone na] = _
    kernel_rfl
  refine ⟨read_none may_a (by unfold FsS.at_; rw [hnm]; rfl), ?_⟩
  unfold FsS.used
  rw [hnm]
  rfl
theorem gone_synced (ys : List Int) (nm : Int) (bs : List Int) : ((go6 ys).crash nm bs).read na = (7, []) ∧ ((go6 ys).crash nm bs).used = 0 := by
  have hnm : ((go6 ys).crash nm bs).names = .map [] := by
    show foldD (go6 ys).durable (([] : List Chg).take (kept nm (go6 ys).changes.length)) = _
    rw [List.take_nil]
    show (Chg.gone na).app go1.names = _
    kernel_rfl
  refine ⟨read_none may_a (by unfold FsS.at_; rw [hnm]; rfl), ?_⟩
  unfold FsS.used
  rw [hnm]
  rfl
end Go.Proofs.YtnnlmackofopeaaDoor.Fs
/- FsGone: the walk. -/
namespace Go.Proofs.YtnnlmackofopeaaDoor.Fs
open Go.RowKit Go.Lib Go.Maps Go.Shelf Go.Sort Go.Proofs.YtnnlmackofopeaaDoorW.PrintWords Go.Proofs.YtnnlmackofopeaaDoorW.PrintLast Go.Proofs.YtnnlmackofopeaaDoorW.PrintMore
set_option linter.unusedVariables false
set_option linter.unusedSimpArgs false
theorem One.bel {wB w : World} {g : Nat} {S : FsS} (h : One wB (fun _ => False) w g S) : Below wB.heap.size wB w :=
  ⟨h.turn.os, h.turn.tape, h.turn.output, h.turn.size, fun k hk => h.turn.block k hk (fun h => h)⟩
theorem IR.below {w w' : World} {A : Option Addr} {bs : List Int} (h : IR w A bs) (hb : Below w.heap.size w w') : IR w' A bs := fun i hi => by
  obtain ⟨ad, e, hc⟩ := h i hi
  exact ⟨ad, e, (hb.cell (World.block_lt_of_cell? w _ hc)).trans hc⟩
theorem crash_bounds (S : FsS) (nm : Int) (bs : List Int) : (S.crash nm bs).ops = S.ops ∧ (S.crash nm bs).dat = S.dat :=
  ⟨(cutN_rest S bs S.files.length).2.2.2.2.2.2.1, (cutN_rest S bs S.files.length).2.2.2.2.2.2.2.1⟩
theorem gone_big (ys : List Int) (h : ys.length ≤ 1000) : (go1.ops + 1) * (0 + ys.length) ≤ 1000000000000000 := by
  have h3 : go1.ops = 2 := by kernel_rfl
  rw [h3]
  omega
set_option maxHeartbeats 4000000 in
set_option maxRecDepth 100000 in
theorem gone_calls (A : Option Addr) (c : Nat) (ys : List Int) (nm : Int) (Ab : Option Addr) (bc : Nat) (bs : List Int) (sy : Bool) (w : World) (hr : BR w A ys) (hb : IR w Ab bs) (hbl : bs.length ≤ maxLen) :
    Calls Tryd.prog 5 #[.slice A ys.length c, .agg #[.int .i64 nm, .slice Ab bs.length bc], .bool sy] w fun e w' => e = .returned (.bool true) ∧ Below w.heap.size w w' := by
  have hx := blk_new w (.cells #[.int .i64 nm, .slice Ab bs.length bc] 25)
  have HB0 := Aside0.mk (below_alloc (Below.refl w.heap.size w) (.cells #[.int .i64 nm, .slice Ab bs.length bc] 25))
  have HH := Aside0.mk (And.intro hr (And.intro hr.there (And.intro hb (And.intro hb.there hbl))))
  obtain ⟨W, hW⟩ : ∃ W, W = w.alloc (.cells #[.int .i64 nm, .slice Ab bs.length bc] 25) := ⟨_, rfl⟩
  obtain ⟨r, hr0⟩ : ∃ r, r = w.heap.size := ⟨_, rfl⟩
  obtain ⟨m, hm⟩ : ∃ m, m = ys.length := ⟨_, rfl⟩
  rw [← hW, ← hr0] at hx
  rw [← hW] at HB0
  have HX := Aside0.mk hx
  have HM := Aside0.mk hm
  rw [← hm]
  clear hx hr hb hbl hm
  go_enter Tryd.func5, Tryd.ntmps5
  go_upto_region 1 with (fail)
  rw [← hW, ← hr0]
  have HR0 := Aside0.mk hr0
  clear hW hr0
  go_upto_region 2 with (go_at_call 21; refine (shown_calls W).mono ?_; rintro e w1 ⟨rfl, hb⟩; have HB1 := Aside0.mk hb; clear hb)
  go_upto_region 3 with (go_at_call 14; refine (one_new q20 w1).mono ?_; rintro e w2 ⟨g, rfl, h⟩; have H0 := Aside0.mk h; clear h)
  have HW1 := Aside0.mk (show Below w.heap.size w w1 from below_step HB0.out HB1.out)
  by_cases hml : m ≤ 1000
  case neg =>
    have e1 : ((1000 : Int) < (m : Int)) = True := eq_true (by omega)
    clear hml
    go_wp2
    go_ret
    exact ⟨rfl, below_step HW1.out H0.out.bel⟩
  have e1 : ((1000 : Int) < (m : Int)) = False := eq_false (by omega)
  have HML := Aside0.mk hml
  clear hml
  go_upto_region 6 with (go_at_call 22; refine (H0.out.create na (by decide)).mono ?_; rintro e w3 ⟨rfl, h⟩; rw [go1_eq] at h; have H1 := Aside0.mk h; clear h H0)
  have hap := H1.out.append na A c ys ((HH.out.1.below HW1.out).below H1.out.bel) (HH.out.2.1.imp id fun h ad e => ⟨fun h => h, Nat.lt_of_lt_of_le (h ad e) HW1.out.size⟩) (by decide) (by decide) (by have := HML.out; have := HM.out; omega)
  rw [← HM.out] at hap
  go_upto_region 7 with (go_at_call 24; refine hap.mono ?_; rintro e w4 ⟨rfl, h⟩; rw [go2_eq ys (by have := HML.out; have := HM.out; omega)] at h; have H2 := Aside0.mk h; clear h H1 hap)
  go_upto_region 8 with (go_at_call 25; refine (H2.out.sync na (by show 0 + ys.length ≤ 1000000000; have := HML.out; have := HM.out; omega)).mono ?_; rintro e w5 ⟨rfl, h⟩; rw [go3_eq ys] at h; have H3 := Aside0.mk h; clear h H2)
  go_upto_region 9 with (go_at_call 23; refine (H3.out.syncNames).mono ?_; rintro e w6 ⟨rfl, h⟩; rw [go4_eq ys] at h; have H4 := Aside0.mk h; clear h H3)
  go_upto_region 10 with (go_at_call 27; refine (H4.out.remove na (by show go1.ops ≤ 90000; decide)).mono ?_; rintro e w7 ⟨rfl, h⟩; rw [go5_eq ys] at h ⊢; have H5 := Aside0.mk h; clear h H4)
  cases sy with
  | true =>
    go_upto_region 12 with (go_at_call 23; refine (H5.out.syncNames).mono ?_; rintro e w8 ⟨rfl, h⟩; rw [go6_eq ys] at h; have H6 := Aside0.mk h; clear h H5)
    have hx := blk_below (blk_below HX.out HB1.out) H6.out.bel
    have x0 : w8.cell? ⟨r, 0, none⟩ = some (.int .i64 nm) := blk_cell hx 0
    have x1 : w8.cell? ⟨r, 1, none⟩ = some (.slice Ab bs.length bc) := blk_cell hx 1
    clear hx
    go_upto_region 13 with (go_at_call 17; refine (H6.out.crash nm Ab bc bs ((HH.out.2.2.1.below HW1.out).below H6.out.bel) (HH.out.2.2.2.1.imp id fun h ad e => ⟨fun h => h, Nat.lt_of_lt_of_le (h ad e) HW1.out.size⟩) (by show go1.ops + 1 ≤ 90000; decide) (by show 0 + ys.length ≤ 1000000000; have := HML.out; have := HM.out; omega) HH.out.2.2.2.2).mono ?_; rintro e w9 ⟨rfl, h⟩; have H7 := Aside0.mk h; clear h H6 x0 x1)
    have hrd := H7.out.read na (by rw [(crash_bounds _ nm bs).2]; show 0 + ys.length ≤ 1000000000; have := HML.out; have := HM.out; omega)
    rw [(gone_synced ys nm bs).1] at hrd
    go_upto_region 14 with (go_at_call 26; refine hrd.mono ?_; rintro e w10 ⟨v, rfl, hr, hb, h⟩; obtain ⟨A2, c2, rfl⟩ := row_slice hr; have H8 := Aside0.mk h; clear h H7 hr hb hrd)
    have hx := blk_below (blk_below HX.out HB1.out) H8.out.bel
    have x0 : w10.cell? ⟨r, 0, none⟩ = some (.int .i64 nm) := blk_cell hx 0
    clear hx
    have hus := H8.out.usedC (by rw [(crash_bounds _ nm bs).1, (crash_bounds _ nm bs).2]; exact gone_big ys (by have := HML.out; have := HM.out; omega))
    rw [(gone_synced ys nm bs).2] at hus
    go_wp2_with (go_at_call 28; refine hus.mono ?_; rintro e w11 ⟨rfl, hb, h⟩; have H9 := Aside0.mk h; clear h hb hus)
    go_ret
    exact ⟨rfl, below_step HW1.out H9.out.bel⟩
  | false =>
    go_upto_region 12 with (fail)
    have hx := blk_below (blk_below HX.out HB1.out) H5.out.bel
    have x0 : w7.cell? ⟨r, 0, none⟩ = some (.int .i64 nm) := blk_cell hx 0
    have x1 : w7.cell? ⟨r, 1, none⟩ = some (.slice Ab bs.length bc) := blk_cell hx 1
    clear hx
    go_upto_region 13 with (go_at_call 17; refine (H5.out.crash nm Ab bc bs ((HH.out.2.2.1.below HW1.out).below H5.out.bel) (HH.out.2.2.2.1.imp id fun h ad e => ⟨fun h => h, Nat.lt_of_lt_of_le (h ad e) HW1.out.size⟩) (by show go1.ops + 1 ≤ 90000; decide) (by show 0 + ys.length ≤ 1000000000; have := HML.out; have := HM.out; omega) HH.out.2.2.2.2).mono ?_; rintro e w9 ⟨rfl, h⟩; have H7 := Aside0.mk h; clear h H5 x0 x1)
    by_cases hn : nm ≤ 0
    case neg =>
      have hst := gone_stay ys nm bs (by omega)
      have e2 : (nm ≤ 0) = False := eq_false hn
      clear hn
      have hrd := H7.out.read na (by rw [(crash_bounds _ nm bs).2]; show 0 + ys.length ≤ 1000000000; have := HML.out; have := HM.out; omega)
      rw [hst.1] at hrd
      go_upto_region 14 with (go_at_call 26; refine hrd.mono ?_; rintro e w10 ⟨v, rfl, hr, hb, h⟩; obtain ⟨A2, c2, rfl⟩ := row_slice hr; have H8 := Aside0.mk h; clear h H7 hr hb hrd)
      have hx := blk_below (blk_below HX.out HB1.out) H8.out.bel
      have x0 : w10.cell? ⟨r, 0, none⟩ = some (.int .i64 nm) := blk_cell hx 0
      clear hx
      have hus := H8.out.usedC (by rw [(crash_bounds _ nm bs).1, (crash_bounds _ nm bs).2]; exact gone_big ys (by have := HML.out; have := HM.out; omega))
      rw [hst.2] at hus
      go_wp2_with (go_at_call 28; refine hus.mono ?_; rintro e w11 ⟨rfl, hb, h⟩; have H9 := Aside0.mk h; clear h hb hus)
      go_ret
      exact ⟨rfl, below_step HW1.out H9.out.bel⟩
    case pos =>
      have hst := gone_back ys nm bs hn
      have e2 : (nm ≤ 0) = True := eq_true hn
      clear hn
      have hrd := H7.out.read na (by rw [(crash_bounds _ nm bs).2]; show 0 + ys.length ≤ 1000000000; have := HML.out; have := HM.out; omega)
      rw [hst] at hrd
      go_upto_region 14 with (go_at_call 26; refine hrd.mono ?_; rintro e w10 ⟨v, rfl, hr, hb, h⟩; obtain ⟨A2, c2, rfl, hbr, _⟩ := row_BR (xs := ys) hr; have HR := Aside0.mk hbr; have H8 := Aside0.mk h; clear h H7 hr hb hrd hbr)
      have hx := blk_below (blk_below HX.out HB1.out) H8.out.bel
      have x0 : w10.cell? ⟨r, 0, none⟩ = some (.int .i64 nm) := blk_cell hx 0
      clear hx
      have s1 := str_BR HR.out c2
      have s2 := str_BR ((HH.out.1.below HW1.out).below H8.out.bel) c
      rw [← HM.out] at s2
      go_wp2
      go_ret
      exact ⟨rfl, below_step HW1.out H8.out.bel⟩
end Go.Proofs.YtnnlmackofopeaaDoor.Fs
/- Strings of rows of bytes; rows of rows of bytes; a crash at a list of the caller's, made since. -/
namespace Go.Proofs.YtnnlmackofopeaaDoor.Fs
open Go.RowKit Go.Lib Go.Maps Go.Shelf Go.Sort Go.Proofs.YtnnlmackofopeaaDoorW.PrintWords Go.Proofs.YtnnlmackofopeaaDoorW.PrintLast Go.Proofs.YtnnlmackofopeaaDoorW.PrintMore
set_option linter.unusedVariables false
set_option linter.unusedSimpArgs false
theorem wrap64_small {n : Int} (h0 : 0 ≤ n) (h1 : n < 9223372036854775808) : wrap64 n = n := by unfold wrap64; omega
def byt (n : Int) : UInt8 := UInt8.ofNat n.toNat
theorem fold_data : ∀ (xs : List Int) (r : ByteArray), (xs.foldl (fun r n => r.push (UInt8.ofNat n.toNat)) r).data.toList = r.data.toList ++ xs.map byt
  | [], r => by simp
  | x :: xs, r => by
    rw [List.foldl_cons, fold_data xs]
    show (r.data.push _).toList ++ _ = _
    rw [Array.toList_push, List.map_cons, List.append_assoc]
    rfl
theorem sOf_data (xs : List Int) : (sOf xs).data = (xs.map byt).toArray := by
  refine Array.toList_inj.1 ?_
  rw [show sOf xs = xs.foldl (fun r n => r.push (UInt8.ofNat n.toNat)) ByteArray.empty from rfl, fold_data]
  rfl
theorem sOf_size (xs : List Int) : (sOf xs).size = xs.length := by
  show (sOf xs).data.size = _
  rw [sOf_data]
  simp
theorem sOf_append (xs ys : List Int) : sOf xs ++ sOf ys = sOf (xs ++ ys) := by
  refine ByteArray.ext ?_
  rw [ByteArray.data_append, sOf_data, sOf_data, sOf_data, List.map_append]
  simp
theorem sOf_take (xs : List Int) (k : Nat) : (sOf xs).extract 0 k = sOf (xs.take k) := by
  refine ByteArray.ext ?_
  rw [ByteArray.data_extract, sOf_data, sOf_data, List.map_take]
  simp
theorem sOf_nil : sOf [] = ⟨#[]⟩ := rfl
theorem below_drew (w : World) (n : Nat) : Below w.heap.size w (w.drewN n) := ⟨rfl, rfl, rfl, Nat.le_refl _, fun _ _ => rfl⟩
theorem below_drew1 (w : World) : Below w.heap.size w w.drew := ⟨rfl, rfl, rfl, Nat.le_refl _, fun _ _ => rfl⟩
theorem BR.drewN {w : World} {A : Option Addr} {ys : List Int} (h : BR w A ys) (n : Nat) : BR (w.drewN n) A ys := h.below (below_drew w n)
/-- Rows of bytes in a row. -/
def RR (w : World) (A : Option Addr) (ls : List (List Int)) : Prop := ∀ (i : Nat) (h : i < ls.length), ∃ ad A1 c1, A = some ad ∧ w.cell? (ad.add i) = some (.slice A1 ls[i].length c1) ∧ BR w A1 ls[i]
theorem RR.below {w w' : World} {A : Option Addr} {ls : List (List Int)} (h : RR w A ls) (hb : Below w.heap.size w w') : RR w' A ls := fun i hi => by
  obtain ⟨ad, A1, c1, e, hc, hr⟩ := h i hi
  exact ⟨ad, A1, c1, e, (hb.cell (World.block_lt_of_cell? w _ hc)).trans hc, hr.below hb⟩
theorem IR.new (w : World) (n : Int) : IR (w.alloc (.cells #[.int .i64 n] 3)) (some ⟨w.heap.size, 0, none⟩) [n] := fun i hi => by
  obtain rfl : i = 0 := by simp at hi; omega
  exact ⟨_, rfl, by
    have hb := blk_new w (.cells #[.int .i64 n] 3)
    have hadd : (⟨w.heap.size, 0, none⟩ : Addr).add 0 = ⟨w.heap.size, 0, none⟩ := by unfold Addr.add; split <;> simp_all
    rw [hadd, cell_of_row _ _ 0 _ 3 (0, 0) hb]
    rfl⟩
theorem One.crash_new {wB w : World} {B : Nat → Prop} {g : Nat} {S : FsS} (h : One wB B w g S) (nm : Int) (o : Obj) (c : Nat) (bs : List Int) (hr : IR (w.alloc o) (some ⟨w.heap.size, 0, none⟩) bs) (hops : S.ops ≤ 90000) (hdat : S.dat ≤ 1000000000) (hbl : bs.length ≤ maxLen) :
    Calls Tryd.prog 17 #[.pointer (some ⟨g, 0, none⟩), .agg #[.int .i64 nm, .slice (some ⟨w.heap.size, 0, none⟩) bs.length c]] (w.alloc o) fun e w' => e = .returned (.tuple #[]) ∧ One wB B w' g (S.crash nm bs) := by
  obtain ⟨own, h1, h2, h3, h4⟩ := h
  have hb := below_alloc (Below.refl w.heap.size w) o
  have h2' : Under own (w.alloc o) := fun k hk => Nat.lt_of_lt_of_le (h2 k hk) hb.size
  exact (crash_calls nm _ bs c (w.alloc o) own g S (h3.below hb) h2' hr (.inr fun ad e => by injection e with e; subst e; exact fun hk => absurd (h2 _ hk) (Nat.lt_irrefl _)) hops hdat hbl).mono fun e w' ⟨he, hS, ht⟩ => ⟨he, One.step h1 h2' (h4.then_below hb) hS ht⟩
end Go.Proofs.YtnnlmackofopeaaDoor.Fs
