/- Contract of (*Fs).Crash. -/
import Derived.Test.YtnnlmackofopeaaDoorFsCrashed
import Derived.StillTailTactics
namespace Go.Proofs.YtnnlmackofopeaaDoor.Fs
open Go.RowKit Go.Lib Go.Maps Go.Shelf Go.Proofs.YtnnlmackofopeaaDoorW.PrintWords Go.Proofs.YtnnlmackofopeaaDoorW.PrintLast Go.Proofs.YtnnlmackofopeaaDoorW.PrintMore
set_option linter.unusedVariables false
set_option linter.unusedSimpArgs false
/-- Ints to be read: none, or cells. -/
def IR (w : World) (A : Option Addr) (bs : List Int) : Prop := ∀ (i : Nat) (h : i < bs.length), ∃ ad, A = some ad ∧ w.cell? (ad.add i) = some (.int .i64 bs[i])
theorem IR.turn {w w' : World} {own : Nat → Prop} {A : Option Addr} {bs : List Int} (h : IR w A bs) (hb : Turn own w w') (hn : bs = [] ∨ ∀ ad, A = some ad → ¬ own ad.block) : IR w' A bs := fun i hi => by
  rcases hn with hn | hn
  · subst hn; exact absurd hi (Nat.not_lt_zero _)
  obtain ⟨ad, e, hc⟩ := h i hi
  refine ⟨ad, e, ?_⟩
  rw [← hc]
  refine World.cell?_of_block (hb.block _ (World.block_lt_of_cell? w _ hc) ?_)
  rw [add_block]
  exact hn ad e
theorem IR.there {w : World} {A : Option Addr} {bs : List Int} (h : IR w A bs) : bs = [] ∨ ∀ ad, A = some ad → ad.block < w.heap.size := by
  cases bs with
  | nil => exact .inl rfl
  | cons y r =>
    refine .inr fun ad e => ?_
    obtain ⟨ad', e', hc⟩ := h 0 (by simp)
    rw [e] at e'
    injection e' with e'
    subst e'
    have := World.block_lt_of_cell? w _ hc
    rwa [add_block] at this
theorem crash_nil (nm : Int) (A : Option Addr) (n c : Nat) (w : World) : Calls Tryd.prog 17 #[.pointer none, .agg #[.int .i64 nm, .slice A n c]] w fun e w' => e = .returned (.tuple #[]) ∧ Below w.heap.size w w' := by
  go_enter Tryd.func17, Tryd.ntmps17
  go_wp2
  refine bodyPost_ret (results_none rfl _ _ _) rfl ?_
  exact ⟨rfl, below_alloc (Below.refl _ _) _⟩
/-- A row: its slice, its cells. -/
theorem row_cells {w : World} {e : TypeId} {n : Nat} {v : Value} {xs : List Value} (h : w.ownsRow 0 e 1 v n xs) : (v = .slice none 0 0 ∧ n = 0 ∧ xs = []) ∨ ∃ b c, v = .slice (some ⟨b, 0, none⟩) n c ∧ n ≤ c ∧ ∀ j u, xs[j]? = some u → w.cell? ⟨b, j, none⟩ = some u := by
  obtain ⟨hl, h⟩ := h
  rcases h with ⟨rfl, rfl⟩ | ⟨b, c, cur, rfl, _, hb, hn, _, hs, ht⟩
  · exact .inl ⟨rfl, rfl, List.eq_nil_of_length_eq_zero (by simpa using hl)⟩
  · refine .inr ⟨b, c, rfl, hn, fun j u hu => ?_⟩
    rw [cell_of_row w b j cur e (0, 0) hb]
    rw [← ht, List.getElem?_take] at hu
    split at hu
    · simpa using hu
    · cases hu
theorem drow_cut {w : World} {own : Nat → Prop} {B : Option Addr} {c s : Nat} {xs : List Int} (h : DRow w own (.slice B xs.length c) xs) (hs : s ≤ xs.length) : DRow w own (.slice B s s) (xs.take s) := by
  obtain ⟨A, cc, e, hl, h⟩ := h
  injection e with e1 _ e3
  subst e1 e3
  have hlen : (xs.take s).length = s := by rw [List.length_take]; omega
  refine ⟨B, s, by rw [hlen], by rw [hlen]; exact Nat.le_refl _, ?_⟩
  rcases h with ⟨h1, h2⟩ | ⟨b, cells, h1, h2, h3, h4, h5⟩
  · exact .inl ⟨h1, by omega⟩
  · refine .inr ⟨b, cells, h1, h2, h3, by omega, ?_⟩
    rw [hlen, List.map_take, ← h5, List.take_take, Nat.min_eq_left hs]
theorem sub_wrap (a b : Nat) (h : a ≤ 1000000000) (h2 : b ≤ a) : IntKind.i64.wrap ((a : Int) - (b : Int)) = (a : Int) - (b : Int) := IntWalk.i64_in _ (by omega)
theorem add_wrap (a b n : Nat) (h : n ≤ 1000000000) (h2 : a + b ≤ n) : wrap64 ((a : Int) + (b : Int)) = ((a + b : Nat) : Int) := by unfold wrap64; omega
theorem stay_int (bs : List Int) (j : Nat) (f : List Int × Nat) (y : Int) (hb : j < bs.length) (hy : y = bs[j]) : max (min y ((f.1.length : Int) - (f.2 : Int))) 0 = (stayS bs j f : Int) := by
  unfold stayS
  rw [if_pos hb, show bs.getD j 0 = y by rw [hy]; simp [List.getD, List.getElem?_eq_getElem hb]]
  omega
/-- A file is cut. -/
theorem cut_step {V2 : World} {own : Nat → Prop} {g : Nat} {S1 : FsS} {bs : List Int} {G' : FsG} {st : Nat} (j b : Nat) (f : List Int × Nat) (s : Nat) (B : Option Addr) (cc2 : Nat) (V4 : World) (h : FsAt V2 own g (S1.cutN bs j) G') (p1 : G'.fs[j]? = some (b, .slice B f.1.length cc2)) (p2 : (S1.cutN bs j).files[j]? = some f)
    (hb : V4.heap[b]? = some (.cells #[.slice B f.1.length cc2, .int .i64 (s : Int)] 70 (0, 0))) (ho : ∀ k, k ≠ b → V4.heap[k]? = V2.heap[k]?) (hs : s = f.2 + st) (hst : st = stayS bs j f) :
    FsAt (V4.setCell ⟨b, 0, none⟩ (.slice B s s)) own g (S1.cutN bs (j + 1)) { G' with fs := G'.fs.set j (b, .slice B s s) } := by
  obtain ⟨q1, q2, q3, q4, q5⟩ := h.file j b _ f p1 p2
  have hsl : s ≤ f.1.length := by rw [hs, hst]; exact stay_le bs j f q4
  have hcut : cutF bs j f = (f.1.take s, s) := by unfold cutF; rw [← hst, ← hs]
  have hk : ∀ k, k ≠ b → (V4.setCell ⟨b, 0, none⟩ (.slice B s s)).heap[k]? = V2.heap[k]? := fun k hk => (Below.heap_setCell _ ⟨b, 0, none⟩ _ k hk).trans (ho k hk)
  have hlt : (f.1.take s).length = s := by rw [List.length_take]; omega
  have hob : ∀ k, (Value.slice B s s).ownBlock = some k → (Value.slice B f.1.length cc2).ownBlock = some k := fun k hk => by
    cases B with
    | none => simp [Value.ownBlock] at hk
    | some a => exact hk
  refine h.setFile (w' := V4.setCell ⟨b, 0, none⟩ (.slice B s s)) (own' := own) j b _ f p1 p2 (.slice B s s) (cutF bs j) (S1.cutN bs j).dat ?_ ?_ (fun _ h => h) ?_ ?_ (Nat.le_refl _) (fun k _ _ h1 _ => hk k h1) (fun k hk => .inl (hob k hk))
  · rw [hcut]
    exact blk_put hb 0 _ rfl
  · rw [hcut]
    exact (drow_cut q3 hsl).step (fun k hkk => hk k (by
      obtain ⟨_, _, cells, hc⟩ := q3.own k (hob k hkk)
      exact ne_of_type hc q1 (by decide))) (fun _ h => h)
  · rw [hcut, hlt]
    exact Nat.le_refl _
  · rw [hcut]
    show (f.1.take s).length ≤ _
    rw [hlt]
    exact Nat.le_trans hsl q5
theorem cutN_files {S S' : FsS} (bs : List Int) (h : S.files = S'.files) : ∀ n, (S.cutN bs n).files = (S'.cutN bs n).files
  | 0 => h
  | n + 1 => by
    show (S.cutN bs n).files.modify n (cutF bs n) = (S'.cutN bs n).files.modify n (cutF bs n)
    rw [cutN_files bs h n]
theorem crash_eq {S S1 : FsS} {nm : Int} {bs : List Int} {i L : Nat} (h1 : S1 = { S with durable := foldD S.durable (S.changes.take i), ops := S.ops + i }) (hi : i = kept nm S.changes.length) (hL : L = S1.files.length) :
    ({ ({ S1.cutN bs L with limited := false, names := (S1.cutN bs L).durable, durable := (S1.cutN bs L).durable, changes := [] } : FsS) with ops := S.ops } : FsS) = S.crash nm bs := by
  have hf : (S1.cutN bs L).files = (S.cutN bs S.files.length).files := by
    have : L = S.files.length := by rw [hL, h1]
    rw [this]
    exact cutN_files bs (by rw [h1]) _
  obtain ⟨a1, a2, a3, a4, a5, a6, a7, a8, a9⟩ := cutN_rest S1 bs L
  obtain ⟨b1, b2, b3, b4, b5, b6, b7, b8, b9⟩ := cutN_rest S bs S.files.length
  have d1 : S1.durable = foldD S.durable (S.changes.take (kept nm S.changes.length)) := by rw [h1, hi]
  have d2 : S1.quota = S.quota ∧ S1.left = S.left ∧ S1.dat = S.dat := by rw [h1]; exact ⟨rfl, rfl, rfl⟩
  unfold FsS.crash
  rw [FsS.mk.injEq]
  exact ⟨by simp only [a1, b1, d2], by simp only [a2, b2, d2], rfl, hf, by simp only [a5, d1], by simp only [a5, d1], rfl, by simp only [b7], by simp only [a8, b8, d2]⟩
set_option maxHeartbeats 4000000 in
set_option maxRecDepth 100000 in
theorem crash_calls (nm : Int) (A : Option Addr) (bs : List Int) (c : Nat) (w : World) (own : Nat → Prop) (g : Nat) (S : FsS) (hS : FsIs w own g S) (hu : Under own w) (hr : IR w A bs) (hA : bs = [] ∨ ∀ ad, A = some ad → ¬ own ad.block) (hops : S.ops ≤ 90000) (hdat : S.dat ≤ 1000000000) (hbl : bs.length ≤ maxLen) :
    Calls Tryd.prog 17 #[.pointer (some ⟨g, 0, none⟩), .agg #[.int .i64 nm, .slice A bs.length c]] w fun e w' => e = .returned (.tuple #[]) ∧ FsIs w' (More own w w') g (S.crash nm bs) ∧ Turn own w w' := by
  obtain ⟨G, hG0⟩ := hS
  have hG : FsAt (w.alloc (.cells #[.int .i64 nm, .slice A bs.length c] 25)) own g S G := hG0.move (fun k hk _ => Below.heap_alloc w _ k hk) (fun _ h => h)
  have hx := blk_new w (.cells #[.int .i64 nm, .slice A bs.length c] 25)
  have HT0 := Aside0.mk (Turn.below (below_alloc (Below.refl w.heap.size w) (.cells #[.int .i64 nm, .slice A bs.length c] 25)) own)
  have HNX := Aside0.mk (show ¬ own w.heap.size from fun h => absurd (hu _ h) (Nat.lt_irrefl _))
  obtain ⟨W, hW⟩ : ∃ W, W = w.alloc (.cells #[.int .i64 nm, .slice A bs.length c] 25) := ⟨_, rfl⟩
  obtain ⟨r, hr0⟩ : ∃ r, r = w.heap.size := ⟨_, rfl⟩
  rw [← hW, ← hr0] at hx
  rw [← hW] at hG HT0
  rw [← hr0] at HNX
  obtain ⟨k, hk⟩ : ∃ k, k = kept nm S.changes.length := ⟨_, rfl⟩
  have hkl : k ≤ S.changes.length := by rw [hk]; exact kept_le _ _
  have ek : max (min nm (S.changes.length : Int)) 0 = (k : Int) := by rw [hk]; unfold kept; omega
  have c6 : W.cell? ⟨g, 6, none⟩ = some G.cv := blk_cell hG.blk 6
  have x0 : W.cell? ⟨r, 0, none⟩ = some (.int .i64 nm) := blk_cell hx 0
  have HG := Aside0.mk hG
  have HX := Aside0.mk hx
  have HR := Aside0.mk (And.intro hr (And.intro hA hbl))
  have HK := Aside0.mk (And.intro hk hkl)
  have HO := Aside0.mk (And.intro hops hdat)
  have hcv := row_cells hG.cv
  clear hG0 hG hx hu hr hA hops hdat hbl hkl
  go_enter Tryd.func17, Tryd.ntmps17
  go_upto_region 2 with (fail)
  rw [← hW, ← hr0]
  have HR0 := Aside0.mk hr0
  clear hW hr0 hk
  obtain ⟨A0, cc, hcv, hcc⟩ : ∃ A0 cc, G.cv = .slice A0 S.changes.length cc ∧ S.changes.length ≤ cc := by
    rcases hcv with ⟨e1, e2, e3⟩ | ⟨cb, cc, e1, e2, e3⟩
    · exact ⟨none, 0, by rw [e1, e2], by omega⟩
    · exact ⟨some ⟨cb, 0, none⟩, cc, e1, e2⟩
  rw [hcv] at c6
  have k0 : (0 : Int) ≤ (k : Int) := by omega
  have k1 : (k : Int) ≤ (cc : Int) := by have := HK.out; omega
  have k2 : k ≤ cc := by have := HK.out; omega
  go_region_held3 (fun w' => w'.cell? ⟨g, 6, none⟩ = some (.slice A0 S.changes.length cc) ∧ w'.cell? ⟨r, 0, none⟩ = some (.int .i64 nm)) (first | exact ⟨c6, x0⟩) (fail)
  have HCV := Aside0.mk (And.intro hcv hcc)
  have HV := Aside0.mk (show FsAt W.drew own g S G from HG.out.move (fun _ _ _ => rfl) (fun _ h => h))
  have HXV := Aside0.mk (show W.drew.heap[r]? = some (.cells #[.int .i64 nm, .slice A bs.length c] 25) from HX.out)
  have HTV := Aside0.mk (show Turn own w W.drew from HT0.out.trans (own2 := own) ⟨rfl, rfl, rfl, Nat.le_refl _, fun _ _ _ => rfl⟩ (fun _ h => .inl h))
  obtain ⟨V, hV⟩ : ∃ V, V = W.drew := ⟨_, rfl⟩
  rw [← hV] at HV HXV HTV ⊢
  clear hV c6 x0 ek k0 k1 k2 hcv hcc HG HX HT0
  go_upto_region 3 with (fail)
  go_loopg [26] k (fun kq v26 wr => ∃ i : Nat, v26 = .int .i64 (i : Int) ∧ i + kq = k ∧ Aside0 (FsAt wr own g { S with durable := foldD S.durable (S.changes.take i), ops := S.ops + i } { G with dn := G.dn + i }) ∧ Aside0 (Turn own V wr))
  case atStart => exact ⟨0, rfl, by omega, ⟨HV.out⟩, ⟨Turn.refl _ _⟩⟩
  case round =>
    obtain ⟨i, rfl, hi, HF, HT⟩ := hrel
    have hkl := HK.out.2
    cases gk with
    | succ d =>
      have e1 : ((i : Int) < (k : Int)) = True := eq_true (by omega)
      have e2 : (i < k) = True := eq_true (by omega)
      have hil : i < S.changes.length := by omega
      have hb1 : S.files.length ≤ S.ops + i := HF.out.bnd.1
      have hb2 : S.changes.length ≤ S.ops + i := HF.out.bnd.2.1
      have hb4 : G.dn + i + S.changes.length ≤ S.ops + i := HF.out.bnd.2.2.2
      have hbo := HO.out.1
      rcases row_cells HF.out.cv with ⟨q1, q2, q3⟩ | ⟨cb, cc2, q1, q2, q3⟩
      · exact absurd (show S.changes.length = 0 from q2) (by omega)
      obtain ⟨rfl, rfl⟩ : A0 = some ⟨cb, 0, none⟩ ∧ cc = cc2 := by
        have := HCV.out.1.symm.trans q1
        injection this with h1 h2 h3
        exact ⟨h1, h3⟩
      obtain ⟨ch, hch⟩ : ∃ ch, S.changes[i]? = some ch := ⟨_, List.getElem?_eq_getElem hil⟩
      have hcell := q3 i ch.val (by rw [List.getElem?_map, hch]; rfl)
      obtain ⟨t, p, hv⟩ := val_iface ch
      have hok : ch.okL S.files.length := HF.out.lc _ (List.mem_of_getElem? hch)
      have hap := apply_calls ch S.files.length hok (by omega) (foldD S.durable (S.changes.take i)) G.db (G.dn + i) (by omega) wr HF.out.dm
      have hfd : ch.app (foldD S.durable (S.changes.take i)) = foldD S.durable (S.changes.take (i + 1)) := by
        unfold foldD
        rw [List.take_add_one, hch, List.foldl_append]
        rfl
      rw [hv] at hap hcell
      have c5 : wr.cell? ⟨g, 5, none⟩ = some (.map (some G.db)) := blk_cell HF.out.blk 5
      have HOK := Aside0.mk hok
      have HFD := Aside0.mk hfd
      have HI := Aside0.mk (show i + (d + 1) = k ∧ k ≤ S.changes.length ∧ i ≤ 90000 from ⟨hi, hkl, by omega⟩)
      clear hi hkl hil q1 q2 q3 hv hok hfd hch hb1 hb2 hb4 hbo
      go_wp2_with (go_at_call 36; refine hap.mono ?_; rintro e w1 ⟨rfl, hm, hg⟩; have HM1 := Aside0.mk hm; have HG1 := Aside0.mk hg; clear hm hg hap)
      go_roundg d
      case measure => have := HI.out; omega
      case rel =>
        refine ⟨i + 1, by rw [show wrap64 ((i : Int) + 1) = ((i + 1 : Nat) : Int) by have := HI.out; unfold wrap64; omega], by have := HI.out; omega, ⟨?_⟩, ⟨HT.out.trans (Turn.grown (own := own) HG1.out (fun j hj => by injection hj with hj; rw [← hj]; exact HF.out.om.2.1)) (fun _ h => .inl h)⟩⟩
        have := HF.out.onDurable ch HOK.out HG1.out HM1.out
        simp only [HFD.out] at this
        exact this
    | zero =>
      obtain rfl : i = k := by omega
      obtain ⟨wq, hwq⟩ : ∃ wq, wq = wr := ⟨_, rfl⟩
      subst hwq
      have e1 : ((i : Int) < (i : Int)) = False := eq_false (by omega)
      obtain ⟨S1, hS1⟩ : ∃ S1 : FsS, S1 = { S with durable := foldD S.durable (S.changes.take i), ops := S.ops + i } := ⟨_, rfl⟩
      obtain ⟨G1, hG1⟩ : ∃ G1 : FsG, G1 = { G with dn := G.dn + i } := ⟨_, rfl⟩
      have HF1 := Aside0.mk (show FsAt wq own g S1 G1 by rw [hS1, hG1]; exact HF.out)
      have HS1 := Aside0.mk hS1
      have HG1 := Aside0.mk hG1
      have hlen : S1.files.length = S.files.length := by rw [hS1]
      obtain ⟨FA, fc, hfv⟩ := row_slice HF1.out.fv
      have c3 : wq.cell? ⟨g, 3, none⟩ = some G1.fv := blk_cell HF1.out.blk 3
      rw [hfv] at c3
      obtain ⟨L, hL⟩ : ∃ L, L = S1.files.length := ⟨_, rfl⟩
      rw [← hL] at hfv c3
      have HL := Aside0.mk hL
      have HFV := Aside0.mk hfv
      have HLB := Aside0.mk (show L ≤ 1000000 by have : S1.files.length ≤ S1.ops := HF1.out.bnd.1; have h2 := HO.out.1; have h3 : i ≤ S.ops := Nat.le_trans hkl HV.out.bnd.2.1; rw [hL]; rw [hS1] at this ⊢; simp only at this ⊢; omega)
      have HTW := Aside0.mk (HTV.out.trans HT.out (fun _ h => .inl h))
      have HXW := Aside0.mk (HT.out.blk HXV.out HNX.out)
      clear hi hS1 hG1 hlen hfv hL hkl HF HT
      go_upto_region 8 with (fail)
      clear c3 e1
      go_loopg [42] L (fun kq v42 wx => ∃ j : Nat, v42 = .int .i64 (j : Int) ∧ j + kq = L ∧ Aside0 (∃ G', FsAt wx own g (S1.cutN bs j) G' ∧ G'.fv = G1.fv ∧ G'.cv = G1.cv ∧ G'.nb = G1.nb ∧ G'.db = G1.db ∧ G'.nn = G1.nn ∧ G'.dn = G1.dn) ∧ Aside0 (Turn own wq wx))
      case atStart => exact ⟨0, rfl, by omega, ⟨⟨G1, HF1.out, rfl, rfl, rfl, rfl, rfl, rfl⟩⟩, ⟨Turn.refl _ _⟩⟩
      case round =>
        obtain ⟨j, rfl, hj, HF, HT⟩ := hrel
        cases gk with
        | succ d =>
          obtain ⟨G', hF, g1, g2, g3, g4, g5, g6⟩ := HF.out
          have hjl : j < (S1.cutN bs j).files.length := by rw [(cutN_rest S1 bs j).2.2.2.2.2.2.2.2, ← HL.out]; omega
          obtain ⟨b, v, f, fb, cap, p1, p2, p3, p4⟩ := hF.get j hjl
          obtain ⟨q1, q2, q3, q4, q5⟩ := hF.file j b v f p1 p2
          obtain ⟨B, cc2, rfl⟩ := q3.slice
          have hB : f.1.length ≤ cc2 := by
            obtain ⟨_, _, h1, h2, _⟩ := q3
            injection h1 with _ _ h1
            omega
          have hFA : FA = some ⟨fb, 0, none⟩ := by
            have := (HFV.out.symm.trans (g1.symm.trans p3))
            injection this
          subst hFA
          unfold ptr at p4
          have hx := HT.out.blk HXW.out HNX.out
          have x1 : wr.cell? ⟨r, 1, none⟩ = some (.slice A bs.length c) := blk_cell hx 1
          have c0 : wr.cell? ⟨b, 0, none⟩ = some (.slice B f.1.length cc2) := blk_cell q1 0
          have c1 : wr.cell? ⟨b, 1, none⟩ = some (.int .i64 (f.2 : Int)) := blk_cell q1 1
          have e1 : ((j : Int) < (L : Int)) = True := eq_true (by omega)
          have e2 : (j < L) = True := eq_true (by omega)
          have hdat : f.1.length ≤ 1000000000 := by
            have h1 := (cutN_rest S1 bs j).2.2.2.2.2.2.2.1
            rw [HS1.out] at h1
            have h2 := HO.out.2
            simp only at h1
            rw [HS1.out] at q5
            omega
          obtain ⟨st, hst⟩ : ∃ st, st = stayS bs j f := ⟨_, rfl⟩
          have hsl : f.2 + st ≤ f.1.length := by rw [hst]; exact stay_le bs j f q4
          obtain ⟨s, hs⟩ : ∃ s, s = f.2 + st := ⟨_, rfl⟩
          have e7 : wrap64 ((f.2 : Int) + (st : Int)) = (s : Int) := by rw [hs]; exact add_wrap _ _ _ hdat hsl
          have k0 : (0 : Int) ≤ (s : Int) := Int.natCast_nonneg s
          have k2 : s ≤ cc2 := by rw [hs]; exact Nat.le_trans hsl hB
          have k1 : (s : Int) ≤ (cc2 : Int) := Int.ofNat_le.2 k2
          have HSS := Aside0.mk (show s = f.2 + st ∧ st = stayS bs j f from ⟨hs, hst⟩)
          have HQ := Aside0.mk (And.intro hF (And.intro p1 (And.intro p2 (And.intro q1 (And.intro q2 (And.intro q3 hsl))))))
          have HGG := Aside0.mk (And.intro g1 (And.intro g2 (And.intro g3 (And.intro g4 (And.intro g5 g6)))))
          have HJ := Aside0.mk hj
          have hwr : IntKind.i64.wrap ((f.1.length : Int) - (f.2 : Int)) = (f.1.length : Int) - (f.2 : Int) := sub_wrap _ _ hdat q4
          have HIR := Aside0.mk ((HR.out.1.turn HTW.out HR.out.2.1).turn HT.out HR.out.2.1)
          by_cases hb : j < bs.length
          · obtain ⟨ad, hAd, hcell⟩ := HIR.out j hb
            subst hAd
            have e3 : ((j : Int) < (bs.length : Int)) = True := eq_true (by omega)
            have e4 : (j < bs.length) = True := eq_true hb
            obtain ⟨y, hy⟩ : ∃ y, y = bs[j] := ⟨_, rfl⟩
            rw [← hy] at hcell
            have e6 : max (min y ((f.1.length : Int) - (f.2 : Int))) 0 = (st : Int) := by
              rw [hst]
              exact stay_int bs j f y hb hy
            clear hs hy hst hj hF g1 g2 g3 g4 g5 g6 hjl p1 p2 p3 q1 q2 q3 q4 q5 hB hx hdat hsl hb
            go_upto_region 12 with (fail)
            go_region_held3 (fun w' => w'.cell? ⟨r, 1, none⟩ = some (.slice (some ad) bs.length c) ∧ w'.cell? (ad.add j) = some (.int .i64 y) ∧ w'.cell? ⟨b, 0, none⟩ = some (.slice B f.1.length cc2) ∧ w'.cell? ⟨b, 1, none⟩ = some (.int .i64 (f.2 : Int))) (first | exact ⟨x1, hcell, c0, c1⟩) (fail)
            obtain ⟨V2, hV2⟩ : ∃ V2, V2 = wr.drew := ⟨_, rfl⟩
            have HF2 := Aside0.mk (show FsAt V2 own g (S1.cutN bs j) G' from by rw [hV2]; exact HQ.out.1.move (fun _ _ _ => rfl) (fun _ h => h))
            have HT2 := Aside0.mk (show Turn own wq V2 from by rw [hV2]; exact HT.out.trans (own2 := own) ⟨rfl, rfl, rfl, Nat.le_refl _, fun _ _ _ => rfl⟩ (fun _ h => .inl h))
            rw [← hV2]
            clear hV2 x1 hcell c0 c1 e3 e4 e6 hwr
            have hqb := (HF2.out.file j b _ f HQ.out.2.1 HQ.out.2.2.1).1
            have c1 : V2.cell? ⟨b, 1, none⟩ = some (.int .i64 (f.2 : Int)) := blk_cell hqb 1
            have fr1 := blk_frozen hqb 1
            have hb3 : (V2.setCell ⟨b, 1, none⟩ (.int .i64 (s : Int))).heap[b]? = some (.cells #[.slice B f.1.length cc2, .int .i64 (s : Int)] 70 (0, 0)) := blk_put hqb 1 _ rfl
            have HQ2 := Aside0.mk (show ∀ k, k ≠ b → (V2.setCell ⟨b, 1, none⟩ (.int .i64 (s : Int))).heap[k]? = V2.heap[k]? from fun k hk => Below.heap_setCell _ ⟨b, 1, none⟩ _ k hk)
            have HT3 := Aside0.mk (HT2.out.trans (Turn.set (own := own) b 1 (.int .i64 (s : Int)) HQ.out.2.2.2.2.1) (fun _ h => .inl h))
            have HB3 := Aside0.mk hb3
            clear hqb hb3
            go_upto_region 14 with (fail)
            obtain ⟨V3, hV3⟩ : ∃ V3, V3 = V2.setCell ⟨b, 1, none⟩ (.int .i64 (s : Int)) := ⟨_, rfl⟩
            rw [← hV3]
            rw [← hV3] at HB3 HQ2 HT3
            clear hV3 c1 fr1
            have c0 : V3.cell? ⟨b, 0, none⟩ = some (.slice B f.1.length cc2) := blk_cell HB3.out 0
            have c1 : V3.cell? ⟨b, 1, none⟩ = some (.int .i64 (s : Int)) := blk_cell HB3.out 1
            have fr0 := blk_frozen HB3.out 0
            go_still_tail 16, (by kernel_rfl)
            change wpList _ _ _ _ _ V3.drew
            have HB4 := Aside0.mk (show V3.drew.heap[b]? = some (.cells #[.slice B f.1.length cc2, .int .i64 (s : Int)] 70 (0, 0)) from HB3.out)
            have HQ4 := Aside0.mk (show ∀ k, k ≠ b → V3.drew.heap[k]? = V2.heap[k]? from HQ2.out)
            have HT4 := Aside0.mk (show Turn own wq V3.drew from ⟨HT3.out.os, HT3.out.tape, HT3.out.output, HT3.out.size, HT3.out.block⟩)
            obtain ⟨V4, hV4⟩ : ∃ V4, V4 = V3.drew := ⟨_, rfl⟩
            rw [← hV4]
            rw [← hV4] at HB4 HQ4 HT4
            clear hV4 c0 c1 fr0 HB3 HQ2 HT3
            have fr0 := blk_frozen HB4.out 0
            have c0 : V4.cell? ⟨b, 0, none⟩ = some (.slice B f.1.length cc2) := blk_cell HB4.out 0
            go_wp2
            go_roundg d
            case measure => have := HJ.out; omega
            case rel =>
              refine ⟨j + 1, by rw [show wrap64 ((j : Int) + 1) = ((j + 1 : Nat) : Int) by have := HJ.out; have := HLB.out; exact add_wrap j 1 1000000000 (Nat.le_refl _) (by omega)], by have := HJ.out; omega, ⟨?_⟩, ⟨HT4.out.trans (Turn.set (own := own) b 0 (.slice B s s) HQ.out.2.2.2.2.1) (fun _ h => .inl h)⟩⟩
              obtain ⟨g1, g2, g3, g4, g5, g6⟩ := HGG.out
              exact ⟨_, cut_step j b f s B cc2 V4 HF2.out HQ.out.2.1 HQ.out.2.2.1 HB4.out HQ4.out HSS.out.1 HSS.out.2, g1, g2, g3, g4, g5, g6⟩
          · have e3 : ((j : Int) < (bs.length : Int)) = False := eq_false (by omega)
            obtain rfl : st = 0 := by rw [hst]; unfold stayS; rw [if_neg hb]
            have e8 : wrap64 (f.2 : Int) = (s : Int) := by rw [← e7]; simp
            clear e7
            clear hs hst hj hF g1 g2 g3 g4 g5 g6 hjl p1 p2 p3 q1 q2 q3 q4 q5 hB hx hdat hsl hb
            go_upto_region 13 with (fail)
            obtain ⟨V2, hV2⟩ : ∃ V2, V2 = wr := ⟨_, rfl⟩
            have HF2 := Aside0.mk (show FsAt V2 own g (S1.cutN bs j) G' from by rw [hV2]; exact HQ.out.1.move (fun _ _ _ => rfl) (fun _ h => h))
            have HT2 := Aside0.mk (show Turn own wq V2 from by rw [hV2]; exact HT.out)
            rw [← hV2]
            clear hV2 x1 c0 c1 e3 hwr
            have hqb := (HF2.out.file j b _ f HQ.out.2.1 HQ.out.2.2.1).1
            have c1 : V2.cell? ⟨b, 1, none⟩ = some (.int .i64 (f.2 : Int)) := blk_cell hqb 1
            have fr1 := blk_frozen hqb 1
            have hb3 : (V2.setCell ⟨b, 1, none⟩ (.int .i64 (s : Int))).heap[b]? = some (.cells #[.slice B f.1.length cc2, .int .i64 (s : Int)] 70 (0, 0)) := blk_put hqb 1 _ rfl
            have HQ2 := Aside0.mk (show ∀ k, k ≠ b → (V2.setCell ⟨b, 1, none⟩ (.int .i64 (s : Int))).heap[k]? = V2.heap[k]? from fun k hk => Below.heap_setCell _ ⟨b, 1, none⟩ _ k hk)
            have HT3 := Aside0.mk (HT2.out.trans (Turn.set (own := own) b 1 (.int .i64 (s : Int)) HQ.out.2.2.2.2.1) (fun _ h => .inl h))
            have HB3 := Aside0.mk hb3
            clear hqb hb3
            go_upto_region 14 with (fail)
            obtain ⟨V3, hV3⟩ : ∃ V3, V3 = V2.setCell ⟨b, 1, none⟩ (.int .i64 (s : Int)) := ⟨_, rfl⟩
            rw [← hV3]
            rw [← hV3] at HB3 HQ2 HT3
            clear hV3 c1 fr1
            have c0 : V3.cell? ⟨b, 0, none⟩ = some (.slice B f.1.length cc2) := blk_cell HB3.out 0
            have c1 : V3.cell? ⟨b, 1, none⟩ = some (.int .i64 (s : Int)) := blk_cell HB3.out 1
            have fr0 := blk_frozen HB3.out 0
            go_still_tail 16, (by kernel_rfl)
            change wpList _ _ _ _ _ V3.drew
            have HB4 := Aside0.mk (show V3.drew.heap[b]? = some (.cells #[.slice B f.1.length cc2, .int .i64 (s : Int)] 70 (0, 0)) from HB3.out)
            have HQ4 := Aside0.mk (show ∀ k, k ≠ b → V3.drew.heap[k]? = V2.heap[k]? from HQ2.out)
            have HT4 := Aside0.mk (show Turn own wq V3.drew from ⟨HT3.out.os, HT3.out.tape, HT3.out.output, HT3.out.size, HT3.out.block⟩)
            obtain ⟨V4, hV4⟩ : ∃ V4, V4 = V3.drew := ⟨_, rfl⟩
            rw [← hV4]
            rw [← hV4] at HB4 HQ4 HT4
            clear hV4 c0 c1 fr0 HB3 HQ2 HT3
            have fr0 := blk_frozen HB4.out 0
            have c0 : V4.cell? ⟨b, 0, none⟩ = some (.slice B f.1.length cc2) := blk_cell HB4.out 0
            go_wp2
            go_roundg d
            case measure => have := HJ.out; omega
            case rel =>
              refine ⟨j + 1, by rw [show wrap64 ((j : Int) + 1) = ((j + 1 : Nat) : Int) by have := HJ.out; have := HLB.out; exact add_wrap j 1 1000000000 (Nat.le_refl _) (by omega)], by have := HJ.out; omega, ⟨?_⟩, ⟨HT4.out.trans (Turn.set (own := own) b 0 (.slice B s s) HQ.out.2.2.2.2.1) (fun _ h => .inl h)⟩⟩
              obtain ⟨g1, g2, g3, g4, g5, g6⟩ := HGG.out
              exact ⟨_, cut_step j b f s B cc2 V4 HF2.out HQ.out.2.1 HQ.out.2.2.1 HB4.out HQ4.out HSS.out.1 HSS.out.2, g1, g2, g3, g4, g5, g6⟩
        | zero =>
          obtain rfl : j = L := by omega
          have e1 : ((j : Int) < (j : Int)) = False := eq_false (by omega)
          obtain ⟨G', hF, g1, g2, g3, g4, g5, g6⟩ := HF.out
          have c5 : wr.cell? ⟨g, 5, none⟩ = some (.map (some G'.db)) := blk_cell hF.blk 5
          have hcl := AnyW.maps_Clone_owns Tryd.cloneA 9 (plainElem Tryd.prog 3) G'.db G'.dn (S1.cutN bs j).durable wr hF.dm
          change Calls Tryd.prog 37 _ _ _ at hcl
          have HF2 := Aside0.mk hF
          have HB := Aside0.mk (show G'.dn ≤ S.ops ∧ (S1.cutN bs j).files.length ≤ S.ops from by
            have h1 := HV.out.bnd
            have h2 := HK.out.2
            have h3 : G1.dn = G.dn + i := by rw [HG1.out]
            have h4 : (S1.cutN bs j).files.length = S.files.length := by rw [(cutN_rest S1 bs j).2.2.2.2.2.2.2.2, HS1.out]
            exact ⟨by omega, by omega⟩)
          have HTT := Aside0.mk (HTW.out.trans HT.out (fun _ h => .inl h))
          clear hF g1 g2 g3 g4 g5 g6 hj HF HT
          go_wp2_with (go_at_call 37; refine hcl.mono ?_; rintro e w2 ⟨rfl, hm1, hm2, hb⟩; have HB2 := Aside0.mk hb; have HM1 := Aside0.mk hm1; have HM2 := Aside0.mk hm2; have d4 : w2.cell? ⟨g, 4, none⟩ = some (.map (some G'.nb)) := blk_cell (blk_below HF2.out.blk HB2.out) 4; have f4 := blk_frozen (blk_below HF2.out.blk HB2.out) 4; have f6 := blk_frozen (blk_below HF2.out.blk HB2.out) 6; have d6 : w2.cell? ⟨g, 6, none⟩ = some G'.cv := blk_cell (blk_below HF2.out.blk HB2.out) 6; have f2 := blk_frozen (blk_below HF2.out.blk HB2.out) 2; have d2 : w2.cell? ⟨g, 2, none⟩ = some (.bool (S1.cutN bs j).limited) := blk_cell (blk_below HF2.out.blk HB2.out) 2; clear hb hm1 hm2 hcl)
          go_end0
          have hbl := blk_put (w := ((w2.setCell ⟨g, 4, none⟩ (.map (some wr.heap.size))).setCell ⟨g, 6, none⟩ (.slice none 0 0))) (blk_put (w := w2.setCell ⟨g, 4, none⟩ (.map (some wr.heap.size))) (blk_put (blk_below HF2.out.blk HB2.out) 4 _ rfl) 6 (.slice none 0 0) rfl) 2 (.bool false) rfl
          have hset : ∀ k, k ≠ g → (((w2.setCell ⟨g, 4, none⟩ (.map (some wr.heap.size))).setCell ⟨g, 6, none⟩ (.slice none 0 0)).setCell ⟨g, 2, none⟩ (.bool false)).heap[k]? = w2.heap[k]? := fun k hk => (Below.heap_setCell _ ⟨g, 2, none⟩ _ k hk).trans ((Below.heap_setCell _ ⟨g, 6, none⟩ _ k hk).trans (Below.heap_setCell _ ⟨g, 4, none⟩ _ k hk))
          have hlt := blk_lt HF2.out.blk
          have hnlt := HF2.out.dm.lt
          obtain ⟨es, cl, hnb⟩ := map_blk HF2.out.dm
          have hng := ne_of_obj hnb HF2.out.blk (by simp)
          have hsz : wr.heap.size < w2.heap.size := HM1.out.lt
          have hX := HF2.out.maps (W := (((w2.setCell ⟨g, 4, none⟩ (.map (some wr.heap.size))).setCell ⟨g, 6, none⟩ (.slice none 0 0)).setCell ⟨g, 2, none⟩ (.bool false))) (own' := More own wr w2) false wr.heap.size G'.db G'.dn G'.dn (S1.cutN bs j).durable (S1.cutN bs j).durable hbl
            (fun k hk hl _ => (hset k hk).trans (HB2.out.block k hl)) (fun _ h => .inl h) (map_kept HM1.out (hset _ (by omega))) (map_kept HM2.out (hset _ hng)) (.inr ⟨Nat.le_refl _, hsz⟩) (.inl HF2.out.om.2.1) (by omega) (by have h1 := (cutN_rest S1 bs j).2.2.2.2.2.2.1; have h2 := HF2.out.bnd.2.2.2; omega) (by have h2 := HF2.out.bnd.2.2.2; omega) HF2.out.ld HF2.out.ld
          have hY := hX.setOps S.ops ⟨HB.out.2, Nat.zero_le _, HB.out.1, by have := HB.out.1; simpa using this⟩
          have hT5 := (((HTT.out.then_below HB2.out).trans (Turn.set (own := own) g 4 (.map (some wr.heap.size)) HF2.out.og) (fun _ h => .inl h)).trans (Turn.set (own := own) g 6 (.slice none 0 0) HF2.out.og) (fun _ h => .inl h)).trans (Turn.set (own := own) g 2 (.bool false) HF2.out.og) (fun _ h => .inl h)
          have hSz : (((w2.setCell ⟨g, 4, none⟩ (.map (some wr.heap.size))).setCell ⟨g, 6, none⟩ (.slice none 0 0)).setCell ⟨g, 2, none⟩ (.bool false)).heap.size = w2.heap.size := by rw [World.size_setCell, World.size_setCell, World.size_setCell]
          refine ⟨rfl, ?_, hT5⟩
          rw [← crash_eq HS1.out HK.out.1 HL.out]
          refine FsIs.mono ⟨_, hY⟩ (fun k hk => ?_)
          rcases hk with hk | hk
          · exact .inl hk
          · exact .inr ⟨Nat.le_trans HTT.out.size hk.1, by rw [hSz]; exact hk.2⟩
end Go.Proofs.YtnnlmackofopeaaDoor.Fs
