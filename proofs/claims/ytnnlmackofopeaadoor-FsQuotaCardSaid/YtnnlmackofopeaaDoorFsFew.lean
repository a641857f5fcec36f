/- Contracts of the laws' few, filled. -/
import Derived.Test.YtnnlmackofopeaaDoorFsPlays
namespace Go.Proofs.YtnnlmackofopeaaDoor.Fs
open Go.RowKit Go.Lib Go.Maps Go.Shelf Go.Sort Go.Proofs.YtnnlmackofopeaaDoorW.PrintWords Go.Proofs.YtnnlmackofopeaaDoorW.PrintLast Go.Proofs.YtnnlmackofopeaaDoorW.PrintMore
set_option linter.unusedVariables false
set_option linter.unusedSimpArgs false
/-- Deeds in a row (in the world w); what they point to lay in the world w0 already. -/
def DeedsR (w0 w : World) (A : Option Addr) (ds : List Dd) : Prop := ∀ (i : Nat) (h : i < ds.length), ∃ ad cs, A = some ad ∧ DdC w0 cs ds[i] ∧ ∀ j u, cs[j]? = some u → w.cell? (ad.add (i * 7 + j)) = some u
theorem DeedsR.below {w0 w w' : World} {A : Option Addr} {ds : List Dd} (h : DeedsR w0 w A ds) (hb : Below w.heap.size w w') : DeedsR w0 w' A ds := fun i hi => by
  obtain ⟨ad, cs, e, hd, hc⟩ := h i hi
  exact ⟨ad, cs, e, hd, fun j u hj => (hb.cell (World.block_lt_of_cell? w _ (hc j u hj))).trans (hc j u hj)⟩
theorem DeedsR.turn {w0 w w' : World} {own : Nat → Prop} {A : Option Addr} {ds : List Dd} (h : DeedsR w0 w A ds) (hb : Turn own w w') (hA : ∀ ad, A = some ad → ¬ own ad.block) : DeedsR w0 w' A ds := fun i hi => by
  obtain ⟨ad, cs, e, hd, hc⟩ := h i hi
  refine ⟨ad, cs, e, hd, fun j u hj => ?_⟩
  have h1 := hc j u hj
  have h2 : ¬ own (ad.add (i * 7 + j)).block := by rw [add_block]; exact hA ad e
  exact World.cell?_of_block (hb.block _ (World.block_lt_of_cell? w _ h1) h2) ▸ h1
theorem flat_at : ∀ {css : List (List Value)}, (∀ cs ∈ css, cs.length = 7) → ∀ {i j : Nat} {cs : List Value} {u : Value}, css[i]? = some cs → cs[j]? = some u → css.flatten[i * 7 + j]? = some u
  | [], _, _, _, _, _, h, _ => by simp at h
  | c :: r, h, 0, j, cs, u, h1, h2 => by
    simp only [List.getElem?_cons_zero, Option.some.injEq] at h1
    subst h1
    have hj := (List.getElem?_eq_some_iff.1 h2).1
    rw [List.flatten_cons, Nat.zero_mul, Nat.zero_add, List.getElem?_append_left hj]
    exact h2
  | c :: r, h, i + 1, j, cs, u, h1, h2 => by
    rw [List.getElem?_cons_succ] at h1
    have hc := h c (by simp)
    rw [List.flatten_cons, List.getElem?_append_right (by omega), show (i + 1) * 7 + j - c.length = i * 7 + j by omega]
    exact flat_at (fun x hx => h x (by simp [hx])) h1 h2
theorem flat_len : ∀ {css : List (List Value)}, (∀ cs ∈ css, cs.length = 7) → css.flatten.length = css.length * 7
  | [], _ => rfl
  | c :: r, h => by
    rw [List.flatten_cons, List.length_append, flat_len (fun x hx => h x (by simp [hx])), h c (by simp), List.length_cons]
    omega
theorem DdC.len {w : World} {cs : List Value} {d : Dd} (h : DdC w cs d) : cs.length = 7 := by
  obtain ⟨_, _, _, _, rfl, _⟩ := h
  rfl
/-- Of deeds that lie as cells: a row of them. -/
theorem deeds_row {w0 w : World} {base : Nat} {v : Value} {ps : List (List Value × Dd)} (h : w.ownsRow base 54 7 v ps.length (ps.map (·.1)).flatten) (hp : ∀ p ∈ ps, DdC w0 p.1 p.2) : ∃ A c, v = .slice A ps.length c ∧ DeedsR w0 w A (ps.map (·.2)) := by
  rcases h.2 with ⟨rfl, h0⟩ | ⟨b, c, cur, rfl, hb, hc, _, _, _, ht⟩
  · refine ⟨none, 0, by rw [h0], fun i hi => ?_⟩
    rw [List.length_map, h0] at hi
    exact absurd hi (Nat.not_lt_zero _)
  · refine ⟨_, c, rfl, fun i hi => ?_⟩
    have hi2 : i < ps.length := by simpa using hi
    refine ⟨_, ps[i].1, rfl, by rw [List.getElem_map]; exact hp _ (List.getElem_mem hi2), fun j u hj => ?_⟩
    have hfl := flat_at (css := ps.map (·.1)) (i := i) (j := j) (cs := ps[i].1) (u := u) (fun cs hcs => by
      obtain ⟨p, hp1, rfl⟩ := List.mem_map.1 hcs
      exact (hp p hp1).len) (by rw [List.getElem?_map, List.getElem?_eq_getElem hi2]; rfl) hj
    have hadd : (⟨b, 0, none⟩ : Addr).add (i * 7 + j) = ⟨b, i * 7 + j, none⟩ := by unfold Addr.add; split <;> simp_all
    rw [hadd, cell_of_row w b (i * 7 + j) cur 54 (0, 0) hc]
    rw [← ht, List.getElem?_take] at hfl
    split at hfl
    · simpa using hfl
    · cases hfl
theorem dd_cells {w : World} {q : Addr} {cs : List Value} {x0 x1 x2 x3 x4 x5 x6 : Value} (e : cs = [x0, x1, x2, x3, x4, x5, x6]) (hc : ∀ j u, cs[j]? = some u → w.cell? (q.add j) = some u) :
    w.cell? q = some x0 ∧ w.cell? ⟨q.block, q.off + 1, none⟩ = some x1 ∧ w.cell? ⟨q.block, q.off + 2, none⟩ = some x2 ∧ w.cell? ⟨q.block, q.off + 3, none⟩ = some x3 ∧ w.cell? ⟨q.block, q.off + 4, none⟩ = some x4 ∧ w.cell? ⟨q.block, q.off + 5, none⟩ = some x5 ∧ w.cell? ⟨q.block, q.off + 6, none⟩ = some x6 := by
  subst e
  exact ⟨hc 0 _ rfl, hc 1 _ rfl, hc 2 _ rfl, hc 3 _ rfl, hc 4 _ rfl, hc 5 _ rfl, hc 6 _ rfl⟩
theorem info54 : (Tryd.prog.info? 54).map (fun i => (i.zero, i.size, i.bytes)) = some (some (.agg #[.int .i64 0, .string ⟨#[]⟩, .string ⟨#[]⟩, .slice none 0 0, .int .i64 0, .int .i64 0, .slice none 0 0]), 7, 104) := by kernel_rfl
set_option maxHeartbeats 4000000 in
set_option maxRecDepth 100000 in
theorem few_calls (A : Option Addr) (c : Nat) (ls : List Dd) (w : World) (w0 : World) (hr : DeedsR w0 w A ls) (hl : ls.length ≤ maxLen) :
    Calls Tryd.prog 31 #[.slice A ls.length c] w fun e w' => ∃ (out : List Dd) (A' : Option Addr) (c' : Nat), e = .returned (.slice A' out.length c') ∧ DeedsR w0 w' A' out ∧ out.length ≤ 120 ∧ (∀ d ∈ out, d.data.length ≤ 100) ∧ (∀ ad, A' = some ad → w.heap.size ≤ ad.block ∧ ad.block < w'.heap.size) ∧ Below w.heap.size w w' := by
  obtain ⟨m, hm⟩ : ∃ m, m = ls.length := ⟨_, rfl⟩
  have HM := Aside0.mk (And.intro hm hl)
  have HR := Aside0.mk hr
  rw [← hm]
  clear hm hl hr
  go_enter Tryd.func31, Tryd.ntmps31
  go_wp2
  go_loopg [3, 4] m (fun kq v3 v4 wr => ∃ (i : Nat) (ps : List (List Value × Dd)) (A' : Option Addr) (c' : Nat), v3 = .slice A' ps.length c' ∧ v4 = .int .i64 (i : Int) ∧ i + kq = m ∧ Aside0 (ps.length ≤ 120 ∧ (∀ p ∈ ps, DdC w0 p.1 p.2) ∧ (∀ p ∈ ps, p.2.data.length ≤ 100)) ∧ Aside0 (wr.ownsRow w.heap.size 54 7 (.slice A' ps.length c') ps.length (ps.map (·.1)).flatten) ∧ Aside0 (Below w.heap.size w wr))
  case atStart => exact ⟨0, [], none, 0, rfl, rfl, by omega, ⟨by simp⟩, ⟨rfl, .inl ⟨rfl, rfl⟩⟩, ⟨Below.refl _ _⟩⟩
  case round =>
    obtain ⟨i, ps, A', c', rfl, rfl, hi, HP, HO, HB⟩ := hrel
    obtain ⟨p, hp⟩ : ∃ p, p = ps.length := ⟨_, rfl⟩
    have HPL := Aside0.mk hp
    rw [← hp]
    clear hp
    by_cases hgo : i < m ∧ p < 120
    case pos =>
      obtain ⟨d, rfl⟩ : ∃ d, gk = d + 1 := ⟨gk - 1, by omega⟩
      have e1 : ((i : Int) < (m : Int)) = True := eq_true (by omega)
      have e2 : ((p : Int) < 120) = True := eq_true (by omega)
      have e3 : (i < m) = True := eq_true (by omega)
      have hil : i < ls.length := by have := HM.out.1; omega
      obtain ⟨ad, cs, rfl, hd, hc⟩ := (HR.out.below HB.out) i hil
      have HD := Aside0.mk hd
      generalize ls[i] = dd at hd HD
      obtain ⟨Ad, dc, Ab, bc, hcs, hbr, hir, hbl⟩ := hd
      obtain ⟨x0, x1, x2, x3, x4, x5, x6⟩ := dd_cells (q := ad.add (i * 7)) hcs (fun j u hj => by rw [Go.Deep.add_add]; exact hc j u hj)
      obtain ⟨q, hq⟩ : ∃ q, q = dd.data.length := ⟨_, rfl⟩
      rw [← hq] at x3
      clear hc hbr hir hbl hil
      by_cases hqm : q ≤ 100
      case neg =>
        have e4 : ((q : Int) ≤ 100) = False := eq_false (by omega)
        have HI := Aside0.mk (And.intro hi hgo)
        clear hqm hq hi hgo hcs
        go_wp2
        go_roundg d
        case measure => have := HI.out; omega
        case rel =>
          exact ⟨i + 1, ps, A', c', by rw [HPL.out], by rw [wrap64_small (by omega) (by have := HI.out; have := HM.out; simp only [maxLen] at this; omega)]; rfl, by have := HI.out; omega, HP, HO, HB⟩
      case pos =>
        have e4 : ((q : Int) ≤ 100) = True := eq_true (by omega)
        have HI := Aside0.mk (And.intro hi (And.intro hgo (And.intro hq (And.intro hqm hcs))))
        clear hqm hq hi hgo hcs
        go_wp2_with ((with_reducible refine gate_builtin (b := .append) (xs := #[.tmp 23, .tmp 28]) rfl ?_); at_builtin; refine print_append_cells (w0 := w) w.heap.size rfl (.tmp 23) (.tmp 28) 49 54 (.agg #[.int .i64 0, .string ⟨#[]⟩, .string ⟨#[]⟩, .slice none 0 0, .int .i64 0, .int .i64 0, .slice none 0 0]) 7 104 rfl Tryd.underlying49 info54 rfl (by decide) (by decide) (.slice A' p c') ps.length (ps.map (·.1)).flatten [.int .i64 dd.kind, .string dd.a, .string dd.b, .slice Ad q dc, .int .i64 dd.n, .int .i64 dd.nm, .slice Ab dd.bs.length bc] rfl rfl rfl ?h1 ?HO ?HB ?hb ?hl ?_)
        case h1 => intro u hu; simp only [List.mem_cons, List.mem_nil_iff, or_false] at hu; rcases hu with rfl | rfl | rfl | rfl | rfl | rfl | rfl <;> rfl
        case HO => rw [HPL.out]; exact HO.out
        case HB => exact HB.out
        case hb => exact HB.out.size
        case hl => have := HP.out.1; omega
        intro v2 w2 hrow hbel hgr hat
        have hcs := HI.out.2.2.2.2
        rw [← HI.out.2.2.1] at hcs
        have HG := Aside0.mk hgr
        obtain ⟨A2, c2, rfl⟩ := row_slice hrow
        have HR2 := Aside0.mk (show w2.ownsRow w.heap.size 54 7 (.slice A2 (ps ++ [(cs, dd)]).length c2) (ps ++ [(cs, dd)]).length ((ps ++ [(cs, dd)]).map (·.1)).flatten by
          rw [List.length_append, List.map_append, List.flatten_append, hcs]
          simpa using hrow)
        have HBE := Aside0.mk hbel
        clear hrow hbel hgr hat hcs
        go_wp2
        go_roundg d
        case measure => have := HI.out; omega
        case rel =>
          refine ⟨i + 1, ps ++ [(cs, dd)], A2, c2, by rw [List.length_append]; rfl, by rw [wrap64_small (by omega) (by have := HI.out; have := HM.out; simp only [maxLen] at this; omega)]; rfl, by have := HI.out; omega, ⟨by rw [List.length_append, ← HPL.out]; have := HI.out; simp; omega, fun x hx => ?_, fun x hx => ?_⟩, HR2, HBE⟩
          · rcases List.mem_append.1 hx with hx | hx
            · exact HP.out.2.1 x hx
            · obtain rfl := List.mem_singleton.1 hx
              exact HD.out
          · rcases List.mem_append.1 hx with hx | hx
            · exact HP.out.2.2 x hx
            · obtain rfl := List.mem_singleton.1 hx
              have := HI.out
              show dd.data.length ≤ 100
              omega
    case neg =>
      have hex : ((i : Int) < (m : Int)) = False ∨ (((i : Int) < (m : Int)) = True ∧ ((p : Int) < 120) = False) := by
        by_cases h1 : i < m
        · exact .inr ⟨eq_true (by omega), eq_false (by omega)⟩
        · exact .inl (eq_false (by omega))
      clear hgo hi
      rcases hex with e1 | ⟨e1, e2⟩
      all_goals (
        go_wp2
        go_ret
        obtain ⟨A2, c2, hv, hD⟩ := deeds_row HO.out HP.out.2.1
        refine ⟨ps.map (·.2), A', c', by rw [List.length_map, ← HPL.out]; rfl, ?_, by rw [List.length_map]; exact HP.out.1, fun d hd => ?_, fun ad had => ?_, HB.out⟩
        · injection hv with h1
          rw [h1]
          exact hD
        · obtain ⟨q, hq, rfl⟩ := List.mem_map.1 hd
          exact HP.out.2.2 q hq
        · subst had
          rcases HO.out.2 with ⟨e, _⟩ | ⟨g, cap, cur, e, h1, h2, _⟩
          · cases e
          · injection e with e
            injection e with e
            subst e
            exact ⟨h1, blk_lt h2⟩)
theorem mem_at {ds : List Dd} {P : Dd → Prop} (h : ∀ d ∈ ds, P d) (i : Nat) (hi : i < ds.length) : P ds[i] := h _ (List.getElem_mem hi)
theorem take_Bd (q : Int) (ds : List Dd) (i : Nat) (hl : ds.length ≤ 120) (hd : ∀ d ∈ ds, d.data.length ≤ 100) : ((fs0 q).plays (ds.take i)).ops ≤ 240 ∧ ((fs0 q).plays (ds.take i)).dat ≤ 12000 ∧ ((fs0 q).plays (ds.take i)).ops * ((fs0 q).plays (ds.take i)).dat ≤ 2880000 := by
  obtain ⟨x, y, hxy, hB⟩ := plays_Bd q _ (ds.take i) rfl (fun d hm => hd d (List.mem_of_mem_take hm))
  exact (hB.small (by rw [hxy, List.length_take]; omega)).2
/-- One deed, of a row that lies in the caller's world. -/
theorem One.deed {wB w w0 : World} {B : Nat → Prop} {g : Nat} {S : FsS} (h : One wB B w g S) (hB : Below w0.heap.size w0 wB) (hBw : ∀ k, B k → w0.heap.size ≤ k) (d : Dd) (cs : List Value) (hd : DdC w0 cs d) (hl : d.data.length ≤ 100) (hops : S.ops ≤ 240) (hdat : S.dat ≤ 12000) (hbig : S.ops * S.dat ≤ 2880000) :
    Calls Tryd.prog 33 #[.pointer (some ⟨g, 0, none⟩), .agg cs.toArray] w fun e w' => e = .returned (.int .i64 (S.doS d).1) ∧ One wB B w' g (S.doS d).2 := by
  obtain ⟨A, c, Ab, bc, rfl, h1, h2, h3⟩ := hd
  obtain ⟨own, a1, a2, a3, a4⟩ := h
  have hlow : Below w0.heap.size w0 w := ⟨a4.os.trans hB.os, a4.tape.trans hB.tape, a4.output.trans hB.output, Nat.le_trans hB.size a4.size, fun k hk => (a4.block k (Nat.lt_of_lt_of_le hk hB.size) (fun hb => by have := hBw k hb; omega)).trans (hB.block k hk)⟩
  exact do_calls d A c Ab bc w ⟨own, a1, a2, a3, a4⟩ (h1.below hlow) (h1.there.imp id fun h ad e => ⟨fun hb => by have := h ad e; have := hBw _ hb; omega, Nat.lt_of_lt_of_le (h ad e) hB.size⟩) (h2.below hlow) (h2.there.imp id fun h ad e => ⟨fun hb => by have := h ad e; have := hBw _ hb; omega, Nat.lt_of_lt_of_le (h ad e) hB.size⟩) h3 (by omega) (by omega) (by omega) (by omega)
set_option maxHeartbeats 4000000 in
set_option maxRecDepth 100000 in
theorem filled_calls (A : Option Addr) (c : Nat) (ds : List Dd) (w0 w : World) (hr : DeedsR w0 w A ds) (hb : Below w0.heap.size w0 w) (hl : ds.length ≤ 120) (hd : ∀ d ∈ ds, d.data.length ≤ 100) :
    Calls Tryd.prog 30 #[.slice A ds.length c] w fun e w' => ∃ g, e = .returned (.pointer (some ⟨g, 0, none⟩)) ∧ One w (fun _ => False) w' g ((fs0 q20).plays ds) := by
  obtain ⟨m, hm⟩ : ∃ m, m = ds.length := ⟨_, rfl⟩
  have HM := Aside0.mk (And.intro hm (And.intro hl hd))
  have HR := Aside0.mk hr
  have HB := Aside0.mk hb
  rw [← hm]
  clear hm hl hr hd hb
  go_enter Tryd.func30, Tryd.ntmps30
  go_upto_region 2 with (go_at_call 14; refine (one_new q20 w).mono ?_; rintro e w2 ⟨g, rfl, h⟩; have H0 := Aside0.mk h; clear h)
  go_wp2
  go_loopg [4] m (fun kq v4 wr => ∃ (i : Nat), v4 = .int .i64 (i : Int) ∧ i + kq = m ∧ Aside0 (One w (fun _ => False) wr g ((fs0 q20).plays (ds.take i))))
  case atStart => exact ⟨0, rfl, by omega, H0⟩
  case round =>
    obtain ⟨i, rfl, hi, HO⟩ := hrel
    cases gk with
    | zero =>
      have e1 : ((i : Int) < (m : Int)) = False := eq_false (by omega)
      have HI := Aside0.mk hi
      clear hi
      go_wp2
      go_ret
      have h := HO.out
      rw [List.take_of_length_le (by have := HI.out; have := HM.out.1; omega)] at h
      exact ⟨g, rfl, h⟩
    | succ d =>
      have e1 : ((i : Int) < (m : Int)) = True := eq_true (by omega)
      have e3 : (i < m) = True := eq_true (by omega)
      have hil : i < ds.length := by have := HM.out.1; omega
      obtain ⟨ad, cs, rfl, hdc, hc⟩ := (HR.out.below HO.out.bel) i hil
      have htk := plays_take (fs0 q20) ds i hil
      obtain ⟨b1, b2, b3⟩ := take_Bd q20 ds i HM.out.2.1 HM.out.2.2
      have hdo := HO.out.deed HB.out (fun k hk => hk.elim) ds[i] cs hdc (mem_at HM.out.2.2 i hil) b1 b2 b3
      rw [← htk] at hdo
      obtain ⟨ec, hec⟩ : ∃ ec, ec = (((fs0 q20).plays (ds.take i)).doS ds[i]).1 := ⟨_, rfl⟩
      rw [← hec] at hdo
      generalize ds[i] = dd at hdc
      obtain ⟨Ad, dc, Ab, bc, hcs, _⟩ := hdc
      obtain ⟨x0, x1, x2, x3, x4, x5, x6⟩ := dd_cells (q := ad.add (i * 7)) hcs (fun j u hj => by rw [Go.Deep.add_add]; exact hc j u hj)
      subst hcs
      have HI := Aside0.mk hi
      clear hc hil htk b1 b2 b3 hi hec
      go_wp2_with (go_at_call 33; refine hdo.mono ?_; rintro e w3 ⟨rfl, h⟩; have H1 := Aside0.mk h; clear h hdo x0 x1 x2 x3 x4 x5 x6)
      go_roundg d
      case measure => have := HI.out; omega
      case rel => exact ⟨i + 1, by rw [wrap64_small (by omega) (by have := HI.out; have := HM.out; omega)]; rfl, by have := HI.out; omega, H1⟩
end Go.Proofs.YtnnlmackofopeaaDoor.Fs
