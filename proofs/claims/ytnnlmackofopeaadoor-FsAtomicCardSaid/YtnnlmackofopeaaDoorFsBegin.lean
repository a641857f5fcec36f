/- Contracts of (*Fs).begin, Quota, Limit. -/
import Derived.Test.YtnnlmackofopeaaDoorFsBase
namespace Go.Proofs.YtnnlmackofopeaaDoor.Fs
open Go.RowKit Go.Lib Go.Maps Go.Proofs.YtnnlmackofopeaaDoorW.PrintWords Go.Proofs.YtnnlmackofopeaaDoorW.PrintLast Go.Proofs.YtnnlmackofopeaaDoorW.PrintMore
set_option linter.unusedVariables false
set_option linter.unusedSimpArgs false
theorem ne_of_obj {w : World} {a b : Nat} {o o' : Obj} (h : w.heap[a]? = some o) (h' : w.heap[b]? = some o') (hn : o ≠ o') : a ≠ b := fun e => by
  subst e
  rw [h] at h'
  exact hn (Option.some.inj h')
theorem ne_of_type {w : World} {a b : Nat} {cs cs' : Array Value} {t t' : TypeId} {f f' : Nat × Nat} (h : w.heap[a]? = some (.cells cs t f)) (h' : w.heap[b]? = some (.cells cs' t' f')) (hn : t ≠ t') : a ≠ b :=
  ne_of_obj h h' (fun e => by injection e with _ e2; exact hn e2)
/-- The head is written: quota, left, limited. -/
theorem FsAt.head {w w' : World} {own : Nat → Prop} {g : Nat} {S : FsS} {G : FsG} (h : FsAt w own g S G) (q l : Int) (b : Bool)
    (hb : w'.heap[g]? = some (.cells #[.int .i64 q, .int .i64 l, .bool b, G.fv, .map (some G.nb), .map (some G.db), G.cv] 65 (0, 0))) (hk : ∀ k, k ≠ g → k < w.heap.size → own k → w'.heap[k]? = w.heap[k]?) :
    FsAt w' own g { S with quota := q, left := l, limited := b } G := by
  obtain ⟨es, c, hn⟩ := map_blk h.nm
  obtain ⟨es', c', hd⟩ := map_blk h.dm
  refine ⟨hb, h.og, row_kept h.fv (fun k hb => ?_), h.ofv, h.len, fun i b v f h1 h2 => ?_, h.inj, map_kept h.nm (hk _ (ne_of_obj hn h.blk (by simp)) (blk_lt hn) h.om.1), map_kept h.dm (hk _ (ne_of_obj hd h.blk (by simp)) (blk_lt hd) h.om.2.1), h.om,
    row_kept h.cv (fun k hb => ?_), h.ocv, h.bnd, h.ln, h.ld, h.lc⟩
  · obtain ⟨hl, cells, hc⟩ := row_typed h.fv k hb
    exact hk k (ne_of_type hc h.blk (by decide)) hl (h.ofv k hb)
  · obtain ⟨q1, q2, q3, q4, q5⟩ := h.file i b v f h1 h2
    refine ⟨(hk b (ne_of_type q1 h.blk (by decide)) (blk_lt q1) q2).trans q1, q2, q3.step (fun k hb => ?_) (fun _ h => h), q4, q5⟩
    obtain ⟨o1, o2, cells, hc⟩ := q3.own k hb
    exact hk k (ne_of_type hc h.blk (by decide)) o2 o1
  · obtain ⟨hl, cells, hc⟩ := row_typed h.cv k hb
    exact hk k (ne_of_type hc h.blk (by decide)) hl (h.ocv k hb)
/-- Names in a row, read. -/
def SR (w : World) (A : Option Addr) (ns : List ByteArray) : Prop := ∀ (i : Nat) (h : i < ns.length), ∃ ad, A = some ad ∧ w.cell? (ad.add i) = some (.string ns[i])
theorem SR.nil (w : World) (A : Option Addr) : SR w A [] := fun i h => absurd h (Nat.not_lt_zero i)
theorem add_block (ad : Addr) (i : Nat) : (ad.add i).block = ad.block := by unfold Addr.add; split <;> rfl
theorem SR.below {w w' : World} {A : Option Addr} {ns : List ByteArray} (h : SR w A ns) (hb : Below w.heap.size w w') : SR w' A ns := fun i hi => by
  obtain ⟨ad, e, hc⟩ := h i hi
  exact ⟨ad, e, (hb.cell (World.block_lt_of_cell? w _ hc)).trans hc⟩
theorem SR.turn {w w' : World} {own : Nat → Prop} {A : Option Addr} {ns : List ByteArray} (h : SR w A ns) (hb : Turn own w w') (hn : ∀ ad, A = some ad → ¬ own ad.block) : SR w' A ns := fun i hi => by
  obtain ⟨ad, e, hc⟩ := h i hi
  refine ⟨ad, e, ?_⟩
  rw [← hc]
  refine World.cell?_of_block (hb.block _ (World.block_lt_of_cell? w _ hc) ?_)
  rw [add_block]
  exact hn ad e
set_option maxHeartbeats 2000000 in
set_option maxRecDepth 100000 in
theorem begin1_calls (s : ByteArray) (w : World) : Calls Tryd.prog 60 #[.string s] w fun e w' => e = .returned (.bool (!mayS s)) ∧ Below w.heap.size w w' := by
  have hm := may_calls s w
  obtain ⟨b, hb⟩ : ∃ b, b = mayS s := ⟨_, rfl⟩
  rw [← hb] at hm ⊢
  clear hb
  go_enter Tryd.func60, Tryd.ntmps60
  go_wp2_with (go_at_call 44; refine hm.mono ?_; rintro e w1 ⟨rfl, hb⟩; have HB1 := Aside0.mk hb; clear hb)
  all_goals (go_ret; exact ⟨rfl, HB1.out⟩)
set_option maxHeartbeats 2000000 in
set_option maxRecDepth 100000 in
theorem idx_calls (A : Option Addr) (c : Nat) (ns : List ByteArray) (w : World) (hr : SR w A ns) (hl : ns.length ≤ 1000) :
    Calls Tryd.prog 69 #[.slice A ns.length c, .func (.func 60) #[] #[]] w fun e w' => (∃ i : Int, e = .returned (.int .i64 i) ∧ (0 ≤ i ↔ ns.all mayS = false)) ∧ Below w.heap.size w w' := by
  have eg : ∀ args w, (callFunc 60 args).run Tryd.prog w = .ok (.enter 60 args) w := enters_of Tryd.func60 (by kernel_rfl) rfl
  have HR := Aside0.mk hr
  have HL := Aside0.mk hl
  clear hr hl
  go_enter Tryd.func69, Tryd.ntmps69
  go_wp2
  go_loopg [8] ns.length (fun kq v8 wx => ∃ i : Nat, v8 = .int .i64 (i : Int) ∧ i + kq = ns.length ∧ Aside0 ((ns.take i).all mayS = true) ∧ Aside0 (Below w.heap.size w wx))
  case atStart => exact ⟨0, rfl, by omega, ⟨by simp⟩, ⟨Below.refl _ _⟩⟩
  case round =>
    obtain ⟨i, rfl, hi, HM, HB⟩ := hrel
    cases gk with
    | zero =>
      have e1 : ((i : Int) < (ns.length : Int)) = False := eq_false (by omega)
      have hm := HM.out
      rw [List.take_of_length_le (by omega)] at hm
      have HM2 := Aside0.mk hm
      clear hi hm
      go_wp2
      go_ret
      exact ⟨⟨-1, rfl, by simp [HM2.out]⟩, HB.out⟩
    | succ d =>
      have e1 : ((i : Int) < (ns.length : Int)) = True := eq_true (by omega)
      have e2 : (i < ns.length) = True := eq_true (by omega)
      have hil : i < ns.length := by omega
      obtain ⟨ad, rfl, hc⟩ := (HR.out.below HB.out) i hil
      have hb := begin1_calls ns[i] wr
      have htk : ns.take (i + 1) = ns.take i ++ [ns[i]] := by rw [List.take_add_one, List.getElem?_eq_getElem hil]; rfl
      have HHI := Aside0.mk hi
      cases hmay : mayS ns[i] with
      | true =>
        rw [hmay] at hb
        have HM2 : Aside0 ((ns.take (i + 1)).all mayS = true) := ⟨by rw [htk, List.all_append, HM.out]; simp [hmay]⟩
        generalize ns[i] = s at hc hb
        clear hi hil htk hmay
        go_wp2_with (go_at_fn 60; refine hb.mono ?_; rintro e w1 ⟨rfl, hb1⟩; have HB1 := Aside0.mk (below_step HB.out hb1); clear hb1)
        go_roundg d
        case measure => omega
        case rel => exact ⟨i + 1, by rw [show wrap64 ((i : Int) + 1) = ((i + 1 : Nat) : Int) by have := HHI.out; have := HL.out; unfold wrap64; omega], by have := HHI.out; omega, HM2, HB1⟩
      | false =>
        rw [hmay] at hb
        have HM2 : Aside0 (ns.all mayS = false) := ⟨by
          rw [← List.take_append_drop (i + 1) ns, htk, List.all_append, List.all_append]
          simp [hmay]⟩
        generalize ns[i] = s at hc hb
        clear hi hil htk hmay
        go_wp2_with (go_at_fn 60; refine hb.mono ?_; rintro e w1 ⟨rfl, hb1⟩; have HB1 := Aside0.mk (below_step HB.out hb1); clear hb1)
        go_ret
        exact ⟨⟨i, rfl, by simp [HM2.out]⟩, HB1.out⟩
set_option maxHeartbeats 2000000 in
set_option maxRecDepth 100000 in
theorem any_calls (A : Option Addr) (c : Nat) (ns : List ByteArray) (w : World) (hr : SR w A ns) (hl : ns.length ≤ 1000) :
    Calls Tryd.prog 59 #[.slice A ns.length c, .func (.func 60) #[] #[]] w fun e w' => e = .returned (.bool (!ns.all mayS)) ∧ Below w.heap.size w w' := by
  have hi := idx_calls A c ns w hr hl
  clear hr hl
  obtain ⟨n, hn⟩ : ∃ n, n = ns.length := ⟨_, rfl⟩
  obtain ⟨b, hb⟩ : ∃ b, b = ns.all mayS := ⟨_, rfl⟩
  rw [← hn, ← hb] at hi
  rw [← hn, ← hb]
  clear hn hb
  go_enter Tryd.func59, Tryd.ntmps59
  cases b with
  | true =>
    go_wp2_with (go_at_call 69; refine hi.mono ?_; rintro e w1 ⟨⟨i, rfl, hx⟩, hb1⟩; have HB1 := Aside0.mk hb1; have e1 : (0 ≤ i) = False := eq_false (fun h => by have := hx.1 h; simp at this); clear hb1 hx)
    go_ret
    exact ⟨rfl, HB1.out⟩
  | false =>
    go_wp2_with (go_at_call 69; refine hi.mono ?_; rintro e w1 ⟨⟨i, rfl, hx⟩, hb1⟩; have HB1 := Aside0.mk hb1; have e1 : (0 ≤ i) = True := eq_true (hx.2 rfl); clear hb1 hx)
    go_ret
    exact ⟨rfl, HB1.out⟩
def FsS.stops (S : FsS) : Bool := S.limited && (S.left == 0)
def FsS.tick (S : FsS) : FsS := if S.limited = true then { S with left := wrap64 (S.left - 1) } else S
/-- An operation's begin: its answer, and the state. -/
def FsS.beginC (S : FsS) (ns : List ByteArray) : Int := if S.stops = true then 11 else if ns.all mayS = true then 0 else 1
def FsS.beginT (S : FsS) : FsS := if S.stops = true then S else S.tick
set_option maxHeartbeats 4000000 in
set_option maxRecDepth 100000 in
theorem begin_calls (A : Option Addr) (c : Nat) (ns : List ByteArray) (w : World) (own : Nat → Prop) (g : Nat) (S : FsS) (hS : FsIs w own g S) (hr : SR w A ns) (hl : ns.length ≤ 1000) (hA : ∀ ad, A = some ad → ¬ own ad.block) :
    Calls Tryd.prog 41 #[.pointer (some ⟨g, 0, none⟩), .slice A ns.length c] w fun e w' => e = .returned (.int .i64 (S.beginC ns)) ∧ FsIs w' own g S.beginT ∧ Turn own w w' := by
  obtain ⟨G, hG⟩ := hS
  have hb0 := hG.blk
  have c0 : w.cell? ⟨g, 1, none⟩ = some (.int .i64 S.left) := blk_cell hb0 1
  have c1 : w.cell? ⟨g, 2, none⟩ = some (.bool S.limited) := blk_cell hb0 2
  have f1 := blk_frozen hb0 1
  have HG := Aside0.mk hG
  have HR := Aside0.mk hr
  have HL := Aside0.mk hl
  have HA := Aside0.mk hA
  clear hG hr hl hA hb0
  obtain ⟨lim, hlim⟩ : ∃ lim, lim = S.limited := ⟨_, rfl⟩
  rw [← hlim] at c1
  cases lim with
  | false =>
    have es : S.stops = false := by unfold FsS.stops; rw [← hlim]; rfl
    have et : S.tick = S := by unfold FsS.tick; rw [← hlim]; rfl
    have EC := Aside0.mk (show S.beginC ns = if ns.all mayS = true then 0 else 1 by unfold FsS.beginC; rw [es, if_neg Bool.false_ne_true])
    have ET := Aside0.mk (show S.beginT = S by unfold FsS.beginT; rw [es, if_neg Bool.false_ne_true, et])
    obtain ⟨bb, hbb⟩ : ∃ bb, bb = ns.all mayS := ⟨_, rfl⟩
    rw [← hbb] at EC
    have EB := Aside0.mk hbb
    clear es et hlim hbb
    go_enter Tryd.func41, Tryd.ntmps41
    cases bb with
    | true =>
      go_wp2_with (go_at_call 59; refine (any_calls A c ns w HR.out HL.out).mono ?_; rintro e w1 ⟨he, hb1⟩; rw [← EB.out] at he; subst he; have HB1 := Aside0.mk hb1; clear hb1)
      go_ret
      exact ⟨by rw [EC.out]; rfl, by rw [ET.out]; exact FsIs.below ⟨G, HG.out⟩ HB1.out, Turn.below HB1.out own⟩
    | false =>
      go_wp2_with (go_at_call 59; refine (any_calls A c ns w HR.out HL.out).mono ?_; rintro e w1 ⟨he, hb1⟩; rw [← EB.out] at he; subst he; have HB1 := Aside0.mk hb1; clear hb1)
      go_ret
      exact ⟨by rw [EC.out]; rfl, by rw [ET.out]; exact FsIs.below ⟨G, HG.out⟩ HB1.out, Turn.below HB1.out own⟩
  | true =>
    by_cases h0 : S.left = 0
    · have es : S.stops = true := by unfold FsS.stops; rw [← hlim, h0]; rfl
      have EC := Aside0.mk (show S.beginC ns = 11 by unfold FsS.beginC; rw [es, if_pos rfl])
      have ET := Aside0.mk (show S.beginT = S by unfold FsS.beginT; rw [es, if_pos rfl])
      have e1 : (S.left == 0) = true := beq_iff_eq.mpr h0
      clear es hlim h0
      go_enter Tryd.func41, Tryd.ntmps41
      go_wp2
      go_ret
      exact ⟨by rw [EC.out]; rfl, by rw [ET.out]; exact ⟨G, HG.out⟩, Turn.refl _ _⟩
    · have e0 : (S.left == 0) = false := beq_eq_false_iff_ne.mpr h0
      have es : S.stops = false := by unfold FsS.stops; rw [e0, Bool.and_false]
      have et : S.tick = { S with left := wrap64 (S.left - 1) } := by unfold FsS.tick; rw [← hlim]; rfl
      have EC := Aside0.mk (show S.beginC ns = if ns.all mayS = true then 0 else 1 by unfold FsS.beginC; rw [es, if_neg Bool.false_ne_true])
      have ET := Aside0.mk (show S.beginT = { S with left := wrap64 (S.left - 1) } by unfold FsS.beginT; rw [es, if_neg Bool.false_ne_true, et])
      have hw : FsAt (w.setCell ⟨g, 1, none⟩ (.int .i64 (wrap64 (S.left - 1)))) own g { S with left := wrap64 (S.left - 1) } G := by
        have := HG.out.head (w' := w.setCell ⟨g, 1, none⟩ (.int .i64 (wrap64 (S.left - 1)))) S.quota (wrap64 (S.left - 1)) S.limited (blk_put HG.out.blk 1 _ rfl) (fun k hk _ _ => Below.heap_setCell _ ⟨g, 1, none⟩ _ k hk)
        exact this
      have HW := Aside0.mk hw
      have HT := Aside0.mk (Turn.set (own := own) (w := w) g 1 (.int .i64 (wrap64 (S.left - 1))) HG.out.og)
      have HR2 := Aside0.mk (HR.out.turn HT.out HA.out)
      obtain ⟨bb, hbb⟩ : ∃ bb, bb = ns.all mayS := ⟨_, rfl⟩
      rw [← hbb] at EC
      have EB := Aside0.mk hbb
      clear es et hlim hbb h0 hw
      go_enter Tryd.func41, Tryd.ntmps41
      cases bb with
      | true =>
        go_wp2_with (go_at_call 59; refine (any_calls A c ns _ HR2.out HL.out).mono ?_; rintro e w1 ⟨he, hb1⟩; rw [← EB.out] at he; subst he; have HB1 := Aside0.mk hb1; clear hb1)
        go_ret
        exact ⟨by rw [EC.out]; rfl, by rw [ET.out]; exact FsIs.below ⟨G, HW.out⟩ HB1.out, HT.out.then_below HB1.out⟩
      | false =>
        go_wp2_with (go_at_call 59; refine (any_calls A c ns _ HR2.out HL.out).mono ?_; rintro e w1 ⟨he, hb1⟩; rw [← EB.out] at he; subst he; have HB1 := Aside0.mk hb1; clear hb1)
        go_ret
        exact ⟨by rw [EC.out]; rfl, by rw [ET.out]; exact FsIs.below ⟨G, HW.out⟩ HB1.out, HT.out.then_below HB1.out⟩
theorem begin_nil (A : Option Addr) (n c : Nat) (w : World) : Calls Tryd.prog 41 #[.pointer none, .slice A n c] w fun e w' => e = .returned (.int .i64 1) ∧ w' = w := by
  go_enter Tryd.func41, Tryd.ntmps41
  go_wp2
  go_ret
  exact ⟨rfl, rfl⟩
set_option maxHeartbeats 2000000 in
theorem quota_calls (q : Int) (w : World) (own : Nat → Prop) (g : Nat) (S : FsS) (hS : FsIs w own g S) :
    Calls Tryd.prog 32 #[.pointer (some ⟨g, 0, none⟩), .int .i64 q] w fun e w' => e = .returned (.tuple #[]) ∧ FsIs w' own g { S with quota := q } ∧ Turn own w w' := by
  obtain ⟨G, hG⟩ := hS
  have hb0 := hG.blk
  have c0 : w.cell? ⟨g, 0, none⟩ = some (.int .i64 S.quota) := blk_cell hb0 0
  have f1 := blk_frozen hb0 0
  have HG := Aside0.mk hG
  have HW := Aside0.mk (HG.out.head (w' := w.setCell ⟨g, 0, none⟩ (.int .i64 q)) q S.left S.limited (blk_put HG.out.blk 0 _ rfl) (fun k hk _ _ => Below.heap_setCell _ ⟨g, 0, none⟩ _ k hk))
  clear hG hb0
  go_enter Tryd.func32, Tryd.ntmps32
  go_wp2
  go_end0
  exact ⟨rfl, ⟨G, HW.out⟩, Turn.set g 0 _ HG.out.og⟩
theorem quota_nil (q : Int) (w : World) : Calls Tryd.prog 32 #[.pointer none, .int .i64 q] w fun e w' => e = .returned (.tuple #[]) ∧ w' = w := by
  go_enter Tryd.func32, Tryd.ntmps32
  go_wp2
  go_end0
  exact ⟨rfl, rfl⟩
theorem limit_nil (q : Int) (w : World) : Calls Tryd.prog 16 #[.pointer none, .int .i64 q] w fun e w' => e = .returned (.tuple #[]) ∧ w' = w := by
  go_enter Tryd.func16, Tryd.ntmps16
  go_wp2
  go_end0
  exact ⟨rfl, rfl⟩
set_option maxHeartbeats 2000000 in
theorem limit_calls (n : Int) (w : World) (own : Nat → Prop) (g : Nat) (S : FsS) (hS : FsIs w own g S) :
    Calls Tryd.prog 16 #[.pointer (some ⟨g, 0, none⟩), .int .i64 n] w fun e w' => e = .returned (.tuple #[]) ∧ FsIs w' own g { S with left := n, limited := decide (0 ≤ n) } ∧ Turn own w w' := by
  obtain ⟨G, hG⟩ := hS
  have hb0 := hG.blk
  have c0 : w.cell? ⟨g, 1, none⟩ = some (.int .i64 S.left) := blk_cell hb0 1
  have c1 : w.cell? ⟨g, 2, none⟩ = some (.bool S.limited) := blk_cell hb0 2
  have f1 := blk_frozen hb0 1
  have f2 := blk_frozen hb0 2
  have HG := Aside0.mk hG
  clear hG hb0
  go_enter Tryd.func16, Tryd.ntmps16
  go_wp2
  go_end0
  refine ⟨rfl, ⟨G, ?_⟩, (Turn.set g 1 _ HG.out.og).trans (Turn.set g 2 _ HG.out.og) (fun _ h => .inl h)⟩
  refine HG.out.head S.quota n (decide (0 ≤ n)) ?_ (fun k hk _ _ => (Below.heap_setCell _ ⟨g, 2, none⟩ _ k hk).trans (Below.heap_setCell _ ⟨g, 1, none⟩ _ k hk))
  exact blk_put (blk_put HG.out.blk 1 _ rfl) 2 _ rfl
end Go.Proofs.YtnnlmackofopeaaDoor.Fs
