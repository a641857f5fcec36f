/- Contract of (*Fs).Used. -/
import Derived.Test.YtnnlmackofopeaaDoorFsSyncNames
import Derived.Maps.RangeWalk
namespace Go.Proofs.YtnnlmackofopeaaDoor.Fs
open Go.RowKit Go.Lib Go.Maps Go.Shelf Go.Proofs.YtnnlmackofopeaaDoorW.PrintWords Go.Proofs.YtnnlmackofopeaaDoorW.PrintLast Go.Proofs.YtnnlmackofopeaaDoorW.PrintMore
set_option linter.unusedVariables false
set_option linter.unusedSimpArgs false
def fileLen (fs : List (List Int × Nat)) : Names → Nat
  | .lit (.int .i64 i) => ((fs[i.toNat]?).map (fun f => f.1.length)).getD 0
  | _ => 0
def sumL (fs : List (List Int × Nat)) (left : Lit → Bool) (es : List (Lit × Names)) : Nat := ((es.filter (fun p => left p.1)).map (fun p => fileLen fs p.2)).sum
def entries : Names → List (Lit × Names)
  | .map es => es
  | _ => []
def FsS.used (S : FsS) : Nat := sumL S.files (has S.names) (entries S.names)
theorem sumL_none {fs : List (List Int × Nat)} {left : Lit → Bool} (es : List (Lit × Names)) (h : ∀ k, left k = false) : sumL fs left es = 0 := by
  unfold sumL
  rw [List.filter_eq_nil_iff.2 (fun p _ => by rw [h]; decide)]
  rfl
theorem sumL_step {fs : List (List Int × Nat)} {left : Lit → Bool} {kl : Lit} (hs : kl.sameKey kl = true) (hl : left kl = true) : ∀ {es : List (Lit × Names)} {p0 : Lit × Names}, es.Pairwise (fun p q => p.1 ≠ q.1) → p0 ∈ es → p0.1 = kl →
    sumL fs left es = fileLen fs p0.2 + sumL fs (fun z => left z && !z.sameKey kl) es
  | [], p0, _, hm, _ => by simp at hm
  | p :: r, p0, hp, hm, hk => by
    obtain ⟨h1, h2⟩ := List.pairwise_cons.1 hp
    unfold sumL
    rcases List.mem_cons.1 hm with e | hm
    · subst e
      have hr : r.filter (fun p => left p.1 && !p.1.sameKey kl) = r.filter (fun p => left p.1) := List.filter_congr fun q hq => by
        have : q.1.sameKey kl = false := sameKey_ne (fun e => h1 q hq (by rw [hk, e]))
        rw [this]
        simp
      rw [List.filter_cons_of_pos (by rw [hk]; exact hl), List.filter_cons_of_neg (by show ¬ ((left p0.1 && !p0.1.sameKey kl) = true); rw [hk, hs]; simp), hr]
      simp
    · have hne : p.1 ≠ kl := fun e => h1 p0 hm (by rw [e, hk])
      have ih := sumL_step (fs := fs) hs hl h2 hm hk
      unfold sumL at ih
      cases hlp : left p.1 with
      | true =>
        rw [List.filter_cons_of_pos (p := fun p : Lit × Names => left p.1) hlp, List.filter_cons_of_pos (by show (left p.1 && !p.1.sameKey kl) = true; rw [hlp, sameKey_ne hne]; rfl)]
        simp only [List.map_cons, List.sum_cons, ih]
        omega
      | false =>
        rw [List.filter_cons_of_neg (p := fun p : Lit × Names => left p.1) (by rw [hlp]; decide), List.filter_cons_of_neg (by show ¬ ((left p.1 && !p.1.sameKey kl) = true); rw [hlp]; simp)]
        exact ih
theorem sumL_le {fs : List (List Int × Nat)} {m : Nat} (hm : ∀ f ∈ fs, f.1.length ≤ m) (left : Lit → Bool) : ∀ es : List (Lit × Names), sumL fs left es ≤ es.length * m
  | [] => by simp [sumL]
  | p :: r => by
    have ih := sumL_le hm left r
    have hf : fileLen fs p.2 ≤ m := by
      unfold fileLen
      split
      · rename_i i _
        cases h : fs[i.toNat]? with
        | none => simp
        | some f => simpa using hm f (List.mem_of_getElem? h)
      · exact Nat.zero_le _
    have e1 : (p :: r).length * m = m + r.length * m := by rw [List.length_cons, Nat.succ_mul]; omega
    unfold sumL at ih ⊢
    rw [e1]
    cases hlp : left p.1 with
    | true =>
      rw [List.filter_cons_of_pos (p := fun p : Lit × Names => left p.1) hlp]
      simp only [List.map_cons, List.sum_cons]
      omega
    | false =>
      rw [List.filter_cons_of_neg (p := fun p : Lit × Names => left p.1) (by rw [hlp]; decide)]
      omega
theorem entry_of {D : Names} (hD : IsMap D) {kl : Lit} {z y : Names} (h : has D kl = true) (ha : D.atKey kl z = y) : ∃ p ∈ entries D, p.1 = kl ∧ p.2 = y := by
  obtain ⟨es, rfl⟩ := hD
  rw [has_eq, List.any_eq_true] at h
  obtain ⟨q, hq, hs⟩ := h
  cases hf : es.find? (fun p => p.1.sameKey kl) with
  | none =>
    have := List.find?_eq_none.1 hf q hq
    exact absurd hs (by simpa using this)
  | some p =>
    have ha' : p.2 = y := by
      simpa only [DataW.atKey, hf] using ha
    have hp := List.find?_some hf
    exact ⟨p, List.mem_of_find?_eq_some hf, WideAt.sameKey_eq (by simpa using hp), ha'⟩
theorem FsAt.lens {w : World} {own : Nat → Prop} {g : Nat} {S : FsS} {G : FsG} (h : FsAt w own g S G) : ∀ f ∈ S.files, f.1.length ≤ S.dat := fun f hf => by
  obtain ⟨i, hi, rfl⟩ := List.mem_iff_getElem.1 hf
  have hi2 : i < G.fs.length := by rw [h.len]; exact hi
  exact (h.file i _ _ _ (List.getElem?_eq_getElem hi2) (List.getElem?_eq_getElem hi)).2.2.2.2
theorem entries_length (D : Names) : (entries D).length = Maps.size D := by
  cases D <;> rfl
theorem FsAt.used_le {w : World} {own : Nat → Prop} {g : Nat} {S : FsS} {G : FsG} (h : FsAt w own g S G) : S.used ≤ S.ops * S.dat := by
  have h1 := sumL_le h.lens (has S.names) (entries S.names)
  rw [entries_length] at h1
  refine Nat.le_trans h1 (Nat.mul_le_mul_right _ (Nat.le_trans h.nm.size_le h.bnd.2.2.1))
/-- The range's step: keys of string, elements of int. -/
theorem wpList_next_ranges_si {H : Type} {P : Program} (w : World) {ops : Array Oper} {rest : List Oper} {o : Oper} {a : Act} {Q : Exit → Act → World → Prop}
    (hg : o.guard = none) (it : Operand) (hop : o.op = Op.next it false) (k e : TypeId) (qe : IntKind) (K : Keyed P k) (hk : P.underlying k = some .string) (he : P.underlying e = some (.int qe))
    (b r n : Nat) (D : DataW H) (left : Lit → Bool) (cnt : Nat) (hit : a.eval it = .pointer (some ⟨r, 0, none⟩)) (h : w.ranges P k (plainElem P e) b r n D left cnt)
    (hDone : cnt = 0 → (∀ kl, left kl = false) → wpList P ops Q rest (a.put o.dst (.tuple #[.bool false])) w)
    (hMore : ∀ (x : ByteArray) (c : Int) (w' : World) (cnt' : Nat), x.size ≤ maxLen → (Lit.int qe c).wf = true → left (kl x) = true → (∀ zd, D.atKey (kl x) zd = .lit (.int qe c)) → w'.ranges P k (plainElem P e) b r n D (fun z => left z && !z.sameKey (kl x)) cnt' → cnt' < cnt →
      w.grownBy w' (some r) → w'.heap.size = w.heap.size → (Instr.entry (.pointer (some ⟨r, 0, none⟩))).run P w' = .ok (.tuple #[.string x, .int qe c]) w' → wpList P ops Q rest (a.put o.dst (.tuple #[.bool true, .string x, .int qe c])) w') :
    wpList P ops Q (o :: rest) a w :=
  wpList_next_ranges w hg it hop k K (plainElem P e) Value.string (Value.int qe) (fun key kl hkey => by obtain ⟨x, rfl, _⟩ := WideMaps.string_of_keyOf hk hkey; exact ⟨x, rfl⟩) (fun v y hv => by obtain ⟨c, rfl, _⟩ := plainElem_int_inv he hv; exact ⟨c, rfl⟩)
    b r n D left cnt hit h hDone (fun x c kl y w' cnt' hkey hlk hv hat hrg hlt hgr hsz hen => by
      obtain ⟨x', ex, rfl, hwx⟩ := WideMaps.string_of_keyOf hk hkey
      cases ex
      obtain ⟨c', ec, rfl, hwc⟩ := plainElem_int_inv he hv
      cases ec
      exact hMore x c w' cnt' hwx hwc hlk hat hrg hlt hgr hsz hen)
theorem used_nil (w : World) : Calls Tryd.prog 28 #[.pointer none] w fun e w' => e = .returned (.int .i64 0) ∧ w' = w := by
  go_enter Tryd.func28, Tryd.ntmps28
  go_wp2
  go_ret
  exact ⟨rfl, rfl⟩
set_option maxHeartbeats 4000000 in
set_option maxRecDepth 100000 in
theorem used_calls (w : World) (own : Nat → Prop) (g : Nat) (S : FsS) (hS : FsIs w own g S) (hbig : S.ops * S.dat ≤ 1000000000000000) :
    Calls Tryd.prog 28 #[.pointer (some ⟨g, 0, none⟩)] w fun e w' => e = .returned (.int .i64 (S.used : Int)) ∧ Below w.heap.size w w' := by
  obtain ⟨G, hG⟩ := hS
  have hus : S.used ≤ 1000000000000000 := Nat.le_trans hG.used_le hbig
  have c4 : w.cell? ⟨g, 4, none⟩ = some (.map (some G.nb)) := blk_cell hG.blk 4
  have HG := Aside0.mk hG
  have HU := Aside0.mk hus
  clear hG hbig hus
  go_enter Tryd.func28, Tryd.ntmps28
  go_wp2_with (first
    | (at_range; refine wpList_range_own _ rfl _ 61 rfl 9 3 keyLaw Tryd.underlying61 _ G.nb G.nn _ rfl HG.out.nm ?_; intro w0 hrg0 hg0 hs0)
    | go_in)
  have HR0 := Aside0.mk hrg0
  have HG0 := Aside0.mk hg0
  clear hrg0 hg0 hs0 c4
  go_frame
  go_loopw [3] (fun v3 wr => ∃ (left : Lit → Bool) (cnt acc : Nat), v3 = .int .i64 (acc : Int) ∧ Aside0 (wr.ranges Tryd.prog 9 (plainElem Tryd.prog 3) G.nb w.heap.size G.nn S.names left cnt) ∧ Aside0 (∀ k, left k = true → has S.names k = true) ∧ Aside0 (acc + sumL S.files left (entries S.names) = S.used) ∧ Aside0 (Below w.heap.size w wr))
    (fun _ wr => wr.rangeLeft G.nb w.heap.size)
  case atStart => exact ⟨_, _, 0, rfl, ⟨HR0.out⟩, ⟨fun k hk => hk⟩, ⟨by unfold FsS.used; omega⟩, ⟨⟨HG0.out.os, HG0.out.tape, HG0.out.output, HG0.out.size, fun k hk => HG0.out.block k hk (by simp)⟩⟩⟩
  case round =>
    obtain ⟨left, cnt, acc, rfl, HRG, HL, HS, HB⟩ := hrel
    go_wp2_with (first
      | (at_next; refine wpList_next_ranges_si _ rfl _ rfl 9 3 .i64 keyLaw Tryd.underlying9 Tryd.underlying3 G.nb w.heap.size G.nn S.names left cnt rfl HRG.out ?_ ?_)
      | go_in)
    · intro _ hl0
      have e0 := HS.out
      rw [sumL_none _ hl0] at e0
      have HE := Aside0.mk e0
      clear e0 hl0
      go_wp2
      go_ret
      exact ⟨by rw [← HE.out]; rfl, HB.out⟩
    · intro x c w1 cnt1 hxs hwc hlk hat hrg1 hlt hg1 hs1 hen
      have hB1 : Below w.heap.size w w1 := ⟨hg1.os.trans HB.out.os, hg1.tape.trans HB.out.tape, hg1.output.trans HB.out.output, Nat.le_trans HB.out.size hg1.size, fun k hk => (hg1.block k (Nat.lt_of_lt_of_le hk HB.out.size) (fun e => by injection e with e; omega)).trans (HB.out.block k hk)⟩
      have hG1 : FsAt w1 own g S G := HG.out.move (fun k hk _ => hB1.block k hk) (fun _ h => h)
      have hh := HL.out _ hlk
      obtain ⟨i, h1, h2⟩ := hG1.ln _ hh
      obtain rfl : c = (i : Int) := by
        have := (hat .nil).symm.trans (h2 .nil)
        unfold num at this
        injection this with h_
        injection h_ with _ h_
      obtain ⟨b, v, f, fb, cap, h4, h5, h6, h7⟩ := hG1.get i h1
      obtain ⟨q1, q2, q3, q4, q5⟩ := hG1.file i b v f h4 h5
      obtain ⟨A, cc, rfl⟩ := q3.slice
      have c3 : w1.cell? ⟨g, 3, none⟩ = some G.fv := blk_cell hG1.blk 3
      rw [h6] at c3
      unfold ptr at h7
      have c0 : w1.cell? ⟨b, 0, none⟩ = some (.slice A f.1.length cc) := blk_cell q1 0
      have e1 : ((i : Int) < (S.files.length : Int)) = True := eq_true (by omega)
      have e2 : (i < S.files.length) = True := eq_true h1
      obtain ⟨p0, hp0, hpk, hpv⟩ := entry_of hG1.nm.isMap hh (h2 .nil)
      obtain ⟨es, hes, hpw⟩ := hG1.nm.tidy keyLaw
      have hst := sumL_step (fs := S.files) (left := left) (kl := kl x) (es := entries S.names) (WideAt.sameKey_self (by simp [WideAt.IsKeyLit])) hlk (by rw [hes]; exact hpw) hp0 hpk
      have hfl : fileLen S.files p0.2 = f.1.length := by
        rw [hpv]
        unfold fileLen num
        simp [h5]
      have hs0 := HS.out
      have e3 : wrap64 ((acc : Int) + (f.1.length : Int)) = ((acc + f.1.length : Nat) : Int) := by have := HU.out; unfold wrap64; omega
      have HS2 := Aside0.mk (show acc + f.1.length + sumL S.files (fun z => left z && !z.sameKey (kl x)) (entries S.names) = S.used by omega)
      have HB2 := Aside0.mk hB1
      have HRG2 := Aside0.mk hrg1
      have HLT := Aside0.mk hlt
      have HL2 := Aside0.mk (show ∀ k, (left k && !k.sameKey (kl x)) = true → has S.names k = true from fun k hk => HL.out k (by simp only [Bool.and_eq_true] at hk; exact hk.1))
      clear hB1 hG1 hh h2 h4 h5 h6 q1 q2 q3 q4 q5 hp0 hpk hpv hes hpw hst hfl hs0 hrg1 hlt hg1 hs1 hlk hat hxs hwc h1
      go_wp2
      go_roundw
      case rel => exact ⟨_, cnt1, acc + f.1.length, by rw [← e3], HRG2, HL2, HS2, HB2⟩
      case measure => rw [HRG2.out.left_eq, HRG.out.left_eq]; exact HLT.out
end Go.Proofs.YtnnlmackofopeaaDoor.Fs
