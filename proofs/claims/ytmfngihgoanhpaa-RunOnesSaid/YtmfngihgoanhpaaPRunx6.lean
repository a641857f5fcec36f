/- Contracts of Go functions: called with what reads as these lists and numbers, a function returns what its plain Lean function says, and leaves what was there. Written by a program of this session. -/
import Derived.Test.YtmfngihgoanhpaaPRunx0
import Derived.Test.YtmfngihgoanhpaaPRunx4
import Derived.Test.YtmfngihgoanhpaaPRunx5
namespace Go.Proofs.Ytmfngihgoanhpaa.PRun
open Go.RowKit Go.Proofs.YtmfngihgoanhpaaW.PrintWords Go.Proofs.YtmfngihgoanhpaaW.PrintLast Go.Proofs.YtmfngihgoanhpaaW.PrintMore
attribute [local go_sem] max2_int min2_int max_two min_two max_three min_three max_four min_four   -- for this text's walks alone
attribute [local go_sem] Go.Proofs.Ytmfngihgoanhpaa.MoreWords.str_leq Go.Proofs.Ytmfngihgoanhpaa.MoreWords.str_gtr Go.Proofs.Ytmfngihgoanhpaa.MoreWords.str_geq
set_option linter.unusedVariables false
set_option linter.unusedSimpArgs false

/-! ### run_unblock: function 28 -/
/-- All but two blocks lie as they lay. -/
def ButTwo (w w' : World) (g1 g2 : Nat) : Prop := w'.os = w.os ∧ w'.tape = w.tape ∧ w'.output = w.output ∧ w.heap.size ≤ w'.heap.size ∧ ∀ k, k ≠ g1 → k ≠ g2 → k < w.heap.size → w'.heap[k]? = w.heap[k]?

theorem ButTwo.below {w0 w w' : World} {g1 g2 : Nat} (h : ButTwo w w' g1 g2) (hb : Below w0.heap.size w0 w) (h1 : w0.heap.size ≤ g1) (h2 : w0.heap.size ≤ g2) : Below w0.heap.size w0 w' :=
  ⟨h.1.trans hb.os, h.2.1.trans hb.tape, h.2.2.1.trans hb.output, Nat.le_trans hb.size h.2.2.2.1, fun k hk => (h.2.2.2.2 k (by omega) (by omega) (Nat.lt_of_lt_of_le hk hb.size)).trans (hb.block k hk)⟩
theorem ButTwo.blk {w w' : World} {g1 g2 g : Nat} {o : Obj} (h : ButTwo w w' g1 g2) (h1 : g ≠ g1) (h2 : g ≠ g2) (hb : w.heap[g]? = some o) : w'.heap[g]? = some o := (h.2.2.2.2 g h1 h2 (blk_lt hb)).trans hb

set_option maxHeartbeats 4000000 in
set_option maxRecDepth 100000 in
theorem run_entry1.calls (gl go : Nat) (hne : gl ≠ go) (A0 : Option Addr) (c0 : Nat) (l0 : List Int) (ok : Bool) (r1 r2 r3 : Int) (w : World) (hl : w.heap[gl]? = some (.cells #[.slice A0 l0.length c0] 23 (0, 0))) (ho : w.heap[go]? = some (.cells #[.bool ok] 4 (0, 0)))
    (hr0 : Kd.C (Kd.int .u8) w A0 l0.length l0) (hc0 : l0.length ≤ c0) (h : num_Get.f l0 = some (r1, r2, r3)) (h2 : 0 ≤ r2) (h2l : r2 ≤ l0.length) :
    Calls Try.prog 47 #[.pointer (some ⟨gl, 0, none⟩), .pointer (some ⟨go, 0, none⟩)] w fun e w' => e = .returned (.int .u64 r1) ∧ ButTwo w w' gl go ∧
      ∃ A' c', w'.heap[gl]? = some (.cells #[.slice A' (l0.drop r2.toNat).length c'] 23 (0, 0)) ∧ w'.heap[go]? = some (.cells #[.bool (ok && (r3 == 0))] 4 (0, 0)) ∧
        (l0.drop r2.toNat).length ≤ c' ∧ ∀ W, Kd.C (Kd.int .u8) W A0 l0.length l0 → Kd.C (Kd.int .u8) W A' (l0.drop r2.toNat).length (l0.drop r2.toNat) := by
  have HR0 := Aside0.mk hr0
  have HC0 := Aside0.mk hc0
  have A1 := Aside0.mk h
  have BL := Aside0.mk hl
  have BO := Aside0.mk ho
  have NE := Aside0.mk hne
  have hcl := blk_cell hl 0
  have hfl := blk_frozen hl 0
  have hco := blk_cell ho 0
  have hfo := blk_frozen ho 0
  have hcl' : w.cell? ⟨gl, 0, none⟩ = some (.slice A0 l0.length c0) := hcl.trans rfl
  have hco' : w.cell? ⟨go, 0, none⟩ = some (.bool ok) := hco.trans rfl
  clear hl ho hcl hco hr0 hc0 h
  obtain ⟨i0, hi0, _, hsz, _⟩ := info_parts info5
  obtain ⟨A', hcut, hA, hC⟩ := print_drop_of (P := Try.prog) (Value.int .u8) 0 23 5 .i64 Try.underlying23 hi0 hsz A0 c0 l0 r2 h2 h2l HC0.out
  have HA := Aside0.mk hA
  have HC := Aside0.mk hC
  have H2 := Aside0.mk h2
  have H2l := Aside0.mk h2l
  clear hA hC hi0 hsz h2 h2l hne
  go_enter Try.func47, Try.ntmps47
  have go_on : ∀ nd : Nat, ∀ b : Bool, b = (ok && (r3 == 0)) → ButTwo w (((w.drewN nd).setCell ⟨go, 0, none⟩ (.bool b)).setCell ⟨gl, 0, none⟩ (.slice A' (l0.length - r2.toNat) (c0 - r2.toNat))) gl go ∧
      ∃ A2 c2, (((w.drewN nd).setCell ⟨go, 0, none⟩ (.bool b)).setCell ⟨gl, 0, none⟩ (.slice A' (l0.length - r2.toNat) (c0 - r2.toNat))).heap[gl]? = some (.cells #[.slice A2 (l0.drop r2.toNat).length c2] 23 (0, 0)) ∧ (((w.drewN nd).setCell ⟨go, 0, none⟩ (.bool b)).setCell ⟨gl, 0, none⟩ (.slice A' (l0.length - r2.toNat) (c0 - r2.toNat))).heap[go]? = some (.cells #[.bool (ok && (r3 == 0))] 4 (0, 0)) ∧
        (l0.drop r2.toNat).length ≤ c2 ∧ ∀ W, Kd.C (Kd.int .u8) W A0 l0.length l0 → Kd.C (Kd.int .u8) W A2 (l0.drop r2.toNat).length (l0.drop r2.toNat) := by
    have el : l0.length - r2.toNat = (l0.drop r2.toNat).length := List.length_drop.symm
    intro nd b hb
    subst hb
    rw [el]
    refine ⟨⟨rfl, rfl, rfl, ?_, fun k h1 h2 hk => ?_⟩, A', c0 - r2.toNat, ?_, ?_, HC.out, fun W h => Kd.C_of_reads (h1 := fun _ => rfl) (HA.out W (Kd.reads_of_C h))⟩
    · simp [World.size_setCell]
    · exact (Below.heap_setCell _ ⟨gl, 0, none⟩ _ k (by simpa using h1)).trans ((Below.heap_setCell _ ⟨go, 0, none⟩ _ k (by simpa using h2)).trans rfl)
    · exact blk_set (blk_far (blk_drewN BL.out nd) (p := ⟨go, 0, none⟩) NE.out _) 0 _
    · exact blk_far (blk_set (blk_drewN BO.out nd) 0 _) (p := ⟨gl, 0, none⟩) (Ne.symm NE.out) _
  have GO := Aside0.mk go_on
  clear go_on
  by_cases hk : ok = true
  · subst hk
    go_wp2_with (first | (go_at_call 27; refine (num_Get.calls A0 c0 l0 r1 r2 r3 _ HR0.out HC0.out A1.out).mono ?_; rintro e w' ⟨rfl, ⟨nd, rfl⟩⟩; have hx1 : ((w.drewN nd).setCell ⟨go, 0, none⟩ (.bool (r3 == 0))).cell? ⟨gl, 0, none⟩ = some (.slice A0 l0.length c0) := blk_cell (blk_far (blk_drewN BL.out nd) (p := ⟨go, 0, none⟩) NE.out _) 0; have hx2 : ((w.drewN nd).setCell ⟨go, 0, none⟩ (.bool (r3 == 0))).frozen? ⟨gl, 0, none⟩ = false := blk_frozen (blk_far (blk_drewN BL.out nd) (p := ⟨go, 0, none⟩) NE.out _) 0))
    go_ret
    exact ⟨rfl, GO.out nd (r3 == 0) (by simp)⟩
  · have hk : ok = false := by simpa using hk
    subst hk
    go_wp2_with (first | (go_at_call 27; refine (num_Get.calls A0 c0 l0 r1 r2 r3 _ HR0.out HC0.out A1.out).mono ?_; rintro e w' ⟨rfl, ⟨nd, rfl⟩⟩; have hx1 : ((w.drewN nd).setCell ⟨go, 0, none⟩ (.bool false)).cell? ⟨gl, 0, none⟩ = some (.slice A0 l0.length c0) := blk_cell (blk_far (blk_drewN BL.out nd) (p := ⟨go, 0, none⟩) NE.out _) 0; have hx2 : ((w.drewN nd).setCell ⟨go, 0, none⟩ (.bool false)).frozen? ⟨gl, 0, none⟩ = false := blk_frozen (blk_far (blk_drewN BL.out nd) (p := ⟨go, 0, none⟩) NE.out _) 0))
    go_ret
    exact ⟨rfl, GO.out nd false (by simp)⟩

theorem num_Get.bounds (l : List Int) (r1 r2 r3 : Int) (h : num_Get.f l = some (r1, r2, r3)) : 0 ≤ r2 ∧ r2 ≤ l.length := by
  have hs : ∀ k s j, num_Get.scan l k s = some j → s ≤ l.length → j ≤ s + k ∧ (j < l.length ∨ j = s + k) := by
    intro k
    induction k with
    | zero => intro s j h hl; simp [num_Get.scan] at h; subst h; exact ⟨by omega, .inr rfl⟩
    | succ k ih =>
      intro s j h hl
      unfold num_Get.scan at h
      split at h
      · simp at h
      · split at h
        · simp at h; subst h; exact ⟨by omega, .inl (by omega)⟩
        · have := ih (s + 1) j h (by omega)
          omega
  unfold num_Get.f at h
  split at h
  · have h := Option.some.inj h
    unfold num_Get.ans at h
    split at h
    · simp at h; omega
    · rename_i s hsc
      split at h
      · simp at h; omega
      · rename_i hn
        have := hs 10 0 s hsc (by omega)
        simp only [Prod.mk.injEq] at h
        omega
  · simp at h

def run_entry.f (a0 : ByteArray) (l1 : List Int) : Option (ByteArray × Int × List Int × Bool) :=
  (num_Get.f l1).bind fun g1 => (num_Get.f (l1.drop g1.2.1.toNat)).bind fun g2 =>
    if (g1.2.2 == 0 && g2.2.2 == 0) = false then some (⟨#[]⟩, 0, [], false)
    else if g1.1 > IntKind.u64.wrap (a0.size : Int) then some (⟨#[]⟩, 0, [], false)
    else if g2.1 > IntKind.u64.wrap (((l1.drop g1.2.1.toNat).drop g2.2.1.toNat).length : Int) then some (⟨#[]⟩, 0, [], false)
    else if 0 ≤ g1.1 ∧ g1.1 ≤ a0.size ∧ 0 ≤ g2.1 ∧ g2.1 ≤ ((l1.drop g1.2.1.toNat).drop g2.2.1.toNat).length ∧ (a0.extract 0 g1.1.toNat).size + (strOfNums (((l1.drop g1.2.1.toNat).drop g2.2.1.toNat).take g2.1.toNat)).size ≤ 9223372036854775807 then
      (num_Get.f (((l1.drop g1.2.1.toNat).drop g2.2.1.toNat).drop g2.1.toNat)).bind fun g3 =>
        some (a0.extract 0 g1.1.toNat ++ strOfNums (((l1.drop g1.2.1.toNat).drop g2.2.1.toNat).take g2.1.toNat), g3.1, (((l1.drop g1.2.1.toNat).drop g2.2.1.toNat).drop g2.1.toNat).drop g3.2.1.toNat, g3.2.2 == 0)
    else none

set_option maxHeartbeats 4000000 in
set_option maxRecDepth 100000 in
theorem run_entry.calls (a0 : ByteArray) (A1 : Option Addr) (c1 : Nat) (l1 : List Int) (r1 : ByteArray) (r2 : Int) (r3 : List Int) (r4 : Bool) (w : World) (hr1 : Kd.C (Kd.int .u8) w A1 l1.length l1) (hc1 : l1.length ≤ c1) (h : run_entry.f a0 l1 = some (r1, r2, r3, r4)) :
    Calls Try.prog 42 #[.string a0, .slice A1 l1.length c1] w fun e w' => ∃ (A' : Option Addr) (c' : Nat), e = .returned (.tuple #[.agg #[.string r1, .int .u64 r2], .slice A' r3.length c', .bool r4]) ∧ r3.length ≤ c' ∧ (∀ W, Kd.C (Kd.int .u8) W A1 l1.length l1 → Kd.C (Kd.int .u8) W A' r3.length r3) ∧ Below w.heap.size w w' := by
  have HR1 := Aside0.mk hr1
  have HC1 := Aside0.mk hc1
  clear hr1 hc1
  unfold run_entry.f at h
  replace h := Option.bind_eq_some_iff.mp h
  obtain ⟨⟨n1, n2, n3⟩, G1, h⟩ := h
  replace h := Option.bind_eq_some_iff.mp h
  obtain ⟨⟨m1, m2, m3⟩, G2, h⟩ := h
  dsimp only at G2 h
  have b1 := num_Get.bounds _ _ _ _ G1
  have b2 := num_Get.bounds _ _ _ _ G2
  have G1' := Aside0.mk G1
  have G2' := Aside0.mk G2
  have B1 := Aside0.mk b1
  have B2 := Aside0.mk b2
  have H := Aside0.mk h
  clear G1 G2 b1 b2 h
  have HB := Aside0.mk (Below.refl w.heap.size w)
  go_enter Try.func42, Try.ntmps42
  go_upto_region 3 with (fail)
  have bl4 := blk_alloc (blk_alloc (blk_new w (.cells #[.string ⟨#[]⟩, .int .u64 0] 44 (0, 0))) (.cells #[.slice A1 l1.length c1] 23 (0, 0))) (.cells #[.bool true] 4 (0, 0))
  have bll := blk_alloc (blk_new (w.alloc (.cells #[.string ⟨#[]⟩, .int .u64 0] 44 (0, 0))) (.cells #[.slice A1 l1.length c1] 23 (0, 0))) (.cells #[.bool true] 4 (0, 0))
  have blo := blk_new ((w.alloc (.cells #[.string ⟨#[]⟩, .int .u64 0] 44 (0, 0))).alloc (.cells #[.slice A1 l1.length c1] 23 (0, 0))) (.cells #[.bool true] 4 (0, 0))
  rw [World.size_alloc] at bll blo
  rw [World.size_alloc] at blo
  have hb1 : Below w.heap.size w (((w.alloc (.cells #[.string ⟨#[]⟩, .int .u64 0] 44 (0, 0))).alloc (.cells #[.slice A1 l1.length c1] 23 (0, 0))).alloc (.cells #[.bool true] 4 (0, 0))) := below_alloc (below_alloc (below_alloc (Below.refl _ _) _) _) _
  obtain ⟨W1, hW1⟩ : ∃ W1, W1 = (((w.alloc (.cells #[.string ⟨#[]⟩, .int .u64 0] 44 (0, 0))).alloc (.cells #[.slice A1 l1.length c1] 23 (0, 0))).alloc (.cells #[.bool true] 4 (0, 0))) := ⟨_, rfl⟩
  rw [← hW1] at bl4 bll blo hb1 ⊢
  clear hW1
  have BL4 := Aside0.mk bl4
  have BLL := Aside0.mk bll
  have BLO := Aside0.mk blo
  have HB := Aside0.mk hb1
  clear bl4 bll blo hb1
  go_upto_region 4 with (first | (go_at_call 47; (with_reducible refine (run_entry1.calls (w.heap.size + 1) (w.heap.size + 1 + 1) (by omega) A1 c1 l1 true n1 n2 n3 W1 BLL.out BLO.out (Kd.C_below HR1.out HB.out) HC1.out G1'.out B1.out.1 B1.out.2).mono ?_); rintro e W2 ⟨rfl, hbt2, A2, c2, hl2, ho2, hc2, hC2⟩; have BL4' := Aside0.mk (hbt2.blk (by omega) (by omega) BL4.out); have HB' := Aside0.mk (hbt2.below HB.out (by omega) (by omega)); have BLL' := Aside0.mk hl2; have BLO' := Aside0.mk ho2; have HC2 := Aside0.mk hc2; have HR2 := Aside0.mk hC2; clear hbt2 hl2 ho2 hc2 hC2 BL4 BLL BLO HB) | (go_at_call 47; (with_reducible refine (run_entry1.calls (w.heap.size + 1) (w.heap.size + 1 + 1) (by omega) A2 c2 (l1.drop n2.toNat) (true && (n3 == 0)) m1 m2 m3 W2 BLL'.out BLO'.out (HR2.out _ (Kd.C_below HR1.out HB'.out)) HC2.out G2'.out B2.out.1 B2.out.2).mono ?_); rintro e W3 ⟨rfl, hbt3, A3, c3, hl3, ho3, hc3, hC3⟩; have BL4 := Aside0.mk (hbt3.blk (by omega) (by omega) BL4'.out); have HB := Aside0.mk (hbt3.below HB'.out (by omega) (by omega)); have BLL := Aside0.mk hl3; have BLO := Aside0.mk ho3; have HC3 := Aside0.mk hc3; have HR3 := Aside0.mk hC3; clear hbt3 hl3 ho3 hc3 hC3 BL4' BLL' BLO' HB'))
  have h := H.out
  clear H
  have hl3 := BLL.out
  have hc3 := HC3.out
  have hr3 := HR3.out
  clear BLL HC3 HR3
  generalize (l1.drop n2.toNat).drop m2.toNat = l3 at h hl3 hc3 hr3
  have BLL := Aside0.mk hl3
  have HC3 := Aside0.mk hc3
  have HR3 := Aside0.mk hr3
  clear hl3 hc3 hr3
  have hoo := blk_cell BLO.out 0
  have hol := blk_cell BLL.out 0
  have hfo := blk_frozen BLO.out 0
  have hfl := blk_frozen BLL.out 0
  have hf40 := blk_frozen BL4.out 0
  have hf41 := blk_frozen BL4.out 1
  have hc40 : W3.cell? ⟨w.heap.size, 0, none⟩ = some (.string ⟨#[]⟩) := blk_cell BL4.out 0
  have hc41 : W3.cell? ⟨w.heap.size, 1, none⟩ = some (.int .u64 0) := blk_cell BL4.out 1
  have hcl : W3.cell? ⟨w.heap.size + 1, 0, none⟩ = some (.slice A3 l3.length c3) := hol
  obtain ⟨b, hb⟩ : ∃ b, b = (n3 == 0 && m3 == 0) := ⟨_, rfl⟩
  have hco : W3.cell? ⟨w.heap.size + 1 + 1, 0, none⟩ = some (.bool b) := by rw [hb]; simpa using hoo
  rw [← hb] at h
  clear hoo hol
  cases b with
  | false =>
    rw [if_pos rfl] at h
    simp only [Option.some.injEq, Prod.mk.injEq] at h
    obtain ⟨rfl, rfl, rfl, rfl⟩ := h
    clear hb hcl hfl
    go_wp2
    refine bodyPost_ret (results_ctt rfl _ _ w.heap.size 44 #[.string (⟨#[]⟩ : ByteArray), .int .u64 0] (0, 0) _ rfl (by (with_reducible repeat (first | refine blk_drewN ?_ _ | refine blk_drew ?_ | refine blk_alloc ?_ _)); refine blk_put (cs := #[.string (⟨#[]⟩ : ByteArray), .int .u64 0]) ?_ 1 _ rfl; (with_reducible repeat (first | refine blk_drewN ?_ _ | refine blk_drew ?_ | refine blk_alloc ?_ _)); refine blk_put (cs := #[.string (⟨#[]⟩ : ByteArray), .int .u64 0]) ?_ 0 _ rfl; (with_reducible repeat (first | refine blk_drewN ?_ _ | refine blk_drew ?_ | refine blk_alloc ?_ _)); exact BL4.out) Try.underlying44 rfl (by kernel_rfl)) rfl ?_
    exact ⟨none, 0, rfl, Nat.le_refl _, fun W _ => Kd.C_nil _ _, by repeat (first | (with_reducible first | exact HB.out | apply below_alloc | apply pw_below_drewN | apply below_drew1 | refine below_set ?_ (Nat.le_refl _)) | exact HB.out)⟩
  | true =>
    rw [if_neg (by simp)] at h
    have blo' := BLO.out
    rw [show (true && (n3 == 0) && (m3 == 0)) = true by simpa using hb.symm] at blo'
    clear BLO
    have BLO := Aside0.mk blo'
    clear blo'
    by_cases c5 : n1 > IntKind.u64.wrap (a0.size : Int)
    · rw [if_pos c5] at h
      have c5b : decide (IntKind.u64.wrap (a0.size : Int) < n1) = true := decide_eq_true c5
      simp only [Option.some.injEq, Prod.mk.injEq] at h
      obtain ⟨rfl, rfl, rfl, rfl⟩ := h
      clear hb hcl hfl c5
      go_wp2
      refine bodyPost_ret (results_ctt rfl _ _ w.heap.size 44 #[.string (⟨#[]⟩ : ByteArray), .int .u64 0] (0, 0) _ rfl (by (with_reducible repeat (first | refine blk_drewN ?_ _ | refine blk_drew ?_ | refine blk_alloc ?_ _)); refine blk_put (cs := #[.string (⟨#[]⟩ : ByteArray), .int .u64 0]) ?_ 1 _ rfl; (with_reducible repeat (first | refine blk_drewN ?_ _ | refine blk_drew ?_ | refine blk_alloc ?_ _)); refine blk_put (cs := #[.string (⟨#[]⟩ : ByteArray), .int .u64 0]) ?_ 0 _ rfl; (with_reducible repeat (first | refine blk_drewN ?_ _ | refine blk_drew ?_ | refine blk_alloc ?_ _)); exact BL4.out) Try.underlying44 rfl (by kernel_rfl)) rfl ?_
      exact ⟨none, 0, rfl, Nat.le_refl _, fun W _ => Kd.C_nil _ _, by repeat (first | (with_reducible first | exact HB.out | apply below_alloc | apply pw_below_drewN | apply below_drew1 | refine below_set ?_ (Nat.le_refl _)) | exact HB.out)⟩
    rw [if_neg c5] at h
    have c5b : decide (IntKind.u64.wrap (a0.size : Int) < n1) = false := decide_eq_false c5
    clear c5
    by_cases c6 : m1 > IntKind.u64.wrap (l3.length : Int)
    · rw [if_pos c6] at h
      have c6b : decide (IntKind.u64.wrap (l3.length : Int) < m1) = true := decide_eq_true c6
      simp only [Option.some.injEq, Prod.mk.injEq] at h
      obtain ⟨rfl, rfl, rfl, rfl⟩ := h
      clear hb c6
      go_wp2
      refine bodyPost_ret (results_ctt rfl _ _ w.heap.size 44 #[.string (⟨#[]⟩ : ByteArray), .int .u64 0] (0, 0) _ rfl (by (with_reducible repeat (first | refine blk_drewN ?_ _ | refine blk_drew ?_ | refine blk_alloc ?_ _)); refine blk_put (cs := #[.string (⟨#[]⟩ : ByteArray), .int .u64 0]) ?_ 1 _ rfl; (with_reducible repeat (first | refine blk_drewN ?_ _ | refine blk_drew ?_ | refine blk_alloc ?_ _)); refine blk_put (cs := #[.string (⟨#[]⟩ : ByteArray), .int .u64 0]) ?_ 0 _ rfl; (with_reducible repeat (first | refine blk_drewN ?_ _ | refine blk_drew ?_ | refine blk_alloc ?_ _)); exact BL4.out) Try.underlying44 rfl (by kernel_rfl)) rfl ?_
      exact ⟨none, 0, rfl, Nat.le_refl _, fun W _ => Kd.C_nil _ _, by repeat (first | (with_reducible first | exact HB.out | apply below_alloc | apply pw_below_drewN | apply below_drew1 | refine below_set ?_ (Nat.le_refl _)) | exact HB.out)⟩
    rw [if_neg c6] at h
    have c6b : decide (IntKind.u64.wrap (l3.length : Int) < m1) = false := decide_eq_false c6
    clear c6
    by_cases c7 : 0 ≤ n1 ∧ n1 ≤ a0.size ∧ 0 ≤ m1 ∧ m1 ≤ l3.length ∧ (a0.extract 0 n1.toNat).size + (strOfNums (l3.take m1.toNat)).size ≤ 9223372036854775807
    · rw [if_pos c7] at h
      obtain ⟨d0, d1, d2, d3, d4⟩ := c7
      replace h := Option.bind_eq_some_iff.mp h
      obtain ⟨⟨p1, p2, p3⟩, G3, h⟩ := h
      dsimp only at G3 h
      have b3 := num_Get.bounds _ _ _ _ G3
      have B3 := Aside0.mk b3
      have G3' := Aside0.mk G3
      have H := Aside0.mk h
      clear G3 b3 h hb
      go_upto_region 6 with (fail)
      obtain ⟨i0, hi0, _, hsz, _⟩ := info_parts info5
      obtain ⟨hcut, hA, hC⟩ := print_take_of (P := Try.prog) (Value.int .u8) 0 23 5 .u64 Try.underlying23 hi0 hsz A3 c3 l3 m1 d2 d3 HC3.out
      obtain ⟨A4, hcut4, hA4, hC4⟩ := print_drop_of (P := Try.prog) (Value.int .u8) 0 23 5 .u64 Try.underlying23 hi0 hsz A3 c3 l3 m1 d2 d3 HC3.out
      have HR4 : Aside0 (∀ W, Kd.C (Kd.int .u8) W A3 l3.length l3 → Kd.C (Kd.int .u8) W A4 (l3.drop m1.toNat).length (l3.drop m1.toNat)) := Aside0.mk (fun W => fun h : Kd.C (Kd.int .u8) W A3 l3.length l3 => Kd.C_of_reads (h1 := fun _ => rfl) (hA4 W (Kd.reads_of_C h)))
      have HC4 := Aside0.mk hC4
      have HRt : Aside0 (Kd.C (Kd.int .u8) W3 A3 (l3.take m1.toNat).length (l3.take m1.toNat)) := Aside0.mk (Kd.C_of_reads (h1 := fun _ => rfl) (hA _ (Kd.reads_of_C (HR3.out _ (HR2.out _ (Kd.C_below HR1.out HB.out))))))
      clear hA hC hA4 hC4 hi0 hsz
      have el : (l3.take m1.toNat).length = m1.toNat := by rw [List.length_take]; omega
      have hcvA := Kd.C_string (P := Try.prog) (c := c3) Try.underlying23 Try.underlying5 Try.underlying9 (Kd.C_drew HRt.out)
      have hcvB := Kd.C_string (P := Try.prog) (c := c3) Try.underlying23 Try.underlying5 Try.underlying9 (Kd.C_drew (Kd.C_alloc HRt.out (.cells #[.string ⟨#[]⟩, .int .u64 0] 44 (0, 0))))
      rw [el] at hcvA hcvB
      have hclB : ((W3.alloc (.cells #[.string ⟨#[]⟩, .int .u64 0] 44 (0, 0))).drew).cell? ⟨w.heap.size + 1, 0, none⟩ = some (.slice A3 l3.length c3) := blk_cell (blk_drew (blk_alloc BLL.out _)) 0
      obtain ⟨X, hX⟩ : ∃ X, X = a0.extract 0 n1.toNat ++ strOfNums (l3.take m1.toNat) := ⟨_, rfl⟩
      have HX := Aside0.mk hX
      have bl12 := blk_drew (blk_new W3 (.cells #[.string X, .int .u64 0] 44 (0, 0)))
      have bll4 := blk_drew (blk_alloc BLL.out (.cells #[.string X, .int .u64 0] 44 (0, 0)))
      have blo4 := blk_drew (blk_alloc BLO.out (.cells #[.string X, .int .u64 0] 44 (0, 0)))
      have bl44 := blk_drew (blk_alloc BL4.out (.cells #[.string X, .int .u64 0] 44 (0, 0)))
      have hb4 := below_drew1 (below_alloc HB.out (.cells #[.string X, .int .u64 0] 44 (0, 0)))
      have hlt := Aside0.mk (blk_lt BLO.out)
      have BL12 := Aside0.mk bl12
      have BLL4 := Aside0.mk bll4
      have BLO4 := Aside0.mk blo4
      have BL44 := Aside0.mk bl44
      have HB4 := Aside0.mk hb4
      clear bl12 bll4 blo4 bl44 hb4 hX
      go_region
      all_goals
        rw [← HX.out]
        clear hcvA hcvB hclB hco hcl hc40 hc41 hfo hfl hf40 hf41 BL4 BLL BLO HB
        have BL12_ := BL12.out
        have BLL4_ := BLL4.out
        have BLO4_ := BLO4.out
        have BL44_ := BL44.out
        have HB4_ := HB4.out
        clear BL12 BLL4 BLO4 BL44 HB4
        generalize hW4 : (W3.alloc (.cells #[.string X, .int .u64 0] 44 (0, 0))).drew = W4 at BL12_ BLL4_ BLO4_ BL44_ HB4_ ⊢
        clear hW4
        have hc := blk_cell BLL4_ 0
        have hc' : W4.cell? ⟨w.heap.size + 1, 0, none⟩ = some (.slice A3 l3.length c3) := hc
        have hf := blk_frozen BLL4_ 0
        clear hc
        have BL12 := Aside0.mk BL12_
        have BLL4 := Aside0.mk BLL4_
        have BLO4 := Aside0.mk BLO4_
        have BL44 := Aside0.mk BL44_
        have HB4 := Aside0.mk HB4_
        clear BL12_ BLL4_ BLO4_ BL44_ HB4_
        go_upto_region 8 with (fail)
        have BL12_ := blk_far BL12.out (p := ⟨w.heap.size + 1, 0, none⟩) (by have := hlt.out; simp; omega) (.slice A4 (l3.length - m1.toNat) (c3 - m1.toNat))
        have BLL_ := blk_set BLL4.out 0 (.slice A4 (l3.length - m1.toNat) (c3 - m1.toNat))
        have BLO_ := blk_far BLO4.out (p := ⟨w.heap.size + 1, 0, none⟩) (by simp) (.slice A4 (l3.length - m1.toNat) (c3 - m1.toNat))
        have BL4_ := blk_far BL44.out (p := ⟨w.heap.size + 1, 0, none⟩) (by simp) (.slice A4 (l3.length - m1.toNat) (c3 - m1.toNat))
        have HB_ := below_set (j := 0) (v := .slice A4 (l3.length - m1.toNat) (c3 - m1.toNat)) HB4.out (show w.heap.size ≤ w.heap.size + 1 by omega)
        clear hc' hf BL12 BLL4 BLO4 BL44 HB4
        generalize hW5 : W4.setCell ⟨w.heap.size + 1, 0, none⟩ (.slice A4 (l3.length - m1.toNat) (c3 - m1.toNat)) = W5 at BL12_ BLL_ BLO_ BL4_ HB_ ⊢
        clear hW5
        rw [show l3.length - m1.toNat = (l3.drop m1.toNat).length from List.length_drop.symm] at BLL_
        replace BLL_ : W5.heap[w.heap.size + 1]? = some (.cells #[.slice A4 (l3.drop m1.toNat).length (c3 - m1.toNat)] 23 (0, 0)) := BLL_
        have BL12 := Aside0.mk BL12_
        have BLL := Aside0.mk BLL_
        have BLO := Aside0.mk BLO_
        have BL4 := Aside0.mk BL4_
        have HB := Aside0.mk HB_
        clear BL12_ BLL_ BLO_ BL4_ HB_
        go_upto_region 9 with (go_at_call 47; (with_reducible refine (run_entry1.calls (w.heap.size + 1) (w.heap.size + 1 + 1) (by omega) A4 (c3 - m1.toNat) (l3.drop m1.toNat) true p1 p2 p3 W5 BLL.out BLO.out (HR4.out _ (HR3.out _ (HR2.out _ (Kd.C_below HR1.out HB.out)))) HC4.out G3'.out B3.out.1 B3.out.2).mono ?_); rintro e W6 ⟨rfl, hbt6, A6, c6, hl6, ho6, hc6, hC6⟩; have BL4' := Aside0.mk (hbt6.blk (by omega) (by omega) BL4.out); have BL12' := Aside0.mk (hbt6.blk (by have := hlt.out; omega) (by have := hlt.out; omega) BL12.out); have HB' := Aside0.mk (hbt6.below HB.out (by omega) (by omega)); have BLL' := Aside0.mk hl6; have BLO' := Aside0.mk ho6; have HC6 := Aside0.mk hc6; have HR6 := Aside0.mk hC6; clear hbt6 hl6 ho6 hc6 hC6 BL4 BL12 BLL BLO HB; have hx0 : W6.cell? ⟨W3.heap.size, 0, none⟩ = some (.string X) := blk_cell BL12'.out 0; have hx1 : W6.cell? ⟨W3.heap.size, 1, none⟩ = some (.int .u64 0) := blk_cell BL12'.out 1; have hy0 := blk_frozen BL12'.out 0; have hy1 := blk_frozen BL12'.out 1)
        have BL12_ := blk_set BL12'.out 1 (.int .u64 p1)
        have BLL_ := blk_far BLL'.out (p := ⟨W3.heap.size, 1, none⟩) (by have := hlt.out; simp; omega) (.int .u64 p1)
        have BLO_ := blk_far BLO'.out (p := ⟨W3.heap.size, 1, none⟩) (by have := hlt.out; simp; omega) (.int .u64 p1)
        have BL4_ := blk_far BL4'.out (p := ⟨W3.heap.size, 1, none⟩) (by have := hlt.out; simp; omega) (.int .u64 p1)
        have HB_ := below_set (j := 1) (v := .int .u64 p1) HB'.out (show w.heap.size ≤ W3.heap.size by have := hlt.out; omega)
        clear hx0 hx1 hy0 hy1 BL12' BLL' BLO' BL4' HB'
        generalize hW7 : W6.setCell ⟨W3.heap.size, 1, none⟩ (.int .u64 p1) = W7 at BL12_ BLL_ BLO_ BL4_ HB_ ⊢
        clear hW7
        have hx0 : W7.cell? ⟨W3.heap.size, 0, none⟩ = some (.string X) := blk_cell BL12_ 0
        have hx1 : W7.cell? ⟨W3.heap.size, 1, none⟩ = some (.int .u64 p1) := blk_cell BL12_ 1
        have hxl : W7.cell? ⟨w.heap.size + 1, 0, none⟩ = some (.slice A6 ((l3.drop m1.toNat).drop p2.toNat).length c6) := blk_cell BLL_ 0
        have hxo : W7.cell? ⟨w.heap.size + 1 + 1, 0, none⟩ = some (.bool (p3 == 0)) := by have := blk_cell BLO_ 0; simpa using this
        have hz0 : W7.cell? ⟨w.heap.size, 0, none⟩ = some (.string ⟨#[]⟩) := blk_cell BL4_ 0
        have hz1 : W7.cell? ⟨w.heap.size, 1, none⟩ = some (.int .u64 0) := blk_cell BL4_ 1
        have hf0 := blk_frozen BL4_ 0
        have hf1 := blk_frozen BL4_ 1
        have BL4 := Aside0.mk BL4_
        have HB := Aside0.mk HB_
        clear BL12_ BLL_ BLO_ BL4_ HB_
        have h := H.out
        simp only [Option.some.injEq, Prod.mk.injEq] at h
        rw [← HX.out] at h
        have hr7 := fun W hW => HR6.out W (HR4.out W (HR3.out W (HR2.out W hW)))
        have hc6 := HC6.out
        clear HR6 HC6
        obtain ⟨l5, hl5⟩ : ∃ l5, l5 = (l3.drop m1.toNat).drop p2.toNat := ⟨_, rfl⟩
        rw [← hl5] at h hxl hr7 hc6
        clear hl5
        have HR7 := Aside0.mk hr7
        have HC6 := Aside0.mk hc6
        clear hr7 hc6
        obtain ⟨rfl, rfl, rfl, rfl⟩ := h
        clear H
        go_region
        all_goals
          go_wp2
          refine bodyPost_ret (results_ctt rfl _ _ w.heap.size 44 #[.string X, .int .u64 p1] (0, 0) _ rfl (by (with_reducible repeat (first | refine blk_drewN ?_ _ | refine blk_drew ?_ | refine blk_alloc ?_ _)); refine blk_put (cs := #[.string X, .int .u64 0]) ?_ 1 _ rfl; (with_reducible repeat (first | refine blk_drewN ?_ _ | refine blk_drew ?_ | refine blk_alloc ?_ _)); refine blk_put (cs := #[.string (⟨#[]⟩ : ByteArray), .int .u64 0]) ?_ 0 _ rfl; (with_reducible repeat (first | refine blk_drewN ?_ _ | refine blk_drew ?_ | refine blk_alloc ?_ _)); exact BL4.out) Try.underlying44 rfl (by kernel_rfl)) rfl ?_
          exact ⟨_, _, rfl, HC6.out, HR7.out, by repeat (first | (with_reducible first | exact HB.out | apply below_alloc | apply pw_below_drewN | apply below_drew1 | refine below_set ?_ (Nat.le_refl _)) | exact HB.out)⟩
    · rw [if_neg c7] at h
      exact absurd h (by simp)

def run_unblock.go : Nat → ByteArray → List Int → List S44 → Option (List S44 × Bool)
  | 0, _, left, acc => some (acc, left.length == 0)
  | n + 1, was, left, acc => (run_entry.f was left).bind fun r => if r.2.2.2 = false then some ([], false) else if acc.length < 5864062014805 then run_unblock.go n r.1 r.2.2.1 (acc ++ [⟨r.1, r.2.1⟩]) else none
def run_unblock.f (l0 : List Int) : Option (List S44 × Bool) :=
  (num_Get.f l0).bind fun g => if g.2.2 ≠ 0 then some ([], false) else if g.1 > 255 then some ([], false) else if 0 ≤ g.1 then run_unblock.go g.1.toNat ⟨#[]⟩ (l0.drop g.2.1.toNat) [] else none

set_option maxHeartbeats 4000000 in
set_option maxRecDepth 100000 in
theorem run_unblock.calls (A0 : Option Addr) (c0 : Nat) (l0 : List Int) (r1 : List S44) (r2 : Bool) (w : World) (hr0 : Kd.C (Kd.int .u8) w A0 l0.length l0) (hc0 : l0.length ≤ c0) (h : run_unblock.f l0 = some (r1, r2)) :
    Calls Try.prog 28 #[.slice A0 l0.length c0] w fun e w' => ∃ v0_ : Value, e = .returned (.tuple #[v0_, .bool r2]) ∧ Kd.R k44 44 w' w.heap.size (fun _ => True) v0_ r1 ∧ Below w.heap.size w w' := by
  have HR0 := Aside0.mk hr0
  have HC0 := Aside0.mk hc0
  clear hr0 hc0
  unfold run_unblock.f at h
  replace h := Option.bind_eq_some_iff.mp h
  obtain ⟨⟨n1, n2, n3⟩, G1, h⟩ := h
  dsimp only at h
  have b1 := num_Get.bounds _ _ _ _ G1
  have G1' := Aside0.mk G1
  have B1 := Aside0.mk b1
  have H := Aside0.mk h
  clear G1 b1 h
  have HB := Aside0.mk (Below.refl w.heap.size w)
  go_enter Try.func28, Try.ntmps28
  go_upto_region 2 with (go_at_call 27; refine (num_Get.calls A0 c0 l0 n1 n2 n3 _ HR0.out HC0.out G1'.out).mono ?_; rintro e w' ⟨rfl, ⟨nd, rfl⟩⟩)
  have h := H.out
  clear H
  by_cases c3 : n3 = 0
  · rw [if_neg (by simpa using c3)] at h
    have c3b : (n3 != 0) = false := by simpa using c3
    clear c3
    by_cases c4 : n1 > 255
    · rw [if_pos c4] at h
      have c4b : decide (255 < n1) = true := decide_eq_true c4
      clear c4
      simp only [Option.some.injEq, Prod.mk.injEq] at h
      obtain ⟨rfl, rfl⟩ := h
      go_wp2
      go_ret2
      exact ⟨_, rfl, Kd.R_nil _ _ _ _ _, pw_below_drewN HB.out _⟩
    · rw [if_neg c4] at h
      have c4b : decide (255 < n1) = false := decide_eq_false c4
      have c4' := Aside0.mk c4
      clear c4
      by_cases c5 : 0 ≤ n1
      · rw [if_pos c5] at h
        have H := Aside0.mk h
        have C5 := Aside0.mk c5
        clear h c5
        obtain ⟨i0, hi0, _, hsz, _⟩ := info_parts info5
        obtain ⟨A2, hcut2, hA2, hC2⟩ := print_drop_of (P := Try.prog) (Value.int .u8) 0 23 5 .i64 Try.underlying23 hi0 hsz A0 c0 l0 n2 B1.out.1 B1.out.2 HC0.out
        have HR2 : Aside0 (Kd.C (Kd.int .u8) w A2 (l0.drop n2.toNat).length (l0.drop n2.toNat)) := Aside0.mk (Kd.C_of_reads (h1 := fun _ => rfl) (hA2 w (Kd.reads_of_C HR0.out)))
        have HC2 := Aside0.mk hC2
        clear hA2 hC2 hi0 hsz
        have b1 := B1.out.1
        have b2 := B1.out.2
        go_upto_region 5 with (fail)
        go_region
        go_wp2
        go_loopg [7, 8, 9, 29] n1.toNat (fun kq v7 v8 v9 v29 w' => ∃ (x7 : List S44) (x8 : ByteArray) (x9 : List Int) (x29 : Int) (A9 : Option Addr) (c9 : Nat), v8 = .string x8 ∧ v9 = .slice A9 x9.length c9 ∧ v29 = .int .u64 x29 ∧ Aside0 (x29 = n1 - kq) ∧ Aside0 (kq ≤ n1.toNat) ∧ Aside0 (run_unblock.go kq x8 x9 x7 = some (r1, r2)) ∧ Aside0 (x9.length ≤ c9) ∧ Aside0 (Kd.C (Kd.int .u8) w A9 x9.length x9) ∧ Aside0 (Kd.R k44 44 w' w.heap.size (fun _ => True) v7 x7) ∧ Aside0 (Below w.heap.size w w'))
        case atStart => exact ⟨[], ⟨#[]⟩, l0.drop n2.toNat, 0, A2, c0 - n2.toNat, rfl, by rw [List.length_drop], rfl, ⟨by have := C5.out; omega⟩, ⟨Nat.le_refl _⟩, H, HC2, HR2, ⟨Kd.R_nil _ _ _ _ _⟩, ⟨pw_below_drewN HB.out _⟩⟩
        case round =>
          clear H HC2 HR2 HB hcut2
          obtain ⟨x7, x8, x9, x29, A9, c9, rfl, rfl, rfl, E29, K9, H, HC9, HR9, HO, HB⟩ := hrel
          cases gk with
          | zero =>
            have hlt : decide (x29 < n1) = false := by have := E29.out; simp; omega
            have h := H.out
            simp only [run_unblock.go, Option.some.injEq, Prod.mk.injEq] at h
            obtain ⟨rfl, hr2⟩ := h
            have hr2' : (((x9.length : Nat) : Int) == 0) = r2 := by rw [← hr2]; cases x9 <;> simp <;> omega
            clear hr2 H
            go_wp2
            go_ret2
            exact ⟨_, rfl, HO.out, HB.out⟩
          | succ k1 =>
            have hlt : decide (x29 < n1) = true := by have := E29.out; have := K9.out; simp; omega
            have h := H.out
            clear H
            simp only [run_unblock.go] at h
            replace h := Option.bind_eq_some_iff.mp h
            obtain ⟨⟨e1, e2, e3, e4⟩, G, h⟩ := h
            dsimp only at h
            have G := Aside0.mk G
            have H := Aside0.mk h
            clear h
            go_upto_region 9 with (go_at_call 42; (refine (run_entry.calls x8 A9 c9 x9 e1 e2 e3 e4 _ (Kd.C_below HR9.out HB.out) HC9.out G.out).mono ?_); rintro e w1 ⟨A3, c3, rfl, hc3, hr3, hb⟩; have HC3 := Aside0.mk hc3; have HR3 := Aside0.mk (hr3 _ HR9.out); have HB1 := Aside0.mk hb; clear hc3 hr3 hb)
            have bk := blk_new w1 (.cells #[.string e1, .int .u64 e2] 44 (0, 0))
            have ho2 := Kd.R_alloc (Kd.R_elderB (Kd.R_below HO.out HB1.out) w1.heap.size (Nat.le_refl _)) (.cells #[.string e1, .int .u64 e2] 44 (0, 0))
            have hb2 := below_alloc (below_step HB.out HB1.out) (.cells #[.string e1, .int .u64 e2] 44 (0, 0))
            have hg2 : w.heap.size ≤ w1.heap.size := (below_step HB.out HB1.out).size
            generalize hg : w1.heap.size = g at *
            generalize hW2 : w1.alloc (.cells #[.string e1, .int .u64 e2] 44 (0, 0)) = W2 at *
            clear hW2 hg
            have hc0 : W2.cell? ⟨g, 0, none⟩ = some (.string e1) := blk_cell bk 0
            have hc1 : W2.cell? ⟨g, 1, none⟩ = some (.int .u64 e2) := blk_cell bk 1
            have BK := Aside0.mk bk
            have HO2 := Aside0.mk ho2
            have HB2 := Aside0.mk hb2
            have HG := Aside0.mk hg2
            clear bk ho2 hb2 hg2 HB1 HB HO
            have h := H.out
            clear H
            cases e4 with
            | false =>
              rw [if_pos rfl] at h
              simp only [Option.some.injEq, Prod.mk.injEq] at h
              obtain ⟨rfl, rfl⟩ := h
              go_wp2
              go_ret2
              exact ⟨_, rfl, Kd.R_nil _ _ _ _ _, HB2.out⟩
            | true =>
              rw [if_neg (by simp)] at h
              by_cases c6 : x7.length < 5864062014805
              · rw [if_pos c6] at h
                have LM := Aside0.mk c6
                have H := Aside0.mk h
                clear h c6
                have hw : IntKind.u64.wrap (x29 + 1) = n1 - k1 := by
                  have := E29.out
                  have := K9.out
                  have := C5.out
                  have := c4'.out
                  simp [IntKind.wrap, IntKind.bits, IntKind.signed]
                  omega
                have HW := Aside0.mk hw
                clear hw
                go_wp2_with ((with_reducible refine gate_builtin (b := .append) (xs := #[.tmp 40, .tmp 42]) rfl ?_); at_builtin; refine Kd.R_append k44 (w0 := w) w.heap.size rfl (.tmp 40) (.tmp 42) 22 44 (.agg #[(.string ⟨#[]⟩), (.int .u64 0)]) 24 rfl Try.underlying22 info44 rfl (by decide) (by omega) u7 x7 (⟨e1, e2⟩ : S44) [.string e1, .int .u64 e2] (fun k_ => k_ ≠ g) (fun _ => False) rfl (by first | (go_simp; done) | (go_simp; rfl)) ?aP (fun _ hk => hk.elim) ?aF ?aO ?aB ?aS ?aL ?_; (case aP => exact k44_mkM _ _ _ (⟨e1, e2⟩ : S44)); (case aB => exact (by repeat (first | (with_reducible first | exact HB2.out | apply below_alloc | apply pw_below_drewN | apply below_drew1) | exact HB2.out))); (case aF => exact (fun k_ hk => Kd.freshB (g := g) (o := .cells #[.string e1, .int .u64 e2] 44 (0, 0)) (by (with_reducible repeat (first | refine blk_drewN ?_ _ | refine blk_drew ?_ | refine blk_alloc ?_ _)); exact BK.out) k_ hk)); (case aO => exact (by (with_reducible repeat (first | apply Kd.R_alloc | apply Kd.R_drewN | apply Kd.R_drew)); exact Kd.R_mono HO2.out (fun _ hk => hk.2))); (case aS => exact (below_size (by repeat (first | (with_reducible first | exact HB2.out | apply below_alloc | apply pw_below_drewN | apply below_drew1) | exact HB2.out)))); (case aL => have := LM.out; omega); intro v8_ w3 ho hb hg hat; have BK3 := Aside0.mk (blk_grown (g := g) (o := .cells #[.string e1, .int .u64 e2] 44 (0, 0)) (by (with_reducible repeat (first | refine blk_drewN ?_ _ | refine blk_drew ?_ | refine blk_alloc ?_ _)); exact BK.out) hg (Kd.R_away HO2.out (fun _ hk => hk.2))); have HO3 := Aside0.mk ho; have HB3 := Aside0.mk hb; clear ho hb hg hat BK HO2 HB2; have hcz0 : w3.cell? ⟨g, 0, none⟩ = some (.string e1) := blk_cell BK3.out 0; have hcz1 : w3.cell? ⟨g, 1, none⟩ = some (.int .u64 e2) := blk_cell BK3.out 1)
                go_roundg k1
                case measure => have := K9.out; omega
                case rel => exact ⟨x7 ++ [⟨e1, e2⟩], e1, e3, _, A3, c3, rfl, rfl, rfl, HW, ⟨by have := K9.out; omega⟩, H, HC3, HR3, ⟨by (with_reducible repeat (first | apply Kd.R_alloc | apply Kd.R_drewN | apply Kd.R_drew)); exact Kd.R_mono HO3.out (fun _ hk => trivial)⟩, ⟨by repeat (first | (with_reducible first | exact HB3.out | apply below_alloc | apply pw_below_drewN | apply below_drew1) | exact HB3.out)⟩⟩
              · rw [if_neg c6] at h
                exact absurd h (by simp)
      · rw [if_neg c5] at h
        exact absurd h (by simp)
  · rw [if_pos c3] at h
    have c3b : (n3 != 0) = true := by simpa using c3
    clear c3
    simp only [Option.some.injEq, Prod.mk.injEq] at h
    obtain ⟨rfl, rfl⟩ := h
    go_wp2
    go_ret2
    exact ⟨_, rfl, Kd.R_nil _ _ _ _ _, pw_below_drewN HB.out _⟩

/-! ### run_Decode: function 13 -/
mutual
def run_Decode.j0 : Nat → List Int → List (List Int) → Int → Bool → Option ((List (S44)) × Int)
  | 0, _, _, _, _ => none
  | k + 1, x0, x4, x6, x36 => if x36 = true then (some (([] : List (S44)), 2)) else (if 1 ≤ (wrap64 ((x4.length : Int) - 1)) then (if (wrap64 ((x4.length : Int) - 1)) ≤ (x4.length : Int) then ((some ((x4.take ((wrap64 ((x4.length : Int) - 1)) : Int).toNat).drop 1 : List (List Int))).bind fun y187 => (run_Decode.l0 k x0 x6 ([] : List (S44)) y187 (y187.length : Int) 0)) else (none)) else (none))
def run_Decode.l0 : Nat → List Int → Int → List (S44) → List (List Int) → Int → Int → Option ((List (S44)) × Int)
  | 0, _, _, _, _, _, _ => none
  | k + 1, x0, x6, x9, x41, x42, x43 => if x43 < x42 then (if 0 ≤ x43 then (if x43 < (x41.length : Int) then ((run_unblock.f (rd_L4 x41 x43)).bind fun bt192 => (if bt192.2 = true then (if x9.length + bt192.1.length < 5864062014805 then (run_Decode.l0 k x0 x6 (x9 ++ bt192.1) x41 x42 (wrap64 (x43 + 1))) else (none)) else (some (([] : List (S44)), 2)))) else (none)) else (none)) else ((run_Encode.f k x9 (wrap64 (x6))).bind fun bt199 => (if bt199.2 = 0 then ((bytes_Equal.f bt199.1 x0).bind fun t203 => (if t203 = true then (some (x9, 0)) else (some (([] : List (S44)), 2)))) else (some (([] : List (S44)), 2))))
end
def run_Decode.f (k : Nat) (l0 : List Int) : Option ((List (S44)) × Int) := (frame_Scan.f k l0).bind fun bt179 => (if (bt179.1.length : Int) < 2 then (some (([] : List (S44)), 2)) else (if 0 < (bt179.1.length : Int) then ((num_Get.f (rd_L4 bt179.1 0)).bind fun bt184 => (if bt184.2.2 = 0 then (run_Decode.j0 k l0 bt179.1 bt184.1 (decide (bt184.1 > 255))) else (run_Decode.j0 k l0 bt179.1 bt184.1 true))) else (none)))
theorem run_Decode.mono_l : ∀ k, (∀ y0 y1 y2 y3, LeO (run_Decode.j0 k y0 y1 y2 y3) (run_Decode.j0 (k + 1) y0 y1 y2 y3)) ∧ (∀ y0 y1 y2 y3 y4 y5, LeO (run_Decode.l0 k y0 y1 y2 y3 y4 y5) (run_Decode.l0 (k + 1) y0 y1 y2 y3 y4 y5))
  | 0 => ⟨fun _ _ _ _ r h => by simp [run_Decode.j0] at h, fun _ _ _ _ _ _ r h => by simp [run_Decode.l0] at h⟩
  | k + 1 => by
    obtain ⟨ih0, ih1⟩ := run_Decode.mono_l k
    refine ⟨?_, ?_⟩
    · intro y0 y1 y2 y3
      unfold run_Decode.j0
      repeat' first
      | (with_reducible exact ih0 _ _ _ _)
      | (with_reducible exact ih1 _ _ _ _ _ _)
      | (with_reducible exact frame_Scan.mono _ _)
      | (with_reducible exact run_Encode.mono _ _ _)
      | (with_reducible exact LeO.refl _)
      | (with_reducible exact LeO.none _)
      | (with_reducible refine LeO.ite ?_ ?_)
      | (with_reducible refine LeO.bind ?_ (fun _ => ?_))
      | exact ih0 _ _ _ _
      | exact ih1 _ _ _ _ _ _
      | exact frame_Scan.mono _ _
      | exact run_Encode.mono _ _ _
      | exact LeO.none _
      | refine LeO.ite ?_ ?_
      | refine LeO.bind ?_ (fun _ => ?_)
    · intro y0 y1 y2 y3 y4 y5
      unfold run_Decode.l0
      repeat' first
      | (with_reducible exact ih0 _ _ _ _)
      | (with_reducible exact ih1 _ _ _ _ _ _)
      | (with_reducible exact frame_Scan.mono _ _)
      | (with_reducible exact run_Encode.mono _ _ _)
      | (with_reducible exact LeO.refl _)
      | (with_reducible exact LeO.none _)
      | (with_reducible refine LeO.ite ?_ ?_)
      | (with_reducible refine LeO.bind ?_ (fun _ => ?_))
      | exact ih0 _ _ _ _
      | exact ih1 _ _ _ _ _ _
      | exact frame_Scan.mono _ _
      | exact run_Encode.mono _ _ _
      | exact LeO.none _
      | refine LeO.ite ?_ ?_
      | refine LeO.bind ?_ (fun _ => ?_)
theorem run_Decode.mono : ∀ a0 k, LeO (run_Decode.f k a0) (run_Decode.f (k + 1) a0) := by
  intro a0 k
  obtain ⟨ih0, ih1⟩ := run_Decode.mono_l k
  unfold run_Decode.f
  repeat' first
      | (with_reducible exact ih0 _ _ _ _)
      | (with_reducible exact ih1 _ _ _ _ _ _)
      | (with_reducible exact frame_Scan.mono _ _)
      | (with_reducible exact run_Encode.mono _ _ _)
      | (with_reducible exact LeO.refl _)
      | (with_reducible exact LeO.none _)
      | (with_reducible refine LeO.ite ?_ ?_)
      | (with_reducible refine LeO.bind ?_ (fun _ => ?_))
      | exact ih0 _ _ _ _
      | exact ih1 _ _ _ _ _ _
      | exact frame_Scan.mono _ _
      | exact run_Encode.mono _ _ _
      | exact LeO.none _
      | refine LeO.ite ?_ ?_
      | refine LeO.bind ?_ (fun _ => ?_)
set_option maxHeartbeats 8000000 in
set_option maxRecDepth 100000 in
theorem run_Decode.calls (k : Nat) (A0 : Option Addr) (c0 : Nat) (l0 : List Int) (r1 : List (S44)) (r2 : Int) (w : World) (hr0 : Kd.C (Kd.int .u8) w A0 l0.length l0) (hc0 : l0.length ≤ c0) (h : run_Decode.f k l0 = some (r1, r2)) :
    Calls Try.prog 13 #[.slice A0 l0.length c0] w fun e w' => ∃ v0_ : Value, e = .returned (.tuple #[v0_, .int .i64 r2]) ∧ Kd.R k44 44 w' w.heap.size (fun _ => True) v0_ r1 ∧ Below w.heap.size w w' := by
  have HR0 := Aside0.mk hr0
  have HC0 := Aside0.mk hc0
  clear hr0 hc0
  have HB := Aside0.mk (Below.refl w.heap.size w)
  have H : ((frame_Scan.f k l0).bind fun bt179 => (if (bt179.1.length : Int) < 2 then (some (([] : List (S44)), 2)) else (if 0 < (bt179.1.length : Int) then ((num_Get.f (rd_L4 bt179.1 0)).bind fun bt184 => (if bt184.2.2 = 0 then (run_Decode.j0 k l0 bt179.1 bt184.1 (decide (bt184.1 > 255))) else (run_Decode.j0 k l0 bt179.1 bt184.1 true))) else (none)))) = some (r1, r2) := h
  clear h
  replace H := Option.bind_eq_some_iff.mp H
  obtain ⟨⟨t179, t180⟩, A20, H⟩ := H
  replace H : (if (t179.length : Int) < 2 then (some (([] : List (S44)), 2)) else (if 0 < (t179.length : Int) then ((num_Get.f (rd_L4 t179 0)).bind fun bt184 => (if bt184.2.2 = 0 then (run_Decode.j0 k l0 t179 bt184.1 (decide (bt184.1 > 255))) else (run_Decode.j0 k l0 t179 bt184.1 true))) else (none))) = some (r1, r2) := H
  have A2 := Aside0.mk A20
  clear A20
  by_cases c3 : (t179.length : Int) < 2
  · rw [if_pos c3] at H
    have c3b0 : decide ((t179.length : Int) < 2) = true := decide_eq_true c3
    have c3b1 : decide (t179.length < 2) = true := decide_eq_true (by omega)
    clear c3
    simp only [Option.some.injEq, Prod.mk.injEq] at H
    obtain ⟨rfl, rfl⟩ := H
    go_enter Try.func13, Try.ntmps13
    go_wp2_with (first | ((with_reducible refine gate_callee (f := 26) rfl ?_); refine goesL_ (some 17) rfl rfl Try.func26 (by kernel_rfl) rfl #[.slice A0 l0.length c0] rfl (by (try simp only [List.map_toArray, List.map_cons, List.map_nil]); first | done | rfl | (simp only [List.length_drop, List.length_take]; rfl)) ?_; (with_reducible refine (frame_Scan.calls k _ _ l0 t179 t180 _ ?side1 ?side2 A2.out).mono ?_); (case side1 => repeat (first | exact HR0.out | (with_reducible refine Kd.C_alloc ?_ _) | (with_reducible refine Kd.C_drewN ?_ _) | (with_reducible refine Kd.C_drew ?_))); (case side2 => exact HC0.out); rintro e w4 ⟨v181, rfl, ho0, hb⟩; refine ⟨_, rfl, ?_⟩; have n0_ := Aside0.mk (Kd.S_lower ho0 (below_size (by repeat (first | (with_reducible first | exact HB.out | apply below_alloc | apply pw_below_drewN | apply below_drew1) | exact HB.out)))); have n1_ := Aside0.mk (below_step (by repeat (first | (with_reducible first | exact HB.out | apply below_alloc | apply pw_below_drewN | apply below_drew1) | exact HB.out)) hb); clear HB; have HO182 := n0_; have HB := n1_; clear n0_ n1_; (try clear hb); (try clear hb2); (try clear hk); (try clear hi); (try clear ho0); obtain ⟨Ao5, co5, eo5⟩ := Kd.S_slice HO182.out; subst eo5))
    go_ret2
    exact ⟨_, by first | rfl | (simp [errW_none, errW_some] <;> rfl) | (simp [*, errW_none, errW_some] <;> rfl), by first | exact Kd.R_nil _ _ _ _ _ | exact Kd.N_nil _ _ _ _ _ | exact Kd.V_nil _ _ _ _ _ | exact Kd.Q_nil _ _ _ _ _ | exact Kd.S_nil _ _ _ _ _, by repeat (first | (with_reducible first | exact HB.out | apply below_alloc | apply pw_below_drewN | apply below_drew1) | exact HB.out)⟩
  · rw [if_neg c3] at H
    have c3b0 : decide ((t179.length : Int) < 2) = false := decide_eq_false c3
    have c3b1 : decide (t179.length < 2) = false := decide_eq_false (by omega)
    clear c3
    by_cases c6 : 0 < (t179.length : Int)
    · rw [if_pos c6] at H
      have c6b0 : decide (0 < (t179.length : Int)) = true := decide_eq_true c6
      have c6b1 : decide (0 < t179.length) = true := decide_eq_true (by omega)
      clear c6
      replace H := Option.bind_eq_some_iff.mp H
      obtain ⟨⟨t184, t185, t186⟩, A70, H⟩ := H
      replace H : (if t186 = 0 then (run_Decode.j0 k l0 t179 t184 (decide (t184 > 255))) else (run_Decode.j0 k l0 t179 t184 true)) = some (r1, r2) := H
      have A7 := Aside0.mk A70
      clear A70
      have HC8 := Aside0.mk H
      clear H
      go_enter Try.func13, Try.ntmps13
      go_upto_region 5 with (first | ((with_reducible refine gate_callee (f := 26) rfl ?_); refine goesL_ (some 17) rfl rfl Try.func26 (by kernel_rfl) rfl #[.slice A0 l0.length c0] rfl (by (try simp only [List.map_toArray, List.map_cons, List.map_nil]); first | done | rfl | (simp only [List.length_drop, List.length_take]; rfl)) ?_; (with_reducible refine (frame_Scan.calls k _ _ l0 t179 t180 _ ?side1 ?side2 A2.out).mono ?_); (case side1 => repeat (first | exact HR0.out | (with_reducible refine Kd.C_alloc ?_ _) | (with_reducible refine Kd.C_drewN ?_ _) | (with_reducible refine Kd.C_drew ?_))); (case side2 => exact HC0.out); rintro e w9 ⟨v181, rfl, ho0, hb⟩; refine ⟨_, rfl, ?_⟩; have n0_ := Aside0.mk (Kd.S_lower ho0 (below_size (by repeat (first | (with_reducible first | exact HB.out | apply below_alloc | apply pw_below_drewN | apply below_drew1) | exact HB.out)))); have n1_ := Aside0.mk (below_step (by repeat (first | (with_reducible first | exact HB.out | apply below_alloc | apply pw_below_drewN | apply below_drew1) | exact HB.out)) hb); clear HB; have HO182 := n0_; have HB := n1_; clear n0_ n1_; (try clear hb); (try clear hb2); (try clear hk); (try clear hi); (try clear ho0); obtain ⟨Ao10, co10, eo10⟩ := Kd.S_slice HO182.out; subst eo10; have p183 : 0 ≤ (0 : Int) := (by omega); have q183 : 0 < (t179.length : Int) := of_decide_eq_true (by first | (with_reducible assumption) | assumption); obtain ⟨ad183, A183_0, c183_0, e183, hx183_0, hl183_0, hi183_0⟩ := at_L4 (Kd.S_reads' HO182.out).2.2 0 p183 q183; cases e183; obtain ⟨ce183, hce183, hMe183, hcc183⟩ := Kd.S_get HO182.out [] 0 p183 (by first | exact q183 | exact of_decide_eq_true (by first | (with_reducible assumption) | assumption) | (have e_ := (Kd.S_reads' HO182.out).1; omega)); obtain ⟨ve183_0, rfl, ge183_0⟩ := hMe183; have hv183_0 := hcc183 0 _ rfl; rw [Nat.add_zero, show ((Kd.slice 5 (Kd.int .u8))).sz = 1 from rfl, Nat.mul_one] at hv183_0; replace hv183_0 := Option.some.inj (hv183_0.symm.trans hx183_0); rw [hv183_0] at ge183_0; have HL183_0 := Aside0.mk (show Kd.R (Kd.int .u8) 5 _ _ _ _ (rd_L4 t179 0) from ge183_0); clear hv183_0 ge183_0; clear hcc183 hce183; have qi183 : (0 < t179.length) = True := eq_true (by omega); (try rw [show ((0 : Int)).toNat = 0 from rfl] at hx183_0); (try rw [Addr.add_zero'] at hx183_0); have HR183_0 := Aside0.mk hi183_0; have HC183_0 := Aside0.mk hl183_0; clear hi183_0 hl183_0; replace p183 := eq_true p183; replace q183 := eq_true q183) | ((with_reducible refine gate_callee (f := 27) rfl ?_); refine goesL_ (some 27) rfl rfl Try.func27 (by kernel_rfl) rfl #[.slice A183_0 (rd_L4 t179 0).length c183_0] rfl (by (try simp only [List.map_toArray, List.map_cons, List.map_nil]); first | done | rfl | (simp only [List.length_drop, List.length_take]; rfl)) ?_; (with_reducible refine (num_Get.calls _ _ (rd_L4 t179 0) t184 t185 t186 _ ?side1 ?side2 A7.out).mono ?_); (case side1 => repeat (first | exact (by repeat (first | (with_reducible exact HR183_0.out) | (with_reducible refine Kd.C_alloc ?_ _) | (with_reducible refine Kd.C_drewN ?_ _) | (with_reducible refine Kd.C_drew ?_) | exact HR183_0.out)) | (with_reducible refine Kd.C_alloc ?_ _) | (with_reducible refine Kd.C_drewN ?_ _) | (with_reducible refine Kd.C_drew ?_))); (case side2 => exact HC183_0.out); rintro e w' ⟨rfl, ⟨nd, rfl⟩⟩; refine ⟨_, rfl, ?_⟩))
      (try simp only [Act.put, List.setIfInBounds_toArray, List.set_cons_zero, List.set_cons_succ])
      go_cut [36] (fun v36 wc => ∃ (kq : Nat) (x36_7 : Bool), v36 = .bool x36_7 ∧ Aside0 (run_Decode.j0 kq l0 t179 t184 x36_7 = some (r1, r2)) ∧ Aside0 (kq ≤ k) ∧ Aside0 (Kd.S (Kd.slice 5 (Kd.int .u8)) 23 wc w.heap.size (fun _ => True) (.slice (some ad183) t179.length co10) t179) ∧ Aside0 (Kd.C (Kd.int .u8) wc A183_0 (rd_L4 t179 0).length (rd_L4 t179 0)) ∧ Aside0 (Below w.heap.size w wc))
      case first =>
        have H := HC8.out
        clear HC8
        by_cases c11 : t186 = 0
        · rw [if_pos c11] at H
          have c11b0 : (t186 == 0) = true := beq_iff_eq.mpr c11
          have c11b1 : (t186 != 0) = false := bne_eq_false_iff_eq.mpr c11
          clear c11
          (first | rw [c11b0] | (simp only [i64_w, i32_w]; rw [c11b0]) | skip)
          have H' := Aside0.mk H
          clear H
          go_wp2
          go_meet
          case rel => exact ⟨_, (decide (t184 > 255)), (by first | rfl | (simp; done) | (simp [*]; done)), H', ⟨by first | omega | exact Nat.le_refl _⟩, ⟨by (with_reducible repeat (first | apply Kd.S_alloc | apply Kd.S_drewN | apply Kd.S_drew)); exact HO182.out⟩, ⟨by repeat (first | (with_reducible exact HR183_0.out) | (with_reducible refine Kd.C_alloc ?_ _) | (with_reducible refine Kd.C_drewN ?_ _) | (with_reducible refine Kd.C_drew ?_) | exact HR183_0.out)⟩, ⟨by repeat (first | (with_reducible first | exact HB.out | apply below_alloc | apply pw_below_drewN | apply below_drew1) | exact HB.out)⟩⟩
        · rw [if_neg c11] at H
          have c11b0 : (t186 == 0) = false := beq_eq_false_iff_ne.mpr c11
          have c11b1 : (t186 != 0) = true := bne_iff_ne.mpr c11
          (first | rw [c11b0] | (simp only [i64_w, i32_w]; rw [c11b0]) | skip)
          have H' := Aside0.mk H
          clear H
          go_wp2
          go_meet
          case rel => exact ⟨_, (true), (by first | rfl | (simp; done) | (simp [*]; done)), H', ⟨by first | omega | exact Nat.le_refl _⟩, ⟨by (with_reducible repeat (first | apply Kd.S_alloc | apply Kd.S_drewN | apply Kd.S_drew)); exact HO182.out⟩, ⟨by repeat (first | (with_reducible exact HR183_0.out) | (with_reducible refine Kd.C_alloc ?_ _) | (with_reducible refine Kd.C_drewN ?_ _) | (with_reducible refine Kd.C_drew ?_) | exact HR183_0.out)⟩, ⟨by repeat (first | (with_reducible first | exact HB.out | apply below_alloc | apply pw_below_drewN | apply below_drew1) | exact HB.out)⟩⟩
      case rest =>
        clear HC8
        try clear c1
        try clear p1
        try clear q1
        try clear hx1
        try clear qi1
        try clear c2
        try clear p2
        try clear c3
        try clear c3b0
        try clear c3b1
        try clear c6
        try clear c6b0
        try clear c6b1
        try clear c11
        try clear c11b0
        try clear c11b1
        try clear hx183_0
        try clear p183
        try clear q183
        obtain ⟨kq, x36_7, rfl, HA, HJ7, HO_4, HR183_0, HB⟩ := hcut
        cases kq with
        | zero => exact absurd HA.out (by simp [run_Decode.j0])
        | succ kj7 =>
          have H := HA.out
          clear HA
          simp only [run_Decode.j0] at H
          by_cases c12 : x36_7 = true
          · subst c12
            have H1 : (some (([] : List (S44)), 2)) = some (r1, r2) := by rw [if_pos rfl] at H; exact H
            clear H
            have H := H1
            clear H1
            simp only [Option.some.injEq, Prod.mk.injEq] at H
            obtain ⟨rfl, rfl⟩ := H
            go_wp2
            go_ret2
            exact ⟨_, by first | rfl | (simp [errW_none, errW_some] <;> rfl) | (simp [*, errW_none, errW_some] <;> rfl), by first | exact Kd.R_nil _ _ _ _ _ | exact Kd.N_nil _ _ _ _ _ | exact Kd.V_nil _ _ _ _ _ | exact Kd.Q_nil _ _ _ _ _ | exact Kd.S_nil _ _ _ _ _, by repeat (first | (with_reducible first | exact HB.out | apply below_alloc | apply pw_below_drewN | apply below_drew1) | exact HB.out)⟩
          · replace c12 := Bool.eq_false_iff.mpr c12
            subst c12
            have H1 : (if 1 ≤ (wrap64 ((t179.length : Int) - 1)) then (if (wrap64 ((t179.length : Int) - 1)) ≤ (t179.length : Int) then ((some ((t179.take ((wrap64 ((t179.length : Int) - 1)) : Int).toNat).drop 1 : List (List Int))).bind fun y187 => (run_Decode.l0 kj7 l0 t184 ([] : List (S44)) y187 (y187.length : Int) 0)) else (none)) else (none)) = some (r1, r2) := by rw [if_neg (show ¬ (false = true) by decide)] at H; exact H
            clear H
            have H := H1
            clear H1
            by_cases c13 : 1 ≤ (wrap64 ((t179.length : Int) - 1))
            · rw [if_pos c13] at H
              have c13b0 := eq_true c13
              have c13b1 : decide (1 ≤ (wrap64 ((t179.length : Int) - 1))) = true := decide_eq_true c13
              clear c13
              by_cases c14 : (wrap64 ((t179.length : Int) - 1)) ≤ (t179.length : Int)
              · rw [if_pos c14] at H
                have c14b0 := eq_true c14
                have c14b1 : decide ((wrap64 ((t179.length : Int) - 1)) ≤ (t179.length : Int)) = true := decide_eq_true c14
                clear c14
                obtain ⟨y187, hy187⟩ : ∃ y_ : List (List Int), y_ = ((t179.take ((wrap64 ((t179.length : Int) - 1)) : Int).toNat).drop 1) := ⟨_, rfl⟩
                replace H : (run_Decode.l0 kj7 l0 t184 ([] : List (S44)) y187 (y187.length : Int) 0) = some (r1, r2) := by first | (rw [hy187]; with_reducible exact H) | (have H2_ := (Option.bind_some _ _).symm.trans H; rw [hy187]; with_reducible exact H2_) | (have H2_ := (Option.bind_some _ _).symm.trans H; with_reducible exact H2_) | with_reducible exact H | (rw [hy187]; exact H) | exact H
                have Ny187 := Aside0.mk hy187
                clear hy187
                have H' := Aside0.mk H
                clear H
                have q15 : ((wrap64 ((t179.length : Int) - 1)) : Int) ≤ ((t179.length : Int) : Int) := of_decide_eq_true (by first | (with_reducible assumption) | assumption)
                obtain ⟨i015, hi015, _, hsz15, _⟩ := info_parts info23
                have hroom15 : t179.length ≤ co10 := (Kd.S_reads' HO_4.out).2.1
                have hC15 : Kd.C (Kd.slice 5 (Kd.int .u8)) _ (some ad183) t179.length t179 := (Kd.S_reads' HO_4.out).2.2
                have ql15 : (1 : Int) ≤ ((wrap64 ((t179.length : Int) - 1)) : Int) := of_decide_eq_true (by first | (with_reducible assumption) | assumption)
                have hcut15 := cut_mid (P := Try.prog) 46 23 .i64 .i64 Try.underlying46 hi015 1 hsz15 (some ad183) t179.length co10 1 (wrap64 ((t179.length : Int) - 1)) (by omega) ql15 q15 hroom15
                have hr15 := Kd.C_mid (lo := (1 : Int).toNat) (hi := ((wrap64 ((t179.length : Int) - 1)) : Int).toNat) (c := co10) hC15 (by omega) (by omega) hroom15
                obtain ⟨A15, hA15⟩ : ∃ A1, A1 = (if co10 = (1 : Int).toNat then (some ad183) else ((some ad183) : Option Addr).map (·.add ((1 : Int).toNat * 1))) := ⟨_, rfl⟩
                obtain ⟨c15, hc15⟩ : ∃ c1, c1 = co10 - (1 : Int).toNat := ⟨_, rfl⟩
                have hy15 : y187.length = ((wrap64 ((t179.length : Int) - 1)) : Int).toNat - (1 : Int).toNat := (by rw [Ny187.out, List.length_drop, List.length_take] <;> omega)
                rw [show ((t179).take ((wrap64 ((t179.length : Int) - 1)) : Int).toNat).drop (1 : Int).toNat = y187 from Ny187.out.symm] at hr15
                replace hr15 : Kd.C (Kd.slice 5 (Kd.int .u8)) _ A15 y187.length y187 := (by rw [hA15]; exact hr15)
                rw [← hy15, ← hA15, ← hc15] at hcut15
                have HFC := Aside0.mk (fun W => fun hC_ : Kd.C (Kd.slice 5 (Kd.int .u8)) W (some ad183) t179.length t179 => (by have q_ := Kd.C_mid (lo := (1 : Int).toNat) (hi := ((wrap64 ((t179.length : Int) - 1)) : Int).toNat) (c := co10) hC_ (by omega) (by omega) hroom15; rw [show ((t179).take ((wrap64 ((t179.length : Int) - 1)) : Int).toNat).drop (1 : Int).toNat = y187 from Ny187.out.symm] at q_; rw [hA15]; exact q_ : Kd.C (Kd.slice 5 (Kd.int .u8)) W A15 y187.length y187))
                have HR190 := Aside0.mk hr15
                have HC190 := Aside0.mk (show y187.length ≤ c15 from by rw [hy15, hc15]; exact Nat.sub_le_sub_right (Nat.le_trans (by omega) hroom15) _)
                clear hr15 hC15 hroom15 hi015 hsz15 hc15
                have KY15 := Aside0.mk hy15
                have KA15 := Aside0.mk hA15
                clear hy15 hA15
                have KL15 := Aside0.mk (show ((wrap64 ((t179.length : Int) - 1)) : Int).toNat ≤ t179.length from by omega)
                have KM15 := Aside0.mk (show 1 ≤ ((wrap64 ((t179.length : Int) - 1)) : Int).toNat from by omega)
                replace q15 := eq_true q15
                go_wp2
                go_loopg [9, 43] kj7 (fun kq v9 v43 w' => ∃ (x9_2 : List (S44)) (x43_2 : Int), v43 = .int .i64 x43_2 ∧ Aside0 (run_Decode.l0 kq l0 t184 x9_2 y187 (y187.length : Int) x43_2 = some (r1, r2)) ∧ Aside0 (kq ≤ kj7) ∧ Aside0 (Kd.R k44 44 w' w.heap.size (fun _ => True) v9 x9_2) ∧ Aside0 (Below w.heap.size w w') ∧ Aside0 (Kd.S (Kd.slice 5 (Kd.int .u8)) 23 w' w.heap.size (fun _ => True) (.slice (some ad183) t179.length co10) t179))
                case atStart => exact ⟨(([] : List (S44))), (0), (by first | rfl | (simp; done) | (simp [*]; done)), H', ⟨Nat.le_refl _⟩, ⟨by first | exact Kd.R_nil _ _ _ _ _ | exact Kd.N_nil _ _ _ _ _ | exact Kd.V_nil _ _ _ _ _ | exact Kd.Q_nil _ _ _ _ _ | exact Kd.S_nil _ _ _ _ _⟩, ⟨by repeat (first | (with_reducible first | exact HB.out | apply below_alloc | apply pw_below_drewN | apply below_drew1) | exact HB.out)⟩, ⟨(by (with_reducible repeat (first | apply Kd.S_alloc | apply Kd.S_drewN | apply Kd.S_drew)); exact Kd.S_mono HO_4.out (fun _ _ => trivial))⟩⟩
                case round =>
                  clear H'
                  try clear c1
                  try clear p1
                  try clear q1
                  try clear hx1
                  try clear qi1
                  try clear c2
                  try clear p2
                  try clear c3
                  try clear c3b0
                  try clear c3b1
                  try clear c6
                  try clear c6b0
                  try clear c6b1
                  try clear p6
                  try clear c11
                  try clear c11b0
                  try clear c11b1
                  try clear c12
                  try clear c13
                  try clear c13b0
                  try clear c13b1
                  try clear c14
                  try clear c14b0
                  try clear c14b1
                  try clear c15
                  try clear q15
                  try clear hx183_0
                  try clear p1
                  try clear p183
                  try clear p2
                  try clear q1
                  try clear q15
                  try clear q183
                  obtain ⟨x9_2, x43_2, rfl, HA, HK2, HO_9, HB, HS4⟩ := hrel
                  have HR15w := Aside0.mk (HFC.out _ (Kd.S_reads' HS4.out).2.2)
                  cases gk with
                  | zero => exact absurd HA.out (by simp [run_Decode.l0])
                  | succ k2 =>
                    have H := HA.out
                    clear HA
                    simp only [run_Decode.l0] at H
                    by_cases c16 : x43_2 < (y187.length : Int)
                    · rw [if_pos c16] at H
                      have c16b0 : decide (x43_2 < (y187.length : Int)) = true := decide_eq_true c16
                      clear c16
                      by_cases c17 : 0 ≤ x43_2
                      · rw [if_pos c17] at H
                        have c17b0 : decide (0 ≤ x43_2) = true := decide_eq_true c17
                        clear c17
                        by_cases c18 : x43_2 < (y187.length : Int)
                        · rw [if_pos c18] at H
                          have c18b0 : decide (x43_2 < (y187.length : Int)) = true := decide_eq_true c18
                          clear c18
                          replace H := Option.bind_eq_some_iff.mp H
                          obtain ⟨⟨t192, t193⟩, A190, H⟩ := H
                          replace H : (if t193 = true then (if x9_2.length + t192.length < 5864062014805 then (run_Decode.l0 k2 l0 t184 (x9_2 ++ t192) y187 (y187.length : Int) (wrap64 (x43_2 + 1))) else (none)) else (some (([] : List (S44)), 2))) = some (r1, r2) := H
                          have A19 := Aside0.mk A190
                          clear A190
                          by_cases c20 : t193 = true
                          · subst c20
                            have H1 : (if x9_2.length + t192.length < 5864062014805 then (run_Decode.l0 k2 l0 t184 (x9_2 ++ t192) y187 (y187.length : Int) (wrap64 (x43_2 + 1))) else (none)) = some (r1, r2) := by rw [if_pos rfl] at H; exact H
                            clear H
                            have H := H1
                            clear H1
                            by_cases c21 : x9_2.length + t192.length < 5864062014805
                            · rw [if_pos c21] at H
                              have LMc21 := Aside0.mk c21
                              clear c21
                              obtain ⟨y196, hy196⟩ : ∃ y_ : List (S44), y_ = (x9_2 ++ t192) := ⟨_, rfl⟩
                              replace H : (run_Decode.l0 k2 l0 t184 y196 y187 (y187.length : Int) (wrap64 (x43_2 + 1))) = some (r1, r2) := by first | (rw [hy196]; with_reducible exact H) | (have H2_ := (Option.bind_some _ _).symm.trans H; rw [hy196]; with_reducible exact H2_) | (have H2_ := (Option.bind_some _ _).symm.trans H; with_reducible exact H2_) | with_reducible exact H | (rw [hy196]; exact H) | exact H
                              have Ny196 := Aside0.mk hy196
                              clear hy196
                              have H' := Aside0.mk H
                              clear H
                              have p191 : 0 ≤ (x43_2 : Int) := of_decide_eq_true (by first | (with_reducible assumption) | assumption)
                              have q191 : x43_2 < (y187.length : Int) := of_decide_eq_true (by first | (with_reducible assumption) | assumption)
                              obtain ⟨ad191, A191_0, c191_0, e191, hx191_0, hl191_0, hi191_0⟩ := at_L4 HR15w.out x43_2 p191 q191
                              cases e191
                              have HR191_0 := Aside0.mk hi191_0
                              have HC191_0 := Aside0.mk hl191_0
                              clear hi191_0 hl191_0
                              replace p191 := eq_true p191
                              replace q191 := eq_true q191
                              go_wp2_with (first | ((with_reducible refine gate_callee (f := 28) rfl ?_); refine goesL_ (some 49) rfl rfl Try.func28 (by kernel_rfl) rfl #[.slice A191_0 (rd_L4 y187 x43_2).length c191_0] rfl (by (try simp only [List.map_toArray, List.map_cons, List.map_nil]); first | done | rfl | (simp only [List.length_drop, List.length_take]; rfl)) ?_; (with_reducible refine (run_unblock.calls _ _ (rd_L4 y187 x43_2) t192 true _ ?side1 ?side2 A19.out).mono ?_); (case side1 => repeat (first | exact HR191_0.out | (with_reducible refine Kd.C_alloc ?_ _) | (with_reducible refine Kd.C_drewN ?_ _) | (with_reducible refine Kd.C_drew ?_))); (case side2 => exact HC191_0.out); rintro e w22 ⟨v194, rfl, ho0, hb⟩; refine ⟨_, rfl, ?_⟩; have s4_ := Aside0.mk (Kd.S_below (by (with_reducible repeat (first | apply Kd.S_alloc | apply Kd.S_drewN | apply Kd.S_drew)); exact HS4.out) hb); clear HS4; have HS4 := s4_; clear s4_; have n0_ := Aside0.mk (Kd.R_elder' (by (with_reducible repeat (first | apply Kd.R_alloc | apply Kd.R_drewN | apply Kd.R_drew)); exact HO_9.out) (Kd.R_base ho0) hb); have n1_ := Aside0.mk (Kd.R_lower (Kd.R_new' ho0 (Kd.R_lt (by (with_reducible repeat (first | apply Kd.R_alloc | apply Kd.R_drewN | apply Kd.R_drew)); exact HO_9.out))) (below_size (by repeat (first | (with_reducible first | exact HB.out | apply below_alloc | apply pw_below_drewN | apply below_drew1) | exact HB.out)))); have n2_ := Aside0.mk (below_step (by repeat (first | (with_reducible first | exact HB.out | apply below_alloc | apply pw_below_drewN | apply below_drew1) | exact HB.out)) hb); clear HO_9; clear HB; have HO_9 := n0_; have HO195 := n1_; have HB := n2_; clear n0_ n1_ n2_; (try clear hb); (try clear hb2); (try clear hk); (try clear hi); (try clear ho0); obtain ⟨Ao24, co24, eo24⟩ := Kd.R_slice HO195.out; subst eo24) | ((with_reducible refine gate_builtin (b := .append) (xs := #[.tmp 54, .tmp 55]) rfl ?_); at_builtin; refine Kd.R_append_rows k44 (w0 := w) w.heap.size rfl (.tmp 54) (.tmp 55) 22 44 (.agg #[(.string ⟨#[]⟩), (.int .u64 0)]) 24 rfl Try.underlying22 info44 rfl (by decide) (by omega) u9 x9_2 t192 _ _ _ (fun k_ => some k_ ≠ (.slice Ao24 t192.length co24 : Value).ownBlock) (fun _ => False) rfl rfl ?aO ?aR (fun _ _ h => h) (fun _ h => h.elim) ?aF ?aB ?aS ?aL ?_; (case aR => repeat (first | exact (Kd.R_reads' HO195.out).2.2 | (with_reducible refine Kd.C_alloc ?_ _) | (with_reducible refine Kd.C_drewN ?_ _) | (with_reducible refine Kd.C_drew ?_))); (case aB => exact (by repeat (first | (with_reducible first | exact HB.out | apply below_alloc | apply pw_below_drewN | apply below_drew1) | exact HB.out))); (case aF => exact (fun k_ hk => Kd.fresh' (Kd.R_lt (by (with_reducible repeat (first | apply Kd.R_alloc | apply Kd.R_drewN | apply Kd.R_drew)); exact HO195.out)) k_ hk)); (case aO => exact (by (with_reducible repeat (first | apply Kd.R_alloc | apply Kd.R_drewN | apply Kd.R_drew)); exact Kd.R_mono HO_9.out (fun _ hk => hk.2))); (case aS => exact (below_size (by repeat (first | (with_reducible first | exact HB.out | apply below_alloc | apply pw_below_drewN | apply below_drew1) | exact HB.out)))); (case aL => have := LMc21.out; omega); intro v197 w23 ho hb hg hat; have s4_ := Aside0.mk (Kd.S_over' (by (with_reducible repeat (first | apply Kd.S_alloc | apply Kd.S_drewN | apply Kd.S_drew)); exact HS4.out) (Kd.R_typed (by (with_reducible repeat (first | apply Kd.R_alloc | apply Kd.R_drewN | apply Kd.R_drew)); exact Kd.R_mono HO_9.out (fun _ hk => hk.2))) (by decide) hg); clear HS4; have HS4 := s4_; clear s4_; rw [← Ny196.out] at ho; have n0_ := Aside0.mk (Kd.R_after (ok := (fun _ => True)) (by (with_reducible repeat (first | apply Kd.R_alloc | apply Kd.R_drewN | apply Kd.R_drew)); exact HO195.out) hg hat); have n1_ := Aside0.mk (hb); have n2_ := Aside0.mk (ho); clear HO195; clear HB; clear HO_9; have HO195 := n0_; have HB := n1_; have HO198 := n2_; clear n0_ n1_ n2_; clear ho hb hg hat))
                              go_roundg k2
                              case measure => have := HJ7.out; have := HK2.out; omega
                              case rel => exact ⟨(y196), (wrap64 (x43_2 + 1)), (by first | rfl | (simp; done) | (simp [*]; done)), H', ⟨by have := HJ7.out; have := HK2.out; omega⟩, ⟨by (with_reducible repeat (first | apply Kd.R_alloc | apply Kd.R_drewN | apply Kd.R_drew)); exact Kd.R_mono HO198.out (fun _ hk => trivial)⟩, ⟨by repeat (first | (with_reducible first | exact HB.out | apply below_alloc | apply pw_below_drewN | apply below_drew1) | exact HB.out)⟩, ⟨(by (with_reducible repeat (first | apply Kd.S_alloc | apply Kd.S_drewN | apply Kd.S_drew)); exact HS4.out)⟩⟩
                            · rw [if_neg c21] at H
                              exact absurd H (by simp)
                          · replace c20 := Bool.eq_false_iff.mpr c20
                            subst c20
                            have H1 : (some (([] : List (S44)), 2)) = some (r1, r2) := by rw [if_neg (show ¬ (false = true) by decide)] at H; exact H
                            clear H
                            have H := H1
                            clear H1
                            simp only [Option.some.injEq, Prod.mk.injEq] at H
                            obtain ⟨rfl, rfl⟩ := H
                            have p191 : 0 ≤ (x43_2 : Int) := of_decide_eq_true (by first | (with_reducible assumption) | assumption)
                            have q191 : x43_2 < (y187.length : Int) := of_decide_eq_true (by first | (with_reducible assumption) | assumption)
                            obtain ⟨ad191, A191_0, c191_0, e191, hx191_0, hl191_0, hi191_0⟩ := at_L4 HR15w.out x43_2 p191 q191
                            cases e191
                            have HR191_0 := Aside0.mk hi191_0
                            have HC191_0 := Aside0.mk hl191_0
                            clear hi191_0 hl191_0
                            replace p191 := eq_true p191
                            replace q191 := eq_true q191
                            go_wp2_with (first | ((with_reducible refine gate_callee (f := 28) rfl ?_); refine goesL_ (some 49) rfl rfl Try.func28 (by kernel_rfl) rfl #[.slice A191_0 (rd_L4 y187 x43_2).length c191_0] rfl (by (try simp only [List.map_toArray, List.map_cons, List.map_nil]); first | done | rfl | (simp only [List.length_drop, List.length_take]; rfl)) ?_; (with_reducible refine (run_unblock.calls _ _ (rd_L4 y187 x43_2) t192 false _ ?side1 ?side2 A19.out).mono ?_); (case side1 => repeat (first | exact HR191_0.out | (with_reducible refine Kd.C_alloc ?_ _) | (with_reducible refine Kd.C_drewN ?_ _) | (with_reducible refine Kd.C_drew ?_))); (case side2 => exact HC191_0.out); rintro e w25 ⟨v194, rfl, ho0, hb⟩; refine ⟨_, rfl, ?_⟩; have s4_ := Aside0.mk (Kd.S_below (by (with_reducible repeat (first | apply Kd.S_alloc | apply Kd.S_drewN | apply Kd.S_drew)); exact HS4.out) hb); clear HS4; have HS4 := s4_; clear s4_; have n0_ := Aside0.mk (Kd.R_elder' (by (with_reducible repeat (first | apply Kd.R_alloc | apply Kd.R_drewN | apply Kd.R_drew)); exact HO_9.out) (Kd.R_base ho0) hb); have n1_ := Aside0.mk (Kd.R_lower (Kd.R_new' ho0 (Kd.R_lt (by (with_reducible repeat (first | apply Kd.R_alloc | apply Kd.R_drewN | apply Kd.R_drew)); exact HO_9.out))) (below_size (by repeat (first | (with_reducible first | exact HB.out | apply below_alloc | apply pw_below_drewN | apply below_drew1) | exact HB.out)))); have n2_ := Aside0.mk (below_step (by repeat (first | (with_reducible first | exact HB.out | apply below_alloc | apply pw_below_drewN | apply below_drew1) | exact HB.out)) hb); clear HO_9; clear HB; have HO_9 := n0_; have HO195 := n1_; have HB := n2_; clear n0_ n1_ n2_; (try clear hb); (try clear hb2); (try clear hk); (try clear hi); (try clear ho0)))
                            go_ret2
                            exact ⟨_, by first | rfl | (simp [errW_none, errW_some] <;> rfl) | (simp [*, errW_none, errW_some] <;> rfl), by first | exact Kd.R_nil _ _ _ _ _ | exact Kd.N_nil _ _ _ _ _ | exact Kd.V_nil _ _ _ _ _ | exact Kd.Q_nil _ _ _ _ _ | exact Kd.S_nil _ _ _ _ _, by repeat (first | (with_reducible first | exact HB.out | apply below_alloc | apply pw_below_drewN | apply below_drew1) | exact HB.out)⟩
                        · rw [if_neg c18] at H
                          exact absurd H (by simp)
                      · rw [if_neg c17] at H
                        exact absurd H (by simp)
                    · rw [if_neg c16] at H
                      have c16b0 : decide (x43_2 < (y187.length : Int)) = false := decide_eq_false c16
                      clear c16
                      replace H := Option.bind_eq_some_iff.mp H
                      obtain ⟨⟨t199, t200⟩, A260, H⟩ := H
                      replace H : (if t200 = 0 then ((bytes_Equal.f t199 l0).bind fun t203 => (if t203 = true then (some (x9_2, 0)) else (some (([] : List (S44)), 2)))) else (some (([] : List (S44)), 2))) = some (r1, r2) := H
                      have A26 := Aside0.mk A260
                      clear A260
                      by_cases c27 : t200 = 0
                      · rw [if_pos c27] at H
                        have c27b0 : (t200 == 0) = true := beq_iff_eq.mpr c27
                        have c27b1 : (t200 != 0) = false := bne_eq_false_iff_eq.mpr c27
                        clear c27
                        replace H := Option.bind_eq_some_iff.mp H
                        obtain ⟨t203, A280, H⟩ := H
                        replace H : (if t203 = true then (some (x9_2, 0)) else (some (([] : List (S44)), 2))) = some (r1, r2) := H
                        have A28 := Aside0.mk A280
                        clear A280
                        by_cases c29 : t203 = true
                        · subst c29
                          have H1 : (some (x9_2, 0)) = some (r1, r2) := by rw [if_pos rfl] at H; exact H
                          clear H
                          have H := H1
                          clear H1
                          simp only [Option.some.injEq, Prod.mk.injEq] at H
                          obtain ⟨rfl, rfl⟩ := H
                          obtain ⟨Ao30, co30, eo30⟩ := Kd.R_slice HO_9.out
                          subst eo30
                          go_wp2_with (first | ((with_reducible refine gate_callee (f := 11) rfl ?_); refine goesL_ (some 62) rfl rfl Try.func11 (by kernel_rfl) rfl #[.slice Ao30 x9_2.length co30, .int .i64 (wrap64 (t184))] rfl (by (try simp only [List.map_toArray, List.map_cons, List.map_nil]); first | done | rfl | (simp only [List.length_drop, List.length_take]; rfl)) ?_; (with_reducible refine (run_Encode.calls k2 _ _ x9_2 (wrap64 (t184)) t199 t200 _ ?side1 ?side2 A26.out).mono ?_); (case side1 => repeat (first | exact (Kd.R_reads' HO_9.out).2.2 | (with_reducible refine Kd.C_alloc ?_ _) | (with_reducible refine Kd.C_drewN ?_ _) | (with_reducible refine Kd.C_drew ?_))); (case side2 => exact (Kd.R_reads' HO_9.out).2.1); rintro e w31 ⟨v201, rfl, ho0, hb⟩; refine ⟨_, rfl, ?_⟩; have n0_ := Aside0.mk (Kd.R_below (by (with_reducible repeat (first | apply Kd.R_alloc | apply Kd.R_drewN | apply Kd.R_drew)); exact HO_9.out) hb); have n1_ := Aside0.mk (Kd.R_lower ho0 (below_size (by repeat (first | (with_reducible first | exact HB.out | apply below_alloc | apply pw_below_drewN | apply below_drew1) | exact HB.out)))); have n2_ := Aside0.mk (below_step (by repeat (first | (with_reducible first | exact HB.out | apply below_alloc | apply pw_below_drewN | apply below_drew1) | exact HB.out)) hb); clear HO_9; clear HB; have HO_9 := n0_; have HO202 := n1_; have HB := n2_; clear n0_ n1_ n2_; (try clear hb); (try clear hb2); (try clear hk); (try clear hi); (try clear ho0); obtain ⟨Ao32, co32, eo32⟩ := Kd.R_slice HO202.out; subst eo32) | (go_at_call 29; (with_reducible refine (bytes_Equal.calls _ _ t199 _ _ l0 true _ ?side1 ?side2 ?side3 ?side4 A28.out).mono ?_); (case side1 => repeat (first | exact (Kd.R_reads' HO202.out).2.2 | (with_reducible refine Kd.C_alloc ?_ _) | (with_reducible refine Kd.C_drewN ?_ _) | (with_reducible refine Kd.C_drew ?_))); (case side2 => exact (Kd.R_reads' HO202.out).2.1); (case side3 => repeat (first | exact (Kd.C_below HR0.out HB.out) | (with_reducible refine Kd.C_alloc ?_ _) | (with_reducible refine Kd.C_drewN ?_ _) | (with_reducible refine Kd.C_drew ?_))); (case side4 => exact HC0.out); rintro e w' ⟨rfl, ⟨nd, rfl⟩⟩))
                          go_ret2
                          exact ⟨_, by first | rfl | (simp [errW_none, errW_some] <;> rfl) | (simp [*, errW_none, errW_some] <;> rfl), by (with_reducible repeat (first | apply Kd.R_alloc | apply Kd.R_drewN | apply Kd.R_drew)); exact HO_9.out, by repeat (first | (with_reducible first | exact HB.out | apply below_alloc | apply pw_below_drewN | apply below_drew1) | exact HB.out)⟩
                        · replace c29 := Bool.eq_false_iff.mpr c29
                          subst c29
                          have H1 : (some (([] : List (S44)), 2)) = some (r1, r2) := by rw [if_neg (show ¬ (false = true) by decide)] at H; exact H
                          clear H
                          have H := H1
                          clear H1
                          simp only [Option.some.injEq, Prod.mk.injEq] at H
                          obtain ⟨rfl, rfl⟩ := H
                          obtain ⟨Ao33, co33, eo33⟩ := Kd.R_slice HO_9.out
                          subst eo33
                          go_wp2_with (first | ((with_reducible refine gate_callee (f := 11) rfl ?_); refine goesL_ (some 62) rfl rfl Try.func11 (by kernel_rfl) rfl #[.slice Ao33 x9_2.length co33, .int .i64 (wrap64 (t184))] rfl (by (try simp only [List.map_toArray, List.map_cons, List.map_nil]); first | done | rfl | (simp only [List.length_drop, List.length_take]; rfl)) ?_; (with_reducible refine (run_Encode.calls k2 _ _ x9_2 (wrap64 (t184)) t199 t200 _ ?side1 ?side2 A26.out).mono ?_); (case side1 => repeat (first | exact (Kd.R_reads' HO_9.out).2.2 | (with_reducible refine Kd.C_alloc ?_ _) | (with_reducible refine Kd.C_drewN ?_ _) | (with_reducible refine Kd.C_drew ?_))); (case side2 => exact (Kd.R_reads' HO_9.out).2.1); rintro e w34 ⟨v201, rfl, ho0, hb⟩; refine ⟨_, rfl, ?_⟩; have n0_ := Aside0.mk (Kd.R_below (by (with_reducible repeat (first | apply Kd.R_alloc | apply Kd.R_drewN | apply Kd.R_drew)); exact HO_9.out) hb); have n1_ := Aside0.mk (Kd.R_lower ho0 (below_size (by repeat (first | (with_reducible first | exact HB.out | apply below_alloc | apply pw_below_drewN | apply below_drew1) | exact HB.out)))); have n2_ := Aside0.mk (below_step (by repeat (first | (with_reducible first | exact HB.out | apply below_alloc | apply pw_below_drewN | apply below_drew1) | exact HB.out)) hb); clear HO_9; clear HB; have HO_9 := n0_; have HO202 := n1_; have HB := n2_; clear n0_ n1_ n2_; (try clear hb); (try clear hb2); (try clear hk); (try clear hi); (try clear ho0); obtain ⟨Ao35, co35, eo35⟩ := Kd.R_slice HO202.out; subst eo35) | (go_at_call 29; (with_reducible refine (bytes_Equal.calls _ _ t199 _ _ l0 false _ ?side1 ?side2 ?side3 ?side4 A28.out).mono ?_); (case side1 => repeat (first | exact (Kd.R_reads' HO202.out).2.2 | (with_reducible refine Kd.C_alloc ?_ _) | (with_reducible refine Kd.C_drewN ?_ _) | (with_reducible refine Kd.C_drew ?_))); (case side2 => exact (Kd.R_reads' HO202.out).2.1); (case side3 => repeat (first | exact (Kd.C_below HR0.out HB.out) | (with_reducible refine Kd.C_alloc ?_ _) | (with_reducible refine Kd.C_drewN ?_ _) | (with_reducible refine Kd.C_drew ?_))); (case side4 => exact HC0.out); rintro e w' ⟨rfl, ⟨nd, rfl⟩⟩))
                          go_ret2
                          exact ⟨_, by first | rfl | (simp [errW_none, errW_some] <;> rfl) | (simp [*, errW_none, errW_some] <;> rfl), by first | exact Kd.R_nil _ _ _ _ _ | exact Kd.N_nil _ _ _ _ _ | exact Kd.V_nil _ _ _ _ _ | exact Kd.Q_nil _ _ _ _ _ | exact Kd.S_nil _ _ _ _ _, by repeat (first | (with_reducible first | exact HB.out | apply below_alloc | apply pw_below_drewN | apply below_drew1) | exact HB.out)⟩
                      · rw [if_neg c27] at H
                        have c27b0 : (t200 == 0) = false := beq_eq_false_iff_ne.mpr c27
                        have c27b1 : (t200 != 0) = true := bne_iff_ne.mpr c27
                        simp only [Option.some.injEq, Prod.mk.injEq] at H
                        obtain ⟨rfl, rfl⟩ := H
                        obtain ⟨Ao36, co36, eo36⟩ := Kd.R_slice HO_9.out
                        subst eo36
                        go_wp2_with (first | ((with_reducible refine gate_callee (f := 11) rfl ?_); refine goesL_ (some 62) rfl rfl Try.func11 (by kernel_rfl) rfl #[.slice Ao36 x9_2.length co36, .int .i64 (wrap64 (t184))] rfl (by (try simp only [List.map_toArray, List.map_cons, List.map_nil]); first | done | rfl | (simp only [List.length_drop, List.length_take]; rfl)) ?_; (with_reducible refine (run_Encode.calls k2 _ _ x9_2 (wrap64 (t184)) t199 t200 _ ?side1 ?side2 A26.out).mono ?_); (case side1 => repeat (first | exact (Kd.R_reads' HO_9.out).2.2 | (with_reducible refine Kd.C_alloc ?_ _) | (with_reducible refine Kd.C_drewN ?_ _) | (with_reducible refine Kd.C_drew ?_))); (case side2 => exact (Kd.R_reads' HO_9.out).2.1); rintro e w37 ⟨v201, rfl, ho0, hb⟩; refine ⟨_, rfl, ?_⟩; have n0_ := Aside0.mk (Kd.R_below (by (with_reducible repeat (first | apply Kd.R_alloc | apply Kd.R_drewN | apply Kd.R_drew)); exact HO_9.out) hb); have n1_ := Aside0.mk (Kd.R_lower ho0 (below_size (by repeat (first | (with_reducible first | exact HB.out | apply below_alloc | apply pw_below_drewN | apply below_drew1) | exact HB.out)))); have n2_ := Aside0.mk (below_step (by repeat (first | (with_reducible first | exact HB.out | apply below_alloc | apply pw_below_drewN | apply below_drew1) | exact HB.out)) hb); clear HO_9; clear HB; have HO_9 := n0_; have HO202 := n1_; have HB := n2_; clear n0_ n1_ n2_; (try clear hb); (try clear hb2); (try clear hk); (try clear hi); (try clear ho0)))
                        go_ret2
                        exact ⟨_, by first | rfl | (simp [errW_none, errW_some] <;> rfl) | (simp [*, errW_none, errW_some] <;> rfl), by first | exact Kd.R_nil _ _ _ _ _ | exact Kd.N_nil _ _ _ _ _ | exact Kd.V_nil _ _ _ _ _ | exact Kd.Q_nil _ _ _ _ _ | exact Kd.S_nil _ _ _ _ _, by repeat (first | (with_reducible first | exact HB.out | apply below_alloc | apply pw_below_drewN | apply below_drew1) | exact HB.out)⟩
              · rw [if_neg c14] at H
                exact absurd H (by simp)
            · rw [if_neg c13] at H
              exact absurd H (by simp)
    · rw [if_neg c6] at H
      exact absurd H (by simp)

end Go.Proofs.Ytmfngihgoanhpaa.PRun
