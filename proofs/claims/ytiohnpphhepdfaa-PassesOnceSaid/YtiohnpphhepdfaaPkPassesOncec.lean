/- Parts of the proof, merged by a program of this session. -/
import Derived.Test.YtiohnpphhepdfaaPkPassesOncea
import Derived.Test.YtiohnpphhepdfaaPkPassesOnceb
section
namespace Go.Proofs.Ytiohnpphhepdfaa.PPa
open Go.RowKit Go.Proofs.YtiohnpphhepdfaaW.PrintWords Go.Proofs.YtiohnpphhepdfaaW.PrintLast Go.Proofs.YtiohnpphhepdfaaW.PrintMore
attribute [local go_sem] max2_int min2_int max_two min_two max_three min_three max_four min_four
attribute [local go_sem] Go.Proofs.Ytiohnpphhepdfaa.MoreWords.str_leq Go.Proofs.Ytiohnpphhepdfaa.MoreWords.str_gtr Go.Proofs.Ytiohnpphhepdfaa.MoreWords.str_geq
set_option maxHeartbeats 8000000
set_option maxRecDepth 100000
set_option linter.unusedVariables false
set_option linter.unusedSimpArgs false
def ButTwo (w w' : World) (g1 g2 : Nat) : Prop := w'.os = w.os ∧ w'.tape = w.tape ∧ w'.output = w.output ∧ w.heap.size ≤ w'.heap.size ∧ ∀ k, k ≠ g1 → k ≠ g2 → k < w.heap.size → w'.heap[k]? = w.heap[k]?
theorem ButTwo.below {w0 w w' : World} {g1 g2 : Nat} (h : ButTwo w w' g1 g2) (hb : Below w0.heap.size w0 w) (h1 : w0.heap.size ≤ g1) (h2 : w0.heap.size ≤ g2) : Below w0.heap.size w0 w' :=
 ⟨h.1.trans hb.os, h.2.1.trans hb.tape, h.2.2.1.trans hb.output, Nat.le_trans hb.size h.2.2.2.1, fun k hk => (h.2.2.2.2 k (by omega) (by omega) (Nat.lt_of_lt_of_le hk hb.size)).trans (hb.block k hk)⟩
theorem ButTwo.blk {w w' : World} {g1 g2 g : Nat} {o : Obj} (h : ButTwo w w' g1 g2) (h1 : g ≠ g1) (h2 : g ≠ g2) (hb : w.heap[g]? = some o) : w'.heap[g]? = some o := (h.2.2.2.2 g h1 h2 (blk_lt hb)).trans hb
theorem run_entry1.calls (gl go : Nat) (hne : gl ≠ go) (A0 : Option Addr) (c0 : Nat) (l0 : List Int) (ok : Bool) (r1 r2 r3 : Int) (w : World) (hl : w.heap[gl]? = some (.cells #[.slice A0 l0.length c0] 24 (0, 0))) (ho : w.heap[go]? = some (.cells #[.bool ok] 4 (0, 0)))
  (hr0 : Kd.C (Kd.int .u8) w A0 l0.length l0) (hc0 : l0.length ≤ c0) (h : num_Get.f l0 = some (r1, r2, r3)) (h2 : 0 ≤ r2) (h2l : r2 ≤ l0.length) :
  Calls Try.prog 69 #[.pointer (some ⟨gl, 0, none⟩), .pointer (some ⟨go, 0, none⟩)] w fun e w' => e = .returned (.int .u64 r1) ∧ ButTwo w w' gl go ∧
   ∃ A' c', w'.heap[gl]? = some (.cells #[.slice A' (l0.drop r2.toNat).length c'] 24 (0, 0)) ∧ w'.heap[go]? = some (.cells #[.bool (ok && (r3 == 0))] 4 (0, 0)) ∧
    (l0.drop r2.toNat).length ≤ c' ∧ ∀ W, Kd.C (Kd.int .u8) W A0 l0.length l0 → Kd.C (Kd.int .u8) W A' (l0.drop r2.toNat).length (l0.drop r2.toNat) := by
 have HR0 := Az.mk hr0
 have HC0 := Az.mk hc0
 have A1 := Az.mk h
 have BL := Az.mk hl
 have BO := Az.mk ho
 have NE := Az.mk hne
 have hcl := blk_cell hl 0
 have hfl := blk_frozen hl 0
 have hco := blk_cell ho 0
 have hfo := blk_frozen ho 0
 have hcl' : w.cell? ⟨gl, 0, none⟩ = some (.slice A0 l0.length c0) := hcl.trans rfl
 have hco' : w.cell? ⟨go, 0, none⟩ = some (.bool ok) := hco.trans rfl
 clear hl ho hcl hco hr0 hc0 h
 obtain ⟨i0, hi0, _, hsz, _⟩ := info_parts info5
 obtain ⟨A', hcut, hA, hC⟩ := print_drop_of (P := Try.prog) (Value.int .u8) 0 24 5 .i64 Try.underlying24 hi0 hsz A0 c0 l0 r2 h2 h2l HC0.out
 have HA := Az.mk hA
 have HC := Az.mk hC
 have H2 := Az.mk h2
 have H2l := Az.mk h2l
 clear hA hC hi0 hsz h2 h2l hne
 go_enter Try.func69, Try.ntmps69
 have go_on : ∀ nd : Nat, ∀ b : Bool, b = (ok && (r3 == 0)) → ButTwo w (((w.drewN nd).setCell ⟨go, 0, none⟩ (.bool b)).setCell ⟨gl, 0, none⟩ (.slice A' (l0.length - r2.toNat) (c0 - r2.toNat))) gl go ∧
   ∃ A2 c2, (((w.drewN nd).setCell ⟨go, 0, none⟩ (.bool b)).setCell ⟨gl, 0, none⟩ (.slice A' (l0.length - r2.toNat) (c0 - r2.toNat))).heap[gl]? = some (.cells #[.slice A2 (l0.drop r2.toNat).length c2] 24 (0, 0)) ∧ (((w.drewN nd).setCell ⟨go, 0, none⟩ (.bool b)).setCell ⟨gl, 0, none⟩ (.slice A' (l0.length - r2.toNat) (c0 - r2.toNat))).heap[go]? = some (.cells #[.bool (ok && (r3 == 0))] 4 (0, 0)) ∧
    (l0.drop r2.toNat).length ≤ c2 ∧ ∀ W, Kd.C (Kd.int .u8) W A0 l0.length l0 → Kd.C (Kd.int .u8) W A2 (l0.drop r2.toNat).length (l0.drop r2.toNat) := by
  have el : l0.length - r2.toNat = (l0.drop r2.toNat).length := List.length_drop.symm
  intro nd b hb
  subst hb
  rw [el]
  refine ⟨⟨rfl, rfl, rfl, ?_, fun k h1 h2 hk => ?_⟩, A', c0 - r2.toNat, ?_, ?_, HC.out, fun W h => Kd.C_of_reads (h1 := fun _ => rfl) (HA.out W (Kd.reads_of_C h))⟩
  ·simp [World.size_setCell]
  ·exact (Below.heap_setCell _ ⟨gl, 0, none⟩ _ k (by simpa using h1)).trans ((Below.heap_setCell _ ⟨go, 0, none⟩ _ k (by simpa using h2)).trans rfl)
  ·exact blk_set (blk_far (blk_drewN BL.out nd) (p := ⟨go, 0, none⟩) NE.out _) 0 _
  ·exact blk_far (blk_set (blk_drewN BO.out nd) 0 _) (p := ⟨gl, 0, none⟩) (Ne.symm NE.out) _
 have GO := Az.mk go_on
 clear go_on
 by_cases hk : ok = true
 ·subst hk
  go_wp2_with (first | (go_at_call 60; refine (num_Get.calls A0 c0 l0 r1 r2 r3 _ HR0.out HC0.out A1.out).mono ?_; rintro e w' ⟨rfl, ⟨nd, rfl⟩⟩; have hx1 : ((w.drewN nd).setCell ⟨go, 0, none⟩ (.bool (r3 == 0))).cell? ⟨gl, 0, none⟩ = some (.slice A0 l0.length c0) := blk_cell (blk_far (blk_drewN BL.out nd) (p := ⟨go, 0, none⟩) NE.out _) 0; have hx2 : ((w.drewN nd).setCell ⟨go, 0, none⟩ (.bool (r3 == 0))).frozen? ⟨gl, 0, none⟩ = false := blk_frozen (blk_far (blk_drewN BL.out nd) (p := ⟨go, 0, none⟩) NE.out _) 0))
  go_ret
  exact ⟨rfl, GO.out nd (r3 == 0) (by simp)⟩
 ·have hk : ok = false := by simpa using hk
  subst hk
  go_wp2_with (first | (go_at_call 60; refine (num_Get.calls A0 c0 l0 r1 r2 r3 _ HR0.out HC0.out A1.out).mono ?_; rintro e w' ⟨rfl, ⟨nd, rfl⟩⟩; have hx1 : ((w.drewN nd).setCell ⟨go, 0, none⟩ (.bool false)).cell? ⟨gl, 0, none⟩ = some (.slice A0 l0.length c0) := blk_cell (blk_far (blk_drewN BL.out nd) (p := ⟨go, 0, none⟩) NE.out _) 0; have hx2 : ((w.drewN nd).setCell ⟨go, 0, none⟩ (.bool false)).frozen? ⟨gl, 0, none⟩ = false := blk_frozen (blk_far (blk_drewN BL.out nd) (p := ⟨go, 0, none⟩) NE.out _) 0))
  go_ret
  exact ⟨rfl, GO.out nd false (by simp)⟩
theorem num_Get.bounds (l : List Int) (r1 r2 r3 : Int) (h : num_Get.f l = some (r1, r2, r3)) : 0 ≤ r2 ∧ r2 ≤ l.length := by
 have hs : ∀ k s j, num_Get.scan l k s = some j → s ≤ l.length → j ≤ s + k ∧ (j < l.length ∨ j = s + k) := by
  intro k
  induction k with
  | zero => intro s j h hl; simp [num_Get.scan] at h; subst h; exact ⟨by omega, .inr rfl⟩
  | succ k ih =>
   intro s j h hl
   unfold num_Get.scan at h
   split at h
   ·simp at h
   ·split at h
    ·simp at h; subst h; exact ⟨by omega, .inl (by omega)⟩
    ·have := ih (s + 1) j h (by omega)
     omega
 unfold num_Get.f at h
 split at h
 ·have h := Option.some.inj h
  unfold num_Get.ans at h
  split at h
  ·simp at h; omega
  ·rename_i s hsc
   split at h
   ·simp at h; omega
   ·rename_i hn
    have := hs 10 0 s hsc (by omega)
    simp only [Prod.mk.injEq] at h
    omega
 ·simp at h
def run_entry.f (a0 : ByteArray) (l1 : List Int) : Option (ByteArray × Int × List Int × Bool) :=
 (num_Get.f l1).bind fun g1 => (num_Get.f (l1.drop g1.2.1.toNat)).bind fun g2 =>
  if (g1.2.2 == 0 && g2.2.2 == 0) = false then some (⟨#[]⟩, 0, [], false)
  else if g1.1 > IntKind.u64.wrap (a0.size : Int) then some (⟨#[]⟩, 0, [], false)
  else if g2.1 > IntKind.u64.wrap (((l1.drop g1.2.1.toNat).drop g2.2.1.toNat).length : Int) then some (⟨#[]⟩, 0, [], false)
  else if 0 ≤ g1.1 ∧ g1.1 ≤ a0.size ∧ 0 ≤ g2.1 ∧ g2.1 ≤ ((l1.drop g1.2.1.toNat).drop g2.2.1.toNat).length ∧ (a0.extract 0 g1.1.toNat).size + (strOfNums (((l1.drop g1.2.1.toNat).drop g2.2.1.toNat).take g2.1.toNat)).size ≤ 9223372036854775807 then
   (num_Get.f (((l1.drop g1.2.1.toNat).drop g2.2.1.toNat).drop g2.1.toNat)).bind fun g3 =>
    some (a0.extract 0 g1.1.toNat ++ strOfNums (((l1.drop g1.2.1.toNat).drop g2.2.1.toNat).take g2.1.toNat), g3.1, (((l1.drop g1.2.1.toNat).drop g2.2.1.toNat).drop g2.1.toNat).drop g3.2.1.toNat, g3.2.2 == 0)
  else none
theorem run_entry.calls (a0 : ByteArray) (A1 : Option Addr) (c1 : Nat) (l1 : List Int) (r1 : ByteArray) (r2 : Int) (r3 : List Int) (r4 : Bool) (w : World) (hr1 : Kd.C (Kd.int .u8) w A1 l1.length l1) (hc1 : l1.length ≤ c1) (h : run_entry.f a0 l1 = some (r1, r2, r3, r4)) :
  Calls Try.prog 66 #[.string a0, .slice A1 l1.length c1] w fun e w' => ∃ (A' : Option Addr) (c' : Nat), e = .returned (.tuple #[.agg #[.string r1, .int .u64 r2], .slice A' r3.length c', .bool r4]) ∧ r3.length ≤ c' ∧ (∀ W, Kd.C (Kd.int .u8) W A1 l1.length l1 → Kd.C (Kd.int .u8) W A' r3.length r3) ∧ Below w.heap.size w w' := by
 have HR1 := Az.mk hr1
 have HC1 := Az.mk hc1
 clear hr1 hc1
 unfold run_entry.f at h
 replace h := Option.bind_eq_some_iff.mp h
 obtain ⟨⟨n1, n2, n3⟩, G1, h⟩ := h
 replace h := Option.bind_eq_some_iff.mp h
 obtain ⟨⟨m1, m2, m3⟩, G2, h⟩ := h
 dsimp only at G2 h
 have b1 := num_Get.bounds _ _ _ _ G1
 have b2 := num_Get.bounds _ _ _ _ G2
 have G1' := Az.mk G1
 have G2' := Az.mk G2
 have B1 := Az.mk b1
 have B2 := Az.mk b2
 have H := Az.mk h
 clear G1 G2 b1 b2 h
 have HB := Az.mk (Below.refl w.heap.size w)
 go_enter Try.func66, Try.ntmps66
 go_upto_region 3 with (fail)
 have bl4 := blk_alloc (blk_alloc (blk_new w (.cells #[.string ⟨#[]⟩, .int .u64 0] 41 (0, 0))) (.cells #[.slice A1 l1.length c1] 24 (0, 0))) (.cells #[.bool true] 4 (0, 0))
 have bll := blk_alloc (blk_new (w.alloc (.cells #[.string ⟨#[]⟩, .int .u64 0] 41 (0, 0))) (.cells #[.slice A1 l1.length c1] 24 (0, 0))) (.cells #[.bool true] 4 (0, 0))
 have blo := blk_new ((w.alloc (.cells #[.string ⟨#[]⟩, .int .u64 0] 41 (0, 0))).alloc (.cells #[.slice A1 l1.length c1] 24 (0, 0))) (.cells #[.bool true] 4 (0, 0))
 rw [World.size_alloc] at bll blo
 rw [World.size_alloc] at blo
 have hb1 : Below w.heap.size w (((w.alloc (.cells #[.string ⟨#[]⟩, .int .u64 0] 41 (0, 0))).alloc (.cells #[.slice A1 l1.length c1] 24 (0, 0))).alloc (.cells #[.bool true] 4 (0, 0))) := below_alloc (below_alloc (below_alloc (Below.refl _ _) _) _) _
 obtain ⟨W1, hW1⟩ : ∃ W1, W1 = (((w.alloc (.cells #[.string ⟨#[]⟩, .int .u64 0] 41 (0, 0))).alloc (.cells #[.slice A1 l1.length c1] 24 (0, 0))).alloc (.cells #[.bool true] 4 (0, 0))) := ⟨_, rfl⟩
 rw [← hW1] at bl4 bll blo hb1 ⊢
 clear hW1
 have BL4 := Az.mk bl4
 have BLL := Az.mk bll
 have BLO := Az.mk blo
 have HB := Az.mk hb1
 clear bl4 bll blo hb1
 go_upto_region 4 with (first | (go_at_call 69; (with_reducible refine (run_entry1.calls (w.heap.size + 1) (w.heap.size + 1 + 1) (by omega) A1 c1 l1 true n1 n2 n3 W1 BLL.out BLO.out (Kd.C_below HR1.out HB.out) HC1.out G1'.out B1.out.1 B1.out.2).mono ?_); rintro e W2 ⟨rfl, hbt2, A2, c2, hl2, ho2, hc2, hC2⟩; have BL4' := Az.mk (hbt2.blk (by omega) (by omega) BL4.out); have HB' := Az.mk (hbt2.below HB.out (by omega) (by omega)); have BLL' := Az.mk hl2; have BLO' := Az.mk ho2; have HC2 := Az.mk hc2; have HR2 := Az.mk hC2; clear hbt2 hl2 ho2 hc2 hC2 BL4 BLL BLO HB) | (go_at_call 69; (with_reducible refine (run_entry1.calls (w.heap.size + 1) (w.heap.size + 1 + 1) (by omega) A2 c2 (l1.drop n2.toNat) (true && (n3 == 0)) m1 m2 m3 W2 BLL'.out BLO'.out (HR2.out _ (Kd.C_below HR1.out HB'.out)) HC2.out G2'.out B2.out.1 B2.out.2).mono ?_); rintro e W3 ⟨rfl, hbt3, A3, c3, hl3, ho3, hc3, hC3⟩; have BL4 := Az.mk (hbt3.blk (by omega) (by omega) BL4'.out); have HB := Az.mk (hbt3.below HB'.out (by omega) (by omega)); have BLL := Az.mk hl3; have BLO := Az.mk ho3; have HC3 := Az.mk hc3; have HR3 := Az.mk hC3; clear hbt3 hl3 ho3 hc3 hC3 BL4' BLL' BLO' HB'))
 have h := H.out
 clear H
 have hl3 := BLL.out
 have hc3 := HC3.out
 have hr3 := HR3.out
 clear BLL HC3 HR3
 generalize (l1.drop n2.toNat).drop m2.toNat = l3 at h hl3 hc3 hr3
 have BLL := Az.mk hl3
 have HC3 := Az.mk hc3
 have HR3 := Az.mk hr3
 clear hl3 hc3 hr3
 have hoo := blk_cell BLO.out 0
 have hol := blk_cell BLL.out 0
 have hfo := blk_frozen BLO.out 0
 have hfl := blk_frozen BLL.out 0
 have hf40 := blk_frozen BL4.out 0
 have hf41 := blk_frozen BL4.out 1
 have hc40 : W3.cell? ⟨w.heap.size, 0, none⟩ = some (.string ⟨#[]⟩) := blk_cell BL4.out 0
 have hc41 : W3.cell? ⟨w.heap.size, 1, none⟩ = some (.int .u64 0) := blk_cell BL4.out 1
 have hcl : W3.cell? ⟨w.heap.size + 1, 0, none⟩ = some (.slice A3 l3.length c3) := hol
 obtain ⟨b, hb⟩ : ∃ b, b = (n3 == 0 && m3 == 0) := ⟨_, rfl⟩
 have hco : W3.cell? ⟨w.heap.size + 1 + 1, 0, none⟩ = some (.bool b) := by rw [hb]; simpa using hoo
 rw [← hb] at h
 clear hoo hol
 cases b with
 | false =>
  rw [if_pos rfl] at h
  simp only [Option.some.injEq, Prod.mk.injEq] at h
  obtain ⟨rfl, rfl, rfl, rfl⟩ := h
  clear hb hcl hfl
  go_wp2
  refine bodyPost_ret (results_ctt rfl _ _ w.heap.size 41 #[.string (⟨#[]⟩ : ByteArray), .int .u64 0] (0, 0) _ rfl (by (with_reducible repeat (first | refine blk_drewN ?_ _ | refine blk_drew ?_ | refine blk_alloc ?_ _)); refine blk_put (cs := #[.string (⟨#[]⟩ : ByteArray), .int .u64 0]) ?_ 1 _ rfl; (with_reducible repeat (first | refine blk_drewN ?_ _ | refine blk_drew ?_ | refine blk_alloc ?_ _)); refine blk_put (cs := #[.string (⟨#[]⟩ : ByteArray), .int .u64 0]) ?_ 0 _ rfl; (with_reducible repeat (first | refine blk_drewN ?_ _ | refine blk_drew ?_ | refine blk_alloc ?_ _)); exact BL4.out) Try.underlying41 rfl (by kernel_rfl)) rfl ?_
  exact ⟨none, 0, rfl, Nat.le_refl _, fun W _ => Kd.C_nil _ _, by repeat (first | (with_reducible first | exact HB.out | apply below_alloc | apply pw_below_drewN | apply below_drew1 | refine below_set ?_ (Nat.le_refl _)) | exact HB.out)⟩
 | true =>
  rw [if_neg (by simp)] at h
  have blo' := BLO.out
  rw [show (true && (n3 == 0) && (m3 == 0)) = true by simpa using hb.symm] at blo'
  clear BLO
  have BLO := Az.mk blo'
  clear blo'
  by_cases c5 : n1 > IntKind.u64.wrap (a0.size : Int)
  ·rw [if_pos c5] at h
   have c5b : decide (IntKind.u64.wrap (a0.size : Int) < n1) = true := decide_eq_true c5
   simp only [Option.some.injEq, Prod.mk.injEq] at h
   obtain ⟨rfl, rfl, rfl, rfl⟩ := h
   clear hb hcl hfl c5
   go_wp2
   refine bodyPost_ret (results_ctt rfl _ _ w.heap.size 41 #[.string (⟨#[]⟩ : ByteArray), .int .u64 0] (0, 0) _ rfl (by (with_reducible repeat (first | refine blk_drewN ?_ _ | refine blk_drew ?_ | refine blk_alloc ?_ _)); refine blk_put (cs := #[.string (⟨#[]⟩ : ByteArray), .int .u64 0]) ?_ 1 _ rfl; (with_reducible repeat (first | refine blk_drewN ?_ _ | refine blk_drew ?_ | refine blk_alloc ?_ _)); refine blk_put (cs := #[.string (⟨#[]⟩ : ByteArray), .int .u64 0]) ?_ 0 _ rfl; (with_reducible repeat (first | refine blk_drewN ?_ _ | refine blk_drew ?_ | refine blk_alloc ?_ _)); exact BL4.out) Try.underlying41 rfl (by kernel_rfl)) rfl ?_
   exact ⟨none, 0, rfl, Nat.le_refl _, fun W _ => Kd.C_nil _ _, by repeat (first | (with_reducible first | exact HB.out | apply below_alloc | apply pw_below_drewN | apply below_drew1 | refine below_set ?_ (Nat.le_refl _)) | exact HB.out)⟩
  rw [if_neg c5] at h
  have c5b : decide (IntKind.u64.wrap (a0.size : Int) < n1) = false := decide_eq_false c5
  clear c5
  by_cases c6 : m1 > IntKind.u64.wrap (l3.length : Int)
  ·rw [if_pos c6] at h
   have c6b : decide (IntKind.u64.wrap (l3.length : Int) < m1) = true := decide_eq_true c6
   simp only [Option.some.injEq, Prod.mk.injEq] at h
   obtain ⟨rfl, rfl, rfl, rfl⟩ := h
   clear hb c6
   go_wp2
   refine bodyPost_ret (results_ctt rfl _ _ w.heap.size 41 #[.string (⟨#[]⟩ : ByteArray), .int .u64 0] (0, 0) _ rfl (by (with_reducible repeat (first | refine blk_drewN ?_ _ | refine blk_drew ?_ | refine blk_alloc ?_ _)); refine blk_put (cs := #[.string (⟨#[]⟩ : ByteArray), .int .u64 0]) ?_ 1 _ rfl; (with_reducible repeat (first | refine blk_drewN ?_ _ | refine blk_drew ?_ | refine blk_alloc ?_ _)); refine blk_put (cs := #[.string (⟨#[]⟩ : ByteArray), .int .u64 0]) ?_ 0 _ rfl; (with_reducible repeat (first | refine blk_drewN ?_ _ | refine blk_drew ?_ | refine blk_alloc ?_ _)); exact BL4.out) Try.underlying41 rfl (by kernel_rfl)) rfl ?_
   exact ⟨none, 0, rfl, Nat.le_refl _, fun W _ => Kd.C_nil _ _, by repeat (first | (with_reducible first | exact HB.out | apply below_alloc | apply pw_below_drewN | apply below_drew1 | refine below_set ?_ (Nat.le_refl _)) | exact HB.out)⟩
  rw [if_neg c6] at h
  have c6b : decide (IntKind.u64.wrap (l3.length : Int) < m1) = false := decide_eq_false c6
  clear c6
  by_cases c7 : 0 ≤ n1 ∧ n1 ≤ a0.size ∧ 0 ≤ m1 ∧ m1 ≤ l3.length ∧ (a0.extract 0 n1.toNat).size + (strOfNums (l3.take m1.toNat)).size ≤ 9223372036854775807
  ·rw [if_pos c7] at h
   obtain ⟨d0, d1, d2, d3, d4⟩ := c7
   replace h := Option.bind_eq_some_iff.mp h
   obtain ⟨⟨p1, p2, p3⟩, G3, h⟩ := h
   dsimp only at G3 h
   have b3 := num_Get.bounds _ _ _ _ G3
   have B3 := Az.mk b3
   have G3' := Az.mk G3
   have H := Az.mk h
   clear G3 b3 h hb
   go_upto_region 6 with (fail)
   obtain ⟨i0, hi0, _, hsz, _⟩ := info_parts info5
   obtain ⟨hcut, hA, hC⟩ := print_take_of (P := Try.prog) (Value.int .u8) 0 24 5 .u64 Try.underlying24 hi0 hsz A3 c3 l3 m1 d2 d3 HC3.out
   obtain ⟨A4, hcut4, hA4, hC4⟩ := print_drop_of (P := Try.prog) (Value.int .u8) 0 24 5 .u64 Try.underlying24 hi0 hsz A3 c3 l3 m1 d2 d3 HC3.out
   have HR4 : Az (∀ W, Kd.C (Kd.int .u8) W A3 l3.length l3 → Kd.C (Kd.int .u8) W A4 (l3.drop m1.toNat).length (l3.drop m1.toNat)) := Az.mk (fun W => fun h : Kd.C (Kd.int .u8) W A3 l3.length l3 => Kd.C_of_reads (h1 := fun _ => rfl) (hA4 W (Kd.reads_of_C h)))
   have HC4 := Az.mk hC4
   have HRt : Az (Kd.C (Kd.int .u8) W3 A3 (l3.take m1.toNat).length (l3.take m1.toNat)) := Az.mk (Kd.C_of_reads (h1 := fun _ => rfl) (hA _ (Kd.reads_of_C (HR3.out _ (HR2.out _ (Kd.C_below HR1.out HB.out))))))
   clear hA hC hA4 hC4 hi0 hsz
   have el : (l3.take m1.toNat).length = m1.toNat := by rw [List.length_take]; omega
   have hcvA := Kd.C_string (P := Try.prog) (c := c3) Try.underlying24 Try.underlying5 Try.underlying9 (Kd.C_drew HRt.out)
   have hcvB := Kd.C_string (P := Try.prog) (c := c3) Try.underlying24 Try.underlying5 Try.underlying9 (Kd.C_drew (Kd.C_alloc HRt.out (.cells #[.string ⟨#[]⟩, .int .u64 0] 41 (0, 0))))
   rw [el] at hcvA hcvB
   have hclB : ((W3.alloc (.cells #[.string ⟨#[]⟩, .int .u64 0] 41 (0, 0))).drew).cell? ⟨w.heap.size + 1, 0, none⟩ = some (.slice A3 l3.length c3) := blk_cell (blk_drew (blk_alloc BLL.out _)) 0
   obtain ⟨X, hX⟩ : ∃ X, X = a0.extract 0 n1.toNat ++ strOfNums (l3.take m1.toNat) := ⟨_, rfl⟩
   have HX := Az.mk hX
   have bl12 := blk_drew (blk_new W3 (.cells #[.string X, .int .u64 0] 41 (0, 0)))
   have bll4 := blk_drew (blk_alloc BLL.out (.cells #[.string X, .int .u64 0] 41 (0, 0)))
   have blo4 := blk_drew (blk_alloc BLO.out (.cells #[.string X, .int .u64 0] 41 (0, 0)))
   have bl44 := blk_drew (blk_alloc BL4.out (.cells #[.string X, .int .u64 0] 41 (0, 0)))
   have hb4 := below_drew1 (below_alloc HB.out (.cells #[.string X, .int .u64 0] 41 (0, 0)))
   have hlt := Az.mk (blk_lt BLO.out)
   have BL12 := Az.mk bl12
   have BLL4 := Az.mk bll4
   have BLO4 := Az.mk blo4
   have BL44 := Az.mk bl44
   have HB4 := Az.mk hb4
   clear bl12 bll4 blo4 bl44 hb4 hX
   go_region
   all_goals
    rw [← HX.out]
    clear hcvA hcvB hclB hco hcl hc40 hc41 hfo hfl hf40 hf41 BL4 BLL BLO HB
    have BL12_ := BL12.out
    have BLL4_ := BLL4.out
    have BLO4_ := BLO4.out
    have BL44_ := BL44.out
    have HB4_ := HB4.out
    clear BL12 BLL4 BLO4 BL44 HB4
    generalize hW4 : (W3.alloc (.cells #[.string X, .int .u64 0] 41 (0, 0))).drew = W4 at BL12_ BLL4_ BLO4_ BL44_ HB4_ ⊢
    clear hW4
    have hc := blk_cell BLL4_ 0
    have hc' : W4.cell? ⟨w.heap.size + 1, 0, none⟩ = some (.slice A3 l3.length c3) := hc
    have hf := blk_frozen BLL4_ 0
    clear hc
    have BL12 := Az.mk BL12_
    have BLL4 := Az.mk BLL4_
    have BLO4 := Az.mk BLO4_
    have BL44 := Az.mk BL44_
    have HB4 := Az.mk HB4_
    clear BL12_ BLL4_ BLO4_ BL44_ HB4_
    go_upto_region 8 with (fail)
    have BL12_ := blk_far BL12.out (p := ⟨w.heap.size + 1, 0, none⟩) (by have := hlt.out; simp; omega) (.slice A4 (l3.length - m1.toNat) (c3 - m1.toNat))
    have BLL_ := blk_set BLL4.out 0 (.slice A4 (l3.length - m1.toNat) (c3 - m1.toNat))
    have BLO_ := blk_far BLO4.out (p := ⟨w.heap.size + 1, 0, none⟩) (by simp) (.slice A4 (l3.length - m1.toNat) (c3 - m1.toNat))
    have BL4_ := blk_far BL44.out (p := ⟨w.heap.size + 1, 0, none⟩) (by simp) (.slice A4 (l3.length - m1.toNat) (c3 - m1.toNat))
    have HB_ := below_set (j := 0) (v := .slice A4 (l3.length - m1.toNat) (c3 - m1.toNat)) HB4.out (show w.heap.size ≤ w.heap.size + 1 by omega)
    clear hc' hf BL12 BLL4 BLO4 BL44 HB4
    generalize hW5 : W4.setCell ⟨w.heap.size + 1, 0, none⟩ (.slice A4 (l3.length - m1.toNat) (c3 - m1.toNat)) = W5 at BL12_ BLL_ BLO_ BL4_ HB_ ⊢
    clear hW5
    rw [show l3.length - m1.toNat = (l3.drop m1.toNat).length from List.length_drop.symm] at BLL_
    replace BLL_ : W5.heap[w.heap.size + 1]? = some (.cells #[.slice A4 (l3.drop m1.toNat).length (c3 - m1.toNat)] 24 (0, 0)) := BLL_
    have BL12 := Az.mk BL12_
    have BLL := Az.mk BLL_
    have BLO := Az.mk BLO_
    have BL4 := Az.mk BL4_
    have HB := Az.mk HB_
    clear BL12_ BLL_ BLO_ BL4_ HB_
    go_upto_region 9 with (go_at_call 69; (with_reducible refine (run_entry1.calls (w.heap.size + 1) (w.heap.size + 1 + 1) (by omega) A4 (c3 - m1.toNat) (l3.drop m1.toNat) true p1 p2 p3 W5 BLL.out BLO.out (HR4.out _ (HR3.out _ (HR2.out _ (Kd.C_below HR1.out HB.out)))) HC4.out G3'.out B3.out.1 B3.out.2).mono ?_); rintro e W6 ⟨rfl, hbt6, A6, c6, hl6, ho6, hc6, hC6⟩; have BL4' := Az.mk (hbt6.blk (by omega) (by omega) BL4.out); have BL12' := Az.mk (hbt6.blk (by have := hlt.out; omega) (by have := hlt.out; omega) BL12.out); have HB' := Az.mk (hbt6.below HB.out (by omega) (by omega)); have BLL' := Az.mk hl6; have BLO' := Az.mk ho6; have HC6 := Az.mk hc6; have HR6 := Az.mk hC6; clear hbt6 hl6 ho6 hc6 hC6 BL4 BL12 BLL BLO HB; have hx0 : W6.cell? ⟨W3.heap.size, 0, none⟩ = some (.string X) := blk_cell BL12'.out 0; have hx1 : W6.cell? ⟨W3.heap.size, 1, none⟩ = some (.int .u64 0) := blk_cell BL12'.out 1; have hy0 := blk_frozen BL12'.out 0; have hy1 := blk_frozen BL12'.out 1)
    have BL12_ := blk_set BL12'.out 1 (.int .u64 p1)
    have BLL_ := blk_far BLL'.out (p := ⟨W3.heap.size, 1, none⟩) (by have := hlt.out; simp; omega) (.int .u64 p1)
    have BLO_ := blk_far BLO'.out (p := ⟨W3.heap.size, 1, none⟩) (by have := hlt.out; simp; omega) (.int .u64 p1)
    have BL4_ := blk_far BL4'.out (p := ⟨W3.heap.size, 1, none⟩) (by have := hlt.out; simp; omega) (.int .u64 p1)
    have HB_ := below_set (j := 1) (v := .int .u64 p1) HB'.out (show w.heap.size ≤ W3.heap.size by have := hlt.out; omega)
    clear hx0 hx1 hy0 hy1 BL12' BLL' BLO' BL4' HB'
    generalize hW7 : W6.setCell ⟨W3.heap.size, 1, none⟩ (.int .u64 p1) = W7 at BL12_ BLL_ BLO_ BL4_ HB_ ⊢
    clear hW7
    have hx0 : W7.cell? ⟨W3.heap.size, 0, none⟩ = some (.string X) := blk_cell BL12_ 0
    have hx1 : W7.cell? ⟨W3.heap.size, 1, none⟩ = some (.int .u64 p1) := blk_cell BL12_ 1
    have hxl : W7.cell? ⟨w.heap.size + 1, 0, none⟩ = some (.slice A6 ((l3.drop m1.toNat).drop p2.toNat).length c6) := blk_cell BLL_ 0
    have hxo : W7.cell? ⟨w.heap.size + 1 + 1, 0, none⟩ = some (.bool (p3 == 0)) := by have := blk_cell BLO_ 0; simpa using this
    have hz0 : W7.cell? ⟨w.heap.size, 0, none⟩ = some (.string ⟨#[]⟩) := blk_cell BL4_ 0
    have hz1 : W7.cell? ⟨w.heap.size, 1, none⟩ = some (.int .u64 0) := blk_cell BL4_ 1
    have hf0 := blk_frozen BL4_ 0
    have hf1 := blk_frozen BL4_ 1
    have BL4 := Az.mk BL4_
    have HB := Az.mk HB_
    clear BL12_ BLL_ BLO_ BL4_ HB_
    have h := H.out
    simp only [Option.some.injEq, Prod.mk.injEq] at h
    rw [← HX.out] at h
    have hr7 := fun W hW => HR6.out W (HR4.out W (HR3.out W (HR2.out W hW)))
    have hc6 := HC6.out
    clear HR6 HC6
    obtain ⟨l5, hl5⟩ : ∃ l5, l5 = (l3.drop m1.toNat).drop p2.toNat := ⟨_, rfl⟩
    rw [← hl5] at h hxl hr7 hc6
    clear hl5
    have HR7 := Az.mk hr7
    have HC6 := Az.mk hc6
    clear hr7 hc6
    obtain ⟨rfl, rfl, rfl, rfl⟩ := h
    clear H
    go_region
    all_goals
     go_wp2
     refine bodyPost_ret (results_ctt rfl _ _ w.heap.size 41 #[.string X, .int .u64 p1] (0, 0) _ rfl (by (with_reducible repeat (first | refine blk_drewN ?_ _ | refine blk_drew ?_ | refine blk_alloc ?_ _)); refine blk_put (cs := #[.string X, .int .u64 0]) ?_ 1 _ rfl; (with_reducible repeat (first | refine blk_drewN ?_ _ | refine blk_drew ?_ | refine blk_alloc ?_ _)); refine blk_put (cs := #[.string (⟨#[]⟩ : ByteArray), .int .u64 0]) ?_ 0 _ rfl; (with_reducible repeat (first | refine blk_drewN ?_ _ | refine blk_drew ?_ | refine blk_alloc ?_ _)); exact BL4.out) Try.underlying41 rfl (by kernel_rfl)) rfl ?_
     exact ⟨_, _, rfl, HC6.out, HR7.out, by repeat (first | (with_reducible first | exact HB.out | apply below_alloc | apply pw_below_drewN | apply below_drew1 | refine below_set ?_ (Nat.le_refl _)) | exact HB.out)⟩
  ·rw [if_neg c7] at h
   exact absurd h (by simp)
def run_unblock.go : Nat → ByteArray → List Int → List S41 → Option (List S41 × Bool)
 | 0, _, left, acc => some (acc, left.length == 0)
 | n + 1, was, left, acc => (run_entry.f was left).bind fun r => if r.2.2.2 = false then some ([], false) else if acc.length < 5864062014805 then run_unblock.go n r.1 r.2.2.1 (acc ++ [⟨r.1, r.2.1⟩]) else none
def run_unblock.f (l0 : List Int) : Option (List S41 × Bool) :=
 (num_Get.f l0).bind fun g => if g.2.2 ≠ 0 then some ([], false) else if g.1 > 255 then some ([], false) else if 0 ≤ g.1 then run_unblock.go g.1.toNat ⟨#[]⟩ (l0.drop g.2.1.toNat) [] else none
theorem run_unblock.calls (A0 : Option Addr) (c0 : Nat) (l0 : List Int) (r1 : List S41) (r2 : Bool) (w : World) (hr0 : Kd.C (Kd.int .u8) w A0 l0.length l0) (hc0 : l0.length ≤ c0) (h : run_unblock.f l0 = some (r1, r2)) :
  Calls Try.prog 61 #[.slice A0 l0.length c0] w fun e w' => ∃ v0_ : Value, e = .returned (.tuple #[v0_, .bool r2]) ∧ Kd.R k41 41 w' w.heap.size (fun _ => True) v0_ r1 ∧ Below w.heap.size w w' := by
 have HR0 := Az.mk hr0
 have HC0 := Az.mk hc0
 clear hr0 hc0
 unfold run_unblock.f at h
 replace h := Option.bind_eq_some_iff.mp h
 obtain ⟨⟨n1, n2, n3⟩, G1, h⟩ := h
 dsimp only at h
 have b1 := num_Get.bounds _ _ _ _ G1
 have G1' := Az.mk G1
 have B1 := Az.mk b1
 have H := Az.mk h
 clear G1 b1 h
 have HB := Az.mk (Below.refl w.heap.size w)
 go_enter Try.func61, Try.ntmps61
 go_upto_region 2 with (go_at_call 60; refine (num_Get.calls A0 c0 l0 n1 n2 n3 _ HR0.out HC0.out G1'.out).mono ?_; rintro e w' ⟨rfl, ⟨nd, rfl⟩⟩)
 have h := H.out
 clear H
 by_cases c3 : n3 = 0
 ·rw [if_neg (by simpa using c3)] at h
  have c3b : (n3 != 0) = false := by simpa using c3
  clear c3
  by_cases c4 : n1 > 255
  ·rw [if_pos c4] at h
   have c4b : decide (255 < n1) = true := decide_eq_true c4
   clear c4
   simp only [Option.some.injEq, Prod.mk.injEq] at h
   obtain ⟨rfl, rfl⟩ := h
   go_wp2
   go_ret2
   exact ⟨_, rfl, Kd.R_nil _ _ _ _ _, pw_below_drewN HB.out _⟩
  ·rw [if_neg c4] at h
   have c4b : decide (255 < n1) = false := decide_eq_false c4
   have c4' := Az.mk c4
   clear c4
   by_cases c5 : 0 ≤ n1
   ·rw [if_pos c5] at h
    have H := Az.mk h
    have C5 := Az.mk c5
    clear h c5
    obtain ⟨i0, hi0, _, hsz, _⟩ := info_parts info5
    obtain ⟨A2, hcut2, hA2, hC2⟩ := print_drop_of (P := Try.prog) (Value.int .u8) 0 24 5 .i64 Try.underlying24 hi0 hsz A0 c0 l0 n2 B1.out.1 B1.out.2 HC0.out
    have HR2 : Az (Kd.C (Kd.int .u8) w A2 (l0.drop n2.toNat).length (l0.drop n2.toNat)) := Az.mk (Kd.C_of_reads (h1 := fun _ => rfl) (hA2 w (Kd.reads_of_C HR0.out)))
    have HC2 := Az.mk hC2
    clear hA2 hC2 hi0 hsz
    have b1 := B1.out.1
    have b2 := B1.out.2
    go_upto_region 5 with (fail)
    go_region
    go_wp2
    go_loopg [7, 8, 9, 29] n1.toNat (fun kq v7 v8 v9 v29 w' => ∃ (x7 : List S41) (x8 : ByteArray) (x9 : List Int) (x29 : Int) (A9 : Option Addr) (c9 : Nat), v8 = .string x8 ∧ v9 = .slice A9 x9.length c9 ∧ v29 = .int .u64 x29 ∧ Az (x29 = n1 - kq) ∧ Az (kq ≤ n1.toNat) ∧ Az (run_unblock.go kq x8 x9 x7 = some (r1, r2)) ∧ Az (x9.length ≤ c9) ∧ Az (Kd.C (Kd.int .u8) w A9 x9.length x9) ∧ Az (Kd.R k41 41 w' w.heap.size (fun _ => True) v7 x7) ∧ Az (Below w.heap.size w w'))
    case atStart => exact ⟨[], ⟨#[]⟩, l0.drop n2.toNat, 0, A2, c0 - n2.toNat, rfl, by rw [List.length_drop], rfl, ⟨by have := C5.out; omega⟩, ⟨Nat.le_refl _⟩, H, HC2, HR2, ⟨Kd.R_nil _ _ _ _ _⟩, ⟨pw_below_drewN HB.out _⟩⟩
    case round =>
     clear H HC2 HR2 HB hcut2
     obtain ⟨x7, x8, x9, x29, A9, c9, rfl, rfl, rfl, E29, K9, H, HC9, HR9, HO, HB⟩ := hrel
     cases gk with
     | zero =>
      have hlt : decide (x29 < n1) = false := by have := E29.out; simp; omega
      have h := H.out
      simp only [run_unblock.go, Option.some.injEq, Prod.mk.injEq] at h
      obtain ⟨rfl, hr2⟩ := h
      have hr2' : (((x9.length : Nat) : Int) == 0) = r2 := by rw [← hr2]; cases x9 <;> simp <;> omega
      clear hr2 H
      go_wp2
      go_ret2
      exact ⟨_, rfl, HO.out, HB.out⟩
     | succ k1 =>
      have hlt : decide (x29 < n1) = true := by have := E29.out; have := K9.out; simp; omega
      have h := H.out
      clear H
      simp only [run_unblock.go] at h
      replace h := Option.bind_eq_some_iff.mp h
      obtain ⟨⟨e1, e2, e3, e4⟩, G, h⟩ := h
      dsimp only at h
      have G := Az.mk G
      have H := Az.mk h
      clear h
      go_upto_region 9 with (go_at_call 66; (refine (run_entry.calls x8 A9 c9 x9 e1 e2 e3 e4 _ (Kd.C_below HR9.out HB.out) HC9.out G.out).mono ?_); rintro e w1 ⟨A3, c3, rfl, hc3, hr3, hb⟩; have HC3 := Az.mk hc3; have HR3 := Az.mk (hr3 _ HR9.out); have HB1 := Az.mk hb; clear hc3 hr3 hb)
      have bk := blk_new w1 (.cells #[.string e1, .int .u64 e2] 41 (0, 0))
      have ho2 := Kd.R_alloc (Kd.R_elderB (Kd.R_below HO.out HB1.out) w1.heap.size (Nat.le_refl _)) (.cells #[.string e1, .int .u64 e2] 41 (0, 0))
      have hb2 := below_alloc (below_step HB.out HB1.out) (.cells #[.string e1, .int .u64 e2] 41 (0, 0))
      have hg2 : w.heap.size ≤ w1.heap.size := (below_step HB.out HB1.out).size
      generalize hg : w1.heap.size = g at *
      generalize hW2 : w1.alloc (.cells #[.string e1, .int .u64 e2] 41 (0, 0)) = W2 at *
      clear hW2 hg
      have hc0 : W2.cell? ⟨g, 0, none⟩ = some (.string e1) := blk_cell bk 0
      have hc1 : W2.cell? ⟨g, 1, none⟩ = some (.int .u64 e2) := blk_cell bk 1
      have BK := Az.mk bk
      have HO2 := Az.mk ho2
      have HB2 := Az.mk hb2
      have HG := Az.mk hg2
      clear bk ho2 hb2 hg2 HB1 HB HO
      have h := H.out
      clear H
      cases e4 with
      | false =>
       rw [if_pos rfl] at h
       simp only [Option.some.injEq, Prod.mk.injEq] at h
       obtain ⟨rfl, rfl⟩ := h
       go_wp2
       go_ret2
       exact ⟨_, rfl, Kd.R_nil _ _ _ _ _, HB2.out⟩
      | true =>
       rw [if_neg (by simp)] at h
       by_cases c6 : x7.length < 5864062014805
       ·rw [if_pos c6] at h
        have LM := Az.mk c6
        have H := Az.mk h
        clear h c6
        have hw : IntKind.u64.wrap (x29 + 1) = n1 - k1 := by
         have := E29.out
         have := K9.out
         have := C5.out
         have := c4'.out
         simp [IntKind.wrap, IntKind.bits, IntKind.signed]
         omega
        have HW := Az.mk hw
        clear hw
        go_wp2_with ((with_reducible refine gate_builtin (b := .append) (xs := #[.tmp 40, .tmp 42]) rfl ?_); at_builtin; refine Kd.R_append k41 (w0 := w) w.heap.size rfl (.tmp 40) (.tmp 42) 36 41 (.agg #[(.string ⟨#[]⟩), (.int .u64 0)]) 24 rfl Try.underlying36 info41 rfl (by decide) (by omega) u7 x7 (⟨e1, e2⟩ : S41) [.string e1, .int .u64 e2] (fun k_ => k_ ≠ g) (fun _ => False) rfl (by first | (go_simp; done) | (go_simp; rfl)) ?aP (fun _ hk => hk.elim) ?aF ?aO ?aB ?aS ?aL ?_; (case aP => exact k41_mkM _ _ _ (⟨e1, e2⟩ : S41)); (case aB => exact (bl_ HB2)); (case aF => exact (fun k_ hk => Kd.freshB (g := g) (o := .cells #[.string e1, .int .u64 e2] 41 (0, 0)) (bk_ BK.out) k_ hk)); (case aO => exact (by (with_reducible repeat (first | apply Kd.R_alloc | apply Kd.R_drewN | apply Kd.R_drew)); exact Kd.R_mono HO2.out (fun _ hk => hk.2))); (case aS => exact (below_size (bl_ HB2))); (case aL => have := LM.out; omega); intro v8_ w3 ho hb hg hat; have BK3 := Az.mk (blk_grown (g := g) (o := .cells #[.string e1, .int .u64 e2] 41 (0, 0)) (bk_ BK.out) hg (Kd.R_away HO2.out (fun _ hk => hk.2))); have HO3 := Az.mk ho; have HB3 := Az.mk hb; clear ho hb hg hat BK HO2 HB2; have hcz0 : w3.cell? ⟨g, 0, none⟩ = some (.string e1) := blk_cell BK3.out 0; have hcz1 : w3.cell? ⟨g, 1, none⟩ = some (.int .u64 e2) := blk_cell BK3.out 1)
        go_roundg k1
        case measure => have := K9.out; omega
        case rel => exact ⟨x7 ++ [⟨e1, e2⟩], e1, e3, _, A3, c3, rfl, rfl, rfl, HW, ⟨by have := K9.out; omega⟩, H, HC3, HR3, ⟨by (with_reducible repeat (first | apply Kd.R_alloc | apply Kd.R_drewN | apply Kd.R_drew)); exact Kd.R_mono HO3.out (fun _ hk => trivial)⟩, ⟨bl_ HB3⟩⟩
       ·rw [if_neg c6] at h
        exact absurd h (by simp)
   ·rw [if_neg c5] at h
    exact absurd h (by simp)
 ·rw [if_pos c3] at h
  have c3b : (n3 != 0) = true := by simpa using c3
  clear c3
  simp only [Option.some.injEq, Prod.mk.injEq] at h
  obtain ⟨rfl, rfl⟩ := h
  go_wp2
  go_ret2
  exact ⟨_, rfl, Kd.R_nil _ _ _ _ _, pw_below_drewN HB.out _⟩
mutual
def run_Decode.j0 : Nat → List Int → List (List Int) → Int → Bool → Option ((List (S41)) × Int)
 | 0, _, _, _, _ => none
 | k + 1, x0, x4, x6, x36 => if x36 = true then (some (([] : List (S41)), 2)) else (if 1 ≤ (wrap64 ((x4.length : Int) - 1)) then (if (wrap64 ((x4.length : Int) - 1)) ≤ (x4.length : Int) then ((some ((x4.take ((wrap64 ((x4.length : Int) - 1)) : Int).toNat).drop 1 : List (List Int))).bind fun y206 => (run_Decode.l0 k x0 x6 ([] : List (S41)) y206 (y206.length : Int) 0)) else (none)) else (none))
def run_Decode.l0 : Nat → List Int → Int → List (S41) → List (List Int) → Int → Int → Option ((List (S41)) × Int)
 | 0, _, _, _, _, _, _ => none
 | k + 1, x0, x6, x9, x41, x42, x43 => if x43 < x42 then (if 0 ≤ x43 then (if x43 < (x41.length : Int) then ((run_unblock.f (rd_L5 x41 x43)).bind fun bt211 => (if bt211.2 = true then (if x9.length + bt211.1.length < 5864062014805 then (run_Decode.l0 k x0 x6 (x9 ++ bt211.1) x41 x42 (wrap64 (x43 + 1))) else (none)) else (some (([] : List (S41)), 2)))) else (none)) else (none)) else ((run_Encode.f k x9 (wrap64 (x6))).bind fun bt218 => (if bt218.2 = 0 then ((bytes_Equal.f bt218.1 x0).bind fun t222 => (if t222 = true then (some (x9, 0)) else (some (([] : List (S41)), 2)))) else (some (([] : List (S41)), 2))))
end
def run_Decode.f (k : Nat) (l0 : List Int) : Option ((List (S41)) × Int) := (frame_Scan.f k l0).bind fun bt198 => (if (bt198.1.length : Int) < 2 then (some (([] : List (S41)), 2)) else (if 0 < (bt198.1.length : Int) then ((num_Get.f (rd_L5 bt198.1 0)).bind fun bt203 => (if bt203.2.2 = 0 then (run_Decode.j0 k l0 bt198.1 bt203.1 (decide (bt203.1 > 255))) else (run_Decode.j0 k l0 bt198.1 bt203.1 true))) else (none)))
theorem run_Decode.mono_l : ∀ k, (∀ y0 y1 y2 y3, LeO (run_Decode.j0 k y0 y1 y2 y3) (run_Decode.j0 (k + 1) y0 y1 y2 y3)) ∧ (∀ y0 y1 y2 y3 y4 y5, LeO (run_Decode.l0 k y0 y1 y2 y3 y4 y5) (run_Decode.l0 (k + 1) y0 y1 y2 y3 y4 y5))
 | 0 => ⟨fun _ _ _ _ r h => by simp [run_Decode.j0] at h, fun _ _ _ _ _ _ r h => by simp [run_Decode.l0] at h⟩
 | k + 1 => by
  obtain ⟨ih0, ih1⟩ := run_Decode.mono_l k
  refine ⟨?_, ?_⟩
  ·intro y0 y1 y2 y3
   unfold run_Decode.j0
   repeat' first
   | (with_reducible exact ih0 _ _ _ _)
   | (with_reducible exact ih1 _ _ _ _ _ _)
   | (with_reducible exact frame_Scan.mono _ _)
   | (with_reducible exact run_Encode.mono _ _ _)
   | (with_reducible exact LeO.refl _)
   | (with_reducible exact LeO.none _)
   | (with_reducible refine LeO.ite ?_ ?_)
   | (with_reducible refine LeO.bind ?_ (fun _ => ?_))
   | exact ih0 _ _ _ _
   | exact ih1 _ _ _ _ _ _
   | exact frame_Scan.mono _ _
   | exact run_Encode.mono _ _ _
   | exact LeO.none _
   | refine LeO.ite ?_ ?_
   | refine LeO.bind ?_ (fun _ => ?_)
  ·intro y0 y1 y2 y3 y4 y5
   unfold run_Decode.l0
   repeat' first
   | (with_reducible exact ih0 _ _ _ _)
   | (with_reducible exact ih1 _ _ _ _ _ _)
   | (with_reducible exact frame_Scan.mono _ _)
   | (with_reducible exact run_Encode.mono _ _ _)
   | (with_reducible exact LeO.refl _)
   | (with_reducible exact LeO.none _)
   | (with_reducible refine LeO.ite ?_ ?_)
   | (with_reducible refine LeO.bind ?_ (fun _ => ?_))
   | exact ih0 _ _ _ _
   | exact ih1 _ _ _ _ _ _
   | exact frame_Scan.mono _ _
   | exact run_Encode.mono _ _ _
   | exact LeO.none _
   | refine LeO.ite ?_ ?_
   | refine LeO.bind ?_ (fun _ => ?_)
theorem run_Decode.mono : ∀ a0 k, LeO (run_Decode.f k a0) (run_Decode.f (k + 1) a0) := by
 intro a0 k
 obtain ⟨ih0, ih1⟩ := run_Decode.mono_l k
 unfold run_Decode.f
 repeat' first
   | (with_reducible exact ih0 _ _ _ _)
   | (with_reducible exact ih1 _ _ _ _ _ _)
   | (with_reducible exact frame_Scan.mono _ _)
   | (with_reducible exact run_Encode.mono _ _ _)
   | (with_reducible exact LeO.refl _)
   | (with_reducible exact LeO.none _)
   | (with_reducible refine LeO.ite ?_ ?_)
   | (with_reducible refine LeO.bind ?_ (fun _ => ?_))
   | exact ih0 _ _ _ _
   | exact ih1 _ _ _ _ _ _
   | exact frame_Scan.mono _ _
   | exact run_Encode.mono _ _ _
   | exact LeO.none _
   | refine LeO.ite ?_ ?_
   | refine LeO.bind ?_ (fun _ => ?_)
theorem run_Decode.calls (k : Nat) (A0 : Option Addr) (c0 : Nat) (l0 : List Int) (r1 : List (S41)) (r2 : Int) (w : World) (hr0 : Kd.C (Kd.int .u8) w A0 l0.length l0) (hc0 : l0.length ≤ c0) (h : run_Decode.f k l0 = some (r1, r2)) :
  Calls Try.prog 47 #[.slice A0 l0.length c0] w fun e w' => ∃ v0_ : Value, e = .returned (.tuple #[v0_, .int .i64 r2]) ∧ Kd.R k41 41 w' w.heap.size (fun _ => True) v0_ r1 ∧ Below w.heap.size w w' := by
 have HR0 := Az.mk hr0
 have HC0 := Az.mk hc0
 clear hr0 hc0
 have HB := Az.mk (Below.refl w.heap.size w)
 have H : ((frame_Scan.f k l0).bind fun bt198 => (if (bt198.1.length : Int) < 2 then (some (([] : List (S41)), 2)) else (if 0 < (bt198.1.length : Int) then ((num_Get.f (rd_L5 bt198.1 0)).bind fun bt203 => (if bt203.2.2 = 0 then (run_Decode.j0 k l0 bt198.1 bt203.1 (decide (bt203.1 > 255))) else (run_Decode.j0 k l0 bt198.1 bt203.1 true))) else (none)))) = some (r1, r2) := h
 clear h
 replace H := Option.bind_eq_some_iff.mp H
 obtain ⟨⟨t198, t199⟩, A20, H⟩ := H
 replace H : (if (t198.length : Int) < 2 then (some (([] : List (S41)), 2)) else (if 0 < (t198.length : Int) then ((num_Get.f (rd_L5 t198 0)).bind fun bt203 => (if bt203.2.2 = 0 then (run_Decode.j0 k l0 t198 bt203.1 (decide (bt203.1 > 255))) else (run_Decode.j0 k l0 t198 bt203.1 true))) else (none))) = some (r1, r2) := H
 have A2 := Az.mk A20
 clear A20
 by_cases c3 : (t198.length : Int) < 2
 ·rw [if_pos c3] at H
  have c3b0 := decide_eq_true c3
  have c3b1 : decide (t198.length < 2) = true := decide_eq_true (by omega)
  clear c3
  simp only [Option.some.injEq, Prod.mk.injEq] at H
  obtain ⟨rfl, rfl⟩ := H
  go_enter Try.func47, Try.ntmps47
  go_wp2_with (first | ((with_reducible refine gate_callee (f := 59) rfl ?_); refine goesL_ (some 17) rfl rfl Try.func59 (by kernel_rfl) rfl #[.slice A0 l0.length c0] rfl ar_ ?_; (with_reducible refine (frame_Scan.calls k _ _ l0 t198 t199 _ ?side1 ?side2 A2.out).mono ?_); (case side1 => exact cl_ HR0.out); (case side2 => exact HC0.out); rintro e w4 ⟨v200, rfl, ho0, hb⟩; refine ⟨_, rfl, ?_⟩; have n0_ := Az.mk (Kd.S_lower ho0 (below_size (bl_ HB))); have n1_ := Az.mk (below_step (bl_ HB) hb); clear HB; have HO201 := n0_; have HB := n1_; clear n0_ n1_; (try clear hb); (try clear hb2); (try clear hk); (try clear hi); (try clear ho0); obtain ⟨Ao5, co5, eo5⟩ := Kd.S_slice HO201.out; subst eo5))
  go_ret2
  exact ⟨_, er_, nl_, bl_ HB⟩
 ·rw [if_neg c3] at H
  have c3b0 := decide_eq_false c3
  have c3b1 : decide (t198.length < 2) = false := decide_eq_false (by omega)
  clear c3
  by_cases c6 : 0 < (t198.length : Int)
  ·rw [if_pos c6] at H
   have c6b0 := decide_eq_true c6
   have c6b1 : decide (0 < t198.length) = true := decide_eq_true (by omega)
   clear c6
   replace H := Option.bind_eq_some_iff.mp H
   obtain ⟨⟨t203, t204, t205⟩, A70, H⟩ := H
   replace H : (if t205 = 0 then (run_Decode.j0 k l0 t198 t203 (decide (t203 > 255))) else (run_Decode.j0 k l0 t198 t203 true)) = some (r1, r2) := H
   have A7 := Az.mk A70
   clear A70
   have HC8 := Az.mk H
   clear H
   go_enter Try.func47, Try.ntmps47
   go_upto_region 5 with (first | ((with_reducible refine gate_callee (f := 59) rfl ?_); refine goesL_ (some 17) rfl rfl Try.func59 (by kernel_rfl) rfl #[.slice A0 l0.length c0] rfl ar_ ?_; (with_reducible refine (frame_Scan.calls k _ _ l0 t198 t199 _ ?side1 ?side2 A2.out).mono ?_); (case side1 => exact cl_ HR0.out); (case side2 => exact HC0.out); rintro e w9 ⟨v200, rfl, ho0, hb⟩; refine ⟨_, rfl, ?_⟩; have n0_ := Az.mk (Kd.S_lower ho0 (below_size (bl_ HB))); have n1_ := Az.mk (below_step (bl_ HB) hb); clear HB; have HO201 := n0_; have HB := n1_; clear n0_ n1_; (try clear hb); (try clear hb2); (try clear hk); (try clear hi); (try clear ho0); obtain ⟨Ao10, co10, eo10⟩ := Kd.S_slice HO201.out; subst eo10; have p202 : 0 ≤ (0 : Int) := (by omega); have q202 : 0 < (t198.length : Int) := of_decide_eq_true as_; obtain ⟨ad202, A202_0, c202_0, e202, hx202_0, hl202_0, hi202_0⟩ := at_L5 (Kd.S_reads' HO201.out).2.2 0 p202 q202; cases e202; obtain ⟨ce202, hce202, hMe202, hcc202⟩ := Kd.S_get HO201.out [] 0 p202 (by first | exact q202 | exact of_decide_eq_true as_ | (have e_ := (Kd.S_reads' HO201.out).1; omega)); obtain ⟨ve202_0, rfl, ge202_0⟩ := hMe202; have hv202_0 := hcc202 0 _ rfl; rw [Nat.add_zero, show ((Kd.slice 5 (Kd.int .u8))).sz = 1 from rfl, Nat.mul_one] at hv202_0; replace hv202_0 := Option.some.inj (hv202_0.symm.trans hx202_0); rw [hv202_0] at ge202_0; have HL202_0 := Az.mk (show Kd.R (Kd.int .u8) 5 _ _ _ _ (rd_L5 t198 0) from ge202_0); clear hv202_0 ge202_0; clear hcc202 hce202; have qi202 : (0 < t198.length) = True := eq_true (by omega); (try rw [show ((0 : Int)).toNat = 0 from rfl] at hx202_0); (try rw [Addr.add_zero'] at hx202_0); have HR202_0 := Az.mk hi202_0; have HC202_0 := Az.mk hl202_0; clear hi202_0 hl202_0; replace p202 := eq_true p202; replace q202 := eq_true q202) | ((with_reducible refine gate_callee (f := 60) rfl ?_); refine goesL_ (some 27) rfl rfl Try.func60 (by kernel_rfl) rfl #[.slice A202_0 (rd_L5 t198 0).length c202_0] rfl ar_ ?_; (with_reducible refine (num_Get.calls _ _ (rd_L5 t198 0) t203 t204 t205 _ ?side1 ?side2 A7.out).mono ?_); (case side1 => repeat (first | exact (by repeat (first | (with_reducible exact HR202_0.out) | (with_reducible refine Kd.C_alloc ?_ _) | (with_reducible refine Kd.C_drewN ?_ _) | (with_reducible refine Kd.C_drew ?_) | exact HR202_0.out)) | (with_reducible refine Kd.C_alloc ?_ _) | (with_reducible refine Kd.C_drewN ?_ _) | (with_reducible refine Kd.C_drew ?_))); (case side2 => exact HC202_0.out); rintro e w' ⟨rfl, ⟨nd, rfl⟩⟩; refine ⟨_, rfl, ?_⟩))
   (try simp only [Act.put, List.setIfInBounds_toArray, List.set_cons_zero, List.set_cons_succ])
   go_cut [36] (fun v36 wc => ∃ (kq : Nat) (x36_7 : Bool), v36 = .bool x36_7 ∧ Az (run_Decode.j0 kq l0 t198 t203 x36_7 = some (r1, r2)) ∧ Az (kq ≤ k) ∧ Az (Kd.S (Kd.slice 5 (Kd.int .u8)) 24 wc w.heap.size (fun _ => True) (.slice (some ad202) t198.length co10) t198) ∧ Az (Kd.C (Kd.int .u8) wc A202_0 (rd_L5 t198 0).length (rd_L5 t198 0)) ∧ Az (Below w.heap.size w wc))
   case first =>
    have H := HC8.out
    clear HC8
    by_cases c11 : t205 = 0
    ·rw [if_pos c11] at H
     have c11b0 : (t205 == 0) = true := beq_iff_eq.mpr c11
     have c11b1 : (t205 != 0) = false := bne_eq_false_iff_eq.mpr c11
     clear c11
     (first | rw [c11b0] | (simp only [i64_w, i32_w]; rw [c11b0]) | skip)
     have H' := Az.mk H
     clear H
     go_wp2
     go_meet
     case rel => exact ⟨_, (decide (t203 > 255)), (es_), H', ⟨by first | omega | exact Nat.le_refl _⟩, ⟨sl_ HO201.out⟩, ⟨by repeat (first | (with_reducible exact HR202_0.out) | (with_reducible refine Kd.C_alloc ?_ _) | (with_reducible refine Kd.C_drewN ?_ _) | (with_reducible refine Kd.C_drew ?_) | exact HR202_0.out)⟩, ⟨bl_ HB⟩⟩
    ·rw [if_neg c11] at H
     have c11b0 : (t205 == 0) = false := beq_eq_false_iff_ne.mpr c11
     have c11b1 : (t205 != 0) = true := bne_iff_ne.mpr c11
     (first | rw [c11b0] | (simp only [i64_w, i32_w]; rw [c11b0]) | skip)
     have H' := Az.mk H
     clear H
     go_wp2
     go_meet
     case rel => exact ⟨_, (true), (es_), H', ⟨by first | omega | exact Nat.le_refl _⟩, ⟨sl_ HO201.out⟩, ⟨by repeat (first | (with_reducible exact HR202_0.out) | (with_reducible refine Kd.C_alloc ?_ _) | (with_reducible refine Kd.C_drewN ?_ _) | (with_reducible refine Kd.C_drew ?_) | exact HR202_0.out)⟩, ⟨bl_ HB⟩⟩
   case rest =>
    clear HC8
    try clear c1
    try clear c2
    try clear p2
    try clear q2
    try clear hx2
    try clear qi2
    try clear c3
    try clear c3b0
    try clear c3b1
    try clear c4
    try clear c5
    try clear c6
    try clear c6b0
    try clear c6b1
    try clear c11
    try clear c11b0
    try clear c11b1
    try clear hx202_0
    try clear p202
    try clear q202
    obtain ⟨kq, x36_7, rfl, HA, HJ7, HO_4, HR202_0, HB⟩ := hcut
    cases kq with
    | zero => exact absurd HA.out (by simp [run_Decode.j0])
    | succ kj7 =>
     have H := HA.out
     clear HA
     simp only [run_Decode.j0] at H
     by_cases c12 : x36_7 = true
     ·subst c12
      have H1 : (some (([] : List (S41)), 2)) = some (r1, r2) := by rw [if_pos rfl] at H; exact H
      clear H
      have H := H1
      clear H1
      simp only [Option.some.injEq, Prod.mk.injEq] at H
      obtain ⟨rfl, rfl⟩ := H
      go_wp2
      go_ret2
      exact ⟨_, er_, nl_, bl_ HB⟩
     ·replace c12 := Bool.eq_false_iff.mpr c12
      subst c12
      have H1 : (if 1 ≤ (wrap64 ((t198.length : Int) - 1)) then (if (wrap64 ((t198.length : Int) - 1)) ≤ (t198.length : Int) then ((some ((t198.take ((wrap64 ((t198.length : Int) - 1)) : Int).toNat).drop 1 : List (List Int))).bind fun y206 => (run_Decode.l0 kj7 l0 t203 ([] : List (S41)) y206 (y206.length : Int) 0)) else (none)) else (none)) = some (r1, r2) := by rw [if_neg (show ¬ (false = true) by decide)] at H; exact H
      clear H
      have H := H1
      clear H1
      by_cases c13 : 1 ≤ (wrap64 ((t198.length : Int) - 1))
      ·rw [if_pos c13] at H
       have c13b0 := eq_true c13
       have c13b1 := decide_eq_true c13
       clear c13
       by_cases c14 : (wrap64 ((t198.length : Int) - 1)) ≤ (t198.length : Int)
       ·rw [if_pos c14] at H
        have c14b0 := eq_true c14
        have c14b1 := decide_eq_true c14
        clear c14
        obtain ⟨y206, hy206⟩ : ∃ y_ : List (List Int), y_ = ((t198.take ((wrap64 ((t198.length : Int) - 1)) : Int).toNat).drop 1) := ⟨_, rfl⟩
        replace H : (run_Decode.l0 kj7 l0 t203 ([] : List (S41)) y206 (y206.length : Int) 0) = some (r1, r2) := hr_ hy206 H
        have Ny206 := Az.mk hy206
        clear hy206
        have H' := Az.mk H
        clear H
        have q15 : ((wrap64 ((t198.length : Int) - 1)) : Int) ≤ ((t198.length : Int) : Int) := of_decide_eq_true as_
        obtain ⟨i015, hi015, _, hsz15, _⟩ := info_parts info24
        have hroom15 : t198.length ≤ co10 := (Kd.S_reads' HO_4.out).2.1
        have hC15 : Kd.C (Kd.slice 5 (Kd.int .u8)) _ (some ad202) t198.length t198 := (Kd.S_reads' HO_4.out).2.2
        have ql15 : (1 : Int) ≤ ((wrap64 ((t198.length : Int) - 1)) : Int) := of_decide_eq_true as_
        have hcut15 := cut_mid (P := Try.prog) 22 24 .i64 .i64 Try.underlying22 hi015 1 hsz15 (some ad202) t198.length co10 1 (wrap64 ((t198.length : Int) - 1)) (by omega) ql15 q15 hroom15
        have hr15 := Kd.C_mid (lo := (1 : Int).toNat) (hi := ((wrap64 ((t198.length : Int) - 1)) : Int).toNat) (c := co10) hC15 (by omega) (by omega) hroom15
        obtain ⟨A15, hA15⟩ : ∃ A1, A1 = (if co10 = (1 : Int).toNat then (some ad202) else ((some ad202) : Option Addr).map (·.add ((1 : Int).toNat * 1))) := ⟨_, rfl⟩
        obtain ⟨c15, hc15⟩ : ∃ c1, c1 = co10 - (1 : Int).toNat := ⟨_, rfl⟩
        have hy15 : y206.length = ((wrap64 ((t198.length : Int) - 1)) : Int).toNat - (1 : Int).toNat := (by rw [Ny206.out, List.length_drop, List.length_take] <;> omega)
        rw [show ((t198).take ((wrap64 ((t198.length : Int) - 1)) : Int).toNat).drop (1 : Int).toNat = y206 from Ny206.out.symm] at hr15
        replace hr15 : Kd.C (Kd.slice 5 (Kd.int .u8)) _ A15 y206.length y206 := (by rw [hA15]; exact hr15)
        rw [← hy15, ← hA15, ← hc15] at hcut15
        have HFC := Az.mk (fun W => fun hC_ : Kd.C (Kd.slice 5 (Kd.int .u8)) W (some ad202) t198.length t198 => (by have q_ := Kd.C_mid (lo := (1 : Int).toNat) (hi := ((wrap64 ((t198.length : Int) - 1)) : Int).toNat) (c := co10) hC_ (by omega) (by omega) hroom15; rw [show ((t198).take ((wrap64 ((t198.length : Int) - 1)) : Int).toNat).drop (1 : Int).toNat = y206 from Ny206.out.symm] at q_; rw [hA15]; exact q_ : Kd.C (Kd.slice 5 (Kd.int .u8)) W A15 y206.length y206))
        have HR209 := Az.mk hr15
        have HC209 := Az.mk (show y206.length ≤ c15 from by rw [hy15, hc15]; exact Nat.sub_le_sub_right (Nat.le_trans (by omega) hroom15) _)
        clear hr15 hC15 hroom15 hi015 hsz15 hc15
        have KY15 := Az.mk hy15
        have KA15 := Az.mk hA15
        clear hy15 hA15
        have KL15 := Az.mk (show ((wrap64 ((t198.length : Int) - 1)) : Int).toNat ≤ t198.length from by omega)
        have KM15 := Az.mk (show 1 ≤ ((wrap64 ((t198.length : Int) - 1)) : Int).toNat from by omega)
        replace q15 := eq_true q15
        go_wp2
        go_loopg [9, 43] kj7 (fun kq v9 v43 w' => ∃ (x9_2 : List (S41)) (x43_2 : Int), v43 = .int .i64 x43_2 ∧ Az (run_Decode.l0 kq l0 t203 x9_2 y206 (y206.length : Int) x43_2 = some (r1, r2)) ∧ Az (kq ≤ kj7) ∧ Az (Kd.R k41 41 w' w.heap.size (fun _ => True) v9 x9_2) ∧ Az (Below w.heap.size w w') ∧ Az (Kd.S (Kd.slice 5 (Kd.int .u8)) 24 w' w.heap.size (fun _ => True) (.slice (some ad202) t198.length co10) t198))
        case atStart => exact ⟨(([] : List (S41))), (0), (es_), H', ⟨Nat.le_refl _⟩, ⟨nl_⟩, ⟨bl_ HB⟩, ⟨(by (with_reducible repeat (first | apply Kd.S_alloc | apply Kd.S_drewN | apply Kd.S_drew)); exact Kd.S_mono HO_4.out (fun _ _ => trivial))⟩⟩
        case round =>
         clear H'
         try clear c1
         try clear q1
         try clear c2
         try clear p2
         try clear q2
         try clear hx2
         try clear qi2
         try clear c3
         try clear c3b0
         try clear c3b1
         try clear c4
         try clear c5
         try clear c6
         try clear c6b0
         try clear c6b1
         try clear p6
         try clear c11
         try clear c11b0
         try clear c11b1
         try clear c12
         try clear c13
         try clear c13b0
         try clear c13b1
         try clear c14
         try clear c14b0
         try clear c14b1
         try clear c15
         try clear q15
         try clear hx202_0
         try clear p2
         try clear p202
         try clear q15
         try clear q2
         try clear q202
         obtain ⟨x9_2, x43_2, rfl, HA, HK2, HO_9, HB, HS4⟩ := hrel
         have HR15w := Az.mk (HFC.out _ (Kd.S_reads' HS4.out).2.2)
         cases gk with
         | zero => exact absurd HA.out (by simp [run_Decode.l0])
         | succ k2 =>
          have H := HA.out
          clear HA
          simp only [run_Decode.l0] at H
          by_cases c16 : x43_2 < (y206.length : Int)
          ·rw [if_pos c16] at H
           have c16b0 := decide_eq_true c16
           clear c16
           by_cases c17 : 0 ≤ x43_2
           ·rw [if_pos c17] at H
            have c17b0 := decide_eq_true c17
            clear c17
            by_cases c18 : x43_2 < (y206.length : Int)
            ·rw [if_pos c18] at H
             have c18b0 := decide_eq_true c18
             clear c18
             replace H := Option.bind_eq_some_iff.mp H
             obtain ⟨⟨t211, t212⟩, A190, H⟩ := H
             replace H : (if t212 = true then (if x9_2.length + t211.length < 5864062014805 then (run_Decode.l0 k2 l0 t203 (x9_2 ++ t211) y206 (y206.length : Int) (wrap64 (x43_2 + 1))) else (none)) else (some (([] : List (S41)), 2))) = some (r1, r2) := H
             have A19 := Az.mk A190
             clear A190
             by_cases c20 : t212 = true
             ·subst c20
              have H1 : (if x9_2.length + t211.length < 5864062014805 then (run_Decode.l0 k2 l0 t203 (x9_2 ++ t211) y206 (y206.length : Int) (wrap64 (x43_2 + 1))) else (none)) = some (r1, r2) := by rw [if_pos rfl] at H; exact H
              clear H
              have H := H1
              clear H1
              by_cases c21 : x9_2.length + t211.length < 5864062014805
              ·rw [if_pos c21] at H
               have LMc21 := Az.mk c21
               clear c21
               obtain ⟨y215, hy215⟩ : ∃ y_ : List (S41), y_ = (x9_2 ++ t211) := ⟨_, rfl⟩
               replace H : (run_Decode.l0 k2 l0 t203 y215 y206 (y206.length : Int) (wrap64 (x43_2 + 1))) = some (r1, r2) := hr_ hy215 H
               have Ny215 := Az.mk hy215
               clear hy215
               have H' := Az.mk H
               clear H
               have p210 : 0 ≤ (x43_2 : Int) := of_decide_eq_true as_
               have q210 : x43_2 < (y206.length : Int) := of_decide_eq_true as_
               obtain ⟨ad210, A210_0, c210_0, e210, hx210_0, hl210_0, hi210_0⟩ := at_L5 HR15w.out x43_2 p210 q210
               cases e210
               have HR210_0 := Az.mk hi210_0
               have HC210_0 := Az.mk hl210_0
               clear hi210_0 hl210_0
               replace p210 := eq_true p210
               replace q210 := eq_true q210
               go_wp2_with (first | ((with_reducible refine gate_callee (f := 61) rfl ?_); refine goesL_ (some 49) rfl rfl Try.func61 (by kernel_rfl) rfl #[.slice A210_0 (rd_L5 y206 x43_2).length c210_0] rfl ar_ ?_; (with_reducible refine (run_unblock.calls _ _ (rd_L5 y206 x43_2) t211 true _ ?side1 ?side2 A19.out).mono ?_); (case side1 => exact cl_ HR210_0.out); (case side2 => exact HC210_0.out); rintro e w22 ⟨v213, rfl, ho0, hb⟩; refine ⟨_, rfl, ?_⟩; have s4_ := Az.mk (Kd.S_below (sl_ HS4.out) hb); clear HS4; have HS4 := s4_; clear s4_; have n0_ := Az.mk (Kd.R_elder' (rl_ HO_9.out) (Kd.R_base ho0) hb); have n1_ := Az.mk (Kd.R_lower (Kd.R_new' ho0 (Kd.R_lt (rl_ HO_9.out))) (below_size (bl_ HB))); have n2_ := Az.mk (below_step (bl_ HB) hb); clear HO_9; clear HB; have HO_9 := n0_; have HO214 := n1_; have HB := n2_; clear n0_ n1_ n2_; (try clear hb); (try clear hb2); (try clear hk); (try clear hi); (try clear ho0); obtain ⟨Ao24, co24, eo24⟩ := Kd.R_slice HO214.out; subst eo24) | ((with_reducible refine gate_builtin (b := .append) (xs := #[.tmp 54, .tmp 55]) rfl ?_); at_builtin; refine Kd.R_append_rows k41 (w0 := w) w.heap.size rfl (.tmp 54) (.tmp 55) 36 41 (.agg #[(.string ⟨#[]⟩), (.int .u64 0)]) 24 rfl Try.underlying36 info41 rfl (by decide) (by omega) u9 x9_2 t211 _ _ _ (fun k_ => some k_ ≠ (.slice Ao24 t211.length co24 : Value).ownBlock) (fun _ => False) rfl rfl ?aO ?aR (fun _ _ h => h) (fun _ h => h.elim) ?aF ?aB ?aS ?aL ?_; (case aR => exact cl_ (Kd.R_reads' HO214.out).2.2); (case aB => exact (bl_ HB)); (case aF => exact (fun k_ hk => Kd.fresh' (Kd.R_lt (rl_ HO214.out)) k_ hk)); (case aO => exact (by (with_reducible repeat (first | apply Kd.R_alloc | apply Kd.R_drewN | apply Kd.R_drew)); exact Kd.R_mono HO_9.out (fun _ hk => hk.2))); (case aS => exact (below_size (bl_ HB))); (case aL => have := LMc21.out; omega); intro v216 w23 ho hb hg hat; have s4_ := Az.mk (Kd.S_over' (sl_ HS4.out) (Kd.R_typed (by (with_reducible repeat (first | apply Kd.R_alloc | apply Kd.R_drewN | apply Kd.R_drew)); exact Kd.R_mono HO_9.out (fun _ hk => hk.2))) (by decide) hg); clear HS4; have HS4 := s4_; clear s4_; rw [← Ny215.out] at ho; have n0_ := Az.mk (Kd.R_after (ok := (fun _ => True)) (rl_ HO214.out) hg hat); have n1_ := Az.mk (hb); have n2_ := Az.mk (ho); clear HO214; clear HB; clear HO_9; have HO214 := n0_; have HB := n1_; have HO217 := n2_; clear n0_ n1_ n2_; clear ho hb hg hat))
               go_roundg k2
               case measure => have := HJ7.out; have := HK2.out; omega
               case rel => exact ⟨(y215), (wrap64 (x43_2 + 1)), (es_), H', ⟨by have := HJ7.out; have := HK2.out; omega⟩, ⟨by (with_reducible repeat (first | apply Kd.R_alloc | apply Kd.R_drewN | apply Kd.R_drew)); exact Kd.R_mono HO217.out (fun _ hk => trivial)⟩, ⟨bl_ HB⟩, ⟨(sl_ HS4.out)⟩⟩
              ·rw [if_neg c21] at H
               exact absurd H (by simp)
             ·replace c20 := Bool.eq_false_iff.mpr c20
              subst c20
              have H1 : (some (([] : List (S41)), 2)) = some (r1, r2) := by rw [if_neg (show ¬ (false = true) by decide)] at H; exact H
              clear H
              have H := H1
              clear H1
              simp only [Option.some.injEq, Prod.mk.injEq] at H
              obtain ⟨rfl, rfl⟩ := H
              have p210 : 0 ≤ (x43_2 : Int) := of_decide_eq_true as_
              have q210 : x43_2 < (y206.length : Int) := of_decide_eq_true as_
              obtain ⟨ad210, A210_0, c210_0, e210, hx210_0, hl210_0, hi210_0⟩ := at_L5 HR15w.out x43_2 p210 q210
              cases e210
              have HR210_0 := Az.mk hi210_0
              have HC210_0 := Az.mk hl210_0
              clear hi210_0 hl210_0
              replace p210 := eq_true p210
              replace q210 := eq_true q210
              go_wp2_with (first | ((with_reducible refine gate_callee (f := 61) rfl ?_); refine goesL_ (some 49) rfl rfl Try.func61 (by kernel_rfl) rfl #[.slice A210_0 (rd_L5 y206 x43_2).length c210_0] rfl ar_ ?_; (with_reducible refine (run_unblock.calls _ _ (rd_L5 y206 x43_2) t211 false _ ?side1 ?side2 A19.out).mono ?_); (case side1 => exact cl_ HR210_0.out); (case side2 => exact HC210_0.out); rintro e w25 ⟨v213, rfl, ho0, hb⟩; refine ⟨_, rfl, ?_⟩; have s4_ := Az.mk (Kd.S_below (sl_ HS4.out) hb); clear HS4; have HS4 := s4_; clear s4_; have n0_ := Az.mk (Kd.R_elder' (rl_ HO_9.out) (Kd.R_base ho0) hb); have n1_ := Az.mk (Kd.R_lower (Kd.R_new' ho0 (Kd.R_lt (rl_ HO_9.out))) (below_size (bl_ HB))); have n2_ := Az.mk (below_step (bl_ HB) hb); clear HO_9; clear HB; have HO_9 := n0_; have HO214 := n1_; have HB := n2_; clear n0_ n1_ n2_; (try clear hb); (try clear hb2); (try clear hk); (try clear hi); (try clear ho0)))
              go_ret2
              exact ⟨_, er_, nl_, bl_ HB⟩
            ·rw [if_neg c18] at H
             exact absurd H (by simp)
           ·rw [if_neg c17] at H
            exact absurd H (by simp)
          ·rw [if_neg c16] at H
           have c16b0 := decide_eq_false c16
           clear c16
           replace H := Option.bind_eq_some_iff.mp H
           obtain ⟨⟨t218, t219⟩, A260, H⟩ := H
           replace H : (if t219 = 0 then ((bytes_Equal.f t218 l0).bind fun t222 => (if t222 = true then (some (x9_2, 0)) else (some (([] : List (S41)), 2)))) else (some (([] : List (S41)), 2))) = some (r1, r2) := H
           have A26 := Az.mk A260
           clear A260
           by_cases c27 : t219 = 0
           ·rw [if_pos c27] at H
            have c27b0 : (t219 == 0) = true := beq_iff_eq.mpr c27
            have c27b1 : (t219 != 0) = false := bne_eq_false_iff_eq.mpr c27
            clear c27
            replace H := Option.bind_eq_some_iff.mp H
            obtain ⟨t222, A280, H⟩ := H
            replace H : (if t222 = true then (some (x9_2, 0)) else (some (([] : List (S41)), 2))) = some (r1, r2) := H
            have A28 := Az.mk A280
            clear A280
            by_cases c29 : t222 = true
            ·subst c29
             have H1 : (some (x9_2, 0)) = some (r1, r2) := by rw [if_pos rfl] at H; exact H
             clear H
             have H := H1
             clear H1
             simp only [Option.some.injEq, Prod.mk.injEq] at H
             obtain ⟨rfl, rfl⟩ := H
             obtain ⟨Ao30, co30, eo30⟩ := Kd.R_slice HO_9.out
             subst eo30
             go_wp2_with (first | ((with_reducible refine gate_callee (f := 16) rfl ?_); refine goesL_ (some 62) rfl rfl Try.func16 (by kernel_rfl) rfl #[.slice Ao30 x9_2.length co30, .int .i64 (wrap64 (t203))] rfl ar_ ?_; (with_reducible refine (run_Encode.calls k2 _ _ x9_2 (wrap64 (t203)) t218 t219 _ ?side1 ?side2 A26.out).mono ?_); (case side1 => exact cl_ (Kd.R_reads' HO_9.out).2.2); (case side2 => exact (Kd.R_reads' HO_9.out).2.1); rintro e w31 ⟨v220, rfl, ho0, hb⟩; refine ⟨_, rfl, ?_⟩; have n0_ := Az.mk (Kd.R_below (rl_ HO_9.out) hb); have n1_ := Az.mk (Kd.R_lower ho0 (below_size (bl_ HB))); have n2_ := Az.mk (below_step (bl_ HB) hb); clear HO_9; clear HB; have HO_9 := n0_; have HO221 := n1_; have HB := n2_; clear n0_ n1_ n2_; (try clear hb); (try clear hb2); (try clear hk); (try clear hi); (try clear ho0); obtain ⟨Ao32, co32, eo32⟩ := Kd.R_slice HO221.out; subst eo32) | (go_at_call 62; (with_reducible refine (bytes_Equal.calls _ _ t218 _ _ l0 true _ ?side1 ?side2 ?side3 ?side4 A28.out).mono ?_); (case side1 => exact cl_ (Kd.R_reads' HO221.out).2.2); (case side2 => exact (Kd.R_reads' HO221.out).2.1); (case side3 => exact cl_ (Kd.C_below HR0.out HB.out)); (case side4 => exact HC0.out); rintro e w' ⟨rfl, ⟨nd, rfl⟩⟩))
             go_ret2
             exact ⟨_, er_, by (with_reducible repeat (first | apply Kd.R_alloc | apply Kd.R_drewN | apply Kd.R_drew)); exact HO_9.out, bl_ HB⟩
            ·replace c29 := Bool.eq_false_iff.mpr c29
             subst c29
             have H1 : (some (([] : List (S41)), 2)) = some (r1, r2) := by rw [if_neg (show ¬ (false = true) by decide)] at H; exact H
             clear H
             have H := H1
             clear H1
             simp only [Option.some.injEq, Prod.mk.injEq] at H
             obtain ⟨rfl, rfl⟩ := H
             obtain ⟨Ao33, co33, eo33⟩ := Kd.R_slice HO_9.out
             subst eo33
             go_wp2_with (first | ((with_reducible refine gate_callee (f := 16) rfl ?_); refine goesL_ (some 62) rfl rfl Try.func16 (by kernel_rfl) rfl #[.slice Ao33 x9_2.length co33, .int .i64 (wrap64 (t203))] rfl ar_ ?_; (with_reducible refine (run_Encode.calls k2 _ _ x9_2 (wrap64 (t203)) t218 t219 _ ?side1 ?side2 A26.out).mono ?_); (case side1 => exact cl_ (Kd.R_reads' HO_9.out).2.2); (case side2 => exact (Kd.R_reads' HO_9.out).2.1); rintro e w34 ⟨v220, rfl, ho0, hb⟩; refine ⟨_, rfl, ?_⟩; have n0_ := Az.mk (Kd.R_below (rl_ HO_9.out) hb); have n1_ := Az.mk (Kd.R_lower ho0 (below_size (bl_ HB))); have n2_ := Az.mk (below_step (bl_ HB) hb); clear HO_9; clear HB; have HO_9 := n0_; have HO221 := n1_; have HB := n2_; clear n0_ n1_ n2_; (try clear hb); (try clear hb2); (try clear hk); (try clear hi); (try clear ho0); obtain ⟨Ao35, co35, eo35⟩ := Kd.R_slice HO221.out; subst eo35) | (go_at_call 62; (with_reducible refine (bytes_Equal.calls _ _ t218 _ _ l0 false _ ?side1 ?side2 ?side3 ?side4 A28.out).mono ?_); (case side1 => exact cl_ (Kd.R_reads' HO221.out).2.2); (case side2 => exact (Kd.R_reads' HO221.out).2.1); (case side3 => exact cl_ (Kd.C_below HR0.out HB.out)); (case side4 => exact HC0.out); rintro e w' ⟨rfl, ⟨nd, rfl⟩⟩))
             go_ret2
             exact ⟨_, er_, nl_, bl_ HB⟩
           ·rw [if_neg c27] at H
            have c27b0 : (t219 == 0) = false := beq_eq_false_iff_ne.mpr c27
            have c27b1 : (t219 != 0) = true := bne_iff_ne.mpr c27
            simp only [Option.some.injEq, Prod.mk.injEq] at H
            obtain ⟨rfl, rfl⟩ := H
            obtain ⟨Ao36, co36, eo36⟩ := Kd.R_slice HO_9.out
            subst eo36
            go_wp2_with (first | ((with_reducible refine gate_callee (f := 16) rfl ?_); refine goesL_ (some 62) rfl rfl Try.func16 (by kernel_rfl) rfl #[.slice Ao36 x9_2.length co36, .int .i64 (wrap64 (t203))] rfl ar_ ?_; (with_reducible refine (run_Encode.calls k2 _ _ x9_2 (wrap64 (t203)) t218 t219 _ ?side1 ?side2 A26.out).mono ?_); (case side1 => exact cl_ (Kd.R_reads' HO_9.out).2.2); (case side2 => exact (Kd.R_reads' HO_9.out).2.1); rintro e w37 ⟨v220, rfl, ho0, hb⟩; refine ⟨_, rfl, ?_⟩; have n0_ := Az.mk (Kd.R_below (rl_ HO_9.out) hb); have n1_ := Az.mk (Kd.R_lower ho0 (below_size (bl_ HB))); have n2_ := Az.mk (below_step (bl_ HB) hb); clear HO_9; clear HB; have HO_9 := n0_; have HO221 := n1_; have HB := n2_; clear n0_ n1_ n2_; (try clear hb); (try clear hb2); (try clear hk); (try clear hi); (try clear ho0)))
            go_ret2
            exact ⟨_, er_, nl_, bl_ HB⟩
       ·rw [if_neg c14] at H
        exact absurd H (by simp)
      ·rw [if_neg c13] at H
       exact absurd H (by simp)
  ·rw [if_neg c6] at H
   exact absurd H (by simp)
end Go.Proofs.Ytiohnpphhepdfaa.PPa
end
section
namespace Go.Proofs.Ytiohnpphhepdfaa.PPa
open Go.RowKit Go.Proofs.YtiohnpphhepdfaaW.PrintWords Go.Proofs.YtiohnpphhepdfaaW.PrintLast Go.Proofs.YtiohnpphhepdfaaW.PrintMore
attribute [local go_sem] max2_int min2_int max_two min_two max_three min_three max_four min_four
attribute [local go_sem] Go.Proofs.Ytiohnpphhepdfaa.MoreWords.str_leq Go.Proofs.Ytiohnpphhepdfaa.MoreWords.str_gtr Go.Proofs.Ytiohnpphhepdfaa.MoreWords.str_geq
set_option maxHeartbeats 8000000
set_option maxRecDepth 100000
set_option linter.unusedVariables false
set_option linter.unusedSimpArgs false
def rhd (l : List S41) : S41 := l.getD 0 z41
def ButOne (w w' : World) (g : Nat) : Prop := w'.os = w.os ∧ w'.tape = w.tape ∧ w'.output = w.output ∧ w.heap.size ≤ w'.heap.size ∧ ∀ k, k ≠ g → k < w.heap.size → w'.heap[k]? = w.heap[k]?
theorem ButOne.refl (w : World) (g : Nat) : ButOne w w g := ⟨rfl, rfl, rfl, Nat.le_refl _, fun _ _ _ => rfl⟩
theorem ButOne.blk {w w' : World} {g i : Nat} {o : Obj} (h : ButOne w w' g) (h1 : i ≠ g) (hb : w.heap[i]? = some o) : w'.heap[i]? = some o := (h.2.2.2.2 i h1 (blk_lt hb)).trans hb
theorem ButOne.low {w0 w w' : World} {g : Nat} (h : ButOne w w' g) (hb : Below w0.heap.size w0 w) (hg : w0.heap.size ≤ g) : Below w0.heap.size w0 w' :=
 ⟨h.1.trans hb.os, h.2.1.trans hb.tape, h.2.2.1.trans hb.output, Nat.le_trans hb.size h.2.2.2.1, fun k hk => (h.2.2.2.2 k (by omega) (Nat.lt_of_lt_of_le hk hb.size)).trans (hb.block k hk)⟩
theorem ButOne.of_below {w w' : World} (h : Below w.heap.size w w') (g : Nat) : ButOne w w' g := ⟨h.os, h.tape, h.output, h.size, fun k _ hk => h.block k hk⟩
theorem ButOne.trans {w w1 w2 : World} {g : Nat} (h : ButOne w w1 g) (k : ButOne w1 w2 g) : ButOne w w2 g :=
 ⟨k.1.trans h.1, k.2.1.trans h.2.1, k.2.2.1.trans h.2.2.1, Nat.le_trans h.2.2.2.1 k.2.2.2.1, fun i h1 h2 => (k.2.2.2.2 i h1 (Nat.lt_of_lt_of_le h2 h.2.2.2.1)).trans (h.2.2.2.2 i h1 h2)⟩
theorem ButOne.put {w w' : World} {g : Nat} (h : ButOne w w' g) (i : Nat) (u : Value) : ButOne w (w'.setCell ⟨g, i, none⟩ u) g :=
 ⟨h.1, h.2.1, h.2.2.1, by simpa [World.size_setCell] using h.2.2.2.1, fun k h1 h2 => (Below.heap_setCell _ ⟨g, i, none⟩ u k (by simpa using h1)).trans (h.2.2.2.2 k h1 h2)⟩
theorem ButOne.alloc {w w' : World} {g : Nat} (h : ButOne w w' g) (o : Obj) : ButOne w (w'.alloc o) g := h.trans (ButOne.of_below (below_alloc (Below.refl _ _) o) g)
theorem ButOne.drewN {w w' : World} {g : Nat} (h : ButOne w w' g) (n : Nat) : ButOne w (w'.drewN n) g := h.trans (ButOne.of_below (pw_below_drewN (Below.refl _ _) n) g)
theorem ButOne.setNew {w w' : World} {g b : Nat} (h : ButOne w w' g) (hb : w.heap.size ≤ b) (i : Nat) (u : Value) : ButOne w (w'.setCell ⟨b, i, none⟩ u) g :=
 ⟨h.1, h.2.1, h.2.2.1, by simpa [World.size_setCell] using h.2.2.2.1, fun k h1 h2 => (Below.heap_setCell _ ⟨b, i, none⟩ u k (by simp only; omega)).trans (h.2.2.2.2 k h1 h2)⟩
structure ReaderIs (w0 w : World) (g : Nat) (l : List S41) : Prop where
 blk : ∃ A c, w.heap[g]? = some (.cells #[.slice A l.length c] 88 (0, 0)) ∧ l.length ≤ c ∧ Kd.C k41 w0 A l.length l
 ge : w0.heap.size ≤ g
 low : Below w0.heap.size w0 w
theorem ReaderIs.lt {w0 w : World} {g : Nat} {l : List S41} (h : ReaderIs w0 w g l) : g < w.heap.size := by
 obtain ⟨A, c, hb, _⟩ := h.blk
 exact blk_lt hb
theorem ReaderIs.move {w0 w w' : World} {g : Nat} {l : List S41} (h : ReaderIs w0 w g l) (hb : w'.heap[g]? = w.heap[g]?) (hl : Below w0.heap.size w0 w') : ReaderIs w0 w' g l := by
 obtain ⟨A, c, h1, h2, h3⟩ := h.blk
 exact ⟨⟨A, c, hb.trans h1, h2, h3⟩, h.ge, hl⟩
theorem ReaderIs.below {w0 w w' : World} {g : Nat} {l : List S41} (h : ReaderIs w0 w g l) (hb : Below w.heap.size w w') : ReaderIs w0 w' g l := h.move (hb.block g h.lt) (below_then h.low h.low.size hb)
theorem ReaderIs.alloc {w0 w : World} {g : Nat} {l : List S41} (h : ReaderIs w0 w g l) (o : Obj) : ReaderIs w0 (w.alloc o) g l := h.below (below_alloc (Below.refl _ _) o)
theorem ReaderIs.drewN {w0 w : World} {g : Nat} {l : List S41} (h : ReaderIs w0 w g l) (n : Nat) : ReaderIs w0 (w.drewN n) g l := h.below (pw_below_drewN (Below.refl _ _) n)
theorem ReaderIs.far {w0 w : World} {g b : Nat} {l : List S41} (h : ReaderIs w0 w g l) (hb : g < b) (i : Nat) (u : Value) : ReaderIs w0 (w.setCell ⟨b, i, none⟩ u) g l :=
 h.move (Below.heap_setCell _ ⟨b, i, none⟩ u g (by simp only; omega)) (h.low.setCell (by have := h.ge; simp only; omega) _)
theorem ReaderIs.head {w0 w : World} {g : Nat} {l : List S41} (h : ReaderIs w0 w g l) (hp : l.length ≠ 0) :
  ∃ ad c, w.heap[g]? = some (.cells #[.slice (some ad) l.length c] 88 (0, 0)) ∧ l.length ≤ c ∧ w.cell? ad = some (.string (rhd l).f0) ∧ w.cell? ⟨ad.block, ad.off + 1, none⟩ = some (.int .u64 (rhd l).f1) ∧ Kd.C k41 w0 (some ad) l.length l := by
 obtain ⟨A, c, h1, h2, h3⟩ := h.blk
 obtain ⟨ad, rfl, h4, h5⟩ := at_T41 (Kd.C_below h3 h.low) 0 (Int.le_refl _) (by omega)
 have eh : rd_T41 l 0 = rhd l := rfl
 rw [show ((0 : Int)).toNat = 0 from rfl, show 0 * 2 = 0 from rfl, Addr.add_zero'] at h4 h5
 rw [eh] at h4 h5
 exact ⟨ad, c, h1, h2, h4, h5, h3⟩
theorem rhd_nil {l : List S41} (h : l.length = 0) : rhd l = z41 := by rw [List.eq_nil_of_length_eq_zero h]; rfl
theorem reader_Peek.calls (w0 w : World) (g : Nat) (l : List S41) (hR : ReaderIs w0 w g l) :
  Calls Try.prog 48 #[.pointer (some ⟨g, 0, none⟩)] w fun e w' => e = .returned (.tuple #[.agg #[.string (rhd l).f0, .int .u64 (rhd l).f1], .bool (decide (l.length ≠ 0))]) ∧ ReaderIs w0 w' g l ∧ Below w.heap.size w w' := by
 have HR := Az.mk hR
 clear hR
 go_enter Try.func48, Try.ntmps48
 go_upto_region 1 with (fail)
 have HR1 := Az.mk (HR.out.alloc (.cells #[.string ⟨#[]⟩, .int .u64 0] 41 (0, 0)))
 have hbk : (w.alloc (.cells #[.string ⟨#[]⟩, .int .u64 0] 41 (0, 0))).heap[w.heap.size]? = some (.cells #[.string ⟨#[]⟩, .int .u64 0] 41 (0, 0)) := blk_new _ _
 have HB1 := Az.mk (below_alloc (Below.refl w.heap.size w) (.cells #[.string ⟨#[]⟩, .int .u64 0] 41 (0, 0)))
 obtain ⟨W1, hW1⟩ : ∃ W1, W1 = w.alloc (.cells #[.string ⟨#[]⟩, .int .u64 0] 41 (0, 0)) := ⟨_, rfl⟩
 rw [← hW1] at HR1 hbk HB1 ⊢
 obtain ⟨b, hb⟩ : ∃ b, b = w.heap.size := ⟨_, rfl⟩
 have hgb : g < b := by have := HR.out.lt; omega
 rw [← hb] at hbk ⊢
 have BK := Az.mk hbk
 have HBG := Az.mk hgb
 have HBW := Az.mk (Nat.le_of_eq hb.symm)
 clear hW1 hbk hb hgb
 have hf0 := blk_frozen BK.out 0
 have hb0 : W1.cell? ⟨b, 0, none⟩ = some (.string ⟨#[]⟩) := blk_cell BK.out 0
 have hb1 : W1.cell? ⟨b, 1, none⟩ = some (.int .u64 0) := blk_cell BK.out 1
 have hf1 := blk_frozen BK.out 1
 by_cases c1 : l.length = 0
 ·obtain ⟨A, c, h1, h2, h3⟩ := HR1.out.blk
  have hc0 : W1.cell? ⟨g, 0, none⟩ = some (.slice A l.length c) := blk_cell h1 0
  have e1 : ((l.length : Int) == 0) = true := beq_iff_eq.mpr (by omega)
  have EZ := Az.mk (rhd_nil c1)
  have ED := Az.mk (decide_eq_false (by omega : ¬ l.length ≠ 0))
  clear h1 h2 h3 c1
  go_wp2
  refine bodyPost_ret (results_ct rfl _ _ b 41 #[.string (⟨#[]⟩ : ByteArray), .int .u64 0] (0, 0) _ rfl (by (with_reducible repeat (first | refine blk_drewN ?_ _ | refine blk_drew ?_ | refine blk_alloc ?_ _)); refine blk_put (cs := #[.string (⟨#[]⟩ : ByteArray), .int .u64 0]) ?_ 1 _ rfl; (with_reducible repeat (first | refine blk_drewN ?_ _ | refine blk_drew ?_ | refine blk_alloc ?_ _)); refine blk_put (cs := #[.string (⟨#[]⟩ : ByteArray), .int .u64 0]) ?_ 0 _ rfl; exact BK.out) Try.underlying41 rfl (by kernel_rfl)) rfl ?_
  exact ⟨by rw [EZ.out, ED.out]; rfl, (HR1.out.far HBG.out 0 _).far HBG.out 1 _, below_set (below_set HB1.out HBW.out) HBW.out⟩
 ·obtain ⟨ad, c, h1, h2, h3, h4, _⟩ := HR1.out.head c1
  have hc0 : W1.cell? ⟨g, 0, none⟩ = some (.slice (some ad) l.length c) := blk_cell h1 0
  have e1 : ((l.length : Int) == 0) = false := beq_eq_false_iff_ne.mpr (by omega)
  have i1 : ((0 : Int) < (l.length : Int)) = True := eq_true (by omega)
  have i3 : (0 < l.length) = True := eq_true (by omega)
  have ED := Az.mk (decide_eq_true (by omega : l.length ≠ 0))
  clear h1 h2 c1
  go_wp2
  refine bodyPost_ret (results_ct rfl _ _ b 41 #[.string (rhd l).f0, .int .u64 (rhd l).f1] (0, 0) _ rfl (by (with_reducible repeat (first | refine blk_drewN ?_ _ | refine blk_drew ?_ | refine blk_alloc ?_ _)); refine blk_put (cs := #[.string (rhd l).f0, .int .u64 0]) ?_ 1 _ rfl; (with_reducible repeat (first | refine blk_drewN ?_ _ | refine blk_drew ?_ | refine blk_alloc ?_ _)); refine blk_put (cs := #[.string (⟨#[]⟩ : ByteArray), .int .u64 0]) ?_ 0 _ rfl; exact BK.out) Try.underlying41 rfl (by kernel_rfl)) rfl ?_
  exact ⟨by rw [ED.out]; rfl, (HR1.out.far HBG.out 0 _).far HBG.out 1 _, below_set (below_set HB1.out HBW.out) HBW.out⟩
theorem k41_sz : k41.sz = 2 := rfl
theorem reader_Next.calls (w0 w : World) (g : Nat) (l : List S41) (hR : ReaderIs w0 w g l) :
  Calls Try.prog 29 #[.pointer (some ⟨g, 0, none⟩)] w fun e w' => e = .returned (.tuple #[.agg #[.string (rhd l).f0, .int .u64 (rhd l).f1], .bool (decide (l.length ≠ 0))]) ∧ ReaderIs w0 w' g (l.drop 1) ∧ ButOne w w' g := by
 have HR := Az.mk hR
 clear hR
 go_enter Try.func29, Try.ntmps29
 go_upto_region 1 with (fail)
 have HR1 := Az.mk (HR.out.alloc (.cells #[.string ⟨#[]⟩, .int .u64 0] 41 (0, 0)))
 have hbk : (w.alloc (.cells #[.string ⟨#[]⟩, .int .u64 0] 41 (0, 0))).heap[w.heap.size]? = some (.cells #[.string ⟨#[]⟩, .int .u64 0] 41 (0, 0)) := blk_new _ _
 have HB1 := Az.mk (below_alloc (Below.refl w.heap.size w) (.cells #[.string ⟨#[]⟩, .int .u64 0] 41 (0, 0)))
 obtain ⟨W1, hW1⟩ : ∃ W1, W1 = w.alloc (.cells #[.string ⟨#[]⟩, .int .u64 0] 41 (0, 0)) := ⟨_, rfl⟩
 rw [← hW1] at HR1 hbk HB1 ⊢
 obtain ⟨b, hb⟩ : ∃ b, b = w.heap.size := ⟨_, rfl⟩
 have hgb : g < b := by have := HR.out.lt; omega
 rw [← hb] at hbk ⊢
 have BK := Az.mk hbk
 have HBG := Az.mk hgb
 have HBW := Az.mk (Nat.le_of_eq hb.symm)
 clear hW1 hbk hb hgb
 by_cases c1 : l.length = 0
 ·have ED := Az.mk (decide_eq_false (by omega : ¬ l.length ≠ 0))
  have EL := Az.mk (List.eq_nil_of_length_eq_zero c1)
  clear c1
  go_upto_region 2 with (go_at_call 48; refine (reader_Peek.calls w0 _ g l HR1.out).mono ?_; rintro e_ W2 ⟨he_, hR2, hB2⟩; rw [ED.out] at he_; subst he_; have HR2 := Az.mk hR2; have HB2 := Az.mk (below_step HB1.out hB2); have BK2 := Az.mk ((hB2.block _ (blk_lt BK.out)).trans BK.out); clear hR2 hB2)
  have HR3 := Az.mk (HR2.out.alloc (.cells #[.string (rhd l).f0, .int .u64 (rhd l).f1] 41 (0, 0)))
  have hbx : (W2.alloc (.cells #[.string (rhd l).f0, .int .u64 (rhd l).f1] 41 (0, 0))).heap[W2.heap.size]? = some (.cells #[.string (rhd l).f0, .int .u64 (rhd l).f1] 41 (0, 0)) := blk_new _ _
  have hbk := blk_alloc BK2.out (.cells #[.string (rhd l).f0, .int .u64 (rhd l).f1] 41 (0, 0))
  have HB3 := Az.mk (below_alloc HB2.out (.cells #[.string (rhd l).f0, .int .u64 (rhd l).f1] 41 (0, 0)))
  have hbx2 : b ≠ W2.heap.size := by have := blk_lt BK2.out; omega
  have hgx : g ≠ W2.heap.size := by have := HR2.out.lt; omega
  obtain ⟨W3, hW3⟩ : ∃ W3, W3 = W2.alloc (.cells #[.string (rhd l).f0, .int .u64 (rhd l).f1] 41 (0, 0)) := ⟨_, rfl⟩
  rw [← hW3] at HR3 hbx hbk HB3 ⊢
  obtain ⟨bx, hx⟩ : ∃ bx, bx = W2.heap.size := ⟨_, rfl⟩
  rw [← hx] at hbx hbx2 hgx ⊢
  have BX3 := Az.mk hbx
  have BK3 := Az.mk hbk
  have HNX := Az.mk hbx2
  have HGX := Az.mk hgx
  clear hW3 hx hbx hbk hbx2 hgx HR2 HB2 BK2 HR1 HB1 BK
  have hf0 := blk_frozen BK3.out 0
  have hb0 : W3.cell? ⟨b, 0, none⟩ = some (.string ⟨#[]⟩) := blk_cell BK3.out 0
  have hb1 : W3.cell? ⟨b, 1, none⟩ = some (.int .u64 0) := blk_cell BK3.out 1
  have hf1 := blk_frozen BK3.out 1
  have hx0 : W3.cell? ⟨bx, 0, none⟩ = some (.string (rhd l).f0) := blk_cell BX3.out 0
  have hx1 : W3.cell? ⟨bx, 1, none⟩ = some (.int .u64 (rhd l).f1) := blk_cell BX3.out 1
  go_wp2
  refine bodyPost_ret (results_ct rfl _ _ b 41 #[.string (rhd l).f0, .int .u64 (rhd l).f1] (0, 0) _ rfl (by (with_reducible repeat (first | refine blk_drewN ?_ _ | refine blk_drew ?_ | refine blk_alloc ?_ _)); refine blk_put (cs := #[.string (rhd l).f0, .int .u64 0]) ?_ 1 _ rfl; (with_reducible repeat (first | refine blk_drewN ?_ _ | refine blk_drew ?_ | refine blk_alloc ?_ _)); refine blk_put (cs := #[.string (⟨#[]⟩ : ByteArray), .int .u64 0]) ?_ 0 _ rfl; exact BK3.out) Try.underlying41 rfl (by kernel_rfl)) rfl ?_
  refine ⟨by rw [ED.out]; rfl, ?_, ((ButOne.of_below HB3.out g).setNew HBW.out 0 _).setNew HBW.out 1 _⟩
  have hr := (HR3.out.far HBG.out 0 (Value.string (rhd l).f0)).far HBG.out 1 (Value.int .u64 (rhd l).f1)
  rw [EL.out] at hr ⊢
  exact hr
 ·have ED := Az.mk (decide_eq_true (by omega : l.length ≠ 0))
  have C1 := Az.mk c1
  clear c1
  go_upto_region 2 with (go_at_call 48; refine (reader_Peek.calls w0 _ g l HR1.out).mono ?_; rintro e_ W2 ⟨he_, hR2, hB2⟩; rw [ED.out] at he_; subst he_; have HR2 := Az.mk hR2; have HB2 := Az.mk (below_step HB1.out hB2); have BK2 := Az.mk ((hB2.block _ (blk_lt BK.out)).trans BK.out); clear hR2 hB2)
  have HR3 := Az.mk (HR2.out.alloc (.cells #[.string (rhd l).f0, .int .u64 (rhd l).f1] 41 (0, 0)))
  have hbx : (W2.alloc (.cells #[.string (rhd l).f0, .int .u64 (rhd l).f1] 41 (0, 0))).heap[W2.heap.size]? = some (.cells #[.string (rhd l).f0, .int .u64 (rhd l).f1] 41 (0, 0)) := blk_new _ _
  have hbk := blk_alloc BK2.out (.cells #[.string (rhd l).f0, .int .u64 (rhd l).f1] 41 (0, 0))
  have HB3 := Az.mk (below_alloc HB2.out (.cells #[.string (rhd l).f0, .int .u64 (rhd l).f1] 41 (0, 0)))
  have hbx2 : b ≠ W2.heap.size := by have := blk_lt BK2.out; omega
  have hgx : g ≠ W2.heap.size := by have := HR2.out.lt; omega
  obtain ⟨W3, hW3⟩ : ∃ W3, W3 = W2.alloc (.cells #[.string (rhd l).f0, .int .u64 (rhd l).f1] 41 (0, 0)) := ⟨_, rfl⟩
  rw [← hW3] at HR3 hbx hbk HB3 ⊢
  obtain ⟨bx, hx⟩ : ∃ bx, bx = W2.heap.size := ⟨_, rfl⟩
  rw [← hx] at hbx hbx2 hgx ⊢
  have BX3 := Az.mk hbx
  have BK3 := Az.mk hbk
  have HNX := Az.mk hbx2
  have HGX := Az.mk hgx
  clear hW3 hx hbx hbk hbx2 hgx HR2 HB2 BK2 HR1 HB1 BK
  have hf0 := blk_frozen BK3.out 0
  have hb0 : W3.cell? ⟨b, 0, none⟩ = some (.string ⟨#[]⟩) := blk_cell BK3.out 0
  have hb1 : W3.cell? ⟨b, 1, none⟩ = some (.int .u64 0) := blk_cell BK3.out 1
  have hf1 := blk_frozen BK3.out 1
  have hx0 : W3.cell? ⟨bx, 0, none⟩ = some (.string (rhd l).f0) := blk_cell BX3.out 0
  have hx1 : W3.cell? ⟨bx, 1, none⟩ = some (.int .u64 (rhd l).f1) := blk_cell BX3.out 1
  go_upto_region 3 with (fail)
  obtain ⟨ad, c, h1, h2, h3, h4, h5⟩ := HR3.out.head C1.out
  have hc0 : W3.cell? ⟨g, 0, none⟩ = some (.slice (some ad) l.length c) := blk_cell h1 0
  have hfg : W3.frozen? ⟨g, 0, none⟩ = false := blk_frozen h1 0
  have h2' : (l.length : Int) ≤ (c : Int) := by omega
  have hl1 : (1 : Int) ≤ (l.length : Int) := by have := C1.out; omega
  go_region
  have hC := Kd.C_drop (m := 1) (c := l.length) h5 (by have := C1.out; omega) (Nat.le_refl _)
  rw [k41_sz] at hC
  have hA : (if l.length = 1 then some ad else (some ad).map (·.add (1 * 2))) = (if l.length = 1 then some ad else some ⟨ad.block, ad.off + 2, none⟩) := rfl
  rw [hA] at hC
  generalize (if l.length = 1 then some ad else some ⟨ad.block, ad.off + 2, none⟩ : Option Addr) = A3 at hC ⊢
  have hld : l.length - 1 = (l.drop 1).length := List.length_drop.symm
  rw [hld]
  have hr4 : ReaderIs w0 (W3.setCell ⟨g, 0, none⟩ (.slice A3 (l.drop 1).length (l.drop 1).length)).drew g (l.drop 1) := by
   refine ⟨⟨A3, (l.drop 1).length, blk_drew (blk_put h1 0 _ rfl), Nat.le_refl _, hC⟩, HR3.out.ge, below_drew1 (HR3.out.low.setCell HR3.out.ge _)⟩
  have hb4 : ButOne w (W3.setCell ⟨g, 0, none⟩ (.slice A3 (l.drop 1).length (l.drop 1).length)).drew g := ((ButOne.of_below HB3.out g).put 0 _).drewN 1
  have bk4 := blk_drew (blk_far BK3.out (p := ⟨g, 0, none⟩) (by have := HBG.out; show b ≠ g; omega) (.slice A3 (l.drop 1).length (l.drop 1).length))
  have bx4 := blk_drew (blk_far BX3.out (p := ⟨g, 0, none⟩) (by have := HGX.out; show bx ≠ g; omega) (.slice A3 (l.drop 1).length (l.drop 1).length))
  generalize (W3.setCell ⟨g, 0, none⟩ (.slice A3 (l.drop 1).length (l.drop 1).length)).drew = W4 at hr4 hb4 bk4 bx4 ⊢
  have HR4 := Az.mk hr4
  have HB4 := Az.mk hb4
  have BK4 := Az.mk bk4
  clear h1 h2 h3 h4 h5 hc0 hfg h2' hl1 hC hA hr4 hb4 bk4 hf0 hb0 hb1 hf1 hx0 hx1 hld
  have hf0 := blk_frozen BK4.out 0
  have hb0 : W4.cell? ⟨b, 0, none⟩ = some (.string ⟨#[]⟩) := blk_cell BK4.out 0
  have hb1 : W4.cell? ⟨b, 1, none⟩ = some (.int .u64 0) := blk_cell BK4.out 1
  have hf1 := blk_frozen BK4.out 1
  have hx0 : W4.cell? ⟨bx, 0, none⟩ = some (.string (rhd l).f0) := blk_cell bx4 0
  have hx1 : W4.cell? ⟨bx, 1, none⟩ = some (.int .u64 (rhd l).f1) := blk_cell bx4 1
  clear bx4
  go_wp2
  refine bodyPost_ret (results_ct rfl _ _ b 41 #[.string (rhd l).f0, .int .u64 (rhd l).f1] (0, 0) _ rfl (by (with_reducible repeat (first | refine blk_drewN ?_ _ | refine blk_drew ?_ | refine blk_alloc ?_ _)); refine blk_put (cs := #[.string (rhd l).f0, .int .u64 0]) ?_ 1 _ rfl; (with_reducible repeat (first | refine blk_drewN ?_ _ | refine blk_drew ?_ | refine blk_alloc ?_ _)); refine blk_put (cs := #[.string (⟨#[]⟩ : ByteArray), .int .u64 0]) ?_ 0 _ rfl; exact BK4.out) Try.underlying41 rfl (by kernel_rfl)) rfl ?_
  exact ⟨by rw [ED.out]; rfl, (HR4.out.far HBG.out 0 _).far HBG.out 1 _, (HB4.out.setNew HBW.out 0 _).setNew HBW.out 1 _⟩
theorem reader_Open.calls (k : Nat) (A0 : Option Addr) (c0 : Nat) (l0 : List Int) (r1 : List S41) (r2 : Int) (w : World) (hr0 : Kd.C (Kd.int .u8) w A0 l0.length l0) (hc0 : l0.length ≤ c0) (h : run_Decode.f k l0 = some (r1, r2)) :
  Calls Try.prog 28 #[.slice A0 l0.length c0] w fun e w' => Below w.heap.size w w' ∧ ((r2 ≠ 0 ∧ e = .returned (.tuple #[.pointer none, .int .i64 r2])) ∨
   (r2 = 0 ∧ ∃ g w0, e = .returned (.tuple #[.pointer (some ⟨g, 0, none⟩), .int .i64 0]) ∧ Below w.heap.size w w0 ∧ ReaderIs w0 w' g r1)) := by
 have HR0 := Az.mk hr0
 have HC0 := Az.mk hc0
 have H := Az.mk h
 clear hr0 hc0 h
 by_cases c1 : r2 = 0
 ·subst c1
  go_enter Try.func28, Try.ntmps28
  go_wp2_with (go_at_call 47; refine (run_Decode.calls k _ _ l0 r1 0 _ HR0.out HC0.out H.out).mono ?_; rintro e_ W1 ⟨v1, rfl, ho, hb⟩; have HO := Az.mk ho; have HB := Az.mk hb; obtain ⟨A, c, rfl⟩ := Kd.R_slice ho; clear ho hb)
  have hr := Kd.R_reads' HO.out
  have hnew : ReaderIs W1 (W1.alloc (.cells #[.slice A r1.length c] 88)) W1.heap.size r1 := ⟨⟨A, c, blk_new _ _, hr.2.1, hr.2.2⟩, Nat.le_refl _, below_alloc (Below.refl _ _) _⟩
  all_goals (go_ret2; exact ⟨below_alloc HB.out _, .inr ⟨trivial, _, W1, rfl, HB.out, hnew⟩⟩)
 ·have e1 : (r2 != 0) = true := bne_iff_ne.mpr c1
  have C1 := Az.mk c1
  clear c1
  go_enter Try.func28, Try.ntmps28
  go_wp2_with (go_at_call 47; refine (run_Decode.calls k _ _ l0 r1 r2 _ HR0.out HC0.out H.out).mono ?_; rintro e_ W1 ⟨v1, rfl, ho, hb⟩; have HB := Az.mk hb; obtain ⟨A, c, rfl⟩ := Kd.R_slice ho; clear ho hb)
  go_ret2
  exact ⟨HB.out, .inl ⟨C1.out, rfl⟩⟩
theorem read_after {W0 w1 : World} {g : Nat} {l : List S41} (x : S41) (hT : ReaderIs W0 w1 g l) :
  ReaderIs W0 (w1.alloc (.cells #[.string x.f0, .int .u64 x.f1] 41)) g l ∧ (w1.alloc (.cells #[.string x.f0, .int .u64 x.f1] 41)).heap[w1.heap.size]? = some (.cells #[.string x.f0, .int .u64 x.f1] 41 (0, 0)) ∧ g < w1.heap.size :=
 ⟨hT.alloc _, blk_new _ _, hT.lt⟩
theorem read_blk {W0 w1 W6 : World} {g : Nat} {l : List S41} (x : S41) (hT : ReaderIs W0 w1 g l) (hB6 : ButOne (w1.alloc (.cells #[.string x.f0, .int .u64 x.f1] 41)) W6 g) :
  W6.heap[w1.heap.size]? = some (.cells #[.string x.f0, .int .u64 x.f1] 41 (0, 0)) := by
 obtain ⟨h1, h2, h3⟩ := read_after x hT
 exact hB6.blk (by omega) h2
theorem read_post {w W0 w1 W6 : World} {g bx : Nat} {l l2 : List S41} (x x2 : S41) {v : Value} {out : List S41} (hT : ReaderIs W0 w1 g l) (hR : Kd.R k41 41 w1 W0.heap.size (fun k => k ≠ bx) v out)
  (hT6 : ReaderIs W0 W6 g l2) (hB6 : ButOne (w1.alloc (.cells #[.string x.f0, .int .u64 x.f1] 41)) W6 g) (hB : Below w.heap.size w w1) (hW : w.heap.size ≤ W0.heap.size) (W7 : World)
  (h7 : W7 = (W6.setCell ⟨w1.heap.size, 0, none⟩ (.string x2.f0)).setCell ⟨w1.heap.size, 1, none⟩ (.int .u64 x2.f1)) :
  W7.heap[w1.heap.size]? = some (.cells #[.string x2.f0, .int .u64 x2.f1] 41 (0, 0)) ∧ g < w1.heap.size ∧ Kd.R k41 41 W7 W0.heap.size (fun k => k ≠ w1.heap.size) v out ∧ ReaderIs W0 W7 g l2 ∧ Below w.heap.size w W7 := by
 obtain ⟨h1, h2, h3⟩ := read_after x hT
 have hb6 := read_blk x hT hB6
 have hR1 : Kd.R k41 41 w1 W0.heap.size (fun k => k ≠ w1.heap.size) v out := Kd.R_mono (Kd.R_bound hR) (fun k hk => by have := hk.2.2.1; omega)
 have hR2 := Kd.R_below hR1 (below_alloc (Below.refl _ _) (.cells #[.string x.f0, .int .u64 x.f1] 41))
 obtain ⟨A, c, hg, _⟩ := h1.blk
 have hR3 := Kd.R_types hR2 hg (by decide)
 have hR4 : Kd.R k41 41 W6 W0.heap.size (fun k => k ≠ w1.heap.size) v out := Kd.R_mono (Kd.R_step hR3 (fun k hk hlt => hB6.2.2.2.2 k hk.2 hlt)) (fun k hk => hk.1)
 have hgw : w.heap.size ≤ g := Nat.le_trans hW hT.ge
 have hb2 : Below w.heap.size w W6 := hB6.low (below_alloc hB _) hgw
 subst h7
 refine ⟨?_, h3, Kd.R_far (p := ⟨w1.heap.size, 1, none⟩) (Kd.R_far (p := ⟨w1.heap.size, 0, none⟩) hR4 (fun k hk => hk) _) (fun k hk => hk) _, (hT6.far h3 0 _).far h3 1 _, (hb2.setCell hB.size _).setCell hB.size _⟩
 refine blk_put (cs := #[.string x2.f0, .int .u64 x.f1]) ?_ 1 _ rfl
 exact blk_put (cs := #[.string x.f0, .int .u64 x.f1]) hb6 0 _ rfl
theorem grown_reader {W0 W w1 : World} {g bx : Nat} {l : List S41} {v : Value} {out : List S41} (hT : ReaderIs W0 W g l) (hR : Kd.R k41 41 W W0.heap.size (fun k => k ≠ bx) v out) (hg : W.grownBy w1 v.ownBlock) (hb : Below W0.heap.size W0 w1) {o : Obj} (hx : W.heap[bx]? = some o) :
  ReaderIs W0 w1 g l ∧ w1.heap[bx]? = some o := by
 obtain ⟨A, c, hgo, _⟩ := hT.blk
 have hty : some g ≠ v.ownBlock := by
  intro he
  obtain ⟨inner, ho⟩ := Kd.R_own hR
  obtain ⟨cells, hc⟩ := own_typed ho g he.symm
  rw [hgo] at hc
  injection hc with hc
  injection hc with _ hc
  exact absurd hc (by decide)
 refine ⟨hT.move (hg.block g (blk_lt hgo) hty) hb, ?_⟩
 refine (hg.block bx (blk_lt hx) (fun he => ?_)).trans hx
 exact hR.1 bx he.symm rfl
def RdRel (L out rest : List S41) (x : S41) (b : Bool) (n : Nat) : Prop := (b = true → out ++ x :: rest = L ∧ n = rest.length + 1) ∧ (b = false → out = L)
theorem rhd_cons {l : List S41} (h : l.length ≠ 0) : rhd l :: l.drop 1 = l := by
 cases l with
 | nil => exact absurd rfl h
 | cons a r => rfl
theorem RdRel.start (L : List S41) (b : Bool) (hb : b = true ↔ L.length ≠ 0) : RdRel L [] (L.drop 1) (rhd L) b L.length := by
 refine ⟨fun h => ?_, fun h => ?_⟩
 ·have h := hb.mp h
  exact ⟨by rw [rhd_cons h]; rfl, by rw [List.length_drop]; omega⟩
 ·have h : ¬ L.length ≠ 0 := fun h' => by rw [hb.mpr h'] at h; exact absurd h (by decide)
  exact (List.eq_nil_of_length_eq_zero (by omega)).symm
theorem RdRel.next {L out rest : List S41} {x : S41} {n : Nat} (h : RdRel L out rest x true (n + 1)) (b : Bool) (hb : b = true ↔ rest.length ≠ 0) : RdRel L (out ++ [x]) (rest.drop 1) (rhd rest) b n := by
 obtain ⟨h1, h2⟩ := h.1 rfl
 refine ⟨fun h => ?_, fun h => ?_⟩
 ·have h := hb.mp h
  exact ⟨by rw [rhd_cons h, List.append_assoc]; exact h1, by rw [List.length_drop]; omega⟩
 ·have h : ¬ rest.length ≠ 0 := fun h' => by rw [hb.mpr h'] at h; exact absurd h (by decide)
  rw [List.eq_nil_of_length_eq_zero (show rest.length = 0 by omega)] at h1
  exact h1
def loser_read.f (k : Nat) (l0 : List Int) : Option (List S41 × Int) := (run_Decode.f k l0).bind fun r => if r.2 = 0 then (if r.1.length < 5864062014805 then some (r.1, 0) else none) else some ([], r.2)
theorem loser_read.calls (k : Nat) (A0 : Option Addr) (c0 : Nat) (l0 : List Int) (r1 : List S41) (r2 : Int) (w : World) (hr0 : Kd.C (Kd.int .u8) w A0 l0.length l0) (hc0 : l0.length ≤ c0) (h : loser_read.f k l0 = some (r1, r2)) :
  Calls Try.prog 15 #[.slice A0 l0.length c0] w fun e w' => ∃ v0_ : Value, e = .returned (.tuple #[v0_, .int .i64 r2]) ∧ Kd.R k41 41 w' w.heap.size (fun _ => True) v0_ r1 ∧ Below w.heap.size w w' := by
 have HR0 := Az.mk hr0
 have HC0 := Az.mk hc0
 clear hr0 hc0
 unfold loser_read.f at h
 replace h := Option.bind_eq_some_iff.mp h
 obtain ⟨⟨L, e0⟩, hd, h⟩ := h
 have HD := Az.mk hd
 clear hd
 by_cases c1 : e0 = 0
 ·subst c1
  rw [if_pos rfl] at h
  by_cases c2 : L.length < 5864062014805
  case neg =>
   rw [if_neg c2] at h
   exact absurd h (by simp)
  rw [if_pos c2] at h
  simp only [Option.some.injEq, Prod.mk.injEq] at h
  obtain ⟨rfl, rfl⟩ := h
  have HLIM := Az.mk c2
  clear c2
  go_enter Try.func15, Try.ntmps15
  go_upto_region 4 with (go_at_call 28; refine (reader_Open.calls k _ _ l0 L 0 _ HR0.out HC0.out HD.out).mono ?_; rintro e_ W1 ⟨hb, ⟨h_, _⟩ | ⟨_, g, w0, rfl, hb0, hT⟩⟩; exact absurd rfl h_; have HB := Az.mk hb; have HB0 := Az.mk hb0; have HT := Az.mk hT; clear hb hb0 hT)
  go_wp2_with (go_at_call 29; refine (reader_Next.calls w0 W1 g L HT.out).mono ?_; rintro e_ W2 ⟨rfl, hT2, hB2⟩; have HT2 := Az.mk hT2; have HBT2 := Az.mk hB2; clear hT2 hB2)
  have hwg : w.heap.size ≤ g := Nat.le_trans HB0.out.size HT.out.ge
  have hb2 := HBT2.out.low HB.out hwg
  have htA := HT2.out.alloc (.cells #[.string (rhd L).f0, .int .u64 (rhd L).f1] 41)
  have hnew := blk_new W2 (.cells #[.string (rhd L).f0, .int .u64 (rhd L).f1] 41)
  have HBA := Az.mk (below_alloc hb2 (.cells #[.string (rhd L).f0, .int .u64 (rhd L).f1] 41))
  have HS := Az.mk (show g < W2.heap.size from HT2.out.lt)
  have HTA := Az.mk htA
  have HNEW := Az.mk hnew
  have HW0S := Az.mk (show w.heap.size ≤ w0.heap.size from HB0.out.size)
  have HW0B := Az.mk (show Below w.heap.size w w0 from HB0.out)
  clear hwg hb2 htA hnew HT2 HBT2 HT HB HB0
  go_loopg [6, 7, 8] L.length (fun kq v6 v7 v8 w' => ∃ (out rest : List S41) (bx : Nat) (x : S41) (b : Bool), v7 = .pointer (some ⟨bx, 0, none⟩) ∧ v8 = .bool b ∧ Az (w'.heap[bx]? = some (.cells #[.string x.f0, .int .u64 x.f1] 41 (0, 0))) ∧ Az (g < bx) ∧ Az (Kd.R k41 41 w' w0.heap.size (fun k => k ≠ bx) v6 out) ∧ Az (ReaderIs w0 w' g rest) ∧ Az (RdRel L out rest x b kq) ∧ Az (Below w.heap.size w w'))
  case atStart => exact ⟨[], L.drop 1, W2.heap.size, rhd L, _, rfl, rfl, HNEW, HS, ⟨Kd.R_nil _ _ _ _ _⟩, HTA, ⟨RdRel.start L _ (by simp)⟩, HBA⟩
  case round =>
   obtain ⟨out, rest, bx, x, b, rfl, rfl, HX, HG, HR, HT, HM, HB⟩ := hrel
   cases b with
   | false =>
    obtain rfl := HM.out.2 rfl
    go_wp2
    go_ret2
    exact ⟨_, rfl, Kd.R_mono (Kd.R_lower HR.out HW0S.out) (fun _ _ => trivial), HB.out⟩
   | true =>
    cases gk with
    | zero => exact absurd (HM.out.1 rfl).2 (by omega)
    | succ d =>
     obtain ⟨A, c, rfl⟩ := Kd.R_slice HR.out
     have hlim : out.length < 5864062014805 := by
      have h1 := (HM.out.1 rfl).1
      have h2 := HLIM.out
      rw [← h1, List.length_append] at h2
      omega
     have HLI := Az.mk hlim
     clear hlim
     have hx0 : wr.cell? ⟨bx, 0, none⟩ = some (.string x.f0) := blk_cell HX.out 0
     have hx1 : wr.cell? ⟨bx, 1, none⟩ = some (.int .u64 x.f1) := blk_cell HX.out 1
     go_wp2_with ((with_reducible refine gate_builtin (b := .append) (xs := #[.tmp 28, .tmp 30]) rfl ?_); at_builtin; refine Kd.R_append k41 (w0 := w0) w0.heap.size rfl (.tmp 28) (.tmp 30) 36 41 (.agg #[.string ⟨#[]⟩, .int .u64 0]) 24 rfl Try.underlying36 info41 rfl (by decide) (by omega) (.slice A out.length c) out x [.string x.f0, .int .u64 x.f1] (fun k => k ≠ bx) (fun _ => False) rfl rfl ?aP (fun _ hk => hk.elim) ?aF ?aO ?aB ?aS ?aL ?_)
     case aP => exact k41_mkM _ _ _ x
     case aF => intro k hk e; have := blk_lt HX.out; omega
     case aO => exact HR.out
     case aB => exact HT.out.low
     case aS => exact HT.out.low.size
     case aL => have := HLI.out; omega
     intro v1 w1 ho hb hg hat
     obtain ⟨ht1, hxw⟩ := grown_reader HT.out HR.out hg hb HX.out
     clear hg hat HR HT HX hx0 hx1
     have hbw := below_then HW0B.out HW0S.out hb
     obtain ⟨A1, c1, rfl⟩ := Kd.R_slice ho
     have HT1 := Az.mk ht1
     have HR1 := Az.mk ho
     have HBW := Az.mk hbw
     have hx0 : w1.cell? ⟨bx, 0, none⟩ = some (.string x.f0) := blk_cell hxw 0
     have hx1 : w1.cell? ⟨bx, 1, none⟩ = some (.int .u64 x.f1) := blk_cell hxw 1
     clear hb hbw ht1 ho hxw
     have HTa := Az.mk (read_after x HT1.out).1
     go_wp2_with (go_at_call 29; refine (reader_Next.calls w0 _ g rest HTa.out).mono ?_; rintro e_ W6 ⟨rfl, hT6, hB6⟩; have HT6 := Az.mk hT6; have HB6 := Az.mk hB6; have hk6 := read_blk x HT1.out hB6; have hz0 : W6.cell? ⟨w1.heap.size, 0, none⟩ = some (.string x.f0) := blk_cell hk6 0; have hz1 : W6.cell? ⟨w1.heap.size, 1, none⟩ = some (.int .u64 x.f1) := blk_cell hk6 1; have hq0 := blk_frozen hk6 0; have hq1 := blk_frozen hk6 1; clear hT6 hB6 hk6)
     go_roundg d
     case measure => omega
     case rel =>
      obtain ⟨p1, p2, p3, p4, p5⟩ := read_post x (rhd rest) HT1.out HR1.out HT6.out HB6.out HBW.out HW0S.out _ rfl
      exact ⟨out ++ [x], rest.drop 1, _, rhd rest, _, rfl, rfl, ⟨p1⟩, ⟨p2⟩, ⟨by first | exact p3 | (rw [List.length_append, List.length_singleton] at p3; exact p3)⟩, ⟨p4⟩, ⟨HM.out.next _ (by simp)⟩, ⟨p5⟩⟩
 ·rw [if_neg c1] at h
  simp only [Option.some.injEq, Prod.mk.injEq] at h
  obtain ⟨rfl, rfl⟩ := h
  have e1 : (e0 != 0) = true := bne_iff_ne.mpr c1
  have C1 := Az.mk c1
  clear c1
  go_enter Try.func15, Try.ntmps15
  go_wp2_with (go_at_call 28; refine (reader_Open.calls k _ _ l0 L e0 _ HR0.out HC0.out HD.out).mono ?_; rintro e_ W1 ⟨hb, ⟨_, rfl⟩ | ⟨h_, _⟩⟩; have HB := Az.mk hb; clear hb; rotate_left; exact absurd h_ C1.out)
  go_ret2
  exact ⟨_, rfl, Kd.R_nil _ _ _ _ _, HB.out⟩
def loser_Runs.l0 : Nat → Int → List (List (S41)) → List (List Int) → Int → Int → Option (List Int × Int)
 | 0, _, _, _, _, _ => none
 | k + 1, x1, x6, x13, x14, x15 => if x15 < x14 then (if 0 ≤ x15 then (if x15 < (x13.length : Int) then ((loser_read.f k (rd_L5 x13 x15)).bind fun bt226 => (if bt226.2 = 0 then (if x6.length < 5864062014805 then (loser_Runs.l0 k x1 (x6 ++ [bt226.1]) x13 x14 (wrap64 (x15 + 1))) else (none)) else (some (([] : List Int), bt226.2)))) else (none)) else (none)) else ((loser_Merge.f k x6).bind fun bt233 => (if bt233.2 = 0 then ((run_Encode.f k bt233.1 x1).bind fun bt237 => (some (bt237.1, bt237.2))) else (some (([] : List Int), bt233.2))))
def loser_Runs.f (k : Nat) (l0 : List (List Int)) (a1 : Int) : Option (List Int × Int) := loser_Runs.l0 k a1 ([] : List (List (S41))) l0 (l0.length : Int) 0
theorem loser_Runs.calls (k : Nat) (A0 : Option Addr) (c0 : Nat) (l0 : List (List Int)) (a1 : Int) (r1 : List Int) (r2 : Int) (w : World) (hr0 : Kd.C (Kd.slice 5 (Kd.int .u8)) w A0 l0.length l0) (hc0 : l0.length ≤ c0) (h : loser_Runs.f k l0 a1 = some (r1, r2)) :
  Calls Try.prog 7 #[.slice A0 l0.length c0, .int .i64 a1] w fun e w' => ∃ v0_ : Value, e = .returned (.tuple #[v0_, .int .i64 r2]) ∧ Kd.R (Kd.int .u8) 5 w' w.heap.size (fun _ => True) v0_ r1 ∧ Below w.heap.size w w' := by
 have HR0 := Az.mk hr0
 have HC0 := Az.mk hc0
 clear hr0 hc0
 have HB := Az.mk (Below.refl w.heap.size w)
 have H : (loser_Runs.l0 k a1 ([] : List (List (S41))) l0 (l0.length : Int) 0) = some (r1, r2) := h
 clear h
 have H' := Az.mk H
 clear H
 go_enter Try.func7, Try.ntmps7
 go_wp2
 go_loopg [6, 15] k (fun kq v6 v15 w' => ∃ (x6_1 : List (List (S41))) (x15_1 : Int), v15 = .int .i64 x15_1 ∧ Az (loser_Runs.l0 kq a1 x6_1 l0 (l0.length : Int) x15_1 = some (r1, r2)) ∧ Az (kq ≤ k) ∧ Az (Kd.S (Kd.slice 41 k41) 36 w' w.heap.size (fun _ => True) v6 x6_1) ∧ Az (Below w.heap.size w w'))
 case atStart => exact ⟨(([] : List (List (S41)))), (0), (es_), H', ⟨Nat.le_refl _⟩, ⟨by first | exact Kd.S_nil _ _ _ _ _ | exact Kd.N_nil _ _ _ _ _ | exact Kd.V_nil _ _ _ _ _ | exact Kd.Q_nil _ _ _ _ _ | exact Kd.R_nil _ _ _ _ _⟩, ⟨bl_ HB⟩⟩
 case round =>
  clear H'
  try clear p2
  obtain ⟨x6_1, x15_1, rfl, HA, HK1, HO_6, HB⟩ := hrel
  cases gk with
  | zero => exact absurd HA.out (by simp [loser_Runs.l0])
  | succ k1 =>
   have H := HA.out
   clear HA
   simp only [loser_Runs.l0] at H
   by_cases c3 : x15_1 < (l0.length : Int)
   ·rw [if_pos c3] at H
    have c3b0 := decide_eq_true c3
    clear c3
    by_cases c4 : 0 ≤ x15_1
    ·rw [if_pos c4] at H
     have c4b0 := decide_eq_true c4
     clear c4
     by_cases c5 : x15_1 < (l0.length : Int)
     ·rw [if_pos c5] at H
      have c5b0 := decide_eq_true c5
      clear c5
      replace H := Option.bind_eq_some_iff.mp H
      obtain ⟨⟨t226, t227⟩, A60, H⟩ := H
      replace H : (if t227 = 0 then (if x6_1.length < 5864062014805 then (loser_Runs.l0 k1 a1 (x6_1 ++ [t226]) l0 (l0.length : Int) (wrap64 (x15_1 + 1))) else (none)) else (some (([] : List Int), t227))) = some (r1, r2) := H
      have A6 := Az.mk A60
      clear A60
      by_cases c7 : t227 = 0
      ·rw [if_pos c7] at H
       have c7b0 : (t227 == 0) = true := beq_iff_eq.mpr c7
       have c7b1 : (t227 != 0) = false := bne_eq_false_iff_eq.mpr c7
       clear c7
       by_cases c8 : x6_1.length < 5864062014805
       ·rw [if_pos c8] at H
        have LMc8 := Az.mk c8
        clear c8
        obtain ⟨y230, hy230⟩ : ∃ y_ : List (List (S41)), y_ = (x6_1 ++ [t226]) := ⟨_, rfl⟩
        replace H : (loser_Runs.l0 k1 a1 y230 l0 (l0.length : Int) (wrap64 (x15_1 + 1))) = some (r1, r2) := hr_ hy230 H
        have Ny230 := Az.mk hy230
        clear hy230
        have H' := Az.mk H
        clear H
        have p225 : 0 ≤ (x15_1 : Int) := of_decide_eq_true as_
        have q225 : x15_1 < (l0.length : Int) := of_decide_eq_true as_
        obtain ⟨ad225, A225_0, c225_0, e225, hx225_0, hl225_0, hi225_0⟩ := at_L5 HR0.out x15_1 p225 q225
        cases e225
        replace hx225_0 := (HB.out.cell (World.block_lt_of_cell? w _ hx225_0)).trans hx225_0
        have HR225_0 := Az.mk hi225_0
        have HC225_0 := Az.mk hl225_0
        clear hi225_0 hl225_0
        replace p225 := eq_true p225
        replace q225 := eq_true q225
        go_wp2_with (first | ((with_reducible refine gate_callee (f := 15) rfl ?_); refine goesL_ (some 21) rfl rfl Try.func15 (by kernel_rfl) rfl #[.slice A225_0 (rd_L5 l0 x15_1).length c225_0] rfl ar_ ?_; (with_reducible refine (loser_read.calls k1 _ _ (rd_L5 l0 x15_1) t226 t227 _ ?side1 ?side2 A6.out).mono ?_); (case side1 => exact cl_ (Kd.C_below HR225_0.out HB.out)); (case side2 => exact HC225_0.out); rintro e w9 ⟨v228, rfl, ho0, hb⟩; refine ⟨_, rfl, ?_⟩; have n0_ := Az.mk (Kd.S_elder' (sl_ HO_6.out) (Kd.R_base ho0) hb); have n1_ := Az.mk (Kd.R_lower ho0 (below_size (bl_ HB))); have n2_ := Az.mk (below_step (bl_ HB) hb); clear HO_6; clear HB; have HO_6 := n0_; have HO229 := n1_; have HB := n2_; clear n0_ n1_ n2_; (try clear hb); (try clear hb2); (try clear hk); (try clear hi); (try clear ho0); obtain ⟨Ao11, co11, eo11⟩ := Kd.R_slice HO229.out; subst eo11) | ((with_reducible refine gate_builtin (b := .append) (xs := #[.tmp 27, .tmp 29]) rfl ?_); at_builtin; refine Kd.S_append (Kd.slice 41 k41) (w0 := w) w.heap.size rfl (.tmp 27) (.tmp 29) 42 36 (.slice none 0 0) 24 rfl Try.underlying42 info36 rfl (by decide) (by omega) u6 x6_1 t226 [.slice Ao11 t226.length co11] (fun _ => True) (fun k_ => some k_ = (.slice Ao11 t226.length co11 : Value).ownBlock) rfl rfl ?aP (fun k_ hk_ => ((Kd.R_mono (ok' := fun k_ => ((fun _ => True)) k_ ∧ some k_ ≠ (u6 : Value).ownBlock) (Kd.R_apart' (HO229.out) (Kd.S_typed HO_6.out) (by decide)) (fun k_ hk => ⟨trivial, hk.2⟩))).1 k_ hk_.symm) ?aF ?aO ?aB ?aS ?aL ?_; (case aP => exact Kd.M_row (Kd.R_mono (Kd.R_tight rfl (Kd.R_mono (ok' := fun k_ => ((fun _ => True)) k_ ∧ some k_ ≠ (u6 : Value).ownBlock) (Kd.R_apart' (HO229.out) (Kd.S_typed HO_6.out) (by decide)) (fun k_ hk => ⟨trivial, hk.2⟩))) (fun _ h_ => h_))); (case aB => exact (bl_ HB)); (case aF => exact (fun _ _ => trivial)); (case aO => exact (by (with_reducible repeat (first | apply Kd.S_alloc | apply Kd.S_drewN | apply Kd.S_drew)); exact Kd.S_mono HO_6.out (fun k_ hk => ⟨trivial, fun e_ => hk.2 e_⟩))); (case aS => exact (below_size (bl_ HB))); (case aL => have := LMc8.out; omega); intro v231 w10 ho hb hg hat; rw [← Ny230.out] at ho; have n0_ := Az.mk (hb); have n1_ := Az.mk (ho); clear HB; clear HO_6; clear HO229; have HB := n0_; have HO232 := n1_; clear n0_ n1_; clear ho hb hg hat))
        go_roundg k1
        case measure => have := HK1.out; omega
        case rel => exact ⟨(y230), (wrap64 (x15_1 + 1)), (es_), H', ⟨by have := HK1.out; omega⟩, ⟨sl_ HO232.out⟩, ⟨bl_ HB⟩⟩
       ·rw [if_neg c8] at H
        exact absurd H (by simp)
      ·rw [if_neg c7] at H
       have c7b0 : (t227 == 0) = false := beq_eq_false_iff_ne.mpr c7
       have c7b1 : (t227 != 0) = true := bne_iff_ne.mpr c7
       simp only [Option.some.injEq, Prod.mk.injEq] at H
       obtain ⟨rfl, rfl⟩ := H
       have p225 : 0 ≤ (x15_1 : Int) := of_decide_eq_true as_
       have q225 : x15_1 < (l0.length : Int) := of_decide_eq_true as_
       obtain ⟨ad225, A225_0, c225_0, e225, hx225_0, hl225_0, hi225_0⟩ := at_L5 HR0.out x15_1 p225 q225
       cases e225
       replace hx225_0 := (HB.out.cell (World.block_lt_of_cell? w _ hx225_0)).trans hx225_0
       have HR225_0 := Az.mk hi225_0
       have HC225_0 := Az.mk hl225_0
       clear hi225_0 hl225_0
       replace p225 := eq_true p225
       replace q225 := eq_true q225
       go_wp2_with (first | ((with_reducible refine gate_callee (f := 15) rfl ?_); refine goesL_ (some 21) rfl rfl Try.func15 (by kernel_rfl) rfl #[.slice A225_0 (rd_L5 l0 x15_1).length c225_0] rfl ar_ ?_; (with_reducible refine (loser_read.calls k1 _ _ (rd_L5 l0 x15_1) t226 t227 _ ?side1 ?side2 A6.out).mono ?_); (case side1 => exact cl_ (Kd.C_below HR225_0.out HB.out)); (case side2 => exact HC225_0.out); rintro e w12 ⟨v228, rfl, ho0, hb⟩; refine ⟨_, rfl, ?_⟩; have n0_ := Az.mk (Kd.S_elder' (sl_ HO_6.out) (Kd.R_base ho0) hb); have n1_ := Az.mk (Kd.R_lower ho0 (below_size (bl_ HB))); have n2_ := Az.mk (below_step (bl_ HB) hb); clear HO_6; clear HB; have HO_6 := n0_; have HO229 := n1_; have HB := n2_; clear n0_ n1_ n2_; (try clear hb); (try clear hb2); (try clear hk); (try clear hi); (try clear ho0)))
       go_ret2
       exact ⟨_, er_, nl_, bl_ HB⟩
     ·rw [if_neg c5] at H
      exact absurd H (by simp)
    ·rw [if_neg c4] at H
     exact absurd H (by simp)
   ·rw [if_neg c3] at H
    have c3b0 := decide_eq_false c3
    clear c3
    replace H := Option.bind_eq_some_iff.mp H
    obtain ⟨⟨t233, t234⟩, A130, H⟩ := H
    replace H : (if t234 = 0 then ((run_Encode.f k1 t233 a1).bind fun bt237 => (some (bt237.1, bt237.2))) else (some (([] : List Int), t234))) = some (r1, r2) := H
    have A13 := Az.mk A130
    clear A130
    by_cases c14 : t234 = 0
    ·rw [if_pos c14] at H
     have c14b0 : (t234 == 0) = true := beq_iff_eq.mpr c14
     have c14b1 : (t234 != 0) = false := bne_eq_false_iff_eq.mpr c14
     clear c14
     replace H := Option.bind_eq_some_iff.mp H
     obtain ⟨⟨t237, t238⟩, A150, H⟩ := H
     replace H : (some (t237, t238)) = some (r1, r2) := H
     have A15 := Az.mk A150
     clear A150
     simp only [Option.some.injEq, Prod.mk.injEq] at H
     obtain ⟨rfl, rfl⟩ := H
     obtain ⟨Ao16, co16, eo16⟩ := Kd.S_slice HO_6.out
     subst eo16
     go_wp2_with (first | ((with_reducible refine gate_callee (f := 13) rfl ?_); refine goesL_ (some 34) rfl rfl Try.func13 (by kernel_rfl) rfl #[.slice Ao16 x6_1.length co16] rfl ar_ ?_; (with_reducible refine (loser_Merge.calls k1 _ _ x6_1 t233 t234 _ ?side1 ?side2 A13.out).mono ?_); (case side1 => repeat (first | exact (Kd.S_reads' HO_6.out).2.2 | (with_reducible refine Kd.C_alloc ?_ _) | (with_reducible refine Kd.C_drewN ?_ _) | (with_reducible refine Kd.C_drew ?_))); (case side2 => exact (Kd.S_reads' HO_6.out).2.1); rintro e w17 ⟨v235, rfl, ho0, hb⟩; refine ⟨_, rfl, ?_⟩; have n0_ := Az.mk (Kd.S_elder' (sl_ HO_6.out) (Kd.R_base ho0) hb); have n1_ := Az.mk (Kd.R_lower ho0 (below_size (bl_ HB))); have n2_ := Az.mk (below_step (bl_ HB) hb); clear HO_6; clear HB; have HO_6 := n0_; have HO236 := n1_; have HB := n2_; clear n0_ n1_ n2_; (try clear hb); (try clear hb2); (try clear hk); (try clear hi); (try clear ho0); obtain ⟨Ao18, co18, eo18⟩ := Kd.R_slice HO236.out; subst eo18) | ((with_reducible refine gate_callee (f := 16) rfl ?_); refine goesL_ (some 42) rfl rfl Try.func16 (by kernel_rfl) rfl #[.slice Ao18 t233.length co18, .int .i64 a1] rfl ar_ ?_; (with_reducible refine (run_Encode.calls k1 _ _ t233 a1 t237 t238 _ ?side1 ?side2 A15.out).mono ?_); (case side1 => exact cl_ (Kd.R_reads' HO236.out).2.2); (case side2 => exact (Kd.R_reads' HO236.out).2.1); rintro e w19 ⟨v239, rfl, ho0, hb⟩; refine ⟨_, rfl, ?_⟩; have n0_ := Az.mk (Kd.S_below (sl_ HO_6.out) hb); have n1_ := Az.mk (Kd.R_below (rl_ HO236.out) hb); have n2_ := Az.mk (Kd.R_lower ho0 (below_size (bl_ HB))); have n3_ := Az.mk (below_step (bl_ HB) hb); clear HO_6; clear HO236; clear HB; have HO_6 := n0_; have HO236 := n1_; have HO240 := n2_; have HB := n3_; clear n0_ n1_ n2_ n3_; (try clear hb); (try clear hb2); (try clear hk); (try clear hi); (try clear ho0)))
     go_ret2
     exact ⟨_, er_, by (with_reducible repeat (first | apply Kd.R_alloc | apply Kd.R_drewN | apply Kd.R_drew)); exact HO240.out, bl_ HB⟩
    ·rw [if_neg c14] at H
     have c14b0 : (t234 == 0) = false := beq_eq_false_iff_ne.mpr c14
     have c14b1 : (t234 != 0) = true := bne_iff_ne.mpr c14
     simp only [Option.some.injEq, Prod.mk.injEq] at H
     obtain ⟨rfl, rfl⟩ := H
     obtain ⟨Ao20, co20, eo20⟩ := Kd.S_slice HO_6.out
     subst eo20
     go_wp2_with (first | ((with_reducible refine gate_callee (f := 13) rfl ?_); refine goesL_ (some 34) rfl rfl Try.func13 (by kernel_rfl) rfl #[.slice Ao20 x6_1.length co20] rfl ar_ ?_; (with_reducible refine (loser_Merge.calls k1 _ _ x6_1 t233 t234 _ ?side1 ?side2 A13.out).mono ?_); (case side1 => repeat (first | exact (Kd.S_reads' HO_6.out).2.2 | (with_reducible refine Kd.C_alloc ?_ _) | (with_reducible refine Kd.C_drewN ?_ _) | (with_reducible refine Kd.C_drew ?_))); (case side2 => exact (Kd.S_reads' HO_6.out).2.1); rintro e w21 ⟨v235, rfl, ho0, hb⟩; refine ⟨_, rfl, ?_⟩; have n0_ := Az.mk (Kd.S_elder' (sl_ HO_6.out) (Kd.R_base ho0) hb); have n1_ := Az.mk (Kd.R_lower ho0 (below_size (bl_ HB))); have n2_ := Az.mk (below_step (bl_ HB) hb); clear HO_6; clear HB; have HO_6 := n0_; have HO236 := n1_; have HB := n2_; clear n0_ n1_ n2_; (try clear hb); (try clear hb2); (try clear hk); (try clear hi); (try clear ho0)))
     go_ret2
     exact ⟨_, er_, nl_, bl_ HB⟩
mutual
def r09_May.l0 : Nat → List (S41) → Int → Option (Int)
 | 0, _, _ => none
 | k + 1, x0, x3 => if x3 < (x0.length : Int) then (if 0 ≤ x3 then (if (((rd_T41 x0 x3).f0).size : Int) < 1 then (some 1) else (if (((rd_T41 x0 x3).f0).size : Int) > 255 then (some 1) else (if ((rd_T41 x0 x3).f1) < 1 then (some 1) else (if ((rd_T41 x0 x3).f1) > 4611686018427387904 then (some 1) else (r09_May.l0 k x0 (wrap64 (x3 + 1))))))) else (none)) else (r09_May.l1 k x0 1)
def r09_May.l1 : Nat → List (S41) → Int → Option (Int)
 | 0, _, _ => none
 | k + 1, x0, x5 => if x5 < (x0.length : Int) then (if 0 ≤ (wrap64 (x5 - 1)) then (if (wrap64 (x5 - 1)) < (x0.length : Int) then (if 0 ≤ x5 then (if ((Op.bytesLess (((rd_T41 x0 (wrap64 (x5 - 1))).f0).toList) (((rd_T41 x0 x5).f0).toList)) = true) then (r09_May.l1 k x0 (wrap64 (x5 + 1))) else (some 9)) else (none)) else (none)) else (none)) else (some 0)
end
def r09_May.f (k : Nat) (l0 : List (S41)) : Option (Int) := r09_May.l0 k l0 0
theorem r09_May.mono_l : ∀ k, (∀ y0 y1, LeO (r09_May.l0 k y0 y1) (r09_May.l0 (k + 1) y0 y1)) ∧ (∀ y0 y1, LeO (r09_May.l1 k y0 y1) (r09_May.l1 (k + 1) y0 y1))
 | 0 => ⟨fun _ _ r h => by simp [r09_May.l0] at h, fun _ _ r h => by simp [r09_May.l1] at h⟩
 | k + 1 => by
  obtain ⟨ih0, ih1⟩ := r09_May.mono_l k
  refine ⟨?_, ?_⟩
  ·intro y0 y1
   unfold r09_May.l0
   repeat' first
   | (with_reducible exact ih0 _ _)
   | (with_reducible exact ih1 _ _)
   | (with_reducible exact LeO.refl _)
   | (with_reducible exact LeO.none _)
   | (with_reducible refine LeO.ite ?_ ?_)
   | (with_reducible refine LeO.bind ?_ (fun _ => ?_))
   | exact ih0 _ _
   | exact ih1 _ _
   | exact LeO.none _
   | refine LeO.ite ?_ ?_
   | refine LeO.bind ?_ (fun _ => ?_)
  ·intro y0 y1
   unfold r09_May.l1
   repeat' first
   | (with_reducible exact ih0 _ _)
   | (with_reducible exact ih1 _ _)
   | (with_reducible exact LeO.refl _)
   | (with_reducible exact LeO.none _)
   | (with_reducible refine LeO.ite ?_ ?_)
   | (with_reducible refine LeO.bind ?_ (fun _ => ?_))
   | exact ih0 _ _
   | exact ih1 _ _
   | exact LeO.none _
   | refine LeO.ite ?_ ?_
   | refine LeO.bind ?_ (fun _ => ?_)
theorem r09_May.mono : ∀ a0 k, LeO (r09_May.f k a0) (r09_May.f (k + 1) a0) := by
 intro a0 k
 obtain ⟨ih0, ih1⟩ := r09_May.mono_l k
 unfold r09_May.f
 repeat' first
   | (with_reducible exact ih0 _ _)
   | (with_reducible exact ih1 _ _)
   | (with_reducible exact LeO.refl _)
   | (with_reducible exact LeO.none _)
   | (with_reducible refine LeO.ite ?_ ?_)
   | (with_reducible refine LeO.bind ?_ (fun _ => ?_))
   | exact ih0 _ _
   | exact ih1 _ _
   | exact LeO.none _
   | refine LeO.ite ?_ ?_
   | refine LeO.bind ?_ (fun _ => ?_)
end Go.Proofs.Ytiohnpphhepdfaa.PPa
end
section
namespace Go.Proofs.Ytiohnpphhepdfaa.PPa
open Go.RowKit Go.Proofs.YtiohnpphhepdfaaW.PrintWords Go.Proofs.YtiohnpphhepdfaaW.PrintLast Go.Proofs.YtiohnpphhepdfaaW.PrintMore
attribute [local go_sem] max2_int min2_int max_two min_two max_three min_three max_four min_four
attribute [local go_sem] Go.Proofs.Ytiohnpphhepdfaa.MoreWords.str_leq Go.Proofs.Ytiohnpphhepdfaa.MoreWords.str_gtr Go.Proofs.Ytiohnpphhepdfaa.MoreWords.str_geq
set_option linter.unusedVariables false
set_option linter.unusedSimpArgs false
theorem eqA52 (d : Nat) (w : World) (x0 y0 : Int) (x1 y1 : Int) :
  (Op.equalIn (d + 2) 52 (.agg #[.int .i64 x0, .int .i64 x1]) (.agg #[.int .i64 y0, .int .i64 y1])).run Try.prog w = .ok (x0 == y0 && (x1 == y1)) w := by
 obtain ⟨i, hi⟩ : ∃ i, Try.prog.info? 3 = some i := Option.isSome_iff_exists.mp (show (Try.prog.info? 3).isSome = true by kernel_rfl)
 have hc : Try.prog.cellsOf 3 = 1 := by kernel_rfl
 have p0 : (part 3 #[.int .i64 x0, .int .i64 x1] 0).run Try.prog w = .ok (.int .i64 x0) w := by go_simp
 have q0 : (part 3 #[.int .i64 y0, .int .i64 y1] 0).run Try.prog w = .ok (.int .i64 y0) w := by go_simp
 have e0 : (Op.equalIn (d + 1) 3 (.int .i64 x0) (.int .i64 y0)).run Try.prog w = .ok (x0 == y0) w := by go_simp
 have p1 : (part 3 #[.int .i64 x0, .int .i64 x1] 1).run Try.prog w = .ok (.int .i64 x1) w := by go_simp
 have q1 : (part 3 #[.int .i64 y0, .int .i64 y1] 1).run Try.prog w = .ok (.int .i64 y1) w := by go_simp
 have e1 : (Op.equalIn (d + 1) 3 (.int .i64 x1) (.int .i64 y1)).run Try.prog w = .ok (x1 == y1) w := by go_simp
 rw [run_equalIn_array w (d + 1) _ _ Try.underlying52 hi, hc, show List.range 2 = [0, 1] from rfl]
 simp only [Nat.zero_mul, Nat.mul_one, Op.eqItems, Sem.run_bind, p0, q0, e0, p1, q1, e1, Result.andThen_ok]
 generalize (x0 == y0) = b0 at *; generalize (x1 == y1) = b1 at *
 cases b0 <;> cases b1 <;> simp [p0, q0, e0, p1, q1, e1]
end Go.Proofs.Ytiohnpphhepdfaa.PPa
end
section
namespace Go.Proofs.Ytiohnpphhepdfaa.PPa
open Go.RowKit Go.Proofs.YtiohnpphhepdfaaW.PrintWords Go.Proofs.YtiohnpphhepdfaaW.PrintLast Go.Proofs.YtiohnpphhepdfaaW.PrintMore
attribute [local go_sem] max2_int min2_int max_two min_two max_three min_three max_four min_four
attribute [local go_sem] Go.Proofs.Ytiohnpphhepdfaa.MoreWords.str_leq Go.Proofs.Ytiohnpphhepdfaa.MoreWords.str_gtr Go.Proofs.Ytiohnpphhepdfaa.MoreWords.str_geq
set_option linter.unusedVariables false
set_option linter.unusedSimpArgs false
def r01_Put.l0 : Nat → Int → List Int → Option (List Int)
 | 0, _, _ => none
 | k + 1, x1, x5 => if x1 > 127 then (if x5.length < 140737488355328 then (r01_Put.l0 k (IntKind.u64.wrap (Int.tdiv x1 128)) (x5 ++ [(IntKind.u64.wrap (128 + (Int.tmod x1 128))) % 256])) else (none)) else (if x5.length < 140737488355328 then (some (x5 ++ [(x1) % 256])) else (none))
def r01_Put.f (k : Nat) (l0 : List Int) (a1 : Int) : Option (List Int) := (some (([] : List Int) : List Int)).bind fun y246 => (if y246.length + l0.length < 140737488355328 then (r01_Put.l0 k a1 (y246 ++ l0)) else (none))
theorem r01_Put.mono_l : ∀ k, (∀ y0 y1, LeO (r01_Put.l0 k y0 y1) (r01_Put.l0 (k + 1) y0 y1))
 | 0 => fun _ _ r h => by simp [r01_Put.l0] at h
 | k + 1 => by
  have ih0 := r01_Put.mono_l k
  ·intro y0 y1
   unfold r01_Put.l0
   repeat' first
   | (with_reducible exact ih0 _ _)
   | (with_reducible exact LeO.refl _)
   | (with_reducible exact LeO.none _)
   | (with_reducible refine LeO.ite ?_ ?_)
   | (with_reducible refine LeO.bind ?_ (fun _ => ?_))
   | exact ih0 _ _
   | exact LeO.none _
   | refine LeO.ite ?_ ?_
   | refine LeO.bind ?_ (fun _ => ?_)
theorem r01_Put.mono : ∀ a0 a1 k, LeO (r01_Put.f k a0 a1) (r01_Put.f (k + 1) a0 a1) := by
 intro a0 a1 k
 have ih0 := r01_Put.mono_l k
 unfold r01_Put.f
 repeat' first
   | (with_reducible exact ih0 _ _)
   | (with_reducible exact LeO.refl _)
   | (with_reducible exact LeO.none _)
   | (with_reducible refine LeO.ite ?_ ?_)
   | (with_reducible refine LeO.bind ?_ (fun _ => ?_))
   | exact ih0 _ _
   | exact LeO.none _
   | refine LeO.ite ?_ ?_
   | refine LeO.bind ?_ (fun _ => ?_)
mutual
def r02_More.l0 : Nat → Int → List Int → Int → Option (Int)
 | 0, _, _, _ => none
 | k + 1, x0, x1, x5 => if x5 < (x1.length : Int) then (if 0 ≤ x5 then (r02_More.l1 k (Go.bits .xor .u32 x0 ((rd x1 x5) % 4294967296)) x1 x5 0) else (none)) else (some ((4294967295 - x0) % 4294967296))
def r02_More.l1 : Nat → Int → List Int → Int → Int → Option (Int)
 | 0, _, _, _, _ => none
 | k + 1, x0, x1, x5, x6 => if x6 < 8 then (if (Int.tmod x0 2) = 1 then (r02_More.l1 k (Go.bits .xor .u32 ((Int.tdiv x0 2) % 4294967296) 3988292384) x1 x5 (wrap64 (x6 + 1))) else (r02_More.l1 k ((Int.tdiv x0 2) % 4294967296) x1 x5 (wrap64 (x6 + 1)))) else (r02_More.l0 k x0 x1 (wrap64 (x5 + 1)))
end
def r02_More.f (k : Nat) (a0 : Int) (l1 : List Int) : Option (Int) := r02_More.l0 k ((4294967295 - a0) % 4294967296) l1 0
theorem r02_More.mono_l : ∀ k, (∀ y0 y1 y2, LeO (r02_More.l0 k y0 y1 y2) (r02_More.l0 (k + 1) y0 y1 y2)) ∧ (∀ y0 y1 y2 y3, LeO (r02_More.l1 k y0 y1 y2 y3) (r02_More.l1 (k + 1) y0 y1 y2 y3))
 | 0 => ⟨fun _ _ _ r h => by simp [r02_More.l0] at h, fun _ _ _ _ r h => by simp [r02_More.l1] at h⟩
 | k + 1 => by
  obtain ⟨ih0, ih1⟩ := r02_More.mono_l k
  refine ⟨?_, ?_⟩
  ·intro y0 y1 y2
   unfold r02_More.l0
   repeat' first
   | (with_reducible exact ih0 _ _ _)
   | (with_reducible exact ih1 _ _ _ _)
   | (with_reducible exact LeO.refl _)
   | (with_reducible exact LeO.none _)
   | (with_reducible refine LeO.ite ?_ ?_)
   | (with_reducible refine LeO.bind ?_ (fun _ => ?_))
   | exact ih0 _ _ _
   | exact ih1 _ _ _ _
   | exact LeO.none _
   | refine LeO.ite ?_ ?_
   | refine LeO.bind ?_ (fun _ => ?_)
  ·intro y0 y1 y2 y3
   unfold r02_More.l1
   repeat' first
   | (with_reducible exact ih0 _ _ _)
   | (with_reducible exact ih1 _ _ _ _)
   | (with_reducible exact LeO.refl _)
   | (with_reducible exact LeO.none _)
   | (with_reducible refine LeO.ite ?_ ?_)
   | (with_reducible refine LeO.bind ?_ (fun _ => ?_))
   | exact ih0 _ _ _
   | exact ih1 _ _ _ _
   | exact LeO.none _
   | refine LeO.ite ?_ ?_
   | refine LeO.bind ?_ (fun _ => ?_)
theorem r02_More.mono : ∀ a0 a1 k, LeO (r02_More.f k a0 a1) (r02_More.f (k + 1) a0 a1) := by
 intro a0 a1 k
 obtain ⟨ih0, ih1⟩ := r02_More.mono_l k
 unfold r02_More.f
 repeat' first
   | (with_reducible exact ih0 _ _ _)
   | (with_reducible exact ih1 _ _ _ _)
   | (with_reducible exact LeO.refl _)
   | (with_reducible exact LeO.none _)
   | (with_reducible refine LeO.ite ?_ ?_)
   | (with_reducible refine LeO.bind ?_ (fun _ => ?_))
   | exact ih0 _ _ _
   | exact ih1 _ _ _ _
   | exact LeO.none _
   | refine LeO.ite ?_ ?_
   | refine LeO.bind ?_ (fun _ => ?_)
def r02_Of.f (k : Nat) (l0 : List Int) : Option (Int) := (r02_More.f k 0 l0).bind fun t259 => (some t259)
theorem r02_Of.mono : ∀ a0 k, LeO (r02_Of.f k a0) (r02_Of.f (k + 1) a0) := by
 intro a0 k
 unfold r02_Of.f
 repeat' first
   | (with_reducible exact r02_More.mono _ _ _)
   | (with_reducible exact LeO.refl _)
   | (with_reducible exact LeO.none _)
   | (with_reducible refine LeO.ite ?_ ?_)
   | (with_reducible refine LeO.bind ?_ (fun _ => ?_))
   | exact r02_More.mono _ _ _
   | exact LeO.none _
   | refine LeO.ite ?_ ?_
   | refine LeO.bind ?_ (fun _ => ?_)
def r03_Put.f (k : Nat) (l0 : List Int) (l1 : List Int) : Option (List Int × Int) := if (l1.length : Int) > 1048576 then (some (([] : List Int), 6)) else ((r01_Put.f k l0 (IntKind.u64.wrap ((l1.length : Int)))).bind fun t260 => (if t260.length + l1.length < 140737488355328 then ((some (t260 ++ l1 : List Int)).bind fun y263 => ((r02_Of.f k l1).bind fun t266 => ((some (([(Int.tmod t266 256) % 256, ((Int.tdiv t266 256) % 4294967296) % 256, ((Int.tdiv t266 65536) % 4294967296) % 256, ((Int.tdiv t266 16777216) % 4294967296) % 256] : List Int) : List Int)).bind fun y267 => (if y263.length + y267.length < 140737488355328 then (some ((y263 ++ y267), 0)) else (none))))) else (none)))
theorem r03_Put.mono : ∀ a0 a1 k, LeO (r03_Put.f k a0 a1) (r03_Put.f (k + 1) a0 a1) := by
 intro a0 a1 k
 unfold r03_Put.f
 repeat' first
   | (with_reducible exact r01_Put.mono _ _ _)
   | (with_reducible exact r02_Of.mono _ _)
   | (with_reducible exact LeO.refl _)
   | (with_reducible exact LeO.none _)
   | (with_reducible refine LeO.ite ?_ ?_)
   | (with_reducible refine LeO.bind ?_ (fun _ => ?_))
   | exact r01_Put.mono _ _ _
   | exact r02_Of.mono _ _
   | exact LeO.none _
   | refine LeO.ite ?_ ?_
   | refine LeO.bind ?_ (fun _ => ?_)
def r09_Alike.l0 : Nat → ByteArray → ByteArray → Int → Option (Int)
 | 0, _, _, _ => none
 | k + 1, x0, x1, x5 => if x5 < (x0.size : Int) then (if x5 < (x1.size : Int) then (if 0 ≤ x5 then (if (bt x0 x5) = (bt x1 x5) then (r09_Alike.l0 k x0 x1 (wrap64 (x5 + 1))) else (some x5)) else (none)) else (some x5)) else (some x5)
def r09_Alike.f (k : Nat) (a0 : ByteArray) (a1 : ByteArray) : Option (Int) := r09_Alike.l0 k a0 a1 0
theorem r09_Alike.mono_l : ∀ k, (∀ y0 y1 y2, LeO (r09_Alike.l0 k y0 y1 y2) (r09_Alike.l0 (k + 1) y0 y1 y2))
 | 0 => fun _ _ _ r h => by simp [r09_Alike.l0] at h
 | k + 1 => by
  have ih0 := r09_Alike.mono_l k
  ·intro y0 y1 y2
   unfold r09_Alike.l0
   repeat' first
   | (with_reducible exact ih0 _ _ _)
   | (with_reducible exact LeO.refl _)
   | (with_reducible exact LeO.none _)
   | (with_reducible refine LeO.ite ?_ ?_)
   | (with_reducible refine LeO.bind ?_ (fun _ => ?_))
   | exact ih0 _ _ _
   | exact LeO.none _
   | refine LeO.ite ?_ ?_
   | refine LeO.bind ?_ (fun _ => ?_)
theorem r09_Alike.mono : ∀ a0 a1 k, LeO (r09_Alike.f k a0 a1) (r09_Alike.f (k + 1) a0 a1) := by
 intro a0 a1 k
 have ih0 := r09_Alike.mono_l k
 unfold r09_Alike.f
 repeat' first
   | (with_reducible exact ih0 _ _ _)
   | (with_reducible exact LeO.refl _)
   | (with_reducible exact LeO.none _)
   | (with_reducible refine LeO.ite ?_ ?_)
   | (with_reducible refine LeO.bind ?_ (fun _ => ?_))
   | exact ih0 _ _ _
   | exact LeO.none _
   | refine LeO.ite ?_ ?_
   | refine LeO.bind ?_ (fun _ => ?_)
def r09_Block.l0 : Nat → List (S41) → List Int → Int → Option (List Int)
 | 0, _, _, _ => none
 | k + 1, x0, x3, x4 => if x4 < (x0.length : Int) then (if x4 > 0 then (if 0 ≤ (wrap64 (x4 - 1)) then (if (wrap64 (x4 - 1)) < (x0.length : Int) then (if 0 ≤ x4 then ((r09_Alike.f k ((rd_T41 x0 (wrap64 (x4 - 1))).f0) ((rd_T41 x0 x4).f0)).bind fun t278 => ((r01_Put.f k x3 (IntKind.u64.wrap (t278))).bind fun t279 => ((r01_Put.f k t279 (IntKind.u64.wrap (wrap64 ((((rd_T41 x0 x4).f0).size : Int) - t278)))).bind fun t283 => (if 0 ≤ t278 then (if t278 ≤ (((rd_T41 x0 x4).f0).size : Int) then (if t283.length + (((rd_T41 x0 x4).f0).extract (t278 : Int).toNat ((rd_T41 x0 x4).f0).size).size < 140737488355328 then ((r01_Put.f k (t283 ++ bytesOf (((rd_T41 x0 x4).f0).extract (t278 : Int).toNat ((rd_T41 x0 x4).f0).size)) ((rd_T41 x0 x4).f1)).bind fun t291 => (r09_Block.l0 k x0 t291 (wrap64 (x4 + 1)))) else (none)) else (none)) else (none))))) else (none)) else (none)) else (none)) else ((r01_Put.f k x3 0).bind fun t294 => (if 0 ≤ x4 then ((r01_Put.f k t294 (IntKind.u64.wrap (wrap64 ((((rd_T41 x0 x4).f0).size : Int))))).bind fun t298 => (if 0 ≤ (((rd_T41 x0 x4).f0).size : Int) then (if t298.length + ((rd_T41 x0 x4).f0).size < 140737488355328 then ((r01_Put.f k (t298 ++ bytesOf ((rd_T41 x0 x4).f0)) ((rd_T41 x0 x4).f1)).bind fun t306 => (r09_Block.l0 k x0 t306 (wrap64 (x4 + 1)))) else (none)) else (none))) else (none)))) else (some x3)
def r09_Block.f (k : Nat) (l0 : List (S41)) : Option (List Int) := (r01_Put.f k ([] : List Int) (IntKind.u64.wrap ((l0.length : Int)))).bind fun t273 => (r09_Block.l0 k l0 t273 0)
theorem r09_Block.mono_l : ∀ k, (∀ y0 y1 y2, LeO (r09_Block.l0 k y0 y1 y2) (r09_Block.l0 (k + 1) y0 y1 y2))
 | 0 => fun _ _ _ r h => by simp [r09_Block.l0] at h
 | k + 1 => by
  have ih0 := r09_Block.mono_l k
  ·intro y0 y1 y2
   unfold r09_Block.l0
   repeat' first
   | (with_reducible exact ih0 _ _ _)
   | (with_reducible exact r01_Put.mono _ _ _)
   | (with_reducible exact r09_Alike.mono _ _ _)
   | (with_reducible exact LeO.refl _)
   | (with_reducible exact LeO.none _)
   | (with_reducible refine LeO.ite ?_ ?_)
   | (with_reducible refine LeO.bind ?_ (fun _ => ?_))
   | exact ih0 _ _ _
   | exact r01_Put.mono _ _ _
   | exact r09_Alike.mono _ _ _
   | exact LeO.none _
   | refine LeO.ite ?_ ?_
   | refine LeO.bind ?_ (fun _ => ?_)
theorem r09_Block.mono : ∀ a0 k, LeO (r09_Block.f k a0) (r09_Block.f (k + 1) a0) := by
 intro a0 k
 have ih0 := r09_Block.mono_l k
 unfold r09_Block.f
 repeat' first
   | (with_reducible exact ih0 _ _ _)
   | (with_reducible exact r01_Put.mono _ _ _)
   | (with_reducible exact r09_Alike.mono _ _ _)
   | (with_reducible exact LeO.refl _)
   | (with_reducible exact LeO.none _)
   | (with_reducible refine LeO.ite ?_ ?_)
   | (with_reducible refine LeO.bind ?_ (fun _ => ?_))
   | exact ih0 _ _ _
   | exact r01_Put.mono _ _ _
   | exact r09_Alike.mono _ _ _
   | exact LeO.none _
   | refine LeO.ite ?_ ?_
   | refine LeO.bind ?_ (fun _ => ?_)
end Go.Proofs.Ytiohnpphhepdfaa.PPa
end
section
namespace Go.Proofs.Ytiohnpphhepdfaa.PPa
open Go.RowKit Go.Proofs.YtiohnpphhepdfaaW.PrintWords Go.Proofs.YtiohnpphhepdfaaW.PrintLast Go.Proofs.YtiohnpphhepdfaaW.PrintMore
attribute [local go_sem] max2_int min2_int max_two min_two max_three min_three max_four min_four
attribute [local go_sem] Go.Proofs.Ytiohnpphhepdfaa.MoreWords.str_leq Go.Proofs.Ytiohnpphhepdfaa.MoreWords.str_gtr Go.Proofs.Ytiohnpphhepdfaa.MoreWords.str_geq
set_option linter.unusedVariables false
set_option linter.unusedSimpArgs false
mutual
def r09_Encode.j0 : Nat → List (S41) → Int → Bool → Option (List Int × Int)
 | 0, _, _, _ => none
 | k + 1, x0, x1, x20 => if x20 = true then (some (([] : List Int), 1)) else ((r09_May.f k x0).bind fun t309 => (if t309 = 0 then ((r01_Put.f k ([] : List Int) (IntKind.u64.wrap (x1))).bind fun t310 => ((r03_Put.f k ([] : List Int) t310).bind fun bt313 => (r09_Encode.l0 k x0 x1 bt313.1 0))) else (some (([] : List Int), t309))))
def r09_Encode.l0 : Nat → List (S41) → Int → List Int → Int → Option (List Int × Int)
 | 0, _, _, _, _ => none
 | k + 1, x0, x1, x7, x9 => if x9 < (x0.length : Int) then (if (wrap64 (x9 + x1)) > (x0.length : Int) then (r09_Encode.j2 k x0 x1 x7 x9 (x0.length : Int)) else (r09_Encode.j2 k x0 x1 x7 x9 (wrap64 (x9 + x1)))) else ((r01_Put.f k ([] : List Int) 0).bind fun t317 => ((r01_Put.f k t317 (IntKind.u64.wrap ((x0.length : Int)))).bind fun t320 => ((r03_Put.f k x7 t320).bind fun bt323 => (some (bt323.1, 0)))))
def r09_Encode.j2 : Nat → List (S41) → Int → List Int → Int → Int → Option (List Int × Int)
 | 0, _, _, _, _, _ => none
 | k + 1, x0, x1, x7, x9, x10 => if 0 ≤ x9 then (if x9 ≤ x10 then (if x10 ≤ (x0.length : Int) then ((r09_Block.f k ((x0.take (x10 : Int).toNat).drop (x9 : Int).toNat)).bind fun t331 => ((r03_Put.f k x7 t331).bind fun bt334 => (if bt334.2 = 0 then (r09_Encode.l0 k x0 x1 bt334.1 (wrap64 (x9 + x1))) else (some (([] : List Int), bt334.2))))) else (none)) else (none)) else (none)
end
def r09_Encode.f (k : Nat) (l0 : List (S41)) (a1 : Int) : Option (List Int × Int) := if a1 < 1 then (r09_Encode.j0 k l0 a1 true) else (r09_Encode.j0 k l0 a1 (decide (a1 > 255)))
theorem r09_Encode.mono_l : ∀ k, (∀ y0 y1 y2, LeO (r09_Encode.j0 k y0 y1 y2) (r09_Encode.j0 (k + 1) y0 y1 y2)) ∧ (∀ y0 y1 y2 y3, LeO (r09_Encode.l0 k y0 y1 y2 y3) (r09_Encode.l0 (k + 1) y0 y1 y2 y3)) ∧ (∀ y0 y1 y2 y3 y4, LeO (r09_Encode.j2 k y0 y1 y2 y3 y4) (r09_Encode.j2 (k + 1) y0 y1 y2 y3 y4))
 | 0 => ⟨fun _ _ _ r h => by simp [r09_Encode.j0] at h, fun _ _ _ _ r h => by simp [r09_Encode.l0] at h, fun _ _ _ _ _ r h => by simp [r09_Encode.j2] at h⟩
 | k + 1 => by
  obtain ⟨ih0, ih1, ih2⟩ := r09_Encode.mono_l k
  refine ⟨?_, ?_, ?_⟩
  ·intro y0 y1 y2
   unfold r09_Encode.j0
   repeat' first
   | (with_reducible exact ih0 _ _ _)
   | (with_reducible exact ih1 _ _ _ _)
   | (with_reducible exact ih2 _ _ _ _ _)
   | (with_reducible exact r01_Put.mono _ _ _)
   | (with_reducible exact r03_Put.mono _ _ _)
   | (with_reducible exact r09_Block.mono _ _)
   | (with_reducible exact r09_May.mono _ _)
   | (with_reducible exact LeO.refl _)
   | (with_reducible exact LeO.none _)
   | (with_reducible refine LeO.ite ?_ ?_)
   | (with_reducible refine LeO.bind ?_ (fun _ => ?_))
   | exact ih0 _ _ _
   | exact ih1 _ _ _ _
   | exact ih2 _ _ _ _ _
   | exact r01_Put.mono _ _ _
   | exact r03_Put.mono _ _ _
   | exact r09_Block.mono _ _
   | exact r09_May.mono _ _
   | exact LeO.none _
   | refine LeO.ite ?_ ?_
   | refine LeO.bind ?_ (fun _ => ?_)
  ·intro y0 y1 y2 y3
   unfold r09_Encode.l0
   repeat' first
   | (with_reducible exact ih0 _ _ _)
   | (with_reducible exact ih1 _ _ _ _)
   | (with_reducible exact ih2 _ _ _ _ _)
   | (with_reducible exact r01_Put.mono _ _ _)
   | (with_reducible exact r03_Put.mono _ _ _)
   | (with_reducible exact r09_Block.mono _ _)
   | (with_reducible exact r09_May.mono _ _)
   | (with_reducible exact LeO.refl _)
   | (with_reducible exact LeO.none _)
   | (with_reducible refine LeO.ite ?_ ?_)
   | (with_reducible refine LeO.bind ?_ (fun _ => ?_))
   | exact ih0 _ _ _
   | exact ih1 _ _ _ _
   | exact ih2 _ _ _ _ _
   | exact r01_Put.mono _ _ _
   | exact r03_Put.mono _ _ _
   | exact r09_Block.mono _ _
   | exact r09_May.mono _ _
   | exact LeO.none _
   | refine LeO.ite ?_ ?_
   | refine LeO.bind ?_ (fun _ => ?_)
  ·intro y0 y1 y2 y3 y4
   unfold r09_Encode.j2
   repeat' first
   | (with_reducible exact ih0 _ _ _)
   | (with_reducible exact ih1 _ _ _ _)
   | (with_reducible exact ih2 _ _ _ _ _)
   | (with_reducible exact r01_Put.mono _ _ _)
   | (with_reducible exact r03_Put.mono _ _ _)
   | (with_reducible exact r09_Block.mono _ _)
   | (with_reducible exact r09_May.mono _ _)
   | (with_reducible exact LeO.refl _)
   | (with_reducible exact LeO.none _)
   | (with_reducible refine LeO.ite ?_ ?_)
   | (with_reducible refine LeO.bind ?_ (fun _ => ?_))
   | exact ih0 _ _ _
   | exact ih1 _ _ _ _
   | exact ih2 _ _ _ _ _
   | exact r01_Put.mono _ _ _
   | exact r03_Put.mono _ _ _
   | exact r09_Block.mono _ _
   | exact r09_May.mono _ _
   | exact LeO.none _
   | refine LeO.ite ?_ ?_
   | refine LeO.bind ?_ (fun _ => ?_)
theorem r09_Encode.mono : ∀ a0 a1 k, LeO (r09_Encode.f k a0 a1) (r09_Encode.f (k + 1) a0 a1) := by
 intro a0 a1 k
 obtain ⟨ih0, ih1, ih2⟩ := r09_Encode.mono_l k
 unfold r09_Encode.f
 repeat' first
   | (with_reducible exact ih0 _ _ _)
   | (with_reducible exact ih1 _ _ _ _)
   | (with_reducible exact ih2 _ _ _ _ _)
   | (with_reducible exact r01_Put.mono _ _ _)
   | (with_reducible exact r03_Put.mono _ _ _)
   | (with_reducible exact r09_Block.mono _ _)
   | (with_reducible exact r09_May.mono _ _)
   | (with_reducible exact LeO.refl _)
   | (with_reducible exact LeO.none _)
   | (with_reducible refine LeO.ite ?_ ?_)
   | (with_reducible refine LeO.bind ?_ (fun _ => ?_))
   | exact ih0 _ _ _
   | exact ih1 _ _ _ _
   | exact ih2 _ _ _ _ _
   | exact r01_Put.mono _ _ _
   | exact r03_Put.mono _ _ _
   | exact r09_Block.mono _ _
   | exact r09_May.mono _ _
   | exact LeO.none _
   | refine LeO.ite ?_ ?_
   | refine LeO.bind ?_ (fun _ => ?_)
mutual
def r01_Get.l0 : Nat → List Int → Int → Int → Int → Option (Int × Int × Int)
 | 0, _, _, _, _ => none
 | k + 1, x0, x5, x6, x7 => if x7 < 10 then (if x7 = (x0.length : Int) then (some (0, 0, 3)) else (if 0 ≤ x7 then (if x7 < (x0.length : Int) then (if x7 = 9 then (if (IntKind.u64.wrap (Int.tmod (rd x0 x7) 128)) > 1 then (r01_Get.j1 k x0 x5 x6 x7 (IntKind.u64.wrap (Int.tmod (rd x0 x7) 128)) true) else (r01_Get.j1 k x0 x5 x6 x7 (IntKind.u64.wrap (Int.tmod (rd x0 x7) 128)) (decide ((rd x0 x7) > 127)))) else (r01_Get.j1 k x0 x5 x6 x7 (IntKind.u64.wrap (Int.tmod (rd x0 x7) 128)) false)) else (none)) else (none))) else (some (0, 0, 2))
def r01_Get.j1 : Nat → List Int → Int → Int → Int → Int → Bool → Option (Int × Int × Int)
 | 0, _, _, _, _, _, _ => none
 | k + 1, x0, x5, x6, x7, x8, x35 => if x35 = true then (some (0, 0, 2)) else (if 0 ≤ x7 then (if x7 < (x0.length : Int) then (if (rd x0 x7) < 128 then (if x7 > 0 then (if (rd x0 x7) = 0 then (some (0, 0, 2)) else (some (IntKind.u64.wrap (x5 + (IntKind.u64.wrap (x8 * x6))), wrap64 (x7 + 1), 0))) else (some (IntKind.u64.wrap (x5 + (IntKind.u64.wrap (x8 * x6))), wrap64 (x7 + 1), 0))) else (r01_Get.l0 k x0 (IntKind.u64.wrap (x5 + (IntKind.u64.wrap (x8 * x6)))) (IntKind.u64.wrap (x6 * 128)) (wrap64 (x7 + 1)))) else (none)) else (none))
end
def r01_Get.f (k : Nat) (l0 : List Int) : Option (Int × Int × Int) := r01_Get.l0 k l0 0 1 0
theorem r01_Get.mono_l : ∀ k, (∀ y0 y1 y2 y3, LeO (r01_Get.l0 k y0 y1 y2 y3) (r01_Get.l0 (k + 1) y0 y1 y2 y3)) ∧ (∀ y0 y1 y2 y3 y4 y5, LeO (r01_Get.j1 k y0 y1 y2 y3 y4 y5) (r01_Get.j1 (k + 1) y0 y1 y2 y3 y4 y5))
 | 0 => ⟨fun _ _ _ _ r h => by simp [r01_Get.l0] at h, fun _ _ _ _ _ _ r h => by simp [r01_Get.j1] at h⟩
 | k + 1 => by
  obtain ⟨ih0, ih1⟩ := r01_Get.mono_l k
  refine ⟨?_, ?_⟩
  ·intro y0 y1 y2 y3
   unfold r01_Get.l0
   repeat' first
   | (with_reducible exact ih0 _ _ _ _)
   | (with_reducible exact ih1 _ _ _ _ _ _)
   | (with_reducible exact LeO.refl _)
   | (with_reducible exact LeO.none _)
   | (with_reducible refine LeO.ite ?_ ?_)
   | (with_reducible refine LeO.bind ?_ (fun _ => ?_))
   | exact ih0 _ _ _ _
   | exact ih1 _ _ _ _ _ _
   | exact LeO.none _
   | refine LeO.ite ?_ ?_
   | refine LeO.bind ?_ (fun _ => ?_)
  ·intro y0 y1 y2 y3 y4 y5
   unfold r01_Get.j1
   repeat' first
   | (with_reducible exact ih0 _ _ _ _)
   | (with_reducible exact ih1 _ _ _ _ _ _)
   | (with_reducible exact LeO.refl _)
   | (with_reducible exact LeO.none _)
   | (with_reducible refine LeO.ite ?_ ?_)
   | (with_reducible refine LeO.bind ?_ (fun _ => ?_))
   | exact ih0 _ _ _ _
   | exact ih1 _ _ _ _ _ _
   | exact LeO.none _
   | refine LeO.ite ?_ ?_
   | refine LeO.bind ?_ (fun _ => ?_)
theorem r01_Get.mono : ∀ a0 k, LeO (r01_Get.f k a0) (r01_Get.f (k + 1) a0) := by
 intro a0 k
 obtain ⟨ih0, ih1⟩ := r01_Get.mono_l k
 unfold r01_Get.f
 repeat' first
   | (with_reducible exact ih0 _ _ _ _)
   | (with_reducible exact ih1 _ _ _ _ _ _)
   | (with_reducible exact LeO.refl _)
   | (with_reducible exact LeO.none _)
   | (with_reducible refine LeO.ite ?_ ?_)
   | (with_reducible refine LeO.bind ?_ (fun _ => ?_))
   | exact ih0 _ _ _ _
   | exact ih1 _ _ _ _ _ _
   | exact LeO.none _
   | refine LeO.ite ?_ ?_
   | refine LeO.bind ?_ (fun _ => ?_)
def r03_Get.f (k : Nat) (l0 : List Int) : Option (List Int × Int × Int) := (r01_Get.f k l0).bind fun bt342 => (if bt342.2.2 = 0 then (if bt342.1 > 1048576 then (some (([] : List Int), 0, 2)) else (if (wrap64 ((wrap64 (bt342.2.1 + (wrap64 (bt342.1)))) + 4)) > (l0.length : Int) then (some (([] : List Int), 0, 3)) else ((some (([] : List Int) : List Int)).bind fun y345 => (if 0 ≤ bt342.2.1 then (if bt342.2.1 ≤ (wrap64 ((wrap64 ((wrap64 (bt342.2.1 + (wrap64 (bt342.1)))) + 4)) - 4)) then (if (wrap64 ((wrap64 ((wrap64 (bt342.2.1 + (wrap64 (bt342.1)))) + 4)) - 4)) ≤ (l0.length : Int) then (if y345.length + ((l0.take ((wrap64 ((wrap64 ((wrap64 (bt342.2.1 + (wrap64 (bt342.1)))) + 4)) - 4)) : Int).toNat).drop (bt342.2.1 : Int).toNat).length < 140737488355328 then ((some (y345 ++ ((l0.take ((wrap64 ((wrap64 ((wrap64 (bt342.2.1 + (wrap64 (bt342.1)))) + 4)) - 4)) : Int).toNat).drop (bt342.2.1 : Int).toNat) : List Int)).bind fun y349 => ((r03_Put.f k ([] : List Int) y349).bind fun bt352 => (if 0 ≤ (wrap64 ((wrap64 (bt342.2.1 + (wrap64 (bt342.1)))) + 4)) then (if (wrap64 ((wrap64 (bt342.2.1 + (wrap64 (bt342.1)))) + 4)) ≤ (l0.length : Int) then (if (strOfNums bt352.1).toList = (strOfNums (l0.take ((wrap64 ((wrap64 (bt342.2.1 + (wrap64 (bt342.1)))) + 4)) : Int).toNat)).toList then (some (y349, wrap64 ((wrap64 (bt342.2.1 + (wrap64 (bt342.1)))) + 4), 0)) else (some (([] : List Int), 0, 4))) else (none)) else (none)))) else (none)) else (none)) else (none)) else (none))))) else (some (([] : List Int), 0, bt342.2.2)))
theorem r03_Get.mono : ∀ a0 k, LeO (r03_Get.f k a0) (r03_Get.f (k + 1) a0) := by
 intro a0 k
 unfold r03_Get.f
 repeat' first
   | (with_reducible exact r01_Get.mono _ _)
   | (with_reducible exact r03_Put.mono _ _ _)
   | (with_reducible exact LeO.refl _)
   | (with_reducible exact LeO.none _)
   | (with_reducible refine LeO.ite ?_ ?_)
   | (with_reducible refine LeO.bind ?_ (fun _ => ?_))
   | exact r01_Get.mono _ _
   | exact r03_Put.mono _ _ _
   | exact LeO.none _
   | refine LeO.ite ?_ ?_
   | refine LeO.bind ?_ (fun _ => ?_)
end Go.Proofs.Ytiohnpphhepdfaa.PPa
end
section
namespace Go.Proofs.Ytiohnpphhepdfaa.PPa
open Go.RowKit Go.Proofs.YtiohnpphhepdfaaW.PrintWords Go.Proofs.YtiohnpphhepdfaaW.PrintLast Go.Proofs.YtiohnpphhepdfaaW.PrintMore
attribute [local go_sem] max2_int min2_int max_two min_two max_three min_three max_four min_four
attribute [local go_sem] Go.Proofs.Ytiohnpphhepdfaa.MoreWords.str_leq Go.Proofs.Ytiohnpphhepdfaa.MoreWords.str_gtr Go.Proofs.Ytiohnpphhepdfaa.MoreWords.str_geq
set_option linter.unusedVariables false
set_option linter.unusedSimpArgs false
def r03_Scan.l0 : Nat → List Int → List Int → Int → Int → Int → List (List Int) → Option ((List (List Int)) × Int)
 | 0, _, _, _, _, _, _ => none
 | k + 1, x0, x4, x5, x6, x7, x8 => if x6 = 0 then (if x8.length < 5864062014805 then (if 0 ≤ (wrap64 (x7 + x5)) then (if (wrap64 (x7 + x5)) ≤ (x0.length : Int) then ((r03_Get.f k (x0.drop ((wrap64 (x7 + x5)) : Int).toNat)).bind fun bt366 => (r03_Scan.l0 k x0 bt366.1 bt366.2.1 bt366.2.2 (wrap64 (x7 + x5)) (x8 ++ [x4]))) else (none)) else (none)) else (none)) else (some (x8, x7))
def r03_Scan.f (k : Nat) (l0 : List Int) : Option ((List (List Int)) × Int) := (r03_Get.f k l0).bind fun bt357 => (r03_Scan.l0 k l0 bt357.1 bt357.2.1 bt357.2.2 0 ([] : List (List Int)))
theorem r03_Scan.mono_l : ∀ k, (∀ y0 y1 y2 y3 y4 y5, LeO (r03_Scan.l0 k y0 y1 y2 y3 y4 y5) (r03_Scan.l0 (k + 1) y0 y1 y2 y3 y4 y5))
 | 0 => fun _ _ _ _ _ _ r h => by simp [r03_Scan.l0] at h
 | k + 1 => by
  have ih0 := r03_Scan.mono_l k
  ·intro y0 y1 y2 y3 y4 y5
   unfold r03_Scan.l0
   repeat' first
   | (with_reducible exact ih0 _ _ _ _ _ _)
   | (with_reducible exact r03_Get.mono _ _)
   | (with_reducible exact LeO.refl _)
   | (with_reducible exact LeO.none _)
   | (with_reducible refine LeO.ite ?_ ?_)
   | (with_reducible refine LeO.bind ?_ (fun _ => ?_))
   | exact ih0 _ _ _ _ _ _
   | exact r03_Get.mono _ _
   | exact LeO.none _
   | refine LeO.ite ?_ ?_
   | refine LeO.bind ?_ (fun _ => ?_)
theorem r03_Scan.mono : ∀ a0 k, LeO (r03_Scan.f k a0) (r03_Scan.f (k + 1) a0) := by
 intro a0 k
 have ih0 := r03_Scan.mono_l k
 unfold r03_Scan.f
 repeat' first
   | (with_reducible exact ih0 _ _ _ _ _ _)
   | (with_reducible exact r03_Get.mono _ _)
   | (with_reducible exact LeO.refl _)
   | (with_reducible exact LeO.none _)
   | (with_reducible refine LeO.ite ?_ ?_)
   | (with_reducible refine LeO.bind ?_ (fun _ => ?_))
   | exact ih0 _ _ _ _ _ _
   | exact r03_Get.mono _ _
   | exact LeO.none _
   | refine LeO.ite ?_ ?_
   | refine LeO.bind ?_ (fun _ => ?_)
mutual
def r09_take.j0 : Nat → ByteArray → List Int → Int → Int → Bool → Option (ByteArray × Int × Int)
 | 0, _, _, _, _, _ => none
 | k + 1, x0, x1, x6, x7, x31 => if x31 = true then (some ((⟨#[]⟩ : ByteArray), 0, 0)) else (if 0 ≤ x7 then (if x7 ≤ (x1.length : Int) then ((r01_Get.f k (x1.drop (x7 : Int).toNat)).bind fun bt376 => (if bt376.2.2 = 0 then (r09_take.j1 k x0 x1 x6 bt376.1 (wrap64 (x7 + bt376.2.1)) (decide (bt376.1 > (IntKind.u64.wrap (wrap64 ((x1.length : Int) - (wrap64 (x7 + bt376.2.1)))))))) else (r09_take.j1 k x0 x1 x6 bt376.1 (wrap64 (x7 + bt376.2.1)) true))) else (none)) else (none))
def r09_take.j1 : Nat → ByteArray → List Int → Int → Int → Int → Bool → Option (ByteArray × Int × Int)
 | 0, _, _, _, _, _, _ => none
 | k + 1, x0, x1, x6, x9, x12, x54 => if x54 = true then (some ((⟨#[]⟩ : ByteArray), 0, 0)) else (if 0 ≤ x6 then (if x6 ≤ (x0.size : Int) then (if 0 ≤ x12 then (if x12 ≤ (wrap64 (x12 + (wrap64 (x9)))) then (if (wrap64 (x12 + (wrap64 (x9)))) ≤ (x1.length : Int) then (if (x0.extract 0 (x6 : Int).toNat).size + (strOfNums ((x1.take ((wrap64 (x12 + (wrap64 (x9)))) : Int).toNat).drop (x12 : Int).toNat)).size ≤ 9223372036854775807 then (if 0 ≤ (wrap64 (x12 + (wrap64 (x9)))) then ((r01_Get.f k (x1.drop ((wrap64 (x12 + (wrap64 (x9)))) : Int).toNat)).bind fun bt381 => (if bt381.2.2 = 0 then (some ((x0.extract 0 (x6 : Int).toNat) ++ (strOfNums ((x1.take ((wrap64 (x12 + (wrap64 (x9)))) : Int).toNat).drop (x12 : Int).toNat)), bt381.1, wrap64 ((wrap64 (x12 + (wrap64 (x9)))) + bt381.2.1))) else (some ((⟨#[]⟩ : ByteArray), 0, 0)))) else (none)) else (none)) else (none)) else (none)) else (none)) else (none)) else (none))
end
def r09_take.f (k : Nat) (a0 : ByteArray) (l1 : List Int) : Option (ByteArray × Int × Int) := (r01_Get.f k l1).bind fun bt372 => (if bt372.2.2 = 0 then (r09_take.j0 k a0 l1 bt372.1 bt372.2.1 (decide (bt372.1 > (IntKind.u64.wrap ((a0.size : Int)))))) else (r09_take.j0 k a0 l1 bt372.1 bt372.2.1 true))
theorem r09_take.mono_l : ∀ k, (∀ y0 y1 y2 y3 y4, LeO (r09_take.j0 k y0 y1 y2 y3 y4) (r09_take.j0 (k + 1) y0 y1 y2 y3 y4)) ∧ (∀ y0 y1 y2 y3 y4 y5, LeO (r09_take.j1 k y0 y1 y2 y3 y4 y5) (r09_take.j1 (k + 1) y0 y1 y2 y3 y4 y5))
 | 0 => ⟨fun _ _ _ _ _ r h => by simp [r09_take.j0] at h, fun _ _ _ _ _ _ r h => by simp [r09_take.j1] at h⟩
 | k + 1 => by
  obtain ⟨ih0, ih1⟩ := r09_take.mono_l k
  refine ⟨?_, ?_⟩
  ·intro y0 y1 y2 y3 y4
   unfold r09_take.j0
   repeat' first
   | (with_reducible exact ih0 _ _ _ _ _)
   | (with_reducible exact ih1 _ _ _ _ _ _)
   | (with_reducible exact r01_Get.mono _ _)
   | (with_reducible exact LeO.refl _)
   | (with_reducible exact LeO.none _)
   | (with_reducible refine LeO.ite ?_ ?_)
   | (with_reducible refine LeO.bind ?_ (fun _ => ?_))
   | exact ih0 _ _ _ _ _
   | exact ih1 _ _ _ _ _ _
   | exact r01_Get.mono _ _
   | exact LeO.none _
   | refine LeO.ite ?_ ?_
   | refine LeO.bind ?_ (fun _ => ?_)
  ·intro y0 y1 y2 y3 y4 y5
   unfold r09_take.j1
   repeat' first
   | (with_reducible exact ih0 _ _ _ _ _)
   | (with_reducible exact ih1 _ _ _ _ _ _)
   | (with_reducible exact r01_Get.mono _ _)
   | (with_reducible exact LeO.refl _)
   | (with_reducible exact LeO.none _)
   | (with_reducible refine LeO.ite ?_ ?_)
   | (with_reducible refine LeO.bind ?_ (fun _ => ?_))
   | exact ih0 _ _ _ _ _
   | exact ih1 _ _ _ _ _ _
   | exact r01_Get.mono _ _
   | exact LeO.none _
   | refine LeO.ite ?_ ?_
   | refine LeO.bind ?_ (fun _ => ?_)
theorem r09_take.mono : ∀ a0 a1 k, LeO (r09_take.f k a0 a1) (r09_take.f (k + 1) a0 a1) := by
 intro a0 a1 k
 obtain ⟨ih0, ih1⟩ := r09_take.mono_l k
 unfold r09_take.f
 repeat' first
   | (with_reducible exact ih0 _ _ _ _ _)
   | (with_reducible exact ih1 _ _ _ _ _ _)
   | (with_reducible exact r01_Get.mono _ _)
   | (with_reducible exact LeO.refl _)
   | (with_reducible exact LeO.none _)
   | (with_reducible refine LeO.ite ?_ ?_)
   | (with_reducible refine LeO.bind ?_ (fun _ => ?_))
   | exact ih0 _ _ _ _ _
   | exact ih1 _ _ _ _ _ _
   | exact r01_Get.mono _ _
   | exact LeO.none _
   | refine LeO.ite ?_ ?_
   | refine LeO.bind ?_ (fun _ => ?_)
end Go.Proofs.Ytiohnpphhepdfaa.PPa
end
section
namespace Go.Proofs.Ytiohnpphhepdfaa.PPa
open Go.RowKit Go.Proofs.YtiohnpphhepdfaaW.PrintWords Go.Proofs.YtiohnpphhepdfaaW.PrintLast Go.Proofs.YtiohnpphhepdfaaW.PrintMore
attribute [local go_sem] max2_int min2_int max_two min_two max_three min_three max_four min_four
attribute [local go_sem] Go.Proofs.Ytiohnpphhepdfaa.MoreWords.str_leq Go.Proofs.Ytiohnpphhepdfaa.MoreWords.str_gtr Go.Proofs.Ytiohnpphhepdfaa.MoreWords.str_geq
set_option linter.unusedVariables false
set_option linter.unusedSimpArgs false
mutual
def r09_Decode.j0 : Nat → List Int → List (List Int) → Int → Bool → Option ((List (S41)) × Int)
 | 0, _, _, _, _ => none
 | k + 1, x0, x4, x6, x41 => if x41 = true then (some (([] : List (S41)), 2)) else (r09_Decode.l0 k x0 x4 x6 ([] : List (S41)) 1)
def r09_Decode.l0 : Nat → List Int → List (List Int) → Int → List (S41) → Int → Option ((List (S41)) × Int)
 | 0, _, _, _, _, _ => none
 | k + 1, x0, x4, x6, x9, x10 => if x10 < (wrap64 ((x4.length : Int) - 1)) then (if 0 ≤ x10 then (if x10 < (x4.length : Int) then ((r01_Get.f k (rd_L5 x4 x10)).bind fun bt397 => (if bt397.2.2 = 0 then (r09_Decode.j2 k x0 x4 x6 x9 x10 bt397.1 bt397.2.1 (decide (bt397.1 > 255))) else (r09_Decode.j2 k x0 x4 x6 x9 x10 bt397.1 bt397.2.1 true))) else (none)) else (none)) else ((r09_Encode.f k x9 (wrap64 (x6))).bind fun bt392 => (if bt392.2 = 0 then (if (strOfNums bt392.1).toList = (strOfNums x0).toList then (some (x9, 0)) else (some (([] : List (S41)), 2))) else (some (([] : List (S41)), 2))))
def r09_Decode.j2 : Nat → List Int → List (List Int) → Int → List (S41) → Int → Int → Int → Bool → Option ((List (S41)) × Int)
 | 0, _, _, _, _, _, _, _, _ => none
 | k + 1, x0, x4, x6, x9, x10, x11, x12, x63 => if x63 = true then (some (([] : List (S41)), 2)) else (r09_Decode.l1 k x0 x4 x6 x9 x10 x11 x12 (⟨#[]⟩ : ByteArray) 0)
def r09_Decode.l1 : Nat → List Int → List (List Int) → Int → List (S41) → Int → Int → Int → ByteArray → Int → Option ((List (S41)) × Int)
 | 0, _, _, _, _, _, _, _, _, _ => none
 | k + 1, x0, x4, x6, x9, x10, x11, x12, x14, x15 => if x15 < (wrap64 (x11)) then (if 0 ≤ x10 then (if x10 < (x4.length : Int) then (if 0 ≤ x12 then (if x12 ≤ ((rd_L5 x4 x10).length : Int) then ((r09_take.f k x14 ((rd_L5 x4 x10).drop (x12 : Int).toNat)).bind fun bt405 => (if bt405.2.2 = 0 then (some (([] : List (S41)), 2)) else (if x9.length < 5864062014805 then (r09_Decode.l1 k x0 x4 x6 (x9 ++ [(⟨bt405.1, bt405.2.1⟩ : S41)]) x10 x11 (wrap64 (x12 + bt405.2.2)) bt405.1 (wrap64 (x15 + 1))) else (none)))) else (none)) else (none)) else (none)) else (none)) else (r09_Decode.l0 k x0 x4 x6 x9 (wrap64 (x10 + 1)))
end
def r09_Decode.f (k : Nat) (l0 : List Int) : Option ((List (S41)) × Int) := (r03_Scan.f k l0).bind fun bt384 => (if (bt384.1.length : Int) < 2 then (some (([] : List (S41)), 2)) else (if 0 < (bt384.1.length : Int) then ((r01_Get.f k (rd_L5 bt384.1 0)).bind fun bt389 => (if bt389.2.2 = 0 then (r09_Decode.j0 k l0 bt384.1 bt389.1 (decide (bt389.1 > 255))) else (r09_Decode.j0 k l0 bt384.1 bt389.1 true))) else (none)))
theorem r09_Decode.mono_l : ∀ k, (∀ y0 y1 y2 y3, LeO (r09_Decode.j0 k y0 y1 y2 y3) (r09_Decode.j0 (k + 1) y0 y1 y2 y3)) ∧ (∀ y0 y1 y2 y3 y4, LeO (r09_Decode.l0 k y0 y1 y2 y3 y4) (r09_Decode.l0 (k + 1) y0 y1 y2 y3 y4)) ∧ (∀ y0 y1 y2 y3 y4 y5 y6 y7, LeO (r09_Decode.j2 k y0 y1 y2 y3 y4 y5 y6 y7) (r09_Decode.j2 (k + 1) y0 y1 y2 y3 y4 y5 y6 y7)) ∧ (∀ y0 y1 y2 y3 y4 y5 y6 y7 y8, LeO (r09_Decode.l1 k y0 y1 y2 y3 y4 y5 y6 y7 y8) (r09_Decode.l1 (k + 1) y0 y1 y2 y3 y4 y5 y6 y7 y8))
 | 0 => ⟨fun _ _ _ _ r h => by simp [r09_Decode.j0] at h, fun _ _ _ _ _ r h => by simp [r09_Decode.l0] at h, fun _ _ _ _ _ _ _ _ r h => by simp [r09_Decode.j2] at h, fun _ _ _ _ _ _ _ _ _ r h => by simp [r09_Decode.l1] at h⟩
 | k + 1 => by
  obtain ⟨ih0, ih1, ih2, ih3⟩ := r09_Decode.mono_l k
  refine ⟨?_, ?_, ?_, ?_⟩
  ·intro y0 y1 y2 y3
   unfold r09_Decode.j0
   repeat' first
   | (with_reducible exact ih0 _ _ _ _)
   | (with_reducible exact ih1 _ _ _ _ _)
   | (with_reducible exact ih2 _ _ _ _ _ _ _ _)
   | (with_reducible exact ih3 _ _ _ _ _ _ _ _ _)
   | (with_reducible exact r01_Get.mono _ _)
   | (with_reducible exact r03_Scan.mono _ _)
   | (with_reducible exact r09_Encode.mono _ _ _)
   | (with_reducible exact r09_take.mono _ _ _)
   | (with_reducible exact LeO.refl _)
   | (with_reducible exact LeO.none _)
   | (with_reducible refine LeO.ite ?_ ?_)
   | (with_reducible refine LeO.bind ?_ (fun _ => ?_))
   | exact ih0 _ _ _ _
   | exact ih1 _ _ _ _ _
   | exact ih2 _ _ _ _ _ _ _ _
   | exact ih3 _ _ _ _ _ _ _ _ _
   | exact r01_Get.mono _ _
   | exact r03_Scan.mono _ _
   | exact r09_Encode.mono _ _ _
   | exact r09_take.mono _ _ _
   | exact LeO.none _
   | refine LeO.ite ?_ ?_
   | refine LeO.bind ?_ (fun _ => ?_)
  ·intro y0 y1 y2 y3 y4
   unfold r09_Decode.l0
   repeat' first
   | (with_reducible exact ih0 _ _ _ _)
   | (with_reducible exact ih1 _ _ _ _ _)
   | (with_reducible exact ih2 _ _ _ _ _ _ _ _)
   | (with_reducible exact ih3 _ _ _ _ _ _ _ _ _)
   | (with_reducible exact r01_Get.mono _ _)
   | (with_reducible exact r03_Scan.mono _ _)
   | (with_reducible exact r09_Encode.mono _ _ _)
   | (with_reducible exact r09_take.mono _ _ _)
   | (with_reducible exact LeO.refl _)
   | (with_reducible exact LeO.none _)
   | (with_reducible refine LeO.ite ?_ ?_)
   | (with_reducible refine LeO.bind ?_ (fun _ => ?_))
   | exact ih0 _ _ _ _
   | exact ih1 _ _ _ _ _
   | exact ih2 _ _ _ _ _ _ _ _
   | exact ih3 _ _ _ _ _ _ _ _ _
   | exact r01_Get.mono _ _
   | exact r03_Scan.mono _ _
   | exact r09_Encode.mono _ _ _
   | exact r09_take.mono _ _ _
   | exact LeO.none _
   | refine LeO.ite ?_ ?_
   | refine LeO.bind ?_ (fun _ => ?_)
  ·intro y0 y1 y2 y3 y4 y5 y6 y7
   unfold r09_Decode.j2
   repeat' first
   | (with_reducible exact ih0 _ _ _ _)
   | (with_reducible exact ih1 _ _ _ _ _)
   | (with_reducible exact ih2 _ _ _ _ _ _ _ _)
   | (with_reducible exact ih3 _ _ _ _ _ _ _ _ _)
   | (with_reducible exact r01_Get.mono _ _)
   | (with_reducible exact r03_Scan.mono _ _)
   | (with_reducible exact r09_Encode.mono _ _ _)
   | (with_reducible exact r09_take.mono _ _ _)
   | (with_reducible exact LeO.refl _)
   | (with_reducible exact LeO.none _)
   | (with_reducible refine LeO.ite ?_ ?_)
   | (with_reducible refine LeO.bind ?_ (fun _ => ?_))
   | exact ih0 _ _ _ _
   | exact ih1 _ _ _ _ _
   | exact ih2 _ _ _ _ _ _ _ _
   | exact ih3 _ _ _ _ _ _ _ _ _
   | exact r01_Get.mono _ _
   | exact r03_Scan.mono _ _
   | exact r09_Encode.mono _ _ _
   | exact r09_take.mono _ _ _
   | exact LeO.none _
   | refine LeO.ite ?_ ?_
   | refine LeO.bind ?_ (fun _ => ?_)
  ·intro y0 y1 y2 y3 y4 y5 y6 y7 y8
   unfold r09_Decode.l1
   repeat' first
   | (with_reducible exact ih0 _ _ _ _)
   | (with_reducible exact ih1 _ _ _ _ _)
   | (with_reducible exact ih2 _ _ _ _ _ _ _ _)
   | (with_reducible exact ih3 _ _ _ _ _ _ _ _ _)
   | (with_reducible exact r01_Get.mono _ _)
   | (with_reducible exact r03_Scan.mono _ _)
   | (with_reducible exact r09_Encode.mono _ _ _)
   | (with_reducible exact r09_take.mono _ _ _)
   | (with_reducible exact LeO.refl _)
   | (with_reducible exact LeO.none _)
   | (with_reducible refine LeO.ite ?_ ?_)
   | (with_reducible refine LeO.bind ?_ (fun _ => ?_))
   | exact ih0 _ _ _ _
   | exact ih1 _ _ _ _ _
   | exact ih2 _ _ _ _ _ _ _ _
   | exact ih3 _ _ _ _ _ _ _ _ _
   | exact r01_Get.mono _ _
   | exact r03_Scan.mono _ _
   | exact r09_Encode.mono _ _ _
   | exact r09_take.mono _ _ _
   | exact LeO.none _
   | refine LeO.ite ?_ ?_
   | refine LeO.bind ?_ (fun _ => ?_)
theorem r09_Decode.mono : ∀ a0 k, LeO (r09_Decode.f k a0) (r09_Decode.f (k + 1) a0) := by
 intro a0 k
 obtain ⟨ih0, ih1, ih2, ih3⟩ := r09_Decode.mono_l k
 unfold r09_Decode.f
 repeat' first
   | (with_reducible exact ih0 _ _ _ _)
   | (with_reducible exact ih1 _ _ _ _ _)
   | (with_reducible exact ih2 _ _ _ _ _ _ _ _)
   | (with_reducible exact ih3 _ _ _ _ _ _ _ _ _)
   | (with_reducible exact r01_Get.mono _ _)
   | (with_reducible exact r03_Scan.mono _ _)
   | (with_reducible exact r09_Encode.mono _ _ _)
   | (with_reducible exact r09_take.mono _ _ _)
   | (with_reducible exact LeO.refl _)
   | (with_reducible exact LeO.none _)
   | (with_reducible refine LeO.ite ?_ ?_)
   | (with_reducible refine LeO.bind ?_ (fun _ => ?_))
   | exact ih0 _ _ _ _
   | exact ih1 _ _ _ _ _
   | exact ih2 _ _ _ _ _ _ _ _
   | exact ih3 _ _ _ _ _ _ _ _ _
   | exact r01_Get.mono _ _
   | exact r03_Scan.mono _ _
   | exact r09_Encode.mono _ _ _
   | exact r09_take.mono _ _ _
   | exact LeO.none _
   | refine LeO.ite ?_ ?_
   | refine LeO.bind ?_ (fun _ => ?_)
def r08_At.l0 : Nat → List (S41) → ByteArray → Int → Option (Int)
 | 0, _, _, _ => none
 | k + 1, x0, x1, x5 => if x5 < (x0.length : Int) then (if 0 ≤ x5 then (if (Op.bytesLess (((rd_T41 x0 x5).f0).toList) x1.toList) = true then (r08_At.l0 k x0 x1 (wrap64 (x5 + 1))) else (some x5)) else (none)) else (some x5)
def r08_At.f (k : Nat) (l0 : List (S41)) (a1 : ByteArray) : Option (Int) := r08_At.l0 k l0 a1 0
theorem r08_At.mono_l : ∀ k, (∀ y0 y1 y2, LeO (r08_At.l0 k y0 y1 y2) (r08_At.l0 (k + 1) y0 y1 y2))
 | 0 => fun _ _ _ r h => by simp [r08_At.l0] at h
 | k + 1 => by
  have ih0 := r08_At.mono_l k
  ·intro y0 y1 y2
   unfold r08_At.l0
   repeat' first
   | (with_reducible exact ih0 _ _ _)
   | (with_reducible exact LeO.refl _)
   | (with_reducible exact LeO.none _)
   | (with_reducible refine LeO.ite ?_ ?_)
   | (with_reducible refine LeO.bind ?_ (fun _ => ?_))
   | exact ih0 _ _ _
   | exact LeO.none _
   | refine LeO.ite ?_ ?_
   | refine LeO.bind ?_ (fun _ => ?_)
theorem r08_At.mono : ∀ a0 a1 k, LeO (r08_At.f k a0 a1) (r08_At.f (k + 1) a0 a1) := by
 intro a0 a1 k
 have ih0 := r08_At.mono_l k
 unfold r08_At.f
 repeat' first
   | (with_reducible exact ih0 _ _ _)
   | (with_reducible exact LeO.refl _)
   | (with_reducible exact LeO.none _)
   | (with_reducible refine LeO.ite ?_ ?_)
   | (with_reducible refine LeO.bind ?_ (fun _ => ?_))
   | exact ih0 _ _ _
   | exact LeO.none _
   | refine LeO.ite ?_ ?_
   | refine LeO.bind ?_ (fun _ => ?_)
def r08_Get.f (k : Nat) (l0 : List (S41)) (a1 : ByteArray) : Option (Int) := (r08_At.f k l0 a1).bind fun t413 => (if t413 < (l0.length : Int) then (if 0 ≤ t413 then (if ((rd_T41 l0 t413).f0).toList = a1.toList then (some ((rd_T41 l0 t413).f1)) else (some 0)) else (none)) else (some 0))
theorem r08_Get.mono : ∀ a0 a1 k, LeO (r08_Get.f k a0 a1) (r08_Get.f (k + 1) a0 a1) := by
 intro a0 a1 k
 unfold r08_Get.f
 repeat' first
   | (with_reducible exact r08_At.mono _ _ _)
   | (with_reducible exact LeO.refl _)
   | (with_reducible exact LeO.none _)
   | (with_reducible refine LeO.ite ?_ ?_)
   | (with_reducible refine LeO.bind ?_ (fun _ => ?_))
   | exact r08_At.mono _ _ _
   | exact LeO.none _
   | refine LeO.ite ?_ ?_
   | refine LeO.bind ?_ (fun _ => ?_)
end Go.Proofs.Ytiohnpphhepdfaa.PPa
end
section
namespace Go.Proofs.Ytiohnpphhepdfaa.PPa
open Go.RowKit Go.Proofs.YtiohnpphhepdfaaW.PrintWords Go.Proofs.YtiohnpphhepdfaaW.PrintLast Go.Proofs.YtiohnpphhepdfaaW.PrintMore
attribute [local go_sem] max2_int min2_int max_two min_two max_three min_three max_four min_four
attribute [local go_sem] Go.Proofs.Ytiohnpphhepdfaa.MoreWords.str_leq Go.Proofs.Ytiohnpphhepdfaa.MoreWords.str_gtr Go.Proofs.Ytiohnpphhepdfaa.MoreWords.str_geq
set_option linter.unusedVariables false
set_option linter.unusedSimpArgs false
def r01_Add.f (a0 : Int) (a1 : Int) : Option (Int × Bool) := if a0 > 4611686018427387904 then (some (0, false)) else (if a1 > 4611686018427387904 then (some (0, false)) else (if (IntKind.u64.wrap (a0 + a1)) > 4611686018427387904 then (some (0, false)) else (some (IntKind.u64.wrap (a0 + a1), true))))
def r08_Add.j0 : Nat → List (S41) → Int → ByteArray → Int → Bool → Option ((List (S41)) × Int)
 | 0, _, _, _, _, _ => none
 | k + 1, x0, x1, x2, x3, x22 => if x22 = true then (some (x0, 1)) else ((r08_Get.f k x0 x2).bind fun t416 => ((r01_Add.f t416 x3).bind fun bt417 => (if bt417.2 = true then ((r08_At.f k x0 x2).bind fun t419 => (if t416 > 0 then ((some (([] : List (S41)) : List (S41))).bind fun y420 => (if y420.length + x0.length < 5864062014805 then ((some (y420 ++ x0 : List (S41))).bind fun y423 => (if 0 ≤ t419 then (if t419 < (y423.length : Int) then (some ((y423.set (t419 : Int).toNat (⟨(rd_T41 y423 t419).f0, bt417.1⟩ : S41)), 0)) else (none)) else (none))) else (none))) else (if (x0.length : Int) ≥ x1 then (some (x0, 6)) else ((some (([] : List (S41)) : List (S41))).bind fun y427 => (if 0 ≤ t419 then (if t419 ≤ (x0.length : Int) then ((some (x0.take (t419 : Int).toNat : List (S41))).bind fun y430 => (if y427.length + y430.length < 5864062014805 then ((some (y427 ++ y430 : List (S41))).bind fun y434 => (if y434.length < 5864062014805 then ((some (y434 ++ [(⟨x2, bt417.1⟩ : S41)] : List (S41))).bind fun y437 => ((some (x0.drop (t419 : Int).toNat : List (S41))).bind fun y440 => (if y437.length + y440.length < 5864062014805 then (some ((y437 ++ y440), 0)) else (none)))) else (none))) else (none))) else (none)) else (none)))))) else (some (x0, 5)))))
def r08_Add.f (k : Nat) (l0 : List (S41)) (a1 : Int) (a2 : ByteArray) (a3 : Int) : Option ((List (S41)) × Int) := if (a2.size : Int) = 0 then (r08_Add.j0 k l0 a1 a2 a3 true) else (r08_Add.j0 k l0 a1 a2 a3 (a3 == 0))
theorem r08_Add.mono_l : ∀ k, (∀ y0 y1 y2 y3 y4, LeO (r08_Add.j0 k y0 y1 y2 y3 y4) (r08_Add.j0 (k + 1) y0 y1 y2 y3 y4))
 | 0 => fun _ _ _ _ _ r h => by simp [r08_Add.j0] at h
 | k + 1 => by
  have ih0 := r08_Add.mono_l k
  ·intro y0 y1 y2 y3 y4
   unfold r08_Add.j0
   repeat' first
   | (with_reducible exact ih0 _ _ _ _ _)
   | (with_reducible exact r08_At.mono _ _ _)
   | (with_reducible exact r08_Get.mono _ _ _)
   | (with_reducible exact LeO.refl _)
   | (with_reducible exact LeO.none _)
   | (with_reducible refine LeO.ite ?_ ?_)
   | (with_reducible refine LeO.bind ?_ (fun _ => ?_))
   | exact ih0 _ _ _ _ _
   | exact r08_At.mono _ _ _
   | exact r08_Get.mono _ _ _
   | exact LeO.none _
   | refine LeO.ite ?_ ?_
   | refine LeO.bind ?_ (fun _ => ?_)
theorem r08_Add.mono : ∀ a0 a1 a2 a3 k, LeO (r08_Add.f k a0 a1 a2 a3) (r08_Add.f (k + 1) a0 a1 a2 a3) := by
 intro a0 a1 a2 a3 k
 have ih0 := r08_Add.mono_l k
 unfold r08_Add.f
 repeat' first
   | (with_reducible exact ih0 _ _ _ _ _)
   | (with_reducible exact r08_At.mono _ _ _)
   | (with_reducible exact r08_Get.mono _ _ _)
   | (with_reducible exact LeO.refl _)
   | (with_reducible exact LeO.none _)
   | (with_reducible refine LeO.ite ?_ ?_)
   | (with_reducible refine LeO.bind ?_ (fun _ => ?_))
   | exact ih0 _ _ _ _ _
   | exact r08_At.mono _ _ _
   | exact r08_Get.mono _ _ _
   | exact LeO.none _
   | refine LeO.ite ?_ ?_
   | refine LeO.bind ?_ (fun _ => ?_)
end Go.Proofs.Ytiohnpphhepdfaa.PPa
end
section
namespace Go.Proofs.Ytiohnpphhepdfaa.PPa
open Go.RowKit Go.Proofs.YtiohnpphhepdfaaW.PrintWords Go.Proofs.YtiohnpphhepdfaaW.PrintLast Go.Proofs.YtiohnpphhepdfaaW.PrintMore
attribute [local go_sem] max2_int min2_int max_two min_two max_three min_three max_four min_four
attribute [local go_sem] Go.Proofs.Ytiohnpphhepdfaa.MoreWords.str_leq Go.Proofs.Ytiohnpphhepdfaa.MoreWords.str_gtr Go.Proofs.Ytiohnpphhepdfaa.MoreWords.str_geq
set_option linter.unusedVariables false
set_option linter.unusedSimpArgs false
mutual
def r11_Merge.l0 : Nat → List (List (S41)) → Int → Option ((List (S41)) × Int)
 | 0, _, _ => none
 | k + 1, x0, x4 => if x4 < (x0.length : Int) then (if 0 ≤ x4 then ((r09_May.f k (rd_L3 x0 x4)).bind fun t448 => (if t448 = 0 then (r11_Merge.l0 k x0 (wrap64 (x4 + 1))) else (some (([] : List (S41)), t448)))) else (none)) else (r11_Merge.l1 k x0 ([] : List (S41)) 0)
def r11_Merge.l1 : Nat → List (List (S41)) → List (S41) → Int → Option ((List (S41)) × Int)
 | 0, _, _, _ => none
 | k + 1, x0, x6, x7 => if x7 < (x0.length : Int) then (r11_Merge.l2 k x0 x6 x7 0) else (some (x6, 0))
def r11_Merge.l2 : Nat → List (List (S41)) → List (S41) → Int → Int → Option ((List (S41)) × Int)
 | 0, _, _, _, _ => none
 | k + 1, x0, x6, x7, x8 => if 0 ≤ x7 then (if x7 < (x0.length : Int) then (if x8 < ((rd_L3 x0 x7).length : Int) then (if 0 ≤ x8 then ((r08_Add.f k x6 (wrap64 ((x6.length : Int) + 1)) ((rd_T41 (rd_L3 x0 x7) x8).f0) ((rd_T41 (rd_L3 x0 x7) x8).f1)).bind fun bt454 => (if bt454.2 = 0 then (r11_Merge.l2 k x0 bt454.1 x7 (wrap64 (x8 + 1))) else (some (([] : List (S41)), 5)))) else (none)) else (r11_Merge.l1 k x0 x6 (wrap64 (x7 + 1)))) else (none)) else (none)
end
def r11_Merge.f (k : Nat) (l0 : List (List (S41))) : Option ((List (S41)) × Int) := if (l0.length : Int) > 256 then (some (([] : List (S41)), 6)) else (r11_Merge.l0 k l0 0)
theorem r11_Merge.mono_l : ∀ k, (∀ y0 y1, LeO (r11_Merge.l0 k y0 y1) (r11_Merge.l0 (k + 1) y0 y1)) ∧ (∀ y0 y1 y2, LeO (r11_Merge.l1 k y0 y1 y2) (r11_Merge.l1 (k + 1) y0 y1 y2)) ∧ (∀ y0 y1 y2 y3, LeO (r11_Merge.l2 k y0 y1 y2 y3) (r11_Merge.l2 (k + 1) y0 y1 y2 y3))
 | 0 => ⟨fun _ _ r h => by simp [r11_Merge.l0] at h, fun _ _ _ r h => by simp [r11_Merge.l1] at h, fun _ _ _ _ r h => by simp [r11_Merge.l2] at h⟩
 | k + 1 => by
  obtain ⟨ih0, ih1, ih2⟩ := r11_Merge.mono_l k
  refine ⟨?_, ?_, ?_⟩
  ·intro y0 y1
   unfold r11_Merge.l0
   repeat' first
   | (with_reducible exact ih0 _ _)
   | (with_reducible exact ih1 _ _ _)
   | (with_reducible exact ih2 _ _ _ _)
   | (with_reducible exact r08_Add.mono _ _ _ _ _)
   | (with_reducible exact r09_May.mono _ _)
   | (with_reducible exact LeO.refl _)
   | (with_reducible exact LeO.none _)
   | (with_reducible refine LeO.ite ?_ ?_)
   | (with_reducible refine LeO.bind ?_ (fun _ => ?_))
   | exact ih0 _ _
   | exact ih1 _ _ _
   | exact ih2 _ _ _ _
   | exact r08_Add.mono _ _ _ _ _
   | exact r09_May.mono _ _
   | exact LeO.none _
   | refine LeO.ite ?_ ?_
   | refine LeO.bind ?_ (fun _ => ?_)
  ·intro y0 y1 y2
   unfold r11_Merge.l1
   repeat' first
   | (with_reducible exact ih0 _ _)
   | (with_reducible exact ih1 _ _ _)
   | (with_reducible exact ih2 _ _ _ _)
   | (with_reducible exact r08_Add.mono _ _ _ _ _)
   | (with_reducible exact r09_May.mono _ _)
   | (with_reducible exact LeO.refl _)
   | (with_reducible exact LeO.none _)
   | (with_reducible refine LeO.ite ?_ ?_)
   | (with_reducible refine LeO.bind ?_ (fun _ => ?_))
   | exact ih0 _ _
   | exact ih1 _ _ _
   | exact ih2 _ _ _ _
   | exact r08_Add.mono _ _ _ _ _
   | exact r09_May.mono _ _
   | exact LeO.none _
   | refine LeO.ite ?_ ?_
   | refine LeO.bind ?_ (fun _ => ?_)
  ·intro y0 y1 y2 y3
   unfold r11_Merge.l2
   repeat' first
   | (with_reducible exact ih0 _ _)
   | (with_reducible exact ih1 _ _ _)
   | (with_reducible exact ih2 _ _ _ _)
   | (with_reducible exact r08_Add.mono _ _ _ _ _)
   | (with_reducible exact r09_May.mono _ _)
   | (with_reducible exact LeO.refl _)
   | (with_reducible exact LeO.none _)
   | (with_reducible refine LeO.ite ?_ ?_)
   | (with_reducible refine LeO.bind ?_ (fun _ => ?_))
   | exact ih0 _ _
   | exact ih1 _ _ _
   | exact ih2 _ _ _ _
   | exact r08_Add.mono _ _ _ _ _
   | exact r09_May.mono _ _
   | exact LeO.none _
   | refine LeO.ite ?_ ?_
   | refine LeO.bind ?_ (fun _ => ?_)
theorem r11_Merge.mono : ∀ a0 k, LeO (r11_Merge.f k a0) (r11_Merge.f (k + 1) a0) := by
 intro a0 k
 obtain ⟨ih0, ih1, ih2⟩ := r11_Merge.mono_l k
 unfold r11_Merge.f
 repeat' first
   | (with_reducible exact ih0 _ _)
   | (with_reducible exact ih1 _ _ _)
   | (with_reducible exact ih2 _ _ _ _)
   | (with_reducible exact r08_Add.mono _ _ _ _ _)
   | (with_reducible exact r09_May.mono _ _)
   | (with_reducible exact LeO.refl _)
   | (with_reducible exact LeO.none _)
   | (with_reducible refine LeO.ite ?_ ?_)
   | (with_reducible refine LeO.bind ?_ (fun _ => ?_))
   | exact ih0 _ _
   | exact ih1 _ _ _
   | exact ih2 _ _ _ _
   | exact r08_Add.mono _ _ _ _ _
   | exact r09_May.mono _ _
   | exact LeO.none _
   | refine LeO.ite ?_ ?_
   | refine LeO.bind ?_ (fun _ => ?_)
end Go.Proofs.Ytiohnpphhepdfaa.PPa
end
section
namespace Go.Proofs.Ytiohnpphhepdfaa.PPa
open Go.RowKit Go.Proofs.YtiohnpphhepdfaaW.PrintWords Go.Proofs.YtiohnpphhepdfaaW.PrintLast Go.Proofs.YtiohnpphhepdfaaW.PrintMore
attribute [local go_sem] max2_int min2_int max_two min_two max_three min_three max_four min_four
attribute [local go_sem] Go.Proofs.Ytiohnpphhepdfaa.MoreWords.str_leq Go.Proofs.Ytiohnpphhepdfaa.MoreWords.str_gtr Go.Proofs.Ytiohnpphhepdfaa.MoreWords.str_geq
set_option maxHeartbeats 8000000
set_option maxRecDepth 100000
set_option linter.unusedVariables false
set_option linter.unusedSimpArgs false
def r11_Runs.l0 : Nat → List (List Int) → Int → List (List (S41)) → Int → Option (List Int × Int)
 | 0, _, _, _, _ => none
 | k + 1, x0, x1, x6, x7 => if x7 < (x0.length : Int) then (if 0 ≤ x7 then ((r09_Decode.f k (rd_L5 x0 x7)).bind fun bt459 => (if bt459.2 = 0 then (if x6.length < 5864062014805 then (r11_Runs.l0 k x0 x1 (x6 ++ [bt459.1]) (wrap64 (x7 + 1))) else (none)) else (some (([] : List Int), bt459.2)))) else (none)) else ((r11_Merge.f k x6).bind fun bt466 => (if bt466.2 = 0 then ((r09_Encode.f k bt466.1 x1).bind fun bt470 => (some (bt470.1, bt470.2))) else (some (([] : List Int), bt466.2))))
def r11_Runs.f (k : Nat) (l0 : List (List Int)) (a1 : Int) : Option (List Int × Int) := r11_Runs.l0 k l0 a1 ([] : List (List (S41))) 0
def passes_fans.f (a0 : Int) : Option (Bool) := if a0 ≥ 2 then (some (decide (a0 ≤ 8))) else (some false)
theorem passes_fans.calls (a0 : Int) (r : Bool) (w : World) (h : passes_fans.f a0 = some r) :
  Calls Try.prog 22 #[.int .i64 a0] w fun e w' => e = .returned (.bool r) ∧ Drawn0 w w' := by
 have H : (if a0 ≥ 2 then (some (decide (a0 ≤ 8))) else (some false)) = some r := h
 clear h
 by_cases c2 : a0 ≥ 2
 ·rw [if_pos c2] at H
  have c2b0 := decide_eq_true c2
  clear c2
  obtain rfl := Option.some.inj H
  go_enter Try.func22, Try.ntmps22
  go_wp2
  go_ret
  exact ⟨es_, dw_⟩
 ·rw [if_neg c2] at H
  have c2b0 := decide_eq_false c2
  clear c2
  obtain rfl := Option.some.inj H
  go_enter Try.func22, Try.ntmps22
  go_wp2
  go_ret
  exact ⟨es_, dw_⟩
mutual
def passes_Groups.j0 : Nat → Int → Int → Bool → Option ((List (S52)))
 | 0, _, _, _ => none
 | k + 1, x0, x1, x17 => if x17 = true then (some ([] : List (S52))) else (passes_Groups.l0 k x0 x1 ([] : List (S52)) 0)
def passes_Groups.l0 : Nat → Int → Int → List (S52) → Int → Option ((List (S52)))
 | 0, _, _, _, _ => none
 | k + 1, x0, x1, x5, x6 => if x6 < x0 then (if x5.length < 8796093022208 then (passes_Groups.l0 k x0 x1 (x5 ++ [(⟨x6, mn (wrap64 (x6 + x1)) x0⟩ : S52)]) (wrap64 (x6 + x1))) else (none)) else (some x5)
end
def passes_Groups.f (k : Nat) (a0 : Int) (a1 : Int) : Option ((List (S52))) := if a0 < 1 then (passes_Groups.j0 k a0 a1 true) else (if a0 > 65536 then (passes_Groups.j0 k a0 a1 true) else ((passes_fans.f a1).bind fun t484 => (passes_Groups.j0 k a0 a1 (!t484))))
theorem passes_Groups.calls (k : Nat) (a0 : Int) (a1 : Int) (r : List (S52)) (w : World) (h : passes_Groups.f k a0 a1 = some r) :
  Calls Try.prog 20 #[.int .i64 a0, .int .i64 a1] w fun e w' => ∃ v0_ : Value, e = .returned (v0_) ∧ Kd.R k52 52 w' w.heap.size (fun _ => True) v0_ r ∧ Below w.heap.size w w' := by
 have hu52 := Try.underlying52
 have HB := Az.mk (Below.refl w.heap.size w)
 have H : (if a0 < 1 then (passes_Groups.j0 k a0 a1 true) else (if a0 > 65536 then (passes_Groups.j0 k a0 a1 true) else ((passes_fans.f a1).bind fun t484 => (passes_Groups.j0 k a0 a1 (!t484))))) = some r := h
 clear h
 have HC3 := Az.mk H
 clear H
 go_enter Try.func20, Try.ntmps20
 go_upto_region 1 with (fail)
 go_cut [17] (fun v17 wc => ∃ (kq : Nat) (x17_2 : Bool), v17 = .bool x17_2 ∧ Az (passes_Groups.j0 kq a0 a1 x17_2 = some r) ∧ Az (kq ≤ k) ∧ Az (Below w.heap.size w wc))
 case first =>
  have H := HC3.out
  clear HC3
  by_cases c4 : a0 < 1
  ·rw [if_pos c4] at H
   have c4b0 := decide_eq_true c4
   clear c4
   (first | rw [c4b0] | (simp only [i64_w, i32_w]; rw [c4b0]) | skip)
   have H' := Az.mk H
   clear H
   go_wp2
   go_meet
   case rel => exact ⟨_, (true), (es_), H', ⟨by first | omega | exact Nat.le_refl _⟩, ⟨bl_ HB⟩⟩
  ·rw [if_neg c4] at H
   have c4b0 := decide_eq_false c4
   clear c4
   (first | rw [c4b0] | (simp only [i64_w, i32_w]; rw [c4b0]) | skip)
   by_cases c5 : a0 > 65536
   ·rw [if_pos c5] at H
    have c5b0 := decide_eq_true c5
    clear c5
    have H' := Az.mk H
    clear H
    go_wp2
    go_meet
    case rel => exact ⟨_, (true), (es_), H', ⟨by first | omega | exact Nat.le_refl _⟩, ⟨bl_ HB⟩⟩
   ·rw [if_neg c5] at H
    have c5b0 := decide_eq_false c5
    clear c5
    replace H := Option.bind_eq_some_iff.mp H
    obtain ⟨t484, A60, H⟩ := H
    replace H : (passes_Groups.j0 k a0 a1 (!t484)) = some r := H
    have A6 := Az.mk A60
    clear A60
    have H' := Az.mk H
    clear H
    go_wp2_with (first | (go_at_call 22; (with_reducible refine (passes_fans.calls a1 t484 _ A6.out).mono ?_); rintro e w' ⟨rfl, ⟨nd, rfl⟩⟩))
    go_meet
    case rel => exact ⟨_, (!t484), (es_), H', ⟨by first | omega | exact Nat.le_refl _⟩, ⟨bl_ HB⟩⟩
 case rest =>
  clear HC3
  try clear c2
  try clear p2
  try clear c4
  try clear c4b0
  try clear c5
  try clear c5b0
  obtain ⟨kq, x17_2, rfl, HA, HJ2, HB⟩ := hcut
  cases kq with
  | zero => exact absurd HA.out (by simp [passes_Groups.j0])
  | succ kj2 =>
   have H := HA.out
   clear HA
   simp only [passes_Groups.j0] at H
   by_cases c7 : x17_2 = true
   ·subst c7
    have H1 : (some ([] : List (S52))) = some r := by rw [if_pos rfl] at H; exact H
    clear H
    have H := H1
    clear H1
    obtain rfl := Option.some.inj H
    go_wp2
    go_ret
    exact ⟨_, er_, nl_, bl_ HB⟩
   ·replace c7 := Bool.eq_false_iff.mpr c7
    subst c7
    have H1 : (passes_Groups.l0 kj2 a0 a1 ([] : List (S52)) 0) = some r := by rw [if_neg (show ¬ (false = true) by decide)] at H; exact H
    clear H
    have H := H1
    clear H1
    have H' := Az.mk H
    clear H
    go_wp2
    go_loopg [5, 6] kj2 (fun kq v5 v6 w' => ∃ (x5_2 : List (S52)) (x6_2 : Int), v6 = .int .i64 x6_2 ∧ Az (passes_Groups.l0 kq a0 a1 x5_2 x6_2 = some r) ∧ Az (kq ≤ kj2) ∧ Az (Kd.R k52 52 w' w.heap.size (fun _ => True) v5 x5_2) ∧ Az (Below w.heap.size w w'))
    case atStart => exact ⟨(([] : List (S52))), (0), (es_), H', ⟨Nat.le_refl _⟩, ⟨nl_⟩, ⟨bl_ HB⟩⟩
    case round =>
     clear H'
     try clear c2
     try clear p2
     try clear c4
     try clear c4b0
     try clear c5
     try clear c5b0
     try clear c7
     try clear p2
     obtain ⟨x5_2, x6_2, rfl, HA, HK2, HO_5, HB⟩ := hrel
     cases gk with
     | zero => exact absurd HA.out (by simp [passes_Groups.l0])
     | succ k2 =>
      have H := HA.out
      clear HA
      simp only [passes_Groups.l0] at H
      by_cases c8 : x6_2 < a0
      ·rw [if_pos c8] at H
       have c8b0 := decide_eq_true c8
       clear c8
       obtain ⟨ji9, hji9⟩ : ∃ j_ : Int, (mn (wrap64 (x6_2 + a1)) a0) = j_ := ⟨_, rfl⟩
       replace H : (if x5_2.length < 8796093022208 then (passes_Groups.l0 k2 a0 a1 (x5_2 ++ [(⟨x6_2, ji9⟩ : S52)]) (wrap64 (x6_2 + a1))) else (none)) = some r := by first | (rw [hji9] at H; exact H) | (simp only [hji9] at H ⊢; exact H)
       have hji9_ : (if a0 < (wrap64 (x6_2 + a1)) then a0 else (wrap64 (x6_2 + a1))) = ji9 := hji9
       by_cases c10 : x5_2.length < 8796093022208
       ·rw [if_pos c10] at H
        have LMc10 := Az.mk c10
        clear c10
        obtain ⟨y485, hy485⟩ : ∃ y_ : List (S52), y_ = (x5_2 ++ [(⟨x6_2, ji9⟩ : S52)]) := ⟨_, rfl⟩
        replace H : (passes_Groups.l0 k2 a0 a1 y485 (wrap64 (x6_2 + a1))) = some r := hr_ hy485 H
        have Ny485 := Az.mk hy485
        clear hy485
        have H' := Az.mk H
        clear H
        go_wp2_with (first | ((with_reducible refine gate_builtin (b := .append) (xs := #[.tmp 24, .tmp 32]) rfl ?_); at_builtin; refine Kd.R_append k52 (w0 := w) w.heap.size rfl (.tmp 24) (.tmp 32) 50 52 (.agg #[(.int .i64 0), (.int .i64 0)]) 16 rfl Try.underlying50 info52 rfl (by decide) (by omega) u5 x5_2 (⟨x6_2, ji9⟩ : S52) [.int .i64 x6_2, .int .i64 ji9] (fun _ => True) (fun _ => False) rfl rfl ?aP (fun _ hk => hk.elim) ?aF ?aO ?aB ?aS ?aL ?_; (case aP => exact k52_mkM _ _ _ (⟨x6_2, ji9⟩ : S52)); (case aB => exact (bl_ HB)); (case aF => exact (fun _ _ => trivial)); (case aO => exact (rl_ HO_5.out)); (case aS => exact (below_size (bl_ HB))); (case aL => have := LMc10.out; omega); intro v486 w11 ho hb hg hat; rw [← Ny485.out] at ho; have n0_ := Az.mk (hb); have n1_ := Az.mk (ho); clear HB; clear HO_5; have HB := n0_; have HO487 := n1_; clear n0_ n1_; clear ho hb hg hat))
        go_roundg k2
        case measure => have := HJ2.out; have := HK2.out; omega
        case rel => exact ⟨(y485), (wrap64 (x6_2 + a1)), (es_), H', ⟨by have := HJ2.out; have := HK2.out; omega⟩, ⟨rl_ HO487.out⟩, ⟨bl_ HB⟩⟩
       ·rw [if_neg c10] at H
        exact absurd H (by simp)
      ·rw [if_neg c8] at H
       have c8b0 := decide_eq_false c8
       clear c8
       obtain rfl := Option.some.inj H
       go_wp2
       go_ret
       exact ⟨_, er_, by (with_reducible repeat (first | apply Kd.R_alloc | apply Kd.R_drewN | apply Kd.R_drew)); exact HO_5.out, bl_ HB⟩
def passes_Passes.g (n fan : Int) : Int := if n < 1 ∨ n > 65536 ∨ fan < 2 ∨ fan > 8 then 0 else (n + fan - 1) / fan
def passes_Passes.go : Nat → Int → Int → Int → Int
 | 0, _, _, many => many
 | k + 1, n, fan, many => if passes_Passes.g n fan = 0 ∨ n = 1 then many else passes_Passes.go k (passes_Passes.g n fan) fan (many + 1)
def passes_Passes.f (n fan : Int) : Option Int := some (passes_Passes.go 65537 n fan 0)
def passes_Passes.grp (n fan : Int) (i : Nat) : S52 := ⟨i * fan, min (i * fan + fan) n⟩
theorem passes_Passes.g_lt (n fan : Int) (h1 : 1 ≤ n) (h2 : n ≤ 65536) (h3 : 2 ≤ fan) (h4 : fan ≤ 8) : 1 ≤ passes_Passes.g n fan ∧ passes_Passes.g n fan ≤ n ∧ (2 ≤ n → passes_Passes.g n fan < n) ∧ ∀ i : Nat, ((i : Int) < passes_Passes.g n fan ↔ (i : Int) * fan < n) := by
 have e : passes_Passes.g n fan = (n + fan - 1) / fan := by unfold passes_Passes.g; rw [if_neg (by omega)]
 rw [e]
 have hf : fan = 2 ∨ fan = 3 ∨ fan = 4 ∨ fan = 5 ∨ fan = 6 ∨ fan = 7 ∨ fan = 8 := by omega
 rcases hf with rfl | rfl | rfl | rfl | rfl | rfl | rfl <;> (refine ⟨by omega, by omega, fun _ => by omega, fun i => ⟨fun _ => by omega, fun _ => by omega⟩⟩)
theorem passes_Passes.groups_l0 (n fan : Int) (h1 : 1 ≤ n) (h2 : n ≤ 65536) (h3 : 2 ≤ fan) (h4 : fan ≤ 8) (d : Nat) : ∀ (k i : Nat), d < k → i + d = (passes_Passes.g n fan).toNat →
  passes_Groups.l0 k n fan ((List.range i).map (passes_Passes.grp n fan)) (i * fan) = some ((List.range (passes_Passes.g n fan).toNat).map (passes_Passes.grp n fan)) := by
 obtain ⟨g1, g2, g3, g4⟩ := passes_Passes.g_lt n fan h1 h2 h3 h4
 induction d with
 | zero =>
  intro k i hk hi
  obtain ⟨k, rfl⟩ : ∃ m, k = m + 1 := ⟨k - 1, by omega⟩
  have := g4 i
  rw [passes_Groups.l0, if_neg (by omega), show i = (passes_Passes.g n fan).toNat by omega]
 | succ d ih =>
  intro k i hk hi
  obtain ⟨k, rfl⟩ : ∃ m, k = m + 1 := ⟨k - 1, by omega⟩
  have hlt : (i : Int) * fan < n := (g4 i).1 (by omega)
  have h0 : 0 ≤ (i : Int) * fan := Int.mul_nonneg (by omega) (by omega)
  have hw : wrap64 ((i : Int) * fan + fan) = ((i + 1 : Nat) : Int) * fan := by
   have e : ((i + 1 : Nat) : Int) * fan = (i : Int) * fan + fan := by rw [Int.natCast_add, Int.add_mul]; simp
   rw [e]
   generalize (i : Int) * fan = p at *
   unfold wrap64
   omega
  have hm : mn (((i + 1 : Nat) : Int) * fan) n = min ((i : Int) * fan + fan) n := by
   have e : ((i + 1 : Nat) : Int) * fan = (i : Int) * fan + fan := by rw [Int.natCast_add, Int.add_mul]; simp
   rw [e]
   unfold mn
   omega
  rw [passes_Groups.l0, if_pos hlt, if_pos (by rw [List.length_map, List.length_range]; omega), hw, hm]
  have := ih k (i + 1) (by omega) (by omega)
  rw [List.range_succ, List.map_append] at this
  exact this
theorem passes_Passes.groups (k : Nat) (hk : 65540 ≤ k) (n fan : Int) : passes_Groups.f k n fan = some ((List.range (passes_Passes.g n fan).toNat).map (passes_Passes.grp n fan)) := by
 obtain ⟨m, rfl⟩ : ∃ m, k = m + 1 := ⟨k - 1, by omega⟩
 unfold passes_Groups.f passes_fans.f
 by_cases h1 : n < 1
 ·have e : passes_Passes.g n fan = 0 := by unfold passes_Passes.g; rw [if_pos (.inl h1)]
  rw [if_pos h1, passes_Groups.j0, if_pos rfl, e]
  rfl
 ·rw [if_neg h1]
  by_cases h2 : n > 65536
  ·have e : passes_Passes.g n fan = 0 := by unfold passes_Passes.g; rw [if_pos (.inr (.inl h2))]
   rw [if_pos h2, passes_Groups.j0, if_pos rfl, e]
   rfl
  ·rw [if_neg h2]
   by_cases h3 : fan ≥ 2
   ·rw [if_pos h3, Option.bind_some, passes_Groups.j0]
    by_cases h4 : fan ≤ 8
    ·rw [decide_eq_true h4, if_neg (by decide)]
     obtain ⟨g1, g2, g3, g4⟩ := passes_Passes.g_lt n fan (by omega) (by omega) h3 h4
     have := passes_Passes.groups_l0 n fan (by omega) (by omega) h3 h4 (passes_Passes.g n fan).toNat m 0 (by omega) (by omega)
     rw [Int.natCast_zero, Int.zero_mul] at this
     exact this
    ·have e : passes_Passes.g n fan = 0 := by unfold passes_Passes.g; rw [if_pos (by omega)]
     rw [decide_eq_false h4, if_pos (by decide), e]
     rfl
   ·have e : passes_Passes.g n fan = 0 := by unfold passes_Passes.g; rw [if_pos (by omega)]
    rw [if_neg h3, Option.bind_some, passes_Groups.j0, if_pos (by decide), e]
    rfl
theorem passes_Passes.g_len (n fan : Int) : (((List.range (passes_Passes.g n fan).toNat).map (passes_Passes.grp n fan)).length : Int) = passes_Passes.g n fan := by
 rw [List.length_map, List.length_range]
 by_cases h : n < 1 ∨ n > 65536 ∨ fan < 2 ∨ fan > 8
 ·have e : passes_Passes.g n fan = 0 := by unfold passes_Passes.g; rw [if_pos h]
  rw [e]; rfl
 ·obtain ⟨g1, _⟩ := passes_Passes.g_lt n fan (by omega) (by omega) (by omega) (by omega)
  omega
structure passes_Passes.At (fan r n many : Int) (k : Nat) : Prop where
 pos : 1 ≤ k
 fuel : n ≤ 65536 → n.toNat < k
 many0 : 0 ≤ many
 many1 : many ≤ 65536
 sum : n ≤ 65536 → many + n ≤ 65536
 eq : passes_Passes.go k n fan many = r
theorem passes_Passes.At.stop {fan r n many : Int} {k : Nat} (h : passes_Passes.At fan r n many k) (hs : passes_Passes.g n fan = 0 ∨ n = 1) : many = r := by
 obtain ⟨k, rfl⟩ : ∃ m, k = m + 1 := ⟨k - 1, by have := h.pos; omega⟩
 have := h.eq
 rw [passes_Passes.go, if_pos hs] at this
 exact this
theorem passes_Passes.At.next {fan r n many : Int} {k : Nat} (h : passes_Passes.At fan r n many k) (h0 : ¬ passes_Passes.g n fan = 0) (h1 : ¬ n = 1) : passes_Passes.At fan r (passes_Passes.g n fan) (many + 1) (k - 1) ∧ (passes_Passes.g n fan).toNat < n.toNat := by
 have hb : 1 ≤ n ∧ n ≤ 65536 ∧ 2 ≤ fan ∧ fan ≤ 8 := by
  unfold passes_Passes.g at h0
  by_cases h : n < 1 ∨ n > 65536 ∨ fan < 2 ∨ fan > 8
  ·rw [if_pos h] at h0
   exact absurd rfl h0
  ·omega
 obtain ⟨g1, g2, g3, _⟩ := passes_Passes.g_lt n fan hb.1 hb.2.1 hb.2.2.1 hb.2.2.2
 have g3 := g3 (by omega)
 obtain ⟨k, rfl⟩ : ∃ m, k = m + 1 := ⟨k - 1, by have := h.pos; omega⟩
 have hf := h.fuel hb.2.1
 have hm := h.many0
 have hs := h.sum hb.2.1
 have he := h.eq
 rw [passes_Passes.go, if_neg (by rintro (q | q); exact h0 q; exact h1 q)] at he
 exact ⟨⟨by omega, fun _ => by omega, by omega, by omega, fun _ => by omega, he⟩, by omega⟩
theorem passes_Passes.calls (a0 a1 r : Int) (w : World) (h : passes_Passes.f a0 a1 = some r) :
  Calls Try.prog 21 #[.int .i64 a0, .int .i64 a1] w fun e w' => e = .returned (.int .i64 r) ∧ Below w.heap.size w w' := by
 have HA : Az (passes_Passes.At a1 r a0 0 65537) := ⟨⟨by omega, fun _ => by omega, by omega, by omega, fun _ => by omega, Option.some.inj h⟩⟩
 clear h
 go_enter Try.func21, Try.ntmps21
 go_wp2
 refine wp_scope_jumps 0 (fun a' w' => Below w.heap.size w w' ∧ ∃ (n many : Int) (k : Nat) (u6 u7 u8 u9 u10 u11 u12 u13 u14 u15 u16 u17 u18 u19 u20 u21 : Value), a' = { tmps := #[.int .i64 n, .int .i64 a1, undef, undef, .int .i64 0, .int .i64 many, u6, u7, u8, u9, u10, u11, u12, u13, u14, u15, u16, u17, u18, u19, u20, u21], defers := [] } ∧ passes_Passes.At a1 r n many k) (fun a' _ => (intOf (a'.tmps.getD 0 undef)).toNat) rfl ?_ ?_
 ·go_wp2
  go_step3
  obtain ⟨n, rfl⟩ : ∃ n : Int, n = a0 := ⟨a0, rfl⟩
  have HB : Az (Below w.heap.size w w) := ⟨Below.refl _ _⟩
  obtain ⟨l, hl, hlen⟩ : ∃ l, Az (passes_Groups.f 65540 n a1 = some l) ∧ Az ((l.length : Int) = passes_Passes.g n a1) := ⟨_, ⟨passes_Passes.groups 65540 (Nat.le_refl _) n a1⟩, ⟨passes_Passes.g_len n a1⟩⟩
  by_cases hz : l.length = 0
  ·have e : 0 = r := HA.out.stop (.inl (by rw [← hlen.out, hz]; rfl))
   subst e
   have ez : ((l.length : Int) == 0) = true := by simpa using hz
   have HZ := Az.mk hz
   clear hz
   go_wp2_with (go_at_call 20; refine (passes_Groups.calls 65540 n a1 l _ hl.out).mono ?_; rintro e w1 ⟨v, rfl, hv, hb⟩; obtain ⟨A, c, rfl⟩ := Kd.R_slice hv; have hb1 := Az.mk hb; clear hb hv)
   simp only [Exit.jump]
   go_ret
   exact ⟨rfl, below_then HB.out HB.out.size hb1.out⟩
  ·have ez : ((l.length : Int) == 0) = false := by simpa using hz
   by_cases h1 : n = 1
   ·have e : 0 = r := HA.out.stop (.inr h1)
    subst e
    have e1 : (n == 1) = true := by simpa using h1
    have H1 := Az.mk h1
    clear h1
    go_wp2_with (go_at_call 20; refine (passes_Groups.calls 65540 n a1 l _ hl.out).mono ?_; rintro e w1 ⟨v, rfl, hv, hb⟩; obtain ⟨A, c, rfl⟩ := Kd.R_slice hv; have hb1 := Az.mk hb; clear hb hv)
    simp only [Exit.jump]
    go_ret
    exact ⟨rfl, below_then HB.out HB.out.size hb1.out⟩
   ·have e1 : (n == 1) = false := by simpa using h1
    have HN := Az.mk (HA.out.next (by rw [← hlen.out]; omega) h1)
    go_wp2_with (go_at_call 20; refine (passes_Groups.calls 65540 n a1 l _ hl.out).mono ?_; rintro e w1 ⟨v, rfl, hv, hb⟩; obtain ⟨A, c, rfl⟩ := Kd.R_slice hv; have hb1 := Az.mk hb; clear hb hv)
    go_step3
    have HN' := HN.out
    rw [← hlen.out] at HN'
    exact ⟨rfl, below_then HB.out HB.out.size hb1.out, _, _, _, _, _, _, _, _, _, _, _, _, _, _, _, _, _, _, _, rfl, by simpa using HN'.1⟩
 ·rintro a' w' ⟨hbw, n, many, k, u6, u7, u8, u9, u10, u11, u12, u13, u14, u15, u16, u17, u18, u19, u20, u21, rfl, ha⟩
  have HA := Az.mk ha
  have HB := Az.mk hbw
  clear ha hbw
  obtain ⟨l, hl, hlen⟩ : ∃ l, Az (passes_Groups.f 65540 n a1 = some l) ∧ Az ((l.length : Int) = passes_Passes.g n a1) := ⟨_, ⟨passes_Passes.groups 65540 (Nat.le_refl _) n a1⟩, ⟨passes_Passes.g_len n a1⟩⟩
  have hm0 : 0 ≤ many := HA.out.many0
  have hm1 : many ≤ 65536 := HA.out.many1
  by_cases hz : l.length = 0
  ·have e : many = r := HA.out.stop (.inl (by rw [← hlen.out, hz]; rfl))
   subst e
   have ez : ((l.length : Int) == 0) = true := by simpa using hz
   have HZ := Az.mk hz
   clear hz
   go_wp2_with (go_at_call 20; refine (passes_Groups.calls 65540 n a1 l _ hl.out).mono ?_; rintro e w1 ⟨v, rfl, hv, hb⟩; obtain ⟨A, c, rfl⟩ := Kd.R_slice hv; have hb1 := Az.mk hb; clear hb hv)
   simp only [Exit.jump]
   go_ret
   exact ⟨rfl, below_then HB.out HB.out.size hb1.out⟩
  ·have ez : ((l.length : Int) == 0) = false := by simpa using hz
   by_cases h1 : n = 1
   ·have e : many = r := HA.out.stop (.inr h1)
    subst e
    have e1 : (n == 1) = true := by simpa using h1
    have H1 := Az.mk h1
    clear h1
    go_wp2_with (go_at_call 20; refine (passes_Groups.calls 65540 n a1 l _ hl.out).mono ?_; rintro e w1 ⟨v, rfl, hv, hb⟩; obtain ⟨A, c, rfl⟩ := Kd.R_slice hv; have hb1 := Az.mk hb; clear hb hv)
    simp only [Exit.jump]
    go_ret
    exact ⟨rfl, below_then HB.out HB.out.size hb1.out⟩
   ·have e1 : (n == 1) = false := by simpa using h1
    have HN := Az.mk (HA.out.next (by rw [← hlen.out]; omega) h1)
    go_wp2_with (go_at_call 20; refine (passes_Groups.calls 65540 n a1 l _ hl.out).mono ?_; rintro e w1 ⟨v, rfl, hv, hb⟩; obtain ⟨A, c, rfl⟩ := Kd.R_slice hv; have hb1 := Az.mk hb; clear hb hv)
    go_step3
    have HN' := HN.out
    rw [← hlen.out] at HN'
    exact ⟨rfl, ⟨below_then HB.out HB.out.size hb1.out, _, _, _, _, _, _, _, _, _, _, _, _, _, _, _, _, _, _, _, rfl, HN'.1⟩, by simp [intOf]; have := HN'.2; omega⟩
end Go.Proofs.Ytiohnpphhepdfaa.PPa
end
section
namespace Go.Proofs.Ytiohnpphhepdfaa.PPa
open Go.RowKit Go.Proofs.YtiohnpphhepdfaaW.PrintWords Go.Proofs.YtiohnpphhepdfaaW.PrintLast Go.Proofs.YtiohnpphhepdfaaW.PrintMore
attribute [local go_sem] max2_int min2_int max_two min_two max_three min_three max_four min_four
attribute [local go_sem] Go.Proofs.Ytiohnpphhepdfaa.MoreWords.str_leq Go.Proofs.Ytiohnpphhepdfaa.MoreWords.str_gtr Go.Proofs.Ytiohnpphhepdfaa.MoreWords.str_geq
set_option maxHeartbeats 8000000
set_option maxRecDepth 100000
set_option linter.unusedVariables false
set_option linter.unusedSimpArgs false
attribute [local go_sem high] eqA52
def l12_shown.f (k : Nat)  : Option (Bool) := (passes_Groups.f k 5 2).bind fun t488 => (if (t488.length : Int) = 3 then (if 1 < (t488.length : Int) then (if (((rd_T52 t488 1).f0) == 2 && (((rd_T52 t488 1).f1) == 4)) = true then (if 2 < (t488.length : Int) then (if (((rd_T52 t488 2).f0) == 4 && (((rd_T52 t488 2).f1) == 5)) = true then ((passes_Passes.f 5 2).bind fun t493 => (some (t493 == 3))) else (none)) else (none)) else (none)) else (none)) else (none))
theorem l12_shown.calls (k : Nat)  (r : Bool) (w : World) (h : l12_shown.f k  = some r) :
  Calls Try.prog 9 #[] w fun e w' => e = .returned (.bool r) ∧ Below w.heap.size w w' := by
 have hu52 := Try.underlying52
 have HB := Az.mk (Below.refl w.heap.size w)
 have H : ((passes_Groups.f k 5 2).bind fun t488 => (if (t488.length : Int) = 3 then (if 1 < (t488.length : Int) then (if (((rd_T52 t488 1).f0) == 2 && (((rd_T52 t488 1).f1) == 4)) = true then (if 2 < (t488.length : Int) then (if (((rd_T52 t488 2).f0) == 4 && (((rd_T52 t488 2).f1) == 5)) = true then ((passes_Passes.f 5 2).bind fun t493 => (some (t493 == 3))) else (none)) else (none)) else (none)) else (none)) else (none))) = some r := h
 clear h
 replace H := Option.bind_eq_some_iff.mp H
 obtain ⟨t488, A10, H⟩ := H
 replace H : (if (t488.length : Int) = 3 then (if 1 < (t488.length : Int) then (if (((rd_T52 t488 1).f0) == 2 && (((rd_T52 t488 1).f1) == 4)) = true then (if 2 < (t488.length : Int) then (if (((rd_T52 t488 2).f0) == 4 && (((rd_T52 t488 2).f1) == 5)) = true then ((passes_Passes.f 5 2).bind fun t493 => (some (t493 == 3))) else (none)) else (none)) else (none)) else (none)) else (none)) = some r := H
 have A1 := Az.mk A10
 clear A10
 by_cases c2 : (t488.length : Int) = 3
 ·rw [if_pos c2] at H
  have c2b0 : ((t488.length : Int) == 3) = true := beq_iff_eq.mpr c2
  have c2b1 : ((t488.length : Int) != 3) = false := bne_eq_false_iff_eq.mpr c2
  clear c2
  by_cases c3 : 1 < (t488.length : Int)
  ·rw [if_pos c3] at H
   have c3b0 := decide_eq_true c3
   have c3b1 : decide (1 < t488.length) = true := decide_eq_true (by omega)
   clear c3
   by_cases c4 : (((rd_T52 t488 1).f0) == 2 && (((rd_T52 t488 1).f1) == 4)) = true
   ·rw [if_pos c4] at H
    have c4b0 : (((rd_T52 t488 1).f0) == 2 && (((rd_T52 t488 1).f1) == 4)) = true := c4
    (try (have c4b1 : decide (((rd_T52 t488 1).f0) = 2 && (((rd_T52 t488 1).f1) == 4)) = true := by simpa using c4))
    (try (have c4b2 : (((rd_T52 t488 1).f0) == 2 && (((rd_T52 t488 1).f1) == 4)) = true := by simpa using c4))
    clear c4
    by_cases c5 : 2 < (t488.length : Int)
    ·rw [if_pos c5] at H
     have c5b0 := decide_eq_true c5
     have c5b1 : decide (2 < t488.length) = true := decide_eq_true (by omega)
     clear c5
     by_cases c6 : (((rd_T52 t488 2).f0) == 4 && (((rd_T52 t488 2).f1) == 5)) = true
     ·rw [if_pos c6] at H
      have c6b0 : (((rd_T52 t488 2).f0) == 4 && (((rd_T52 t488 2).f1) == 5)) = true := c6
      (try (have c6b1 : decide (((rd_T52 t488 2).f0) = 4 && (((rd_T52 t488 2).f1) == 5)) = true := by simpa using c6))
      (try (have c6b2 : (((rd_T52 t488 2).f0) == 4 && (((rd_T52 t488 2).f1) == 5)) = true := by simpa using c6))
      clear c6
      replace H := Option.bind_eq_some_iff.mp H
      obtain ⟨t493, A70, H⟩ := H
      replace H : (some (t493 == 3)) = some r := H
      have A7 := Az.mk A70
      clear A70
      obtain rfl := Option.some.inj H
      go_enter Try.func9, Try.ntmps9
      go_wp2_with (first | ((with_reducible refine gate_callee (f := 20) rfl ?_); refine goesL_ (some 2) rfl rfl Try.func20 (by kernel_rfl) rfl #[.int .i64 5, .int .i64 2] rfl ar_ ?_; (with_reducible refine (passes_Groups.calls k 5 2 t488 _ A1.out).mono ?_); rintro e w8 ⟨v489, rfl, ho0, hb⟩; refine ⟨_, rfl, ?_⟩; have n0_ := Az.mk (Kd.R_lower ho0 (below_size (bl_ HB))); have n1_ := Az.mk (below_step (bl_ HB) hb); clear HB; have HO490 := n0_; have HB := n1_; clear n0_ n1_; (try clear hb); (try clear hb2); (try clear hk); (try clear hi); (try clear ho0); obtain ⟨Ao9, co9, eo9⟩ := Kd.R_slice HO490.out; subst eo9; have p491 : 0 ≤ (1 : Int) := (by omega); have q491 : 1 < (t488.length : Int) := of_decide_eq_true as_; obtain ⟨ad491, e491, hx491_0, hx491_1⟩ := at_T52 (Kd.R_reads' HO490.out).2.2 1 p491 q491; cases e491; (try simp only [show (1 : Int).toNat = 1 from rfl, Nat.reduceMul, Nat.reduceEqDiff, Go.Addr.add, ↓reduceIte] at hx491_0); (try simp only [show (1 : Int).toNat = 1 from rfl, Nat.reduceMul, Nat.reduceEqDiff, Go.Addr.add, ↓reduceIte] at hx491_1); have qi491 : (1 < t488.length) = True := eq_true (by omega); (try rw [show ((1 : Int)).toNat = 1 from rfl] at hx491_0); (try rw [show 1 * 2 = 2 from rfl] at hx491_0); (try rw [show ((1 : Int)).toNat = 1 from rfl] at hx491_1); (try rw [show 1 * 2 = 2 from rfl] at hx491_1); replace p491 := eq_true p491; replace q491 := eq_true q491; have p492 : 0 ≤ (2 : Int) := (by omega); have q492 : 2 < (t488.length : Int) := of_decide_eq_true as_; obtain ⟨ad492, e492, hx492_0, hx492_1⟩ := at_T52 (Kd.R_reads' HO490.out).2.2 2 p492 q492; obtain rfl : ad491 = ad492 := (by injection e492); (try simp only [show (2 : Int).toNat = 2 from rfl, Nat.reduceMul, Nat.reduceEqDiff, Go.Addr.add, ↓reduceIte] at hx492_0); (try simp only [show (2 : Int).toNat = 2 from rfl, Nat.reduceMul, Nat.reduceEqDiff, Go.Addr.add, ↓reduceIte] at hx492_1); have qi492 : (2 < t488.length) = True := eq_true (by omega); (try rw [show ((2 : Int)).toNat = 2 from rfl] at hx492_0); (try rw [show 2 * 2 = 4 from rfl] at hx492_0); (try rw [show ((2 : Int)).toNat = 2 from rfl] at hx492_1); (try rw [show 2 * 2 = 4 from rfl] at hx492_1); replace p492 := eq_true p492; replace q492 := eq_true q492) | (go_at_call 21; (with_reducible refine (passes_Passes.calls 5 2 t493 _ A7.out).mono ?_); rintro e w10 ⟨rfl, hb⟩; have n0_ := Az.mk (Kd.R_below (rl_ HO490.out) hb); have n1_ := Az.mk (below_step (bl_ HB) hb); clear HO490; clear HB; have HO490 := n0_; have HB := n1_; clear n0_ n1_; (try clear hb); (try clear hb2); (try clear hk); (try clear hi)))
      go_ret
      exact ⟨by first | rfl | (simp [errW_none, errW_some] <;> rfl) | (have e_ := Option.some.inj (A1.out.symm.trans A7.out); subst e_; rfl) | (simp [*, errW_none, errW_some] <;> rfl), bl_ HB⟩
     ·rw [if_neg c6] at H
      exact absurd H (by simp)
    ·rw [if_neg c5] at H
     exact absurd H (by simp)
   ·rw [if_neg c4] at H
    exact absurd H (by simp)
  ·rw [if_neg c3] at H
   exact absurd H (by simp)
 ·rw [if_neg c2] at H
  exact absurd H (by simp)
mutual
def l12_few.l0 : Nat → List (List Int) → Int → Option (Bool)
 | 0, _, _ => none
 | k + 1, x0, x3 => if x3 < (x0.length : Int) then (l12_few.j1 k x0 x3 (decide (x3 < 21))) else (l12_few.j1 k x0 x3 false)
def l12_few.j1 : Nat → List (List Int) → Int → Bool → Option (Bool)
 | 0, _, _, _ => none
 | k + 1, x0, x3, x11 => if x11 = true then (if 0 ≤ x3 then (if x3 < (x0.length : Int) then (if ((rd_L5 x0 x3).length : Int) > 3000 then (some false) else (l12_few.l0 k x0 (wrap64 (x3 + 1)))) else (none)) else (none)) else (some (decide ((x0.length : Int) ≤ 20)))
end
def l12_few.f (k : Nat) (l0 : List (List Int)) : Option (Bool) := l12_few.l0 k l0 0
theorem l12_few.calls (k : Nat) (A0 : Option Addr) (c0 : Nat) (l0 : List (List Int)) (r : Bool) (w : World) (hr0 : Kd.C (Kd.slice 5 (Kd.int .u8)) w A0 l0.length l0) (hc0 : l0.length ≤ c0) (h : l12_few.f k l0 = some r) :
  Calls Try.prog 10 #[.slice A0 l0.length c0] w fun e w' => e = .returned (.bool r) ∧ Drawn0 w w' := by
 have HR0 := Az.mk hr0
 have HC0 := Az.mk hc0
 clear hr0 hc0
 have H : (l12_few.l0 k l0 0) = some r := h
 clear h
 have H' := Az.mk H
 clear H
 go_enter Try.func10, Try.ntmps10
 go_wp2
 go_loopg [3] k (fun kq v3 w' => ∃ (x3_1 : Int), v3 = .int .i64 x3_1 ∧ Az (l12_few.l0 kq l0 x3_1 = some r) ∧ Az (kq ≤ k) ∧ Drawn0 w w')
 case atStart => exact ⟨(0), (es_), H', ⟨Nat.le_refl _⟩, dw_⟩
 case round =>
  clear H'
  try clear c1
  obtain ⟨x3_1, rfl, HA, HK1, ⟨m1, rfl⟩⟩ := hrel
  cases gk with
  | zero => exact absurd HA.out (by simp [l12_few.l0])
  | succ k1 =>
   have H := HA.out
   clear HA
   simp only [l12_few.l0] at H
   have HC2 := Az.mk H
   clear H
   go_upto_region 2 with (fail)
   go_cut [11] (fun v11 wc => ∃ (kq : Nat) (x11_1 : Bool), v11 = .bool x11_1 ∧ Az (l12_few.j1 kq l0 x3_1 x11_1 = some r) ∧ Az (kq ≤ k1) ∧ Drawn0 w wc)
   case first =>
    have H := HC2.out
    clear HC2
    by_cases c3 : x3_1 < (l0.length : Int)
    ·rw [if_pos c3] at H
     have c3b0 := decide_eq_true c3
     clear c3
     (first | rw [c3b0] | (simp only [i64_w, i32_w]; rw [c3b0]) | skip)
     have H' := Az.mk H
     clear H
     go_wp2
     go_meet
     case rel => exact ⟨_, (decide (x3_1 < 21)), (es_), H', ⟨by have := HK1.out; first | omega | exact Nat.le_refl _⟩, dw_⟩
    ·rw [if_neg c3] at H
     have c3b0 := decide_eq_false c3
     clear c3
     (first | rw [c3b0] | (simp only [i64_w, i32_w]; rw [c3b0]) | skip)
     have H' := Az.mk H
     clear H
     go_wp2
     go_meet
     case rel => exact ⟨_, (false), (es_), H', ⟨by have := HK1.out; first | omega | exact Nat.le_refl _⟩, dw_⟩
   case rest =>
    clear HC2
    try clear c1
    try clear p2
    try clear c3
    try clear c3b0
    obtain ⟨kq, x11_1, rfl, HA, HJ1, ⟨mc1, rfl⟩⟩ := hcut
    cases kq with
    | zero => exact absurd HA.out (by simp [l12_few.j1])
    | succ kj1 =>
     have H := HA.out
     clear HA
     simp only [l12_few.j1] at H
     by_cases c4 : x11_1 = true
     ·subst c4
      have H1 : (if 0 ≤ x3_1 then (if x3_1 < (l0.length : Int) then (if ((rd_L5 l0 x3_1).length : Int) > 3000 then (some false) else (l12_few.l0 kj1 l0 (wrap64 (x3_1 + 1)))) else (none)) else (none)) = some r := by rw [if_pos rfl] at H; exact H
      clear H
      have H := H1
      clear H1
      by_cases c5 : 0 ≤ x3_1
      ·rw [if_pos c5] at H
       have c5b0 := decide_eq_true c5
       clear c5
       by_cases c6 : x3_1 < (l0.length : Int)
       ·rw [if_pos c6] at H
        have c6b0 := decide_eq_true c6
        clear c6
        by_cases c7 : ((rd_L5 l0 x3_1).length : Int) > 3000
        ·rw [if_pos c7] at H
         have c7b0 := decide_eq_true c7
         have c7b1 : decide (3000 < (rd_L5 l0 x3_1).length) = true := decide_eq_true (by omega)
         clear c7
         obtain rfl := Option.some.inj H
         have p494 : 0 ≤ (x3_1 : Int) := of_decide_eq_true as_
         have q494 : x3_1 < (l0.length : Int) := of_decide_eq_true as_
         obtain ⟨ad494, A494_0, c494_0, e494, hx494_0, hl494_0, hi494_0⟩ := at_L5 HR0.out x3_1 p494 q494
         cases e494
         have HR494_0 := Az.mk hi494_0
         have HC494_0 := Az.mk hl494_0
         clear hi494_0 hl494_0
         replace p494 := eq_true p494
         replace q494 := eq_true q494
         go_wp2
         go_ret
         exact ⟨es_, dw_⟩
        ·rw [if_neg c7] at H
         have c7b0 := decide_eq_false c7
         have c7b1 : decide (3000 < (rd_L5 l0 x3_1).length) = false := decide_eq_false (by omega)
         clear c7
         have H' := Az.mk H
         clear H
         have p494 : 0 ≤ (x3_1 : Int) := of_decide_eq_true as_
         have q494 : x3_1 < (l0.length : Int) := of_decide_eq_true as_
         obtain ⟨ad494, A494_0, c494_0, e494, hx494_0, hl494_0, hi494_0⟩ := at_L5 HR0.out x3_1 p494 q494
         cases e494
         have HR494_0 := Az.mk hi494_0
         have HC494_0 := Az.mk hl494_0
         clear hi494_0 hl494_0
         replace p494 := eq_true p494
         replace q494 := eq_true q494
         go_wp2
         go_roundg kj1
         case measure => have := HK1.out; have := HJ1.out; omega
         case rel => exact ⟨(wrap64 (x3_1 + 1)), (es_), H', ⟨by have := HK1.out; have := HJ1.out; omega⟩, dw_⟩
       ·rw [if_neg c6] at H
        exact absurd H (by simp)
      ·rw [if_neg c5] at H
       exact absurd H (by simp)
     ·replace c4 := Bool.eq_false_iff.mpr c4
      subst c4
      have H1 : (some (decide ((l0.length : Int) ≤ 20))) = some r := by rw [if_neg (show ¬ (false = true) by decide)] at H; exact H
      clear H
      have H := H1
      clear H1
      obtain rfl := Option.some.inj H
      go_wp2
      go_ret
      exact ⟨es_, dw_⟩
mutual
def passes_Merge.j0 : Nat → List (List Int) → Int → Int → Bool → Option (List Int × Int)
 | 0, _, _, _, _ => none
 | k + 1, x0, x1, x2, x13 => if x13 = true then (some (([] : List Int), 1)) else (if (x0.length : Int) > 256 then (some (([] : List Int), 6)) else (if (x0.length : Int) ≤ 1 then ((loser_Runs.f k x0 x2).bind fun bt496 => (some (bt496.1, bt496.2))) else (passes_Merge.l0 k x0 x1 x2)))
def passes_Merge.l0 : Nat → List (List Int) → Int → Int → Option (List Int × Int)
 | 0, _, _, _ => none
 | k + 1, x0, x1, x2 => if (x0.length : Int) > 1 then ((passes_Groups.f k (x0.length : Int) x1).bind fun t501 => (passes_Merge.l1 k x0 x1 x2 ([] : List (List Int)) t501 (t501.length : Int) 0)) else (if 0 < (x0.length : Int) then (some (rd_L5 x0 0, 0)) else (none))
def passes_Merge.l1 : Nat → List (List Int) → Int → Int → List (List Int) → List (S52) → Int → Int → Option (List Int × Int)
 | 0, _, _, _, _, _, _, _ => none
 | k + 1, x0, x1, x2, x8, x44, x45, x46 => if x46 < x45 then (if 0 ≤ x46 then (if x46 < (x44.length : Int) then (if 0 ≤ ((rd_T52 x44 x46).f0) then (if ((rd_T52 x44 x46).f0) ≤ ((rd_T52 x44 x46).f1) then (if ((rd_T52 x44 x46).f1) ≤ (x0.length : Int) then ((loser_Runs.f k ((x0.take (((rd_T52 x44 x46).f1) : Int).toNat).drop (((rd_T52 x44 x46).f0) : Int).toNat) x2).bind fun bt511 => (if bt511.2 = 0 then (if x8.length < 5864062014805 then (passes_Merge.l1 k x0 x1 x2 (x8 ++ [bt511.1]) x44 x45 (wrap64 (x46 + 1))) else (none)) else (some (([] : List Int), bt511.2)))) else (none)) else (none)) else (none)) else (none)) else (none)) else (passes_Merge.l0 k x8 x1 x2)
end
def passes_Merge.f (k : Nat) (l0 : List (List Int)) (a1 : Int) (a2 : Int) : Option (List Int × Int) := (passes_fans.f a1).bind fun t495 => (if t495 = true then (if a2 < 1 then (passes_Merge.j0 k l0 a1 a2 true) else (passes_Merge.j0 k l0 a1 a2 (decide (a2 > 255)))) else (passes_Merge.j0 k l0 a1 a2 true))
theorem passes_Merge.calls (k : Nat) (P0_ : Nat → Prop) (A0 : Option Addr) (c0 : Nat) (l0 : List (List Int)) (a1 : Int) (a2 : Int) (r1 : List Int) (r2 : Int) (w : World) (hs0 : Kd.V (Kd.slice 5 (Kd.int .u8)) 24 w w.heap.size (fun k_ => P0_ k_) (.slice A0 l0.length c0) l0) (h : passes_Merge.f k l0 a1 a2 = some (r1, r2)) :
  Calls Try.prog 11 #[.slice A0 l0.length c0, .int .i64 a1, .int .i64 a2] w fun e w' => ∃ v0_ : Value, e = .returned (.tuple #[v0_, .int .i64 r2]) ∧ Kd.V (Kd.int .u8) 5 w' w.heap.size (fun k_ => (P0_ k_ ∨ w.heap.size ≤ k_)) v0_ r1 ∧ Below w.heap.size w w' := by
 have hu52 := Try.underlying52
 have HO0 := Az.mk (show Kd.V (Kd.slice 5 (Kd.int .u8)) 24 w w.heap.size (fun k_ => (P0_ k_ ∨ w.heap.size ≤ k_)) (.slice A0 l0.length c0) l0 from Kd.V_mono hs0 (fun k_ hk => .inl hk))
 have HB := Az.mk (Below.refl w.heap.size w)
 have H : ((passes_fans.f a1).bind fun t495 => (if t495 = true then (if a2 < 1 then (passes_Merge.j0 k l0 a1 a2 true) else (passes_Merge.j0 k l0 a1 a2 (decide (a2 > 255)))) else (passes_Merge.j0 k l0 a1 a2 true))) = some (r1, r2) := h
 clear h
 have HC4 := Az.mk H
 clear H
 go_enter Try.func11, Try.ntmps11
 go_upto_region 1 with (fail)
 go_cut [13] (fun v13 wc => ∃ (kq : Nat) (x13_3 : Bool), v13 = .bool x13_3 ∧ Az (passes_Merge.j0 kq l0 a1 a2 x13_3 = some (r1, r2)) ∧ Az (kq ≤ k) ∧ Az (Kd.V (Kd.slice 5 (Kd.int .u8)) 24 wc w.heap.size (fun k_ => (P0_ k_ ∨ w.heap.size ≤ k_)) (.slice A0 l0.length c0) l0) ∧ Az (Below w.heap.size w wc))
 case first =>
  have H := HC4.out
  clear HC4
  replace H := Option.bind_eq_some_iff.mp H
  obtain ⟨t495, A50, H⟩ := H
  replace H : (if t495 = true then (if a2 < 1 then (passes_Merge.j0 k l0 a1 a2 true) else (passes_Merge.j0 k l0 a1 a2 (decide (a2 > 255)))) else (passes_Merge.j0 k l0 a1 a2 true)) = some (r1, r2) := H
  have A5 := Az.mk A50
  clear A50
  by_cases c6 : t495 = true
  ·subst c6
   have H1 : (if a2 < 1 then (passes_Merge.j0 k l0 a1 a2 true) else (passes_Merge.j0 k l0 a1 a2 (decide (a2 > 255)))) = some (r1, r2) := by rw [if_pos rfl] at H; exact H
   clear H
   have H := H1
   clear H1
   by_cases c7 : a2 < 1
   ·rw [if_pos c7] at H
    have c7b0 := decide_eq_true c7
    clear c7
    (first | rw [c7b0] | (simp only [i64_w, i32_w]; rw [c7b0]) | skip)
    have H' := Az.mk H
    clear H
    go_wp2_with (first | ((with_reducible refine gate_callee (f := 22) rfl ?_); refine goesL_ (some 15) rfl rfl Try.func22 (by kernel_rfl) rfl #[.int .i64 a1] rfl ar_ ?_; (with_reducible refine (passes_fans.calls a1 true _ A5.out).mono ?_); rintro e w' ⟨rfl, ⟨nd, rfl⟩⟩; refine ⟨_, rfl, ?_⟩))
    go_meet
    case rel => exact ⟨_, (true), (es_), H', ⟨by first | omega | exact Nat.le_refl _⟩, ⟨vl_ HO0.out⟩, ⟨bl_ HB⟩⟩
   ·rw [if_neg c7] at H
    have c7b0 := decide_eq_false c7
    clear c7
    (first | rw [c7b0] | (simp only [i64_w, i32_w]; rw [c7b0]) | skip)
    have H' := Az.mk H
    clear H
    go_wp2_with (first | ((with_reducible refine gate_callee (f := 22) rfl ?_); refine goesL_ (some 15) rfl rfl Try.func22 (by kernel_rfl) rfl #[.int .i64 a1] rfl ar_ ?_; (with_reducible refine (passes_fans.calls a1 true _ A5.out).mono ?_); rintro e w' ⟨rfl, ⟨nd, rfl⟩⟩; refine ⟨_, rfl, ?_⟩))
    go_meet
    case rel => exact ⟨_, (decide (a2 > 255)), (es_), H', ⟨by first | omega | exact Nat.le_refl _⟩, ⟨vl_ HO0.out⟩, ⟨bl_ HB⟩⟩
  ·replace c6 := Bool.eq_false_iff.mpr c6
   subst c6
   have H1 : (passes_Merge.j0 k l0 a1 a2 true) = some (r1, r2) := by rw [if_neg (show ¬ (false = true) by decide)] at H; exact H
   clear H
   have H := H1
   clear H1
   have H' := Az.mk H
   clear H
   go_wp2_with (first | ((with_reducible refine gate_callee (f := 22) rfl ?_); refine goesL_ (some 15) rfl rfl Try.func22 (by kernel_rfl) rfl #[.int .i64 a1] rfl ar_ ?_; (with_reducible refine (passes_fans.calls a1 false _ A5.out).mono ?_); rintro e w' ⟨rfl, ⟨nd, rfl⟩⟩; refine ⟨_, rfl, ?_⟩))
   go_meet
   case rel => exact ⟨_, (true), (es_), H', ⟨by first | omega | exact Nat.le_refl _⟩, ⟨vl_ HO0.out⟩, ⟨bl_ HB⟩⟩
 case rest =>
  clear HC4
  try clear c1
  try clear c2
  try clear p2
  try clear c6
  try clear c7
  try clear c7b0
  obtain ⟨kq, x13_3, rfl, HA, HJ3, HO_0, HB⟩ := hcut
  cases kq with
  | zero => exact absurd HA.out (by simp [passes_Merge.j0])
  | succ kj3 =>
   have H := HA.out
   clear HA
   simp only [passes_Merge.j0] at H
   by_cases c8 : x13_3 = true
   ·subst c8
    have H1 : (some (([] : List Int), 1)) = some (r1, r2) := by rw [if_pos rfl] at H; exact H
    clear H
    have H := H1
    clear H1
    simp only [Option.some.injEq, Prod.mk.injEq] at H
    obtain ⟨rfl, rfl⟩ := H
    go_wp2
    go_ret2
    exact ⟨_, er_, (by exact Kd.V_nil _ _ _ _ _), bl_ HB⟩
   ·replace c8 := Bool.eq_false_iff.mpr c8
    subst c8
    have H1 : (if (l0.length : Int) > 256 then (some (([] : List Int), 6)) else (if (l0.length : Int) ≤ 1 then ((loser_Runs.f kj3 l0 a2).bind fun bt496 => (some (bt496.1, bt496.2))) else (passes_Merge.l0 kj3 l0 a1 a2))) = some (r1, r2) := by rw [if_neg (show ¬ (false = true) by decide)] at H; exact H
    clear H
    have H := H1
    clear H1
    by_cases c9 : (l0.length : Int) > 256
    ·rw [if_pos c9] at H
     have c9b0 := decide_eq_true c9
     have c9b1 : decide (256 < l0.length) = true := decide_eq_true (by omega)
     clear c9
     simp only [Option.some.injEq, Prod.mk.injEq] at H
     obtain ⟨rfl, rfl⟩ := H
     go_wp2
     go_ret2
     exact ⟨_, er_, (by exact Kd.V_nil _ _ _ _ _), bl_ HB⟩
    ·rw [if_neg c9] at H
     have c9b0 := decide_eq_false c9
     have c9b1 : decide (256 < l0.length) = false := decide_eq_false (by omega)
     clear c9
     by_cases c10 : (l0.length : Int) ≤ 1
     ·rw [if_pos c10] at H
      have c10b0 := decide_eq_true c10
      have c10b1 : decide (l0.length ≤ 1) = true := decide_eq_true (by omega)
      clear c10
      replace H := Option.bind_eq_some_iff.mp H
      obtain ⟨⟨t496, t497⟩, A110, H⟩ := H
      replace H : (some (t496, t497)) = some (r1, r2) := H
      have A11 := Az.mk A110
      clear A110
      simp only [Option.some.injEq, Prod.mk.injEq] at H
      obtain ⟨rfl, rfl⟩ := H
      go_wp2_with (first | ((with_reducible refine gate_callee (f := 7) rfl ?_); refine goesL_ (some 35) rfl rfl Try.func7 (by kernel_rfl) rfl #[.slice A0 l0.length c0, .int .i64 a2] rfl ar_ ?_; (with_reducible refine (loser_Runs.calls kj3 _ _ l0 a2 t496 t497 _ ?side1 ?side2 A11.out).mono ?_); (case side1 => repeat (first | exact (Kd.V_reads' HO_0.out).2.2 | (with_reducible refine Kd.C_alloc ?_ _) | (with_reducible refine Kd.C_drewN ?_ _) | (with_reducible refine Kd.C_drew ?_))); (case side2 => exact (Kd.V_reads' HO_0.out).2.1); rintro e w12 ⟨v498, rfl, ho0, hb⟩; refine ⟨_, rfl, ?_⟩; have n0_ := Az.mk (Kd.V_elder' (vl_ HO_0.out) (Kd.R_base ho0) hb); have n1_ := Az.mk (Kd.R_lower (Kd.R_newM (M := fun k_ => (w.heap.size ≤ k_)) ho0 (below_size (bl_ HB)) (fun k_ h_ => h_)) (below_size (bl_ HB))); have n2_ := Az.mk (below_step (bl_ HB) hb); clear HO_0; clear HB; have HO_0 := n0_; have HO499 := n1_; have HB := n2_; clear n0_ n1_ n2_; (try clear hb); (try clear hb2); (try clear hk); (try clear hi); (try clear ho0)))
      go_ret2
      exact ⟨_, er_, Kd.V_mono (Kd.R_V (by (with_reducible repeat (first | apply Kd.R_alloc | apply Kd.R_drewN | apply Kd.R_drew)); exact Kd.R_mono HO499.out (fun _ hk => hk.1))) (fun k_ hk => by first | exact ⟨(.inr (hk.1)), hk.2⟩ | exact (.inr (hk))), bl_ HB⟩
     ·rw [if_neg c10] at H
      have c10b0 := decide_eq_false c10
      have c10b1 : decide (l0.length ≤ 1) = false := decide_eq_false (by omega)
      clear c10
      have H' := Az.mk H
      clear H
      go_wp2
      go_loopg [0] kj3 (fun kq v0 w' => ∃ (x0_2 : List (List Int)), Az (passes_Merge.l0 kq x0_2 a1 a2 = some (r1, r2)) ∧ Az (kq ≤ kj3) ∧ Az (Kd.V (Kd.slice 5 (Kd.int .u8)) 24 w' w.heap.size (fun k_ => (P0_ k_ ∨ w.heap.size ≤ k_)) v0 x0_2) ∧ Az (Below w.heap.size w w'))
      case atStart => exact ⟨(l0), H', ⟨Nat.le_refl _⟩, ⟨vl_ HO_0.out⟩, ⟨bl_ HB⟩⟩
      case round =>
       clear H'
       try clear c1
       try clear c2
       try clear p2
       try clear c6
       try clear c7
       try clear c7b0
       try clear c8
       try clear c9
       try clear c9b0
       try clear c9b1
       try clear c10
       try clear c10b0
       try clear c10b1
       try clear c11
       try clear p2
       obtain ⟨x0_2, HA, HK2, HO_0, HB⟩ := hrel
       cases gk with
       | zero => exact absurd HA.out (by simp [passes_Merge.l0])
       | succ k2 =>
        have H := HA.out
        clear HA
        simp only [passes_Merge.l0] at H
        by_cases c13 : (x0_2.length : Int) > 1
        ·rw [if_pos c13] at H
         have c13b0 := decide_eq_true c13
         have c13b1 : decide (1 < x0_2.length) = true := decide_eq_true (by omega)
         clear c13
         replace H := Option.bind_eq_some_iff.mp H
         obtain ⟨t501, A140, H⟩ := H
         replace H : (passes_Merge.l1 k2 x0_2 a1 a2 ([] : List (List Int)) t501 (t501.length : Int) 0) = some (r1, r2) := H
         have A14 := Az.mk A140
         clear A140
         have H' := Az.mk H
         clear H
         obtain ⟨Ao15, co15, eo15⟩ := Kd.V_slice HO_0.out
         subst eo15
         go_wp2_with (first | ((with_reducible refine gate_callee (f := 20) rfl ?_); refine goesL_ (some 44) rfl rfl Try.func20 (by kernel_rfl) rfl #[.int .i64 (x0_2.length : Int), .int .i64 a1] rfl ar_ ?_; (with_reducible refine (passes_Groups.calls k2 (x0_2.length : Int) a1 t501 _ A14.out).mono ?_); rintro e w16 ⟨v502, rfl, ho0, hb⟩; refine ⟨_, rfl, ?_⟩; have n0_ := Az.mk (Kd.V_elder' (vl_ HO_0.out) (Kd.R_base ho0) hb); have n1_ := Az.mk (Kd.R_lower (Kd.R_newM (M := fun k_ => (w.heap.size ≤ k_)) ho0 (below_size (bl_ HB)) (fun k_ h_ => h_)) (below_size (bl_ HB))); have n2_ := Az.mk (below_step (bl_ HB) hb); clear HO_0; clear HB; have HO_0 := n0_; have HO503 := n1_; have HB := n2_; clear n0_ n1_ n2_; (try clear hb); (try clear hb2); (try clear hk); (try clear hi); (try clear ho0); obtain ⟨Ao17, co17, eo17⟩ := Kd.R_slice HO503.out; subst eo17))
         go_loopg [8, 46] k2 (fun kq v8 v46 w' => ∃ (x8_3 : List (List Int)) (x46_3 : Int), v46 = .int .i64 x46_3 ∧ Az (passes_Merge.l1 kq x0_2 a1 a2 x8_3 t501 (t501.length : Int) x46_3 = some (r1, r2)) ∧ Az (kq ≤ k2) ∧ Az (Kd.V (Kd.slice 5 (Kd.int .u8)) 24 w' w.heap.size (fun k_ => (P0_ k_ ∨ w.heap.size ≤ k_) ∧ some k_ ≠ (v8 : Value).ownBlock ∧ some k_ ≠ ((.slice Ao17 t501.length co17) : Value).ownBlock) (.slice Ao15 x0_2.length co15) x0_2) ∧ Az (Kd.S (Kd.slice 5 (Kd.int .u8)) 24 w' w.heap.size (fun k_ => (w.heap.size ≤ k_)) v8 x8_3) ∧ Az (Kd.R k52 52 w' w.heap.size (fun k_ => (w.heap.size ≤ k_)) (.slice Ao17 t501.length co17) t501) ∧ Az (Below w.heap.size w w'))
         case atStart => exact ⟨(([] : List (List Int))), (0), (es_), H', ⟨Nat.le_refl _⟩, ⟨by (with_reducible repeat (first | apply Kd.V_alloc | apply Kd.V_drewN | apply Kd.V_drew)); exact Kd.V_mono HO_0.out (fun _ hk => ⟨hk.1, ⟨(by simp [Value.ownBlock]), hk.2⟩⟩)⟩, ⟨by first | exact Kd.S_nil _ _ _ _ _ | exact Kd.N_nil _ _ _ _ _ | exact Kd.V_nil _ _ _ _ _ | exact Kd.Q_nil _ _ _ _ _ | exact Kd.R_nil _ _ _ _ _⟩, ⟨by (with_reducible repeat (first | apply Kd.R_alloc | apply Kd.R_drewN | apply Kd.R_drew)); exact Kd.R_mono HO503.out (fun _ hk => hk.1)⟩, ⟨bl_ HB⟩⟩
         case round =>
          clear H'
          try clear c1
          try clear c2
          try clear p2
          try clear c6
          try clear c7
          try clear c7b0
          try clear c8
          try clear c9
          try clear c9b0
          try clear c9b1
          try clear c10
          try clear c10b0
          try clear c10b1
          try clear c11
          try clear c13
          try clear c13b0
          try clear c13b1
          try clear p2
          obtain ⟨x8_3, x46_3, rfl, HA, HK3, HO_0, HO_8, HO_44, HB⟩ := hrel
          cases gk with
          | zero => exact absurd HA.out (by simp [passes_Merge.l1])
          | succ k3 =>
           have H := HA.out
           clear HA
           simp only [passes_Merge.l1] at H
           by_cases c18 : x46_3 < (t501.length : Int)
           ·rw [if_pos c18] at H
            have c18b0 := decide_eq_true c18
            clear c18
            by_cases c19 : 0 ≤ x46_3
            ·rw [if_pos c19] at H
             have c19b0 := decide_eq_true c19
             clear c19
             by_cases c20 : x46_3 < (t501.length : Int)
             ·rw [if_pos c20] at H
              have c20b0 := decide_eq_true c20
              clear c20
              by_cases c21 : 0 ≤ ((rd_T52 t501 x46_3).f0)
              ·rw [if_pos c21] at H
               have c21b0 := eq_true c21
               have c21b1 := decide_eq_true c21
               clear c21
               by_cases c22 : ((rd_T52 t501 x46_3).f0) ≤ ((rd_T52 t501 x46_3).f1)
               ·rw [if_pos c22] at H
                have c22b0 := eq_true c22
                have c22b1 := decide_eq_true c22
                clear c22
                by_cases c23 : ((rd_T52 t501 x46_3).f1) ≤ (x0_2.length : Int)
                ·rw [if_pos c23] at H
                 have c23b0 := eq_true c23
                 have c23b1 := decide_eq_true c23
                 clear c23
                 obtain ⟨y506, hy506⟩ : ∃ y_ : List (List Int), y_ = ((x0_2.take (((rd_T52 t501 x46_3).f1) : Int).toNat).drop (((rd_T52 t501 x46_3).f0) : Int).toNat) := ⟨_, rfl⟩
                 replace H : ((loser_Runs.f k3 y506 a2).bind fun bt511 => (if bt511.2 = 0 then (if x8_3.length < 5864062014805 then (passes_Merge.l1 k3 x0_2 a1 a2 (x8_3 ++ [bt511.1]) t501 (t501.length : Int) (wrap64 (x46_3 + 1))) else (none)) else (some (([] : List Int), bt511.2)))) = some (r1, r2) := hr_ hy506 H
                 have Ny506 := Az.mk hy506
                 clear hy506
                 replace H := Option.bind_eq_some_iff.mp H
                 obtain ⟨⟨t511, t512⟩, A240, H⟩ := H
                 replace H : (if t512 = 0 then (if x8_3.length < 5864062014805 then (passes_Merge.l1 k3 x0_2 a1 a2 (x8_3 ++ [t511]) t501 (t501.length : Int) (wrap64 (x46_3 + 1))) else (none)) else (some (([] : List Int), t512))) = some (r1, r2) := H
                 have A24 := Az.mk A240
                 clear A240
                 by_cases c25 : t512 = 0
                 ·rw [if_pos c25] at H
                  have c25b0 : (t512 == 0) = true := beq_iff_eq.mpr c25
                  have c25b1 : (t512 != 0) = false := bne_eq_false_iff_eq.mpr c25
                  clear c25
                  by_cases c26 : x8_3.length < 5864062014805
                  ·rw [if_pos c26] at H
                   have LMc26 := Az.mk c26
                   clear c26
                   obtain ⟨y515, hy515⟩ : ∃ y_ : List (List Int), y_ = (x8_3 ++ [t511]) := ⟨_, rfl⟩
                   replace H : (passes_Merge.l1 k3 x0_2 a1 a2 y515 t501 (t501.length : Int) (wrap64 (x46_3 + 1))) = some (r1, r2) := hr_ hy515 H
                   have Ny515 := Az.mk hy515
                   clear hy515
                   have H' := Az.mk H
                   clear H
                   have p504 : 0 ≤ (x46_3 : Int) := of_decide_eq_true as_
                   have q504 : x46_3 < (t501.length : Int) := of_decide_eq_true as_
                   obtain ⟨ad504, e504, hx504_0, hx504_1⟩ := at_T52 (Kd.R_reads' HO_44.out).2.2 x46_3 p504 q504
                   cases e504
                   replace p504 := eq_true p504
                   replace q504 := eq_true q504
                   go_wp2_with (first | ((with_reducible refine gate_dst (N := 10) rfl ?_); refine box_event ?hg (N := 10) ?hd (cs := #[.int .i64 0, .int .i64 0]) (t := 52) ?hr ?_; (case hd => rfl); (case hg => rfl); (case hr => first | (go_simp; done) | (go_simp; rfl)); intro gb505 hg w27 hbox hb; have n0_ := Az.mk (Kd.V_below (Kd.V_elderB (vl_ HO_0.out) gb505 (Nat.le_of_eq hg.symm)) hb); have n1_ := Az.mk (Kd.S_below (sl_ HO_8.out) hb); have n2_ := Az.mk (Kd.R_below (Kd.R_elderB (rl_ HO_44.out) gb505 (Nat.le_of_eq hg.symm)) hb); have n3_ := Az.mk (below_step (bl_ HB) hb); have n4_ := Az.mk (hbox); have n5_ := Az.mk ((by rw [hg]; exact (below_size (bl_ HB)) : w.heap.size ≤ gb505)); have n6_ := Az.mk ((by rw [hg]; exact (below_size (bl_ HB)) : w.heap.size ≤ gb505)); clear HO_0; clear HO_8; clear HO_44; clear HB; have HO_0 := n0_; have HO_8 := n1_; have HO_44 := n2_; have HB := n3_; have BK505 := n4_; have GW505 := n5_; have GE505 := n6_; clear n0_ n1_ n2_ n3_ n4_ n5_ n6_; clear hb hbox hg; have hcz28_0 : w27.cell? ⟨gb505, 0, none⟩ = some (.int .i64 0) := (blk_cell BK505.out 0).trans rfl; have hcz28_1 : w27.cell? ⟨gb505, 1, none⟩ = some (.int .i64 0) := (blk_cell BK505.out 1).trans rfl; have hfz28_0 := blk_frozen BK505.out 0; have hfz28_1 := blk_frozen BK505.out 1) | ((with_reducible refine gate_store (t := 52) (p := 10) rfl ?_); refine store_event (t := 52) (p := 10) (v := ?vo_w29) (w1 := ((w27.setCell ⟨gb505, 0, none⟩ (.int .i64 ((rd_T52 t501 x46_3).f0))).setCell ⟨gb505, 1, none⟩ (.int .i64 ((rd_T52 t501 x46_3).f1)))) ?hg ?ho ?hn ?hr ?_; (case ho => rfl); (case hg => rfl); (case hn => rfl); (case hr => first | (go_simp; done) | (go_simp; rfl)); intro w29 hw; have n0_ : Az (Kd.V (Kd.slice 5 (Kd.int .u8)) 24 w29 w.heap.size (fun k_ => (P0_ k_ ∨ w.heap.size ≤ k_) ∧ some k_ ≠ (u8 : Value).ownBlock ∧ some k_ ≠ (.slice (some ad504) t501.length co17 : Value).ownBlock ∧ k_ ≠ gb505) (.slice Ao15 x0_2.length co15) x0_2) := ⟨(by rw [hw]; exact (by (with_reducible repeat (first | apply Kd.V_alloc | apply Kd.V_drewN | apply Kd.V_drew)); exact Kd.V_mono (Kd.V_far (p := ⟨gb505, 1, none⟩) (Kd.V_far (p := ⟨gb505, 0, none⟩) (Kd.V_mono HO_0.out (fun k_ hk => (⟨hk, hk.2⟩ : _ ∧ k_ ≠ gb505))) (fun _ hk => hk.2) (.int .i64 ((rd_T52 t501 x46_3).f0))) (fun _ hk => hk.2) (.int .i64 ((rd_T52 t501 x46_3).f1))) (fun _ hk => ⟨hk.1.1.1, ⟨hk.1.1.2.1, ⟨hk.1.1.2.2, hk.1.2⟩⟩⟩)))⟩; have n1_ : Az (Kd.S (Kd.slice 5 (Kd.int .u8)) 24 w29 w.heap.size (fun k_ => (w.heap.size ≤ k_)) u8 x8_3) := ⟨(by rw [hw]; exact (by (with_reducible repeat (first | apply Kd.S_alloc | apply Kd.S_drewN | apply Kd.S_drew)); exact Kd.S_mono (Kd.S_far (p := ⟨gb505, 1, none⟩) (Kd.S_far (p := ⟨gb505, 0, none⟩) (Kd.S_types HO_8.out BK505.out (by decide)) (fun _ hk => hk.2) (.int .i64 ((rd_T52 t501 x46_3).f0))) (fun _ hk => hk.2) (.int .i64 ((rd_T52 t501 x46_3).f1))) (fun _ hk => hk.1)))⟩; have n2_ : Az (Kd.R k52 52 w29 w.heap.size (fun k_ => (w.heap.size ≤ k_) ∧ k_ ≠ gb505) (.slice (some ad504) t501.length co17) t501) := ⟨(by rw [hw]; exact (by (with_reducible repeat (first | apply Kd.R_alloc | apply Kd.R_drewN | apply Kd.R_drew)); exact Kd.R_mono (Kd.R_far (p := ⟨gb505, 1, none⟩) (Kd.R_far (p := ⟨gb505, 0, none⟩) (Kd.R_mono HO_44.out (fun k_ hk => (⟨hk, hk.2⟩ : _ ∧ k_ ≠ gb505))) (fun _ hk => hk.2) (.int .i64 ((rd_T52 t501 x46_3).f0))) (fun _ hk => hk.2) (.int .i64 ((rd_T52 t501 x46_3).f1))) (fun _ hk => ⟨hk.1.1, hk.1.2⟩)))⟩; have n3_ : Az (w29.heap[gb505]? = some (.cells #[.int .i64 ((rd_T52 t501 x46_3).f0), .int .i64 ((rd_T52 t501 x46_3).f1)] 52 (0, 0))) := ⟨(by rw [hw]; exact (by (with_reducible repeat (first | refine blk_drewN ?_ _ | refine blk_drew ?_ | refine blk_alloc ?_ _)); refine blk_put (cs := #[.int .i64 ((rd_T52 t501 x46_3).f0), .int .i64 0]) ?_ 1 _ rfl; (with_reducible repeat (first | refine blk_drewN ?_ _ | refine blk_drew ?_ | refine blk_alloc ?_ _)); refine blk_put (cs := #[.int .i64 0, .int .i64 0]) ?_ 0 _ rfl; (with_reducible repeat (first | refine blk_drewN ?_ _ | refine blk_drew ?_ | refine blk_alloc ?_ _)); exact BK505.out))⟩; have n4_ : Az (Below w.heap.size w w29) := ⟨(by rw [hw]; exact (by repeat (first | (with_reducible first | exact HB.out | apply below_alloc | apply pw_below_drewN | apply below_drew1 | refine below_set ?_ GE505.out) | exact HB.out)))⟩; clear hw; clear HO_0; clear HO_8; clear HO_44; clear BK505; clear HB; have HO_0 := n0_; have HO_8 := n1_; have HO_44 := n2_; have BK505 := n3_; have HB := n4_; clear n0_ n1_ n2_ n3_ n4_; have hcz30_0 : w29.cell? ⟨gb505, 0, none⟩ = some (.int .i64 ((rd_T52 t501 x46_3).f0)) := (blk_cell BK505.out 0).trans rfl; have hcz30_1 : w29.cell? ⟨gb505, 1, none⟩ = some (.int .i64 ((rd_T52 t501 x46_3).f1)) := (blk_cell BK505.out 1).trans rfl; have hfz30_0 := blk_frozen BK505.out 0; have hfz30_1 := blk_frozen BK505.out 1; have q31 : (((rd_T52 t501 x46_3).f1) : Int) ≤ ((x0_2.length : Int) : Int) := of_decide_eq_true as_; obtain ⟨i031, hi031, _, hsz31, _⟩ := info_parts info24; have hroom31 : x0_2.length ≤ co15 := (Kd.V_reads' HO_0.out).2.1; have hC31 : Kd.F (Kd.slice 5 (Kd.int .u8)) _ _ Ao15 x0_2.length x0_2 := (Kd.V_at (base := w.heap.size) HO_0.out).2.2; have ql31 : (((rd_T52 t501 x46_3).f0) : Int) ≤ (((rd_T52 t501 x46_3).f1) : Int) := of_decide_eq_true as_; have q031 : (0 : Int) ≤ (((rd_T52 t501 x46_3).f0) : Int) := of_decide_eq_true as_; have hcut31 := cut_mid (P := Try.prog) 22 24 .i64 .i64 Try.underlying22 hi031 1 hsz31 Ao15 x0_2.length co15 ((rd_T52 t501 x46_3).f0) ((rd_T52 t501 x46_3).f1) q031 ql31 q31 hroom31; have hr31 := Kd.F_mid (lo := (((rd_T52 t501 x46_3).f0) : Int).toNat) (hi := (((rd_T52 t501 x46_3).f1) : Int).toNat) (c := co15) hC31 (by omega) (by omega) hroom31; obtain ⟨A31, hA31⟩ : ∃ A1, A1 = (if co15 = (((rd_T52 t501 x46_3).f0) : Int).toNat then Ao15 else (Ao15 : Option Addr).map (·.add ((((rd_T52 t501 x46_3).f0) : Int).toNat * 1))) := ⟨_, rfl⟩; obtain ⟨c31, hc31⟩ : ∃ c1, c1 = co15 - (((rd_T52 t501 x46_3).f0) : Int).toNat := ⟨_, rfl⟩; have hy31 : y506.length = (((rd_T52 t501 x46_3).f1) : Int).toNat - (((rd_T52 t501 x46_3).f0) : Int).toNat := (by rw [Ny506.out, List.length_drop, List.length_take] <;> omega); rw [show ((x0_2).take (((rd_T52 t501 x46_3).f1) : Int).toNat).drop (((rd_T52 t501 x46_3).f0) : Int).toNat = y506 from Ny506.out.symm] at hr31; replace hr31 : Kd.F (Kd.slice 5 (Kd.int .u8)) _ _ A31 y506.length y506 := (by rw [hA31]; exact hr31); rw [← hy31, ← hA31, ← hc31] at hcut31; have HO510 := Az.mk (show Kd.V (Kd.slice 5 (Kd.int .u8)) 24 _ w.heap.size _ (.slice A31 y506.length c31) y506 from Kd.V_mk (by rw [hy31, hc31]; exact Nat.sub_le_sub_right (Nat.le_trans (by omega) hroom31) _) hr31); have HC510 := Az.mk (show y506.length ≤ c31 from by rw [hy31, hc31]; exact Nat.sub_le_sub_right (Nat.le_trans (by omega) hroom31) _); clear hr31 hC31 hroom31 hi031 hsz31 hc31; have KY31 := Az.mk hy31; have KA31 := Az.mk hA31; clear hy31 hA31; replace q31 := eq_true q31) | ((with_reducible refine gate_callee (f := 7) rfl ?_); refine goesL_ (some 58) rfl rfl Try.func7 (by kernel_rfl) rfl #[.slice A31 y506.length c31, .int .i64 a2] rfl ar_ ?_; (with_reducible refine (loser_Runs.calls k3 _ _ y506 a2 t511 t512 _ ?side1 ?side2 A24.out).mono ?_); (case side1 => repeat (first | exact (Kd.V_reads' HO510.out).2.2 | (with_reducible refine Kd.C_alloc ?_ _) | (with_reducible refine Kd.C_drewN ?_ _) | (with_reducible refine Kd.C_drew ?_))); (case side2 => exact (Kd.V_reads' HO510.out).2.1); rintro e w32 ⟨v513, rfl, ho0, hb⟩; refine ⟨_, rfl, ?_⟩; have n0_ := Az.mk (Kd.V_elder' (vl_ HO_0.out) (Kd.R_base ho0) hb); have n1_ := Az.mk (Kd.S_elder' (sl_ HO_8.out) (Kd.R_base ho0) hb); have n2_ := Az.mk (Kd.R_below (rl_ HO_44.out) hb); have n3_ := Az.mk (Kd.V_elder' (vl_ HO510.out) (Kd.R_base ho0) hb); have n4_ := Az.mk (Kd.R_lower (Kd.R_newM (M := fun k_ => (w.heap.size ≤ k_)) ho0 (below_size (by repeat (first | (with_reducible first | exact HB.out | apply below_alloc | apply pw_below_drewN | apply below_drew1 | refine below_set ?_ GE505.out) | exact HB.out))) (fun k_ h_ => h_)) (below_size (by repeat (first | (with_reducible first | exact HB.out | apply below_alloc | apply pw_below_drewN | apply below_drew1 | refine below_set ?_ GE505.out) | exact HB.out)))); have n5_ := Az.mk (blk_below (g := gb505) (o := .cells #[.int .i64 ((rd_T52 t501 x46_3).f0), .int .i64 ((rd_T52 t501 x46_3).f1)] 52 (0, 0)) (bk_ BK505.out) hb); have n6_ := Az.mk (below_step (by repeat (first | (with_reducible first | exact HB.out | apply below_alloc | apply pw_below_drewN | apply below_drew1 | refine below_set ?_ GE505.out) | exact HB.out)) hb); clear HO_0; clear HO_8; clear HO_44; clear HO510; clear BK505; clear HB; have HO_0 := n0_; have HO_8 := n1_; have HO_44 := n2_; have HO510 := n3_; have HO514 := n4_; have BK505 := n5_; have HB := n6_; clear n0_ n1_ n2_ n3_ n4_ n5_ n6_; (try clear hb); (try clear hb2); (try clear hk); (try clear hi); (try clear ho0); obtain ⟨Ao34, co34, eo34⟩ := Kd.R_slice HO514.out; subst eo34) | ((with_reducible refine gate_builtin (b := .append) (xs := #[.tmp 64, .tmp 66]) rfl ?_); at_builtin; refine Kd.S_append (Kd.slice 5 (Kd.int .u8)) (w0 := w) w.heap.size rfl (.tmp 64) (.tmp 66) 22 24 (.slice none 0 0) 24 rfl Try.underlying22 info24 rfl (by decide) (by omega) u8 x8_3 t511 [.slice Ao34 t511.length co34] (fun k_ => (w.heap.size ≤ k_)) (fun k_ => some k_ = (.slice Ao34 t511.length co34 : Value).ownBlock) rfl rfl ?aP (fun k_ hk_ => ((Kd.R_mono (ok' := fun k_ => ((fun k_ => (w.heap.size ≤ k_))) k_ ∧ some k_ ≠ (u8 : Value).ownBlock) (Kd.R_apart' (HO514.out) (Kd.S_typed HO_8.out) (by decide)) (fun k_ hk => ⟨hk.1.1, hk.2⟩))).1 k_ hk_.symm) ?aF ?aO ?aB ?aS ?aL ?_; (case aP => exact Kd.M_row (Kd.R_mono (Kd.R_tight rfl (Kd.R_mono (ok' := fun k_ => ((fun k_ => (w.heap.size ≤ k_))) k_ ∧ some k_ ≠ (u8 : Value).ownBlock) (Kd.R_apart' (HO514.out) (Kd.S_typed HO_8.out) (by decide)) (fun k_ hk => ⟨hk.1.1, hk.2⟩))) (fun _ h_ => h_))); (case aB => exact (by repeat (first | (with_reducible first | exact HB.out | apply below_alloc | apply pw_below_drewN | apply below_drew1 | refine below_set ?_ GE505.out) | exact HB.out))); (case aF => exact (fun k_ hk => (Nat.le_trans (below_size (by repeat (first | (with_reducible first | exact HB.out | apply below_alloc | apply pw_below_drewN | apply below_drew1 | refine below_set ?_ GE505.out) | exact HB.out))) hk))); (case aO => exact (by (with_reducible repeat (first | apply Kd.S_alloc | apply Kd.S_drewN | apply Kd.S_drew)); exact Kd.S_mono HO_8.out (fun k_ hk => ⟨hk.1, fun e_ => hk.2 e_⟩))); (case aS => exact (below_size (by repeat (first | (with_reducible first | exact HB.out | apply below_alloc | apply pw_below_drewN | apply below_drew1 | refine below_set ?_ GE505.out) | exact HB.out)))); (case aL => have := LMc26.out; omega); intro v516 w33 ho hb hg hat; rw [← Ny515.out] at ho; have n0_ := Az.mk (Kd.V_afterv (ok := (fun k_ => (P0_ k_ ∨ w.heap.size ≤ k_) ∧ some k_ ≠ (.slice (some ad504) t501.length co17 : Value).ownBlock ∧ some k_ ≠ (.slice Ao34 t511.length co34 : Value).ownBlock ∧ k_ ≠ gb505)) (by (with_reducible repeat (first | apply Kd.V_alloc | apply Kd.V_drewN | apply Kd.V_drew)); exact Kd.V_mono HO_0.out (fun _ hk => ⟨⟨hk.1.1, ⟨hk.1.2.2.1, ⟨hk.2, hk.1.2.2.2⟩⟩⟩, hk.1.2.1⟩)) hg hat); have n1_ := Az.mk (Kd.R_over' (rl_ HO_44.out) (Kd.S_typed (sl_ HO_8.out)) (by decide) hg); have n2_ := Az.mk (blk_grown (g := gb505) (o := .cells #[.int .i64 ((rd_T52 t501 x46_3).f0), .int .i64 ((rd_T52 t501 x46_3).f1)] 52 (0, 0)) (bk_ BK505.out) hg (Kd.S_ne HO_8.out BK505.out (by decide))); have n3_ := Az.mk (Kd.V_afterv (ok := (fun k_ => (P0_ k_ ∨ w.heap.size ≤ k_) ∧ some k_ ≠ (.slice (some ad504) t501.length co17 : Value).ownBlock ∧ some k_ ≠ (.slice Ao34 t511.length co34 : Value).ownBlock ∧ k_ ≠ gb505)) (by (with_reducible repeat (first | apply Kd.V_alloc | apply Kd.V_drewN | apply Kd.V_drew)); exact Kd.V_mono HO510.out (fun _ hk => ⟨⟨hk.1.1, ⟨hk.1.2.2.1, ⟨hk.2, hk.1.2.2.2⟩⟩⟩, hk.1.2.1⟩)) hg hat); have n4_ := Az.mk (hb); have n5_ := Az.mk (ho); clear HO_0; clear HO_44; clear BK505; clear HO510; clear HB; clear HO_8; clear HO514; have HO_0 := n0_; have HO_44 := n1_; have BK505 := n2_; have HO510 := n3_; have HB := n4_; have HO517 := n5_; clear n0_ n1_ n2_ n3_ n4_ n5_; clear ho hb hg hat))
                   go_roundg k3
                   case measure => have := HJ3.out; have := HK2.out; have := HK3.out; omega
                   case rel => exact ⟨(y515), (wrap64 (x46_3 + 1)), (es_), H', ⟨by have := HJ3.out; have := HK2.out; have := HK3.out; omega⟩, ⟨by (with_reducible repeat (first | apply Kd.V_alloc | apply Kd.V_drewN | apply Kd.V_drew)); exact Kd.V_mono HO_0.out (fun _ hk => ⟨hk.1.1, ⟨hk.2, hk.1.2.1⟩⟩)⟩, ⟨sl_ HO517.out⟩, ⟨by (with_reducible repeat (first | apply Kd.R_alloc | apply Kd.R_drewN | apply Kd.R_drew)); exact Kd.R_mono HO_44.out (fun _ hk => hk.1)⟩, ⟨by repeat (first | (with_reducible first | exact HB.out | apply below_alloc | apply pw_below_drewN | apply below_drew1 | refine below_set ?_ GE505.out) | exact HB.out)⟩⟩
                  ·rw [if_neg c26] at H
                   exact absurd H (by simp)
                 ·rw [if_neg c25] at H
                  have c25b0 : (t512 == 0) = false := beq_eq_false_iff_ne.mpr c25
                  have c25b1 : (t512 != 0) = true := bne_iff_ne.mpr c25
                  simp only [Option.some.injEq, Prod.mk.injEq] at H
                  obtain ⟨rfl, rfl⟩ := H
                  have p504 : 0 ≤ (x46_3 : Int) := of_decide_eq_true as_
                  have q504 : x46_3 < (t501.length : Int) := of_decide_eq_true as_
                  obtain ⟨ad504, e504, hx504_0, hx504_1⟩ := at_T52 (Kd.R_reads' HO_44.out).2.2 x46_3 p504 q504
                  cases e504
                  replace p504 := eq_true p504
                  replace q504 := eq_true q504
                  go_wp2_with (first | ((with_reducible refine gate_dst (N := 10) rfl ?_); refine box_event ?hg (N := 10) ?hd (cs := #[.int .i64 0, .int .i64 0]) (t := 52) ?hr ?_; (case hd => rfl); (case hg => rfl); (case hr => first | (go_simp; done) | (go_simp; rfl)); intro gb505 hg w35 hbox hb; have n0_ := Az.mk (Kd.V_below (Kd.V_elderB (vl_ HO_0.out) gb505 (Nat.le_of_eq hg.symm)) hb); have n1_ := Az.mk (Kd.S_below (sl_ HO_8.out) hb); have n2_ := Az.mk (Kd.R_below (Kd.R_elderB (rl_ HO_44.out) gb505 (Nat.le_of_eq hg.symm)) hb); have n3_ := Az.mk (below_step (bl_ HB) hb); have n4_ := Az.mk (hbox); have n5_ := Az.mk ((by rw [hg]; exact (below_size (bl_ HB)) : w.heap.size ≤ gb505)); have n6_ := Az.mk ((by rw [hg]; exact (below_size (bl_ HB)) : w.heap.size ≤ gb505)); clear HO_0; clear HO_8; clear HO_44; clear HB; have HO_0 := n0_; have HO_8 := n1_; have HO_44 := n2_; have HB := n3_; have BK505 := n4_; have GW505 := n5_; have GE505 := n6_; clear n0_ n1_ n2_ n3_ n4_ n5_ n6_; clear hb hbox hg; have hcz36_0 : w35.cell? ⟨gb505, 0, none⟩ = some (.int .i64 0) := (blk_cell BK505.out 0).trans rfl; have hcz36_1 : w35.cell? ⟨gb505, 1, none⟩ = some (.int .i64 0) := (blk_cell BK505.out 1).trans rfl; have hfz36_0 := blk_frozen BK505.out 0; have hfz36_1 := blk_frozen BK505.out 1) | ((with_reducible refine gate_store (t := 52) (p := 10) rfl ?_); refine store_event (t := 52) (p := 10) (v := ?vo_w37) (w1 := ((w35.setCell ⟨gb505, 0, none⟩ (.int .i64 ((rd_T52 t501 x46_3).f0))).setCell ⟨gb505, 1, none⟩ (.int .i64 ((rd_T52 t501 x46_3).f1)))) ?hg ?ho ?hn ?hr ?_; (case ho => rfl); (case hg => rfl); (case hn => rfl); (case hr => first | (go_simp; done) | (go_simp; rfl)); intro w37 hw; have n0_ : Az (Kd.V (Kd.slice 5 (Kd.int .u8)) 24 w37 w.heap.size (fun k_ => (P0_ k_ ∨ w.heap.size ≤ k_) ∧ some k_ ≠ (u8 : Value).ownBlock ∧ some k_ ≠ (.slice (some ad504) t501.length co17 : Value).ownBlock ∧ k_ ≠ gb505) (.slice Ao15 x0_2.length co15) x0_2) := ⟨(by rw [hw]; exact (by (with_reducible repeat (first | apply Kd.V_alloc | apply Kd.V_drewN | apply Kd.V_drew)); exact Kd.V_mono (Kd.V_far (p := ⟨gb505, 1, none⟩) (Kd.V_far (p := ⟨gb505, 0, none⟩) (Kd.V_mono HO_0.out (fun k_ hk => (⟨hk, hk.2⟩ : _ ∧ k_ ≠ gb505))) (fun _ hk => hk.2) (.int .i64 ((rd_T52 t501 x46_3).f0))) (fun _ hk => hk.2) (.int .i64 ((rd_T52 t501 x46_3).f1))) (fun _ hk => ⟨hk.1.1.1, ⟨hk.1.1.2.1, ⟨hk.1.1.2.2, hk.1.2⟩⟩⟩)))⟩; have n1_ : Az (Kd.S (Kd.slice 5 (Kd.int .u8)) 24 w37 w.heap.size (fun k_ => (w.heap.size ≤ k_)) u8 x8_3) := ⟨(by rw [hw]; exact (by (with_reducible repeat (first | apply Kd.S_alloc | apply Kd.S_drewN | apply Kd.S_drew)); exact Kd.S_mono (Kd.S_far (p := ⟨gb505, 1, none⟩) (Kd.S_far (p := ⟨gb505, 0, none⟩) (Kd.S_types HO_8.out BK505.out (by decide)) (fun _ hk => hk.2) (.int .i64 ((rd_T52 t501 x46_3).f0))) (fun _ hk => hk.2) (.int .i64 ((rd_T52 t501 x46_3).f1))) (fun _ hk => hk.1)))⟩; have n2_ : Az (Kd.R k52 52 w37 w.heap.size (fun k_ => (w.heap.size ≤ k_) ∧ k_ ≠ gb505) (.slice (some ad504) t501.length co17) t501) := ⟨(by rw [hw]; exact (by (with_reducible repeat (first | apply Kd.R_alloc | apply Kd.R_drewN | apply Kd.R_drew)); exact Kd.R_mono (Kd.R_far (p := ⟨gb505, 1, none⟩) (Kd.R_far (p := ⟨gb505, 0, none⟩) (Kd.R_mono HO_44.out (fun k_ hk => (⟨hk, hk.2⟩ : _ ∧ k_ ≠ gb505))) (fun _ hk => hk.2) (.int .i64 ((rd_T52 t501 x46_3).f0))) (fun _ hk => hk.2) (.int .i64 ((rd_T52 t501 x46_3).f1))) (fun _ hk => ⟨hk.1.1, hk.1.2⟩)))⟩; have n3_ : Az (w37.heap[gb505]? = some (.cells #[.int .i64 ((rd_T52 t501 x46_3).f0), .int .i64 ((rd_T52 t501 x46_3).f1)] 52 (0, 0))) := ⟨(by rw [hw]; exact (by (with_reducible repeat (first | refine blk_drewN ?_ _ | refine blk_drew ?_ | refine blk_alloc ?_ _)); refine blk_put (cs := #[.int .i64 ((rd_T52 t501 x46_3).f0), .int .i64 0]) ?_ 1 _ rfl; (with_reducible repeat (first | refine blk_drewN ?_ _ | refine blk_drew ?_ | refine blk_alloc ?_ _)); refine blk_put (cs := #[.int .i64 0, .int .i64 0]) ?_ 0 _ rfl; (with_reducible repeat (first | refine blk_drewN ?_ _ | refine blk_drew ?_ | refine blk_alloc ?_ _)); exact BK505.out))⟩; have n4_ : Az (Below w.heap.size w w37) := ⟨(by rw [hw]; exact (by repeat (first | (with_reducible first | exact HB.out | apply below_alloc | apply pw_below_drewN | apply below_drew1 | refine below_set ?_ GE505.out) | exact HB.out)))⟩; clear hw; clear HO_0; clear HO_8; clear HO_44; clear BK505; clear HB; have HO_0 := n0_; have HO_8 := n1_; have HO_44 := n2_; have BK505 := n3_; have HB := n4_; clear n0_ n1_ n2_ n3_ n4_; have hcz38_0 : w37.cell? ⟨gb505, 0, none⟩ = some (.int .i64 ((rd_T52 t501 x46_3).f0)) := (blk_cell BK505.out 0).trans rfl; have hcz38_1 : w37.cell? ⟨gb505, 1, none⟩ = some (.int .i64 ((rd_T52 t501 x46_3).f1)) := (blk_cell BK505.out 1).trans rfl; have hfz38_0 := blk_frozen BK505.out 0; have hfz38_1 := blk_frozen BK505.out 1; have q39 : (((rd_T52 t501 x46_3).f1) : Int) ≤ ((x0_2.length : Int) : Int) := of_decide_eq_true as_; obtain ⟨i039, hi039, _, hsz39, _⟩ := info_parts info24; have hroom39 : x0_2.length ≤ co15 := (Kd.V_reads' HO_0.out).2.1; have hC39 : Kd.F (Kd.slice 5 (Kd.int .u8)) _ _ Ao15 x0_2.length x0_2 := (Kd.V_at (base := w.heap.size) HO_0.out).2.2; have ql39 : (((rd_T52 t501 x46_3).f0) : Int) ≤ (((rd_T52 t501 x46_3).f1) : Int) := of_decide_eq_true as_; have q039 : (0 : Int) ≤ (((rd_T52 t501 x46_3).f0) : Int) := of_decide_eq_true as_; have hcut39 := cut_mid (P := Try.prog) 22 24 .i64 .i64 Try.underlying22 hi039 1 hsz39 Ao15 x0_2.length co15 ((rd_T52 t501 x46_3).f0) ((rd_T52 t501 x46_3).f1) q039 ql39 q39 hroom39; have hr39 := Kd.F_mid (lo := (((rd_T52 t501 x46_3).f0) : Int).toNat) (hi := (((rd_T52 t501 x46_3).f1) : Int).toNat) (c := co15) hC39 (by omega) (by omega) hroom39; obtain ⟨A39, hA39⟩ : ∃ A1, A1 = (if co15 = (((rd_T52 t501 x46_3).f0) : Int).toNat then Ao15 else (Ao15 : Option Addr).map (·.add ((((rd_T52 t501 x46_3).f0) : Int).toNat * 1))) := ⟨_, rfl⟩; obtain ⟨c39, hc39⟩ : ∃ c1, c1 = co15 - (((rd_T52 t501 x46_3).f0) : Int).toNat := ⟨_, rfl⟩; have hy39 : y506.length = (((rd_T52 t501 x46_3).f1) : Int).toNat - (((rd_T52 t501 x46_3).f0) : Int).toNat := (by rw [Ny506.out, List.length_drop, List.length_take] <;> omega); rw [show ((x0_2).take (((rd_T52 t501 x46_3).f1) : Int).toNat).drop (((rd_T52 t501 x46_3).f0) : Int).toNat = y506 from Ny506.out.symm] at hr39; replace hr39 : Kd.F (Kd.slice 5 (Kd.int .u8)) _ _ A39 y506.length y506 := (by rw [hA39]; exact hr39); rw [← hy39, ← hA39, ← hc39] at hcut39; have HO510 := Az.mk (show Kd.V (Kd.slice 5 (Kd.int .u8)) 24 _ w.heap.size _ (.slice A39 y506.length c39) y506 from Kd.V_mk (by rw [hy39, hc39]; exact Nat.sub_le_sub_right (Nat.le_trans (by omega) hroom39) _) hr39); have HC510 := Az.mk (show y506.length ≤ c39 from by rw [hy39, hc39]; exact Nat.sub_le_sub_right (Nat.le_trans (by omega) hroom39) _); clear hr39 hC39 hroom39 hi039 hsz39 hc39; have KY39 := Az.mk hy39; have KA39 := Az.mk hA39; clear hy39 hA39; replace q39 := eq_true q39) | ((with_reducible refine gate_callee (f := 7) rfl ?_); refine goesL_ (some 58) rfl rfl Try.func7 (by kernel_rfl) rfl #[.slice A39 y506.length c39, .int .i64 a2] rfl ar_ ?_; (with_reducible refine (loser_Runs.calls k3 _ _ y506 a2 t511 t512 _ ?side1 ?side2 A24.out).mono ?_); (case side1 => repeat (first | exact (Kd.V_reads' HO510.out).2.2 | (with_reducible refine Kd.C_alloc ?_ _) | (with_reducible refine Kd.C_drewN ?_ _) | (with_reducible refine Kd.C_drew ?_))); (case side2 => exact (Kd.V_reads' HO510.out).2.1); rintro e w40 ⟨v513, rfl, ho0, hb⟩; refine ⟨_, rfl, ?_⟩; have n0_ := Az.mk (Kd.V_elder' (vl_ HO_0.out) (Kd.R_base ho0) hb); have n1_ := Az.mk (Kd.S_elder' (sl_ HO_8.out) (Kd.R_base ho0) hb); have n2_ := Az.mk (Kd.R_below (rl_ HO_44.out) hb); have n3_ := Az.mk (Kd.V_elder' (vl_ HO510.out) (Kd.R_base ho0) hb); have n4_ := Az.mk (Kd.R_lower (Kd.R_newM (M := fun k_ => (w.heap.size ≤ k_)) ho0 (below_size (by repeat (first | (with_reducible first | exact HB.out | apply below_alloc | apply pw_below_drewN | apply below_drew1 | refine below_set ?_ GE505.out) | exact HB.out))) (fun k_ h_ => h_)) (below_size (by repeat (first | (with_reducible first | exact HB.out | apply below_alloc | apply pw_below_drewN | apply below_drew1 | refine below_set ?_ GE505.out) | exact HB.out)))); have n5_ := Az.mk (blk_below (g := gb505) (o := .cells #[.int .i64 ((rd_T52 t501 x46_3).f0), .int .i64 ((rd_T52 t501 x46_3).f1)] 52 (0, 0)) (bk_ BK505.out) hb); have n6_ := Az.mk (below_step (by repeat (first | (with_reducible first | exact HB.out | apply below_alloc | apply pw_below_drewN | apply below_drew1 | refine below_set ?_ GE505.out) | exact HB.out)) hb); clear HO_0; clear HO_8; clear HO_44; clear HO510; clear BK505; clear HB; have HO_0 := n0_; have HO_8 := n1_; have HO_44 := n2_; have HO510 := n3_; have HO514 := n4_; have BK505 := n5_; have HB := n6_; clear n0_ n1_ n2_ n3_ n4_ n5_ n6_; (try clear hb); (try clear hb2); (try clear hk); (try clear hi); (try clear ho0)))
                  go_ret2
                  exact ⟨_, er_, (by exact Kd.V_nil _ _ _ _ _), by repeat (first | (with_reducible first | exact HB.out | apply below_alloc | apply pw_below_drewN | apply below_drew1 | refine below_set ?_ GE505.out) | exact HB.out)⟩
                ·rw [if_neg c23] at H
                 exact absurd H (by simp)
               ·rw [if_neg c22] at H
                exact absurd H (by simp)
              ·rw [if_neg c21] at H
               exact absurd H (by simp)
             ·rw [if_neg c20] at H
              exact absurd H (by simp)
            ·rw [if_neg c19] at H
             exact absurd H (by simp)
           ·rw [if_neg c18] at H
            have c18b0 := decide_eq_false c18
            clear c18
            have H' := Az.mk H
            clear H
            go_wp2
            go_roundg k3
            case measure => have := HJ3.out; have := HK2.out; have := HK3.out; omega
            case rel => exact ⟨(x8_3), H', ⟨by have := HJ3.out; have := HK2.out; have := HK3.out; omega⟩, ⟨Kd.V_mono (Kd.S_V (sl_ HO_8.out)) (fun k_ hk => by first | exact ⟨(.inr (hk.1)), hk.2⟩ | exact (.inr (hk)))⟩, ⟨bl_ HB⟩⟩
        ·rw [if_neg c13] at H
         have c13b0 := decide_eq_false c13
         have c13b1 : decide (1 < x0_2.length) = false := decide_eq_false (by omega)
         clear c13
         by_cases c41 : 0 < (x0_2.length : Int)
         ·rw [if_pos c41] at H
          have c41b0 := decide_eq_true c41
          have c41b1 : decide (0 < x0_2.length) = true := decide_eq_true (by omega)
          clear c41
          simp only [Option.some.injEq, Prod.mk.injEq] at H
          obtain ⟨rfl, rfl⟩ := H
          obtain ⟨Ao42, co42, eo42⟩ := Kd.V_slice HO_0.out
          subst eo42
          have p500 : 0 ≤ (0 : Int) := (by omega)
          have q500 : 0 < (x0_2.length : Int) := of_decide_eq_true as_
          obtain ⟨ad500, A500_0, c500_0, e500, hx500_0, hl500_0, hi500_0⟩ := at_L5 (Kd.V_reads' HO_0.out).2.2 0 p500 q500
          cases e500
          obtain ⟨ce500, hce500, hMe500, hcc500⟩ := Kd.V_get HO_0.out [] 0 p500 (by first | exact q500 | exact of_decide_eq_true as_ | (have e_ := (Kd.V_reads' HO_0.out).1; omega))
          obtain ⟨ua500_0, uc500_0, rfl, ul500_0, ge500_0⟩ := Kd.FK_slice_open hMe500
          have hv500_0 := hcc500 0 _ rfl
          rw [Nat.add_zero, show ((Kd.slice 5 (Kd.int .u8))).sz = 1 from rfl, Nat.mul_one] at hv500_0
          replace hv500_0 := Option.some.inj (hv500_0.symm.trans hx500_0)
          injection hv500_0 with hva_ hvn_ hvc_
          rw [hva_] at ge500_0
          rw [hvc_] at ul500_0
          have HL500_0 := Az.mk (show Kd.V (Kd.int .u8) 5 _ w.heap.size _ _ (rd_L5 x0_2 0) from Kd.V_mk ul500_0 ge500_0)
          clear hva_ hvn_ hvc_ ge500_0 ul500_0
          clear hcc500 hce500
          have qi500 : (0 < x0_2.length) = True := eq_true (by omega)
          (try rw [show ((0 : Int)).toNat = 0 from rfl] at hx500_0)
          (try rw [Addr.add_zero'] at hx500_0)
          have HR500_0 := Az.mk hi500_0
          have HC500_0 := Az.mk hl500_0
          clear hi500_0 hl500_0
          replace p500 := eq_true p500
          replace q500 := eq_true q500
          go_wp2
          go_ret2
          exact ⟨_, er_, by (with_reducible repeat (first | apply Kd.V_alloc | apply Kd.V_drewN | apply Kd.V_drew)); exact HL500_0.out, bl_ HB⟩
         ·rw [if_neg c41] at H
          exact absurd H (by simp)
end Go.Proofs.Ytiohnpphhepdfaa.PPa
end
section
namespace Go.Proofs.Ytiohnpphhepdfaa.PPa
open Go.RowKit Go.Proofs.YtiohnpphhepdfaaW.PrintWords Go.Proofs.YtiohnpphhepdfaaW.PrintLast Go.Proofs.YtiohnpphhepdfaaW.PrintMore
attribute [local go_sem] max2_int min2_int max_two min_two max_three min_three max_four min_four
attribute [local go_sem] Go.Proofs.Ytiohnpphhepdfaa.MoreWords.str_leq Go.Proofs.Ytiohnpphhepdfaa.MoreWords.str_gtr Go.Proofs.Ytiohnpphhepdfaa.MoreWords.str_geq
set_option linter.unusedVariables false
set_option linter.unusedSimpArgs false
mutual
def r12_Groups.j0 : Nat → Int → Int → List (S52) → Bool → Option ((List (S52)))
 | 0, _, _, _, _ => none
 | k + 1, x0, x1, x5, x21 => if x21 = true then (some x5) else (r12_Groups.l0 k x0 x1 x5 0 1)
def r12_Groups.l0 : Nat → Int → Int → List (S52) → Int → Int → Option ((List (S52)))
 | 0, _, _, _, _, _ => none
 | k + 1, x0, x1, x5, x6, x7 => if x7 ≤ x0 then (if x7 = x0 then (if x5.length < 8796093022208 then (r12_Groups.l0 k x0 x1 (x5 ++ [(⟨x6, x7⟩ : S52)]) x7 (wrap64 (x7 + 1))) else (none)) else (if (wrap64 (x7 - x6)) = x1 then (if x5.length < 8796093022208 then (r12_Groups.l0 k x0 x1 (x5 ++ [(⟨x6, x7⟩ : S52)]) x7 (wrap64 (x7 + 1))) else (none)) else (r12_Groups.l0 k x0 x1 x5 x6 (wrap64 (x7 + 1))))) else (some x5)
end
def r12_Groups.f (k : Nat) (a0 : Int) (a1 : Int) : Option ((List (S52))) := if a0 < 1 then (r12_Groups.j0 k a0 a1 ([] : List (S52)) true) else (if a0 > 65536 then (r12_Groups.j0 k a0 a1 ([] : List (S52)) true) else (if a1 < 2 then (r12_Groups.j0 k a0 a1 ([] : List (S52)) true) else (r12_Groups.j0 k a0 a1 ([] : List (S52)) (decide (a1 > 8)))))
end Go.Proofs.Ytiohnpphhepdfaa.PPa
end
section
namespace Go.Proofs.Ytiohnpphhepdfaa.PPa
open Go.RowKit Go.Proofs.YtiohnpphhepdfaaW.PrintWords Go.Proofs.YtiohnpphhepdfaaW.PrintLast Go.Proofs.YtiohnpphhepdfaaW.PrintMore
attribute [local go_sem] max2_int min2_int max_two min_two max_three min_three max_four min_four
attribute [local go_sem] Go.Proofs.Ytiohnpphhepdfaa.MoreWords.str_leq Go.Proofs.Ytiohnpphhepdfaa.MoreWords.str_gtr Go.Proofs.Ytiohnpphhepdfaa.MoreWords.str_geq
set_option linter.unusedVariables false
set_option linter.unusedSimpArgs false
mutual
def r12_Merge.j0 : Nat → List (List Int) → Int → Int → Bool → Option (List Int × Int)
 | 0, _, _, _, _ => none
 | k + 1, x0, x1, x2, x26 => if x26 = true then (some (([] : List Int), 1)) else (if (x0.length : Int) > 256 then (some (([] : List Int), 6)) else (if (x0.length : Int) < 2 then ((r11_Runs.f k x0 x2).bind fun bt524 => (some (bt524.1, bt524.2))) else ((r12_Groups.f k (x0.length : Int) x1).bind fun t528 => (r12_Merge.l0 k x0 x1 x2 t528 ([] : List (List Int)) 0))))
def r12_Merge.l0 : Nat → List (List Int) → Int → Int → List (S52) → List (List Int) → Int → Option (List Int × Int)
 | 0, _, _, _, _, _, _ => none
 | k + 1, x0, x1, x2, x8, x9, x10 => if x10 < (x8.length : Int) then (if 0 ≤ x10 then (if 0 ≤ ((rd_T52 x8 x10).f0) then (if ((rd_T52 x8 x10).f0) ≤ ((rd_T52 x8 x10).f1) then (if ((rd_T52 x8 x10).f1) ≤ (x0.length : Int) then ((r11_Runs.f k ((x0.take (((rd_T52 x8 x10).f1) : Int).toNat).drop (((rd_T52 x8 x10).f0) : Int).toNat) x2).bind fun bt537 => (if bt537.2 = 0 then (if x9.length < 5864062014805 then (r12_Merge.l0 k x0 x1 x2 x8 (x9 ++ [bt537.1]) (wrap64 (x10 + 1))) else (none)) else (some (([] : List Int), bt537.2)))) else (none)) else (none)) else (none)) else (none)) else (if (x9.length : Int) = 1 then (if 0 < (x9.length : Int) then (some (rd_L5 x9 0, 0)) else (none)) else ((r12_Merge.f k x9 x1 x2).bind fun bt545 => (some (bt545.1, bt545.2))))
def r12_Merge.f : Nat → List (List Int) → Int → Int → Option (List Int × Int)
 | 0, _, _, _ => none
 | k + 1, l0, a1, a2 => if a1 < 2 then (r12_Merge.j0 k l0 a1 a2 true) else (if a1 > 8 then (r12_Merge.j0 k l0 a1 a2 true) else (if a2 < 1 then (r12_Merge.j0 k l0 a1 a2 true) else (r12_Merge.j0 k l0 a1 a2 (decide (a2 > 255)))))
end
end Go.Proofs.Ytiohnpphhepdfaa.PPa
end
section
namespace Go.Proofs.Ytiohnpphhepdfaa.PPa
open Go.RowKit Go.Proofs.YtiohnpphhepdfaaW.PrintWords Go.Proofs.YtiohnpphhepdfaaW.PrintLast Go.Proofs.YtiohnpphhepdfaaW.PrintMore
attribute [local go_sem] max2_int min2_int max_two min_two max_three min_three max_four min_four
attribute [local go_sem] Go.Proofs.Ytiohnpphhepdfaa.MoreWords.str_leq Go.Proofs.Ytiohnpphhepdfaa.MoreWords.str_gtr Go.Proofs.Ytiohnpphhepdfaa.MoreWords.str_geq
set_option maxHeartbeats 8000000
set_option maxRecDepth 100000
set_option linter.unusedVariables false
set_option linter.unusedSimpArgs false
private theorem vstr_ {P : Program} {w : World} {src dst e e' : TypeId} {base : Nat} {ok : Nat → Prop} {v : Value} {xs : List Int} (hs : P.underlying src = some (.slice e)) (he : P.underlying e = some (.int .u8)) (hd : P.underlying dst = some .string) (h : Kd.V (Kd.int .u8) e' w base ok v xs) : (convert src dst v).run P w = .ok (.string (strOfNums xs)) w := by
 obtain ⟨A, c, rfl, hl, hF⟩ := h
 exact Kd.C_string hs he hd (Kd.F_now hF)
def l12_PassesOnce.l0 : Nat → List (List Int) → Bool → Int → List Int → Int → Option (Bool)
 | 0, _, _, _, _, _ => none
 | k + 1, x0, x5, x6, x7, x9 => if x9 ≤ 8 then ((passes_Merge.f k x0 x9 x6).bind fun bt565 => (if bt565.2 = 0 then (if (strOfNums bt565.1).toList = (strOfNums x7).toList then (l12_PassesOnce.l0 k x0 x5 x6 x7 (wrap64 (x9 + 1))) else (none)) else (none))) else (some x5)
def l12_PassesOnce.f (k : Nat) (l0 : List (List Int)) (a1 : Int) : Option (Bool) := (l12_shown.f k).bind fun t559 => ((l12_few.f k l0).bind fun t560 => (if t560 = true then ((loser_Runs.f k l0 (wrap64 (1 + (wrap64 (Int.tmod a1 255))))).bind fun bt561 => (if bt561.2 = 0 then (l12_PassesOnce.l0 k l0 t559 (wrap64 (1 + (wrap64 (Int.tmod a1 255)))) bt561.1 2) else (if t559 = true then (some ((bt561.1.length : Int) == 0)) else (none)))) else (some t559)))
theorem l12_PassesOnce.calls (k : Nat) (A0 : Option Addr) (c0 : Nat) (l0 : List (List Int)) (a1 : Int) (r : Bool) (w : World) (hr0 : Kd.C (Kd.slice 5 (Kd.int .u8)) w A0 l0.length l0) (hc0 : l0.length ≤ c0) (h : l12_PassesOnce.f k l0 a1 = some r) :
  Calls Try.prog 5 #[.slice A0 l0.length c0, .int .u8 a1] w fun e w' => e = .returned (.bool r) ∧ Below w.heap.size w w' := by
 have HR0 := Az.mk hr0
 have HC0 := Az.mk hc0
 clear hr0 hc0
 have HB := Az.mk (Below.refl w.heap.size w)
 have H : ((l12_shown.f k).bind fun t559 => ((l12_few.f k l0).bind fun t560 => (if t560 = true then ((loser_Runs.f k l0 (wrap64 (1 + (wrap64 (Int.tmod a1 255))))).bind fun bt561 => (if bt561.2 = 0 then (l12_PassesOnce.l0 k l0 t559 (wrap64 (1 + (wrap64 (Int.tmod a1 255)))) bt561.1 2) else (if t559 = true then (some ((bt561.1.length : Int) == 0)) else (none)))) else (some t559)))) = some r := h
 clear h
 replace H := Option.bind_eq_some_iff.mp H
 obtain ⟨t559, A30, H⟩ := H
 replace H : ((l12_few.f k l0).bind fun t560 => (if t560 = true then ((loser_Runs.f k l0 (wrap64 (1 + (wrap64 (Int.tmod a1 255))))).bind fun bt561 => (if bt561.2 = 0 then (l12_PassesOnce.l0 k l0 t559 (wrap64 (1 + (wrap64 (Int.tmod a1 255)))) bt561.1 2) else (if t559 = true then (some ((bt561.1.length : Int) == 0)) else (none)))) else (some t559))) = some r := H
 have A3 := Az.mk A30
 clear A30
 replace H := Option.bind_eq_some_iff.mp H
 obtain ⟨t560, A40, H⟩ := H
 replace H : (if t560 = true then ((loser_Runs.f k l0 (wrap64 (1 + (wrap64 (Int.tmod a1 255))))).bind fun bt561 => (if bt561.2 = 0 then (l12_PassesOnce.l0 k l0 t559 (wrap64 (1 + (wrap64 (Int.tmod a1 255)))) bt561.1 2) else (if t559 = true then (some ((bt561.1.length : Int) == 0)) else (none)))) else (some t559)) = some r := H
 have A4 := Az.mk A40
 clear A40
 by_cases c5 : t560 = true
 ·subst c5
  have H1 : ((loser_Runs.f k l0 (wrap64 (1 + (wrap64 (Int.tmod a1 255))))).bind fun bt561 => (if bt561.2 = 0 then (l12_PassesOnce.l0 k l0 t559 (wrap64 (1 + (wrap64 (Int.tmod a1 255)))) bt561.1 2) else (if t559 = true then (some ((bt561.1.length : Int) == 0)) else (none)))) = some r := by rw [if_pos rfl] at H; exact H
  clear H
  have H := H1
  clear H1
  replace H := Option.bind_eq_some_iff.mp H
  obtain ⟨⟨t561, t562⟩, A60, H⟩ := H
  replace H : (if t562 = 0 then (l12_PassesOnce.l0 k l0 t559 (wrap64 (1 + (wrap64 (Int.tmod a1 255)))) t561 2) else (if t559 = true then (some ((t561.length : Int) == 0)) else (none))) = some r := H
  have A6 := Az.mk A60
  clear A60
  by_cases c7 : t562 = 0
  ·rw [if_pos c7] at H
   have c7b0 : (t562 == 0) = true := beq_iff_eq.mpr c7
   have c7b1 : (t562 != 0) = false := bne_eq_false_iff_eq.mpr c7
   clear c7
   have H' := Az.mk H
   clear H
   go_enter Try.func5, Try.ntmps5
   go_wp2_with (first | ((with_reducible refine gate_callee (f := 9) rfl ?_); refine goesL_ (some 12) rfl rfl Try.func9 (by kernel_rfl) rfl #[] rfl ar_ ?_; (with_reducible refine (l12_shown.calls k  t559 _ A3.out).mono ?_); rintro e w8 ⟨rfl, hb⟩; refine ⟨_, rfl, ?_⟩; have n0_ := Az.mk (below_step (bl_ HB) hb); clear HB; have HB := n0_; clear n0_; (try clear hb); (try clear hb2); (try clear hk); (try clear hi)) | ((with_reducible refine gate_callee (f := 10) rfl ?_); refine goesL_ (some 14) rfl rfl Try.func10 (by kernel_rfl) rfl #[.slice A0 l0.length c0] rfl ar_ ?_; (with_reducible refine (l12_few.calls k _ _ l0 true _ ?side1 ?side2 A4.out).mono ?_); (case side1 => exact cl_ (Kd.C_below HR0.out HB.out)); (case side2 => exact HC0.out); rintro e w' ⟨rfl, ⟨nd, rfl⟩⟩; refine ⟨_, rfl, ?_⟩) | ((with_reducible refine gate_callee (f := 7) rfl ?_); refine goesL_ (some 24) rfl rfl Try.func7 (by kernel_rfl) rfl #[.slice A0 l0.length c0, .int .i64 (wrap64 (1 + (wrap64 (Int.tmod a1 255))))] rfl ar_ ?_; (with_reducible refine (loser_Runs.calls k _ _ l0 (wrap64 (1 + (wrap64 (Int.tmod a1 255)))) t561 t562 _ ?side1 ?side2 A6.out).mono ?_); (case side1 => repeat (first | exact (Kd.C_below HR0.out (bl_ HB)) | (with_reducible refine Kd.C_alloc ?_ _) | (with_reducible refine Kd.C_drewN ?_ _) | (with_reducible refine Kd.C_drew ?_))); (case side2 => exact HC0.out); rintro e w9 ⟨v563, rfl, ho0, hb⟩; refine ⟨_, rfl, ?_⟩; have n0_ := Az.mk (Kd.R_lower ho0 (below_size (bl_ HB))); have n1_ := Az.mk (below_step (bl_ HB) hb); clear HB; have HO564 := n0_; have HB := n1_; clear n0_ n1_; (try clear hb); (try clear hb2); (try clear hk); (try clear hi); (try clear ho0)))
   go_loopg [9] k (fun kq v9 w' => ∃ (x9_1 : Int), v9 = .int .i64 x9_1 ∧ Az (l12_PassesOnce.l0 kq l0 t559 (wrap64 (1 + (wrap64 (Int.tmod a1 255)))) t561 x9_1 = some r) ∧ Az (kq ≤ k) ∧ Az (Kd.R (Kd.int .u8) 5 w' w.heap.size (fun _ => True) v563 t561) ∧ Az (Below w.heap.size w w'))
   case atStart => exact ⟨(2), (es_), H', ⟨Nat.le_refl _⟩, ⟨rl_ HO564.out⟩, ⟨bl_ HB⟩⟩
   case round =>
    clear H'
    try clear c1
    try clear p2
    try clear c5
    try clear p6
    try clear c7
    try clear c7b0
    try clear c7b1
    try clear c9
    obtain ⟨x9_1, rfl, HA, HK1, HO_7, HB⟩ := hrel
    cases gk with
    | zero => exact absurd HA.out (by simp [l12_PassesOnce.l0])
    | succ k1 =>
     have H := HA.out
     clear HA
     simp only [l12_PassesOnce.l0] at H
     by_cases c10 : x9_1 ≤ 8
     ·rw [if_pos c10] at H
      have c10b0 := decide_eq_true c10
      clear c10
      replace H := Option.bind_eq_some_iff.mp H
      obtain ⟨⟨t565, t568⟩, A110, H⟩ := H
      replace H : (if t568 = 0 then (if (strOfNums t565).toList = (strOfNums t561).toList then (l12_PassesOnce.l0 k1 l0 t559 (wrap64 (1 + (wrap64 (Int.tmod a1 255)))) t561 (wrap64 (x9_1 + 1))) else (none)) else (none)) = some r := H
      have A11 := Az.mk A110
      clear A110
      by_cases c12 : t568 = 0
      ·rw [if_pos c12] at H
       have c12b0 : (t568 == 0) = true := beq_iff_eq.mpr c12
       have c12b1 : (t568 != 0) = false := bne_eq_false_iff_eq.mpr c12
       clear c12
       by_cases c13 : (strOfNums t565).toList = (strOfNums t561).toList
       ·rw [if_pos c13] at H
        have c13b0 : ((strOfNums t565).toList == (strOfNums t561).toList) = true := beq_iff_eq.mpr c13
        have c13b1 : ((strOfNums t565).toList != (strOfNums t561).toList) = false := bne_eq_false_iff_eq.mpr c13
        clear c13
        have H' := Az.mk H
        clear H
        go_wp2_with (first | ((with_reducible refine gate_callee (f := 11) rfl ?_); refine goesL_ (some 43) rfl rfl Try.func11 (by kernel_rfl) rfl #[.slice A0 l0.length c0, .int .i64 x9_1, .int .i64 (wrap64 (1 + (wrap64 (Int.tmod a1 255))))] rfl ar_ ?_; (with_reducible refine (passes_Merge.calls k1 (fun k_ => k_ < w.heap.size) _ _ l0 x9_1 (wrap64 (1 + (wrap64 (Int.tmod a1 255)))) t565 t568 _ ?side1 A11.out).mono ?_); (case side1 => exact Kd.V_mk HC0.out (Kd.F_below (Kd.C_F (Kd.heap_slice 5 (Kd.heap_int .u8)) HR0.out) (bl_ HB))); rintro e w14 ⟨v566, rfl, ho0, hb⟩; refine ⟨_, rfl, ?_⟩; have n0_ := Az.mk (Kd.R_below (rl_ HO_7.out) hb); have n1_ := Az.mk (Kd.V_lower (Kd.V_mono (ok' := fun k_ => some k_ ≠ (v563 : Value).ownBlock) ho0 (fun k_ hk_ => Or.elim hk_ (fun hs_ => fun e_ => Nat.not_le.2 hs_ (Kd.R_base HO_7.out k_ e_.symm)) (fun hn_ => (Kd.fresh' (Kd.R_lt (rl_ HO_7.out)) k_ hn_)))) (below_size (bl_ HB))); have n2_ := Az.mk (below_step (bl_ HB) hb); clear HO_7; clear HB; have HO_7 := n0_; have HO567 := n1_; have HB := n2_; clear n0_ n1_ n2_; (try clear hb); (try clear hb2); (try clear hk); (try clear hi); (try clear ho0); have hcv15 := vstr_ (P := Try.prog) Try.underlying24 Try.underlying5 Try.underlying9 HO567.out; have hcv16 := own_string (P := Try.prog) Try.underlying24 Try.underlying5 Try.underlying9 (Kd.own_of_R HO_7.out)))
        go_roundg k1
        case measure => have := HK1.out; omega
        case rel => exact ⟨(wrap64 (x9_1 + 1)), (es_), H', ⟨by have := HK1.out; omega⟩, ⟨rl_ HO_7.out⟩, ⟨bl_ HB⟩⟩
       ·rw [if_neg c13] at H
        exact absurd H (by simp)
      ·rw [if_neg c12] at H
       exact absurd H (by simp)
     ·rw [if_neg c10] at H
      have c10b0 := decide_eq_false c10
      clear c10
      obtain rfl := Option.some.inj H
      go_wp2
      go_ret
      exact ⟨by first | rfl | (simp [errW_none, errW_some] <;> rfl) | (have e_ := Option.some.inj (A3.out.symm.trans A4.out); subst e_; rfl) | (have e_ := Option.some.inj (A3.out.symm.trans A6.out); subst e_; rfl) | (have e_ := Option.some.inj (A4.out.symm.trans A6.out); subst e_; rfl) | (have e_ := Option.some.inj (A3.out.symm.trans A11.out); subst e_; rfl) | (have e_ := Option.some.inj (A4.out.symm.trans A11.out); subst e_; rfl) | (have e_ := Option.some.inj (A6.out.symm.trans A11.out); subst e_; rfl) | (simp [*, errW_none, errW_some] <;> rfl), bl_ HB⟩
  ·rw [if_neg c7] at H
   have c7b0 : (t562 == 0) = false := beq_eq_false_iff_ne.mpr c7
   have c7b1 : (t562 != 0) = true := bne_iff_ne.mpr c7
   by_cases c17 : t559 = true
   ·subst c17
    have H1 : (some ((t561.length : Int) == 0)) = some r := by rw [if_pos rfl] at H; exact H
    clear H
    have H := H1
    clear H1
    obtain rfl := Option.some.inj H
    go_enter Try.func5, Try.ntmps5
    go_wp2_with (first | ((with_reducible refine gate_callee (f := 9) rfl ?_); refine goesL_ (some 12) rfl rfl Try.func9 (by kernel_rfl) rfl #[] rfl ar_ ?_; (with_reducible refine (l12_shown.calls k  true _ A3.out).mono ?_); rintro e w18 ⟨rfl, hb⟩; refine ⟨_, rfl, ?_⟩; have n0_ := Az.mk (below_step (bl_ HB) hb); clear HB; have HB := n0_; clear n0_; (try clear hb); (try clear hb2); (try clear hk); (try clear hi)) | ((with_reducible refine gate_callee (f := 10) rfl ?_); refine goesL_ (some 14) rfl rfl Try.func10 (by kernel_rfl) rfl #[.slice A0 l0.length c0] rfl ar_ ?_; (with_reducible refine (l12_few.calls k _ _ l0 true _ ?side1 ?side2 A4.out).mono ?_); (case side1 => exact cl_ (Kd.C_below HR0.out HB.out)); (case side2 => exact HC0.out); rintro e w' ⟨rfl, ⟨nd, rfl⟩⟩; refine ⟨_, rfl, ?_⟩) | ((with_reducible refine gate_callee (f := 7) rfl ?_); refine goesL_ (some 24) rfl rfl Try.func7 (by kernel_rfl) rfl #[.slice A0 l0.length c0, .int .i64 (wrap64 (1 + (wrap64 (Int.tmod a1 255))))] rfl ar_ ?_; (with_reducible refine (loser_Runs.calls k _ _ l0 (wrap64 (1 + (wrap64 (Int.tmod a1 255)))) t561 t562 _ ?side1 ?side2 A6.out).mono ?_); (case side1 => repeat (first | exact (Kd.C_below HR0.out (bl_ HB)) | (with_reducible refine Kd.C_alloc ?_ _) | (with_reducible refine Kd.C_drewN ?_ _) | (with_reducible refine Kd.C_drew ?_))); (case side2 => exact HC0.out); rintro e w19 ⟨v563, rfl, ho0, hb⟩; refine ⟨_, rfl, ?_⟩; have n0_ := Az.mk (Kd.R_lower ho0 (below_size (bl_ HB))); have n1_ := Az.mk (below_step (bl_ HB) hb); clear HB; have HO564 := n0_; have HB := n1_; clear n0_ n1_; (try clear hb); (try clear hb2); (try clear hk); (try clear hi); (try clear ho0); obtain ⟨Ao20, co20, eo20⟩ := Kd.R_slice HO564.out; subst eo20))
    go_ret
    exact ⟨by first | rfl | (simp [errW_none, errW_some] <;> rfl) | (have e_ := Option.some.inj (A3.out.symm.trans A4.out); subst e_; rfl) | (have e_ := Option.some.inj (A3.out.symm.trans A6.out); subst e_; rfl) | (have e_ := Option.some.inj (A4.out.symm.trans A6.out); subst e_; rfl) | (have e_ := Option.some.inj (A3.out.symm.trans A11.out); subst e_; rfl) | (have e_ := Option.some.inj (A4.out.symm.trans A11.out); subst e_; rfl) | (have e_ := Option.some.inj (A6.out.symm.trans A11.out); subst e_; rfl) | (simp [*, errW_none, errW_some] <;> rfl), bl_ HB⟩
   ·replace c17 := Bool.eq_false_iff.mpr c17
    subst c17
    have H1 : (none) = some r := by rw [if_neg (show ¬ (false = true) by decide)] at H; exact H
    clear H
    have H := H1
    clear H1
    exact absurd H (by simp)
 ·replace c5 := Bool.eq_false_iff.mpr c5
  subst c5
  have H1 : (some t559) = some r := by rw [if_neg (show ¬ (false = true) by decide)] at H; exact H
  clear H
  have H := H1
  clear H1
  obtain rfl := Option.some.inj H
  go_enter Try.func5, Try.ntmps5
  go_wp2_with (first | ((with_reducible refine gate_callee (f := 9) rfl ?_); refine goesL_ (some 12) rfl rfl Try.func9 (by kernel_rfl) rfl #[] rfl ar_ ?_; (with_reducible refine (l12_shown.calls k  t559 _ A3.out).mono ?_); rintro e w21 ⟨rfl, hb⟩; refine ⟨_, rfl, ?_⟩; have n0_ := Az.mk (below_step (bl_ HB) hb); clear HB; have HB := n0_; clear n0_; (try clear hb); (try clear hb2); (try clear hk); (try clear hi)) | ((with_reducible refine gate_callee (f := 10) rfl ?_); refine goesL_ (some 14) rfl rfl Try.func10 (by kernel_rfl) rfl #[.slice A0 l0.length c0] rfl ar_ ?_; (with_reducible refine (l12_few.calls k _ _ l0 false _ ?side1 ?side2 A4.out).mono ?_); (case side1 => exact cl_ (Kd.C_below HR0.out HB.out)); (case side2 => exact HC0.out); rintro e w' ⟨rfl, ⟨nd, rfl⟩⟩; refine ⟨_, rfl, ?_⟩))
  go_ret
  exact ⟨by first | rfl | (simp [errW_none, errW_some] <;> rfl) | (have e_ := Option.some.inj (A3.out.symm.trans A4.out); subst e_; rfl) | (have e_ := Option.some.inj (A3.out.symm.trans A6.out); subst e_; rfl) | (have e_ := Option.some.inj (A4.out.symm.trans A6.out); subst e_; rfl) | (have e_ := Option.some.inj (A3.out.symm.trans A11.out); subst e_; rfl) | (have e_ := Option.some.inj (A4.out.symm.trans A11.out); subst e_; rfl) | (have e_ := Option.some.inj (A6.out.symm.trans A11.out); subst e_; rfl) | (simp [*, errW_none, errW_some] <;> rfl), bl_ HB⟩
end Go.Proofs.Ytiohnpphhepdfaa.PPa
end
section
namespace Go.Proofs.Ytiohnpphhepdfaa.NumLib
open Go.RowKit Go.Proofs.Ytiohnpphhepdfaa.PPa Go.Proofs.YtiohnpphhepdfaaW.PrintWords Go.Proofs.YtiohnpphhepdfaaW.PrintLast
def put : Nat → Int → List Int
 | 0, n => [n]
 | j + 1, n => if n ≥ 128 then (n % 128 + 128) :: put j (n / 128) else [n]
def scanL : Nat → List Int → Option Nat
 | 0, _ => some 0
 | _ + 1, [] => none
 | k + 1, x :: t => if x < 128 then some 0 else (scanL k t).map (· + 1)
def valL : Nat → List Int → Int
 | 0, _ => 0
 | _ + 1, [] => 0
 | c + 1, x :: t => x % 128 + 128 * valL c t
def Bytes (l : List Int) : Prop := ∀ x ∈ l, 0 ≤ x ∧ x ≤ 255
theorem rd_drop (l : List Int) (s : Nat) (h : s < l.length) : l.drop s = rd l s :: l.drop (s + 1) := by
 rw [List.drop_eq_getElem_cons h]
 unfold rd
 rw [Int.toNat_natCast, List.getD_eq_getElem?_getD, List.getElem?_eq_getElem h, Option.getD_some]
theorem scan_eq (l : List Int) : ∀ (k s : Nat), s ≤ l.length → num_Get.scan l k s = (scanL k (l.drop s)).map (s + ·)
 | 0, s, _ => by simp [num_Get.scan, scanL]
 | k + 1, s, h => by
  rw [num_Get.scan]
  by_cases he : s = l.length
  ·rw [if_pos he, he, List.drop_length]; rfl
  ·rw [if_neg he, rd_drop l s (by omega), scanL, scan_eq l k (s + 1) (by omega)]
   by_cases hx : rd l s < 128
   ·rw [if_pos hx, if_pos hx]; rfl
   ·rw [if_neg hx, if_neg hx, Option.map_map]
    congr 1
    funext z
    simp only [Function.comp_apply]
    omega
theorem vals_eq (l : List Int) : ∀ (c i : Nat), i + c ≤ l.length → num_Get.vals l i c = valL c (l.drop i)
 | 0, i, _ => by simp [num_Get.vals, valL]
 | c + 1, i, h => by
  rw [num_Get.vals, rd_drop l i (by omega), valL, vals_eq l c (i + 1) (by omega)]
theorem scanL_lt : ∀ (k : Nat) (l : List Int) (c : Nat), scanL k l = some c → c ≤ k ∧ (c < k → c < l.length)
 | 0, l, c, h => by simp [scanL] at h; omega
 | k + 1, [], c, h => by simp [scanL] at h
 | k + 1, x :: t, c, h => by
  rw [scanL] at h
  by_cases hx : x < 128
  ·rw [if_pos hx] at h
   have := Option.some.inj h
   simp
   omega
  ·rw [if_neg hx] at h
   cases hs : scanL k t with
   | none => rw [hs] at h; simp at h
   | some c' =>
    rw [hs] at h
    simp at h
    have := scanL_lt k t c' hs
    simp
    omega
def get (l : List Int) : Int × Int × Int :=
 match scanL 10 l with
 | none => (0, 0, 3)
 | some c => if c = 10 ∨ (c = 9 ∧ rd l c > 1) ∨ (0 < c ∧ rd l c = 0) then (0, 0, 2) else (valL (c + 1) l, (c : Int) + 1, 0)
theorem ans_eq (l : List Int) : num_Get.ans l = get l := by
 unfold num_Get.ans get
 rw [scan_eq l 10 0 (Nat.zero_le _), List.drop_zero]
 cases hs : scanL 10 l with
 | none => rfl
 | some c =>
  simp only [Option.map_some, Nat.zero_add]
  by_cases hb : c = 10 ∨ (c = 9 ∧ rd l c > 1) ∨ (0 < c ∧ rd l c = 0)
  ·rw [if_pos hb, if_pos hb]
  ·have := scanL_lt 10 l c hs
   rw [if_neg hb, if_neg hb, vals_eq l (c + 1) 0 (by omega), List.drop_zero]
theorem get_f (l : List Int) (h : Bytes l) : num_Get.f l = some (get l) := by
 have h' : ∀ x ∈ l, 0 ≤ x ∧ x ≤ 255 := h
 unfold num_Get.f
 rw [if_pos h', ans_eq]
theorem put_spec : ∀ (j : Nat) (n : Int), 0 ≤ n → n < 128 ^ (j + 1) → ∃ c, c ≤ j ∧ (put j n).length = c + 1 ∧ (∀ b, scanL (j + 1) (put j n ++ b) = some c) ∧ (∀ b, valL (c + 1) (put j n ++ b) = n) ∧ (∀ b, rd (put j n ++ b) c = n / 128 ^ c) ∧ n / 128 ^ c < 128 ∧ (0 < c → 128 ^ c ≤ n)
 | 0, n, h0, h1 => by
  refine ⟨0, Nat.le_refl _, rfl, fun b => ?_, fun b => ?_, fun b => ?_, by simp at h1 ⊢; omega, by simp⟩
  ·simp only [put, List.singleton_append, scanL]
   rw [if_pos (by simpa using h1)]
  ·simp only [put, List.singleton_append, valL]
   simp at h1
   omega
  ·simp [put, rd]
 | j + 1, n, h0, h1 => by
  by_cases hn : n ≥ 128
  ·have h2 : n / 128 < 128 ^ (j + 1) := by
    rw [Int.pow_succ] at h1
    generalize (128 : Int) ^ (j + 1) = p at *
    omega
   obtain ⟨c, hc, hl, hs, hv, hr, hlt, hge⟩ := put_spec j (n / 128) (by omega) h2
   have hd : n / 128 ^ (c + 1) = n / 128 / 128 ^ c := by
    rw [Int.pow_succ, Int.mul_comm, Int.ediv_ediv_of_nonneg (by decide)]
   have e : put (j + 1) n = (n % 128 + 128) :: put j (n / 128) := by rw [put, if_pos hn]
   refine ⟨c + 1, by omega, by rw [e, List.length_cons, hl], fun b => ?_, fun b => ?_, fun b => ?_, by rw [hd]; exact hlt, fun _ => ?_⟩
   ·rw [e, List.cons_append, scanL, if_neg (by omega), hs b]; rfl
   ·rw [e, List.cons_append, valL, hv b]; omega
   ·have := hr b
    rw [e, hd, ← this]
    unfold rd
    rw [Int.toNat_natCast, Int.toNat_natCast]
    rfl
   ·rw [Int.pow_succ]
    by_cases h : 0 < c
    ·have := hge h
     generalize (128 : Int) ^ c = p at *
     omega
    ·obtain rfl : c = 0 := by omega
     simp
     omega
  ·have e : put (j + 1) n = [n] := by rw [put, if_neg hn]
   refine ⟨0, by omega, by rw [e]; rfl, fun b => ?_, fun b => ?_, fun b => ?_, by simp; omega, by simp⟩
   ·rw [e]; simp only [List.singleton_append, scanL]; rw [if_pos (by omega)]
   ·rw [e]; simp only [List.singleton_append, valL]; omega
   ·rw [e]; simp [rd]
abbrev putn (n : Int) : List Int := put 9 n
theorem get_put (n : Int) (h0 : 0 ≤ n) (h1 : n < 18446744073709551616) (b : List Int) : get (putn n ++ b) = (n, ((putn n).length : Int), 0) := by
 obtain ⟨c, hc, hl, hs, hv, hr, hlt, hge⟩ := put_spec 9 n h0 (by omega)
 unfold get
 rw [hs b]
 simp only
 rw [hr b, hv b, hl, if_neg]
 ·simp
 ·rintro (h | ⟨h, h'⟩ | ⟨h, h'⟩)
  ·omega
  ·subst h
   have : (128 : Int) ^ 9 = 9223372036854775808 := by decide
   rw [this] at h'
   omega
  ·have := hge h
   have hp : (0 : Int) < 128 ^ c := Int.pow_pos (by decide)
   have := Int.le_ediv_of_mul_le hp (by rw [Int.one_mul]; exact this)
   omega
theorem put_bytes : ∀ (j : Nat) (n : Int), 0 ≤ n → n < 128 ^ (j + 1) → Bytes (put j n)
 | 0, n, h0, h1, x, hx => by
  simp [put] at hx h1
  omega
 | j + 1, n, h0, h1, x, hx => by
  rw [put] at hx
  by_cases hn : n ≥ 128
  ·rw [if_pos hn, List.mem_cons] at hx
   rcases hx with hx | hx
   ·omega
   ·refine put_bytes j (n / 128) (by omega) ?_ x hx
    rw [Int.pow_succ] at h1
    generalize (128 : Int) ^ (j + 1) = p at *
    omega
  ·rw [if_neg hn] at hx
   simp at hx
   omega
theorem putn_bytes (n : Int) (h0 : 0 ≤ n) (h1 : n < 18446744073709551616) : Bytes (putn n) := put_bytes 9 n h0 (by omega)
theorem bytes_append {a b : List Int} (ha : Bytes a) (hb : Bytes b) : Bytes (a ++ b) := fun x hx => by
 rcases List.mem_append.1 hx with h | h
 ·exact ha x h
 ·exact hb x h
theorem bytes_take {a : List Int} (ha : Bytes a) (k : Nat) : Bytes (a.take k) := fun x hx => ha x (List.mem_of_mem_take hx)
theorem bytes_drop {a : List Int} (ha : Bytes a) (k : Nat) : Bytes (a.drop k) := fun x hx => ha x (List.mem_of_mem_drop hx)
theorem wf_byte {x : Int} (h : (Lit.int .u8 x).wf = true) : 0 ≤ x ∧ x ≤ 255 := by simp [Lit.wf, IntKind.min, IntKind.max, IntKind.bits, IntKind.signed] at h; omega
theorem putn_len (n : Int) (h0 : 0 ≤ n) (h1 : n < 18446744073709551616) : 1 ≤ (putn n).length ∧ (putn n).length ≤ 10 := by
 obtain ⟨c, hc, hl, _⟩ := put_spec 9 n h0 (by omega)
 rw [hl]
 omega
theorem put_one : ∀ (j : Nat) (n : Int), n < 128 → put j n = [n]
 | 0, n, _ => rfl
 | j + 1, n, h => by rw [put, if_neg (by omega)]
theorem put_of : ∀ (k c : Nat) (l : List Int), Bytes l → scanL (k + 1) l = some c → c ≤ k → (0 < c → rd l c ≠ 0) → put k (valL (c + 1) l) = l.take (c + 1)
 | k, c, [], _, hs, _, _ => by simp [scanL] at hs
 | k, c, x :: t, hb, hs, hc, hz => by
  have hx0 := hb x List.mem_cons_self
  rw [scanL] at hs
  by_cases hx : x < 128
  ·rw [if_pos hx] at hs
   obtain rfl : 0 = c := Option.some.inj hs
   rw [valL]
   have : valL 0 t = 0 := by cases t <;> rfl
   rw [this, put_one _ _ (by omega)]
   simp
   omega
  ·rw [if_neg hx] at hs
   cases k with
   | zero => simp [scanL] at hs; omega
   | succ k =>
    cases hs2 : scanL (k + 1) t with
    | none => rw [hs2] at hs; simp at hs
    | some d =>
     rw [hs2] at hs
     simp at hs
     subst hs
     have hbt : Bytes t := fun y hy => hb y (List.mem_cons_of_mem _ hy)
     have hrd : ∀ q : Nat, rd (x :: t) (q + 1 : Nat) = rd t q := fun q => by
      unfold rd
      rw [Int.toNat_natCast, Int.toNat_natCast]
      rfl
     have hz' : rd t d ≠ 0 := by have := hz (by omega); rwa [hrd] at this
     have ih := put_of k d t hbt hs2 (by omega) (fun _ => hz')
     have hpos : 0 < valL (d + 1) t := by
      have hd := scanL_lt _ _ _ hs2
      exact valL_pos d t hbt (hd.2 (by omega)) hz' (last_lt _ _ _ hs2 (by omega))
     rw [valL, put, if_pos (by omega), List.take_succ_cons]
     have e1 : (x % 128 + 128 * valL (d + 1) t) / 128 = valL (d + 1) t := by omega
     have e2 : (x % 128 + 128 * valL (d + 1) t) % 128 + 128 = x := by omega
     rw [e1, e2, ih]
where
 last_lt : ∀ (k : Nat) (l : List Int) (c : Nat), scanL k l = some c → c < k → rd l c < 128
  | 0, _, c, _, h => by omega
  | k + 1, [], c, hs, _ => by simp [scanL] at hs
  | k + 1, x :: t, c, hs, h => by
   rw [scanL] at hs
   by_cases hx : x < 128
   ·rw [if_pos hx] at hs
    obtain rfl : 0 = c := Option.some.inj hs
    exact hx
   ·rw [if_neg hx] at hs
    cases hs2 : scanL k t with
    | none => rw [hs2] at hs; simp at hs
    | some d =>
     rw [hs2] at hs
     simp at hs
     subst hs
     have := last_lt k t d hs2 (by omega)
     unfold rd at this ⊢
     rw [Int.toNat_natCast] at this ⊢
     exact this
 valL_pos : ∀ (d : Nat) (t : List Int), Bytes t → d < t.length → rd t d ≠ 0 → rd t d < 128 → 0 < valL (d + 1) t
  | _, [], _, h, _, _ => by simp at h
  | 0, x :: t, hb, _, hz, hl => by
   have := hb x List.mem_cons_self
   have e : rd (x :: t) (0 : Nat) = x := rfl
   rw [e] at hz hl
   have : valL 0 t = 0 := by cases t <;> rfl
   rw [valL, this]
   omega
  | d + 1, x :: t, hb, h, hz, hl => by
   have := hb x List.mem_cons_self
   have e : rd (x :: t) (d + 1 : Nat) = rd t d := by
    unfold rd
    rw [Int.toNat_natCast, Int.toNat_natCast]
    rfl
   rw [e] at hz hl
   have := valL_pos d t (fun y hy => hb y (List.mem_cons_of_mem _ hy)) (by simpa using h) hz hl
   rw [valL]
   omega
theorem valL_range : ∀ (c : Nat) (l : List Int), 0 ≤ valL c l ∧ valL c l < 128 ^ c
 | 0, l => by cases l <;> simp [valL]
 | c + 1, [] => by
  have : (0 : Int) < 128 ^ (c + 1) := Int.pow_pos (by decide)
  simp only [valL]
  omega
 | c + 1, x :: t => by
  have := valL_range c t
  rw [valL, Int.pow_succ]
  omega
theorem valL_top : ∀ (c : Nat) (l : List Int), rd l c % 128 ≤ 1 → valL (c + 1) l < 2 * 128 ^ c
 | 0, [], h => by simp [valL]
 | 0, x :: t, h => by
  have : valL 0 t = 0 := by cases t <;> rfl
  have e : rd (x :: t) (0 : Nat) = x := rfl
  rw [e] at h
  rw [valL, this]
  simp
  omega
 | c + 1, [], h => by
  have : (0 : Int) < 128 ^ (c + 1) := Int.pow_pos (by decide)
  simp only [valL]
  omega
 | c + 1, x :: t, h => by
  have e : rd (x :: t) (c + 1 : Nat) = rd t c := by
   unfold rd
   rw [Int.toNat_natCast, Int.toNat_natCast]
   rfl
  rw [e] at h
  have := valL_top c t h
  rw [valL, Int.pow_succ]
  generalize valL (c + 1) t = v at *
  generalize (128 : Int) ^ c = p at *
  omega
theorem get_ok (l : List Int) (hb : Bytes l) (x i : Int) (h : get l = (x, i, 0)) : 1 ≤ i ∧ i ≤ l.length ∧ 0 ≤ x ∧ x < 18446744073709551616 ∧ putn x = l.take i.toNat := by
 unfold get at h
 cases hs : scanL 10 l with
 | none => rw [hs] at h; simp at h
 | some c =>
  rw [hs] at h
  simp only at h
  by_cases hbad : c = 10 ∨ (c = 9 ∧ rd l c > 1) ∨ (0 < c ∧ rd l c = 0)
  ·rw [if_pos hbad] at h; simp at h
  ·rw [if_neg hbad] at h
   have hl := scanL_lt 10 l c hs
   obtain ⟨rfl, rfl⟩ : valL (c + 1) l = x ∧ (c : Int) + 1 = i := by simpa using h
   have hr := valL_range (c + 1) l
   refine ⟨by omega, by omega, hr.1, ?_, ?_⟩
   ·by_cases h9 : c = 9
    ·subst h9
     have ht := valL_top 9 l (by
      have hx : 0 ≤ rd l (9 : Nat) := by
       unfold rd
       rw [Int.toNat_natCast, List.getD_eq_getElem?_getD, List.getElem?_eq_getElem (by omega), Option.getD_some]
       exact (hb _ (List.getElem_mem _)).1
      omega)
     exact Int.lt_of_lt_of_le ht (by decide)
    ·have h8 : (128 : Int) ^ (c + 1) ≤ 128 ^ 9 := by
      have := Nat.pow_le_pow_right (n := 128) (by decide) (show c + 1 ≤ 9 by omega)
      exact_mod_cast this
     exact Int.lt_of_lt_of_le hr.2 (Int.le_trans h8 (by decide))
   ·have e : ((c : Int) + 1).toNat = c + 1 := by omega
    rw [e]
    exact put_of 9 c l hb hs (by omega) (fun h => by omega)
theorem get_bad (l : List Int) (x i e : Int) (h : get l = (x, i, e)) (he : e ≠ 0) : x = 0 ∧ i = 0 ∧ (e = 2 ∨ e = 3) := by
 unfold get at h
 split at h
 ·simp at h; omega
 ·split at h
  ·simp at h; omega
  ·simp at h; omega
theorem put_l0 : ∀ (j k : Nat) (n : Int) (l : List Int), j < k → 0 ≤ n → n < 128 ^ (j + 1) → l.length + j < 140737488355328 → num_Put.l0 k n l = some (l ++ put j n)
 | j, 0, n, l, hk, _, _, _ => by omega
 | 0, k + 1, n, l, hk, h0, h1, hl => by
  simp at h1
  rw [num_Put.l0, if_neg (by omega), if_pos (by omega), put]
  congr 2
  simp
  omega
 | j + 1, k + 1, n, l, hk, h0, h1, hl => by
  rw [num_Put.l0, put]
  by_cases hn : n ≥ 128
  ·have h2 : n / 128 < 128 ^ (j + 1) := by
    rw [Int.pow_succ] at h1
    generalize (128 : Int) ^ (j + 1) = p at *
    omega
   rw [if_pos hn, if_pos (by omega), if_pos hn, put_l0 j k _ _ (by omega) (by omega) h2 (by simp; omega), or128 n h0]
   simp
  ·rw [if_neg hn, if_pos (by omega), if_neg hn]
   congr 3
   omega
where
 or128 (n : Int) (h0 : 0 ≤ n) : Go.bits .or .u8 (n % 256) 128 = n % 128 + 128 := by
  have h : ∀ m : Fin 256, Go.bits .or .u8 ((m.val : Nat) : Int) 128 = ((m.val : Nat) : Int) % 128 + 128 := by decide +kernel
  have hm : (n % 256).toNat < 256 := by omega
  have := h ⟨(n % 256).toNat, hm⟩
  simp only [Int.toNat_of_nonneg (show 0 ≤ n % 256 by omega)] at this
  rw [this]
  omega
theorem put_f (k : Nat) (n : Int) (l : List Int) (hk : 9 < k) (h0 : 0 ≤ n) (h1 : n < 18446744073709551616) (hl : l.length + 10 < 140737488355328) : num_Put.f k l n = some (l ++ putn n) := by
 unfold num_Put.f
 rw [Option.bind_some, if_pos (by simp; omega)]
 exact put_l0 9 k n l hk h0 (by omega) (by omega)
theorem u64_wrap (n : Int) : IntKind.u64.wrap n = n % 18446744073709551616 := by simp [IntKind.wrap, IntKind.bits, IntKind.signed]
end Go.Proofs.Ytiohnpphhepdfaa.NumLib
end
section
namespace Go.Proofs.Ytiohnpphhepdfaa.CrcLib
open Go.RowKit Go.Proofs.Ytiohnpphhepdfaa.PPa Go.Proofs.YtiohnpphhepdfaaW.PrintWords Go.Proofs.YtiohnpphhepdfaaW.PrintLast
def Bytes (l : List Int) : Prop := ∀ x ∈ l, 0 ≤ x ∧ x ≤ 255
theorem wf_byte {x : Int} (h : (Lit.int .u8 x).wf = true) : 0 ≤ x ∧ x ≤ 255 := by simp [Lit.wf, IntKind.min, IntKind.max, IntKind.bits, IntKind.signed] at h; omega
abbrev bv (x : Int) : BitVec 32 := BitVec.ofInt 32 x
def num (b : BitVec 32) : Int := (b.toNat : Int)
theorem num_lt (b : BitVec 32) : 0 ≤ num b ∧ num b < 4294967296 := by
 have := b.isLt
 unfold num
 omega
theorem bv_num (b : BitVec 32) : bv (num b) = b := by
 apply BitVec.eq_of_toNat_eq
 unfold num bv
 rw [BitVec.ofInt_natCast, BitVec.toNat_ofNat, Nat.mod_eq_of_lt b.isLt]
theorem num_bv (x : Int) (h0 : 0 ≤ x) (h1 : x < 4294967296) : num (bv x) = x := by
 obtain ⟨n, rfl⟩ := Int.eq_ofNat_of_zero_le h0
 unfold num bv
 rw [BitVec.ofInt_natCast, BitVec.toNat_ofNat, Nat.mod_eq_of_lt (by omega)]
theorem num_inj {a b : BitVec 32} (h : num a = num b) : a = b := by rw [← bv_num a, h, bv_num]
theorem xor_num (a b : Int) : Go.bits .xor .u32 a b = num (bv a ^^^ bv b) := by
 have h := (bv a ^^^ bv b).isLt
 show IntKind.u32.wrap (((bv a ^^^ bv b).toNat : Nat) : Int) = num (bv a ^^^ bv b)
 unfold num
 generalize (bv a ^^^ bv b).toNat = q at *
 rw [IntKind.wrap_u32]
 omega
theorem and_one (c : Int) (h0 : 0 ≤ c) : Go.bits .and .u32 c 1 = c % 2 := by
 obtain ⟨n, rfl⟩ := Int.eq_ofNat_of_zero_le h0
 show IntKind.u32.wrap (((BitVec.ofInt 32 (n : Int) &&& BitVec.ofInt 32 (1 : Int)).toNat : Nat) : Int) = _
 have e1 : BitVec.ofInt 32 (1 : Int) = 1#32 := rfl
 rw [IntKind.wrap_u32, e1, BitVec.ofInt_natCast, BitVec.toNat_and, BitVec.toNat_ofNat, BitVec.toNat_ofNat, show 1 % 2 ^ 32 = 1 from rfl, Nat.and_one_is_mod]
 omega
def P : BitVec 32 := 3988292384#32
def S1 (c : BitVec 32) : BitVec 32 := (c >>> 1) ^^^ (if c.getLsbD 0 then P else 0#32)
theorem x4 (a p b q : BitVec 32) : (a ^^^ p) ^^^ (b ^^^ q) = (a ^^^ b) ^^^ (p ^^^ q) := by
 rw [BitVec.xor_assoc, BitVec.xor_assoc]
 congr 1
 rw [← BitVec.xor_assoc, BitVec.xor_comm p b, BitVec.xor_assoc]
theorem S1_xor (a b : BitVec 32) : S1 (a ^^^ b) = S1 a ^^^ S1 b := by
 unfold S1
 rw [x4, BitVec.ushiftRight_xor_distrib, BitVec.getLsbD_xor]
 congr 1
 cases a.getLsbD 0 <;> cases b.getLsbD 0 <;> simp
theorem lsb_num (c : BitVec 32) : c.getLsbD 0 = decide (num c % 2 = 1) := by
 rw [BitVec.getLsbD, Nat.testBit_zero]
 unfold num
 congr 1
 exact propext ⟨fun h => by omega, fun h => by omega⟩
theorem shr_num (c : BitVec 32) : num (c >>> 1) = num c / 2 := by
 unfold num
 rw [BitVec.toNat_ushiftRight, Nat.shiftRight_eq_div_pow]
 omega
theorem s1_num (c : BitVec 32) : crc_More.s1 (num c) = num (S1 c) := by
 have hc := num_lt c
 unfold crc_More.s1 S1
 rw [and_one _ hc.1, lsb_num]
 by_cases h : num c % 2 = 1
 ·rw [if_pos h, if_pos (decide_eq_true h), xor_num, ← shr_num, bv_num]
  rfl
 ·rw [if_neg h, if_neg (by simpa using h), BitVec.xor_zero, shr_num]
def it : Nat → BitVec 32 → BitVec 32
 | 0, c => c
 | k + 1, c => S1 (it k c)
theorem it_num (k : Nat) (c : BitVec 32) : crc_More.it k (num c) = num (it k c) := by
 induction k with
 | zero => rfl
 | succ k ih => rw [crc_More.it, ih, s1_num, it]
theorem it_xor (k : Nat) (a b : BitVec 32) : it k (a ^^^ b) = it k a ^^^ it k b := by
 induction k with
 | zero => rfl
 | succ k ih => rw [it, ih, S1_xor, it, it]
abbrev S8 (c : BitVec 32) : BitVec 32 := it 8 c
theorem it_shift : ∀ (k : Nat) (m : Int), 0 ≤ m → crc_More.it k (2 ^ k * m) = m
 | 0, m, _ => by simp [crc_More.it]
 | k + 1, m, h => by
  have hk := it_shift k (2 * m) (by omega)
  have e : (2 : Int) ^ (k + 1) * m = 2 ^ k * (2 * m) := by rw [Int.pow_succ, Int.mul_assoc]
  rw [crc_More.it, e, hk, crc_More.s1, and_one _ (by omega), if_neg (by omega)]
  omega
theorem byte_xor (a b : Int) (ha : 0 ≤ a ∧ a < 256) (hb : 0 ≤ b ∧ b < 256) : bv (Go.bits .xor .u8 a b) = bv a ^^^ bv b := by
 obtain ⟨m, rfl⟩ := Int.eq_ofNat_of_zero_le ha.1
 obtain ⟨n, rfl⟩ := Int.eq_ofNat_of_zero_le hb.1
 have hm : m < 2 ^ 8 := by omega
 have hn : n < 2 ^ 8 := by omega
 have hx : m ^^^ n < 2 ^ 8 := Nat.xor_lt_two_pow hm hn
 have e : Go.bits .xor .u8 m n = ((m ^^^ n : Nat) : Int) := by
  show IntKind.u8.wrap (((BitVec.ofInt 8 (m : Int) ^^^ BitVec.ofInt 8 (n : Int)).toNat : Nat) : Int) = _
  rw [IntKind.wrap_u8, BitVec.ofInt_natCast, BitVec.ofInt_natCast, BitVec.toNat_xor, BitVec.toNat_ofNat, BitVec.toNat_ofNat, Nat.mod_eq_of_lt hm, Nat.mod_eq_of_lt hn]
  generalize m ^^^ n = q at *
  omega
 rw [e]
 unfold bv
 apply BitVec.eq_of_toNat_eq
 rw [BitVec.ofInt_natCast, BitVec.ofInt_natCast, BitVec.ofInt_natCast, BitVec.toNat_xor, BitVec.toNat_ofNat, BitVec.toNat_ofNat, BitVec.toNat_ofNat, Nat.mod_eq_of_lt (by omega), Nat.mod_eq_of_lt (by omega), Nat.mod_eq_of_lt (by omega)]
theorem tab_at (j : Nat) (hj : j < 256) : (crc_More.tab 256).getD j 0 = num (S8 (bv j)) := by
 unfold crc_More.tab
 rw [List.getD_eq_getElem?_getD, List.getElem?_append_left (by simp; omega), List.getElem?_map, List.getElem?_range hj, Option.map_some, Option.getD_some]
 have : (j : Int) = num (bv j) := (num_bv j (by omega) (by omega)).symm
 rw [this, it_num, ← this]
theorem split (c : Int) (h0 : 0 ≤ c) (h1 : c < 4294967296) : bv c = bv (256 * (c / 256)) ^^^ bv (c % 256) := by
 obtain ⟨n, rfl⟩ := Int.eq_ofNat_of_zero_le h0
 have e1 : (256 : Int) * ((n : Int) / 256) = ((2 ^ 8 * (n / 2 ^ 8) : Nat) : Int) := by omega
 have e2 : (n : Int) % 256 = ((n % 2 ^ 8 : Nat) : Int) := by omega
 rw [e1, e2]
 unfold bv
 apply BitVec.eq_of_toNat_eq
 rw [BitVec.ofInt_natCast, BitVec.ofInt_natCast, BitVec.ofInt_natCast, BitVec.toNat_xor, BitVec.toNat_ofNat, BitVec.toNat_ofNat, BitVec.toNat_ofNat, Nat.mod_eq_of_lt (by omega), Nat.mod_eq_of_lt (by omega), Nat.mod_eq_of_lt (by omega)]
 have hl : n % 2 ^ 8 < 2 ^ 8 := Nat.mod_lt _ (by decide)
 have hz : 2 ^ 8 * (n / 2 ^ 8) &&& n % 2 ^ 8 = 0 := by
  apply Nat.eq_of_testBit_eq
  intro i
  rw [Nat.testBit_and, Nat.zero_testBit, Nat.testBit_two_pow_mul, Nat.testBit_mod_two_pow]
  by_cases h : i < 8
  ·rw [decide_eq_false (show ¬ i ≥ 8 by omega), Bool.false_and, Bool.false_and]
  ·rw [decide_eq_false h, Bool.false_and, Bool.and_false]
 have hor : 2 ^ 8 * (n / 2 ^ 8) ||| n % 2 ^ 8 = n := by
  rw [← Nat.two_pow_add_eq_or_of_lt hl]
  omega
 have hx : 2 ^ 8 * (n / 2 ^ 8) ^^^ n % 2 ^ 8 = 2 ^ 8 * (n / 2 ^ 8) ||| n % 2 ^ 8 := by
  apply Nat.eq_of_testBit_eq
  intro i
  have hi := congrArg (fun q => q.testBit i) hz
  simp only [Nat.testBit_and, Nat.zero_testBit] at hi
  rw [Nat.testBit_xor, Nat.testBit_or]
  cases h1 : (2 ^ 8 * (n / 2 ^ 8)).testBit i <;> cases h2 : (n % 2 ^ 8).testBit i <;> simp_all
 rw [hx, hor]
theorem step_num (c : BitVec 32) (x : Int) (hx : 0 ≤ x ∧ x ≤ 255) : crc_More.step (num c) x = num (S8 (c ^^^ bv x)) := by
 have hc := num_lt c
 have hr := crc_More.u8_range (num c % 256) x
 unfold crc_More.step
 rw [tab_at _ (by omega), xor_num, bv_num]
 congr 1
 have ej : ((Go.bits .xor .u8 (num c % 256) x).toNat : Int) = Go.bits .xor .u8 (num c % 256) x := Int.toNat_of_nonneg hr.1
 rw [ej, byte_xor _ _ (by omega) (by omega)]
 have eh : bv (num c / 256) = S8 (bv (256 * (num c / 256))) := by
  apply num_inj
  rw [← it_num, num_bv _ (by omega) (by omega), num_bv _ (by omega) (by omega)]
  exact (it_shift 8 (num c / 256) (by omega)).symm
 rw [eh, ← it_xor]
 congr 1
 rw [BitVec.xor_assoc, BitVec.xor_comm (bv x), ← BitVec.xor_assoc, BitVec.xor_comm (bv (num c % 256)), ← split _ hc.1 hc.2, bv_num]
def F (s : BitVec 32) (l : List Int) : BitVec 32 := l.foldl (fun s x => S8 (s ^^^ bv x)) s
theorem F_nil (s : BitVec 32) : F s [] = s := rfl
theorem F_cons (s : BitVec 32) (x : Int) (l : List Int) : F s (x :: l) = F (S8 (s ^^^ bv x)) l := rfl
theorem fold_num : ∀ (l : List Int) (s : BitVec 32), Bytes l → l.foldl crc_More.step (num s) = num (F s l)
 | [], s, _ => rfl
 | x :: l, s, h => by
  rw [List.foldl_cons, step_num s x (h x List.mem_cons_self), fold_num l _ (fun y hy => h y (List.mem_cons_of_mem _ hy)), F_cons]
abbrev ones : BitVec 32 := bv 4294967295
theorem more_f (c : Int) (l : List Int) (hl : Bytes l) : crc_More.f c l = some (num (ones ^^^ F (ones ^^^ bv c) l)) := by
 unfold crc_More.f crc_More.raw
 rw [xor_num 4294967295 c, fold_num l _ hl, xor_num, bv_num]
theorem of_f (l : List Int) (hl : Bytes l) : crc_Of.f l = some (num (ones ^^^ F ones l)) := by
 unfold crc_Of.f
 rw [more_f 0 l hl, Option.bind_some]
 have : bv 0 = 0#32 := rfl
 rw [this, BitVec.xor_zero]
def xorl : List Int → List Int → List Int
 | x :: l, y :: m => num (bv x ^^^ bv y) :: xorl l m
 | _, _ => []
theorem bytes_take {a : List Int} (ha : Bytes a) (k : Nat) : Bytes (a.take k) := fun x hx => ha x (List.mem_of_mem_take hx)
theorem bytes_drop {a : List Int} (ha : Bytes a) (k : Nat) : Bytes (a.drop k) := fun x hx => ha x (List.mem_of_mem_drop hx)
end Go.Proofs.Ytiohnpphhepdfaa.CrcLib
end
