/- Parts of the proof, merged by a program of this session. -/
import Derived.Test.YtiohnpphhepdfaaPkPassesMergesa
import Derived.Test.YtiohnpphhepdfaaPkPassesMergesb
section
namespace Go.Proofs.Ytiohnpphhepdfaa.PPa
open Go.RowKit Go.Proofs.YtiohnpphhepdfaaW.PrintWords Go.Proofs.YtiohnpphhepdfaaW.PrintLast Go.Proofs.YtiohnpphhepdfaaW.PrintMore
attribute [local go_sem] max2_int min2_int max_two min_two max_three min_three max_four min_four
attribute [local go_sem] Go.Proofs.Ytiohnpphhepdfaa.MoreWords.str_leq Go.Proofs.Ytiohnpphhepdfaa.MoreWords.str_gtr Go.Proofs.Ytiohnpphhepdfaa.MoreWords.str_geq
set_option maxHeartbeats 8000000
set_option maxRecDepth 100000
set_option linter.unusedVariables false
set_option linter.unusedSimpArgs false
def ButTwo (w w' : World) (g1 g2 : Nat) : Prop := w'.os = w.os ∧ w'.tape = w.tape ∧ w'.output = w.output ∧ w.heap.size ≤ w'.heap.size ∧ ∀ k, k ≠ g1 → k ≠ g2 → k < w.heap.size → w'.heap[k]? = w.heap[k]?
theorem ButTwo.below {w0 w w' : World} {g1 g2 : Nat} (h : ButTwo w w' g1 g2) (hb : Below w0.heap.size w0 w) (h1 : w0.heap.size ≤ g1) (h2 : w0.heap.size ≤ g2) : Below w0.heap.size w0 w' :=
 ⟨h.1.trans hb.os, h.2.1.trans hb.tape, h.2.2.1.trans hb.output, Nat.le_trans hb.size h.2.2.2.1, fun k hk => (h.2.2.2.2 k (by omega) (by omega) (Nat.lt_of_lt_of_le hk hb.size)).trans (hb.block k hk)⟩
theorem ButTwo.blk {w w' : World} {g1 g2 g : Nat} {o : Obj} (h : ButTwo w w' g1 g2) (h1 : g ≠ g1) (h2 : g ≠ g2) (hb : w.heap[g]? = some o) : w'.heap[g]? = some o := (h.2.2.2.2 g h1 h2 (blk_lt hb)).trans hb
theorem run_entry1.calls (gl go : Nat) (hne : gl ≠ go) (A0 : Option Addr) (c0 : Nat) (l0 : List Int) (ok : Bool) (r1 r2 r3 : Int) (w : World) (hl : w.heap[gl]? = some (.cells #[.slice A0 l0.length c0] 24 (0, 0))) (ho : w.heap[go]? = some (.cells #[.bool ok] 4 (0, 0)))
  (hr0 : Kd.C (Kd.int .u8) w A0 l0.length l0) (hc0 : l0.length ≤ c0) (h : num_Get.f l0 = some (r1, r2, r3)) (h2 : 0 ≤ r2) (h2l : r2 ≤ l0.length) :
  Calls Try.prog 69 #[.pointer (some ⟨gl, 0, none⟩), .pointer (some ⟨go, 0, none⟩)] w fun e w' => e = .returned (.int .u64 r1) ∧ ButTwo w w' gl go ∧
   ∃ A' c', w'.heap[gl]? = some (.cells #[.slice A' (l0.drop r2.toNat).length c'] 24 (0, 0)) ∧ w'.heap[go]? = some (.cells #[.bool (ok && (r3 == 0))] 4 (0, 0)) ∧
    (l0.drop r2.toNat).length ≤ c' ∧ ∀ W, Kd.C (Kd.int .u8) W A0 l0.length l0 → Kd.C (Kd.int .u8) W A' (l0.drop r2.toNat).length (l0.drop r2.toNat) := by
 have HR0 := Az.mk hr0
 have HC0 := Az.mk hc0
 have A1 := Az.mk h
 have BL := Az.mk hl
 have BO := Az.mk ho
 have NE := Az.mk hne
 have hcl := blk_cell hl 0
 have hfl := blk_frozen hl 0
 have hco := blk_cell ho 0
 have hfo := blk_frozen ho 0
 have hcl' : w.cell? ⟨gl, 0, none⟩ = some (.slice A0 l0.length c0) := hcl.trans rfl
 have hco' : w.cell? ⟨go, 0, none⟩ = some (.bool ok) := hco.trans rfl
 clear hl ho hcl hco hr0 hc0 h
 obtain ⟨i0, hi0, _, hsz, _⟩ := info_parts info5
 obtain ⟨A', hcut, hA, hC⟩ := print_drop_of (P := Try.prog) (Value.int .u8) 0 24 5 .i64 Try.underlying24 hi0 hsz A0 c0 l0 r2 h2 h2l HC0.out
 have HA := Az.mk hA
 have HC := Az.mk hC
 have H2 := Az.mk h2
 have H2l := Az.mk h2l
 clear hA hC hi0 hsz h2 h2l hne
 go_enter Try.func69, Try.ntmps69
 have go_on : ∀ nd : Nat, ∀ b : Bool, b = (ok && (r3 == 0)) → ButTwo w (((w.drewN nd).setCell ⟨go, 0, none⟩ (.bool b)).setCell ⟨gl, 0, none⟩ (.slice A' (l0.length - r2.toNat) (c0 - r2.toNat))) gl go ∧
   ∃ A2 c2, (((w.drewN nd).setCell ⟨go, 0, none⟩ (.bool b)).setCell ⟨gl, 0, none⟩ (.slice A' (l0.length - r2.toNat) (c0 - r2.toNat))).heap[gl]? = some (.cells #[.slice A2 (l0.drop r2.toNat).length c2] 24 (0, 0)) ∧ (((w.drewN nd).setCell ⟨go, 0, none⟩ (.bool b)).setCell ⟨gl, 0, none⟩ (.slice A' (l0.length - r2.toNat) (c0 - r2.toNat))).heap[go]? = some (.cells #[.bool (ok && (r3 == 0))] 4 (0, 0)) ∧
    (l0.drop r2.toNat).length ≤ c2 ∧ ∀ W, Kd.C (Kd.int .u8) W A0 l0.length l0 → Kd.C (Kd.int .u8) W A2 (l0.drop r2.toNat).length (l0.drop r2.toNat) := by
  have el : l0.length - r2.toNat = (l0.drop r2.toNat).length := List.length_drop.symm
  intro nd b hb
  subst hb
  rw [el]
  refine ⟨⟨rfl, rfl, rfl, ?_, fun k h1 h2 hk => ?_⟩, A', c0 - r2.toNat, ?_, ?_, HC.out, fun W h => Kd.C_of_reads (h1 := fun _ => rfl) (HA.out W (Kd.reads_of_C h))⟩
  ·simp [World.size_setCell]
  ·exact (Below.heap_setCell _ ⟨gl, 0, none⟩ _ k (by simpa using h1)).trans ((Below.heap_setCell _ ⟨go, 0, none⟩ _ k (by simpa using h2)).trans rfl)
  ·exact blk_set (blk_far (blk_drewN BL.out nd) (p := ⟨go, 0, none⟩) NE.out _) 0 _
  ·exact blk_far (blk_set (blk_drewN BO.out nd) 0 _) (p := ⟨gl, 0, none⟩) (Ne.symm NE.out) _
 have GO := Az.mk go_on
 clear go_on
 by_cases hk : ok = true
 ·subst hk
  go_wp2_with (first | (go_at_call 60; refine (num_Get.calls A0 c0 l0 r1 r2 r3 _ HR0.out HC0.out A1.out).mono ?_; rintro e w' ⟨rfl, ⟨nd, rfl⟩⟩; have hx1 : ((w.drewN nd).setCell ⟨go, 0, none⟩ (.bool (r3 == 0))).cell? ⟨gl, 0, none⟩ = some (.slice A0 l0.length c0) := blk_cell (blk_far (blk_drewN BL.out nd) (p := ⟨go, 0, none⟩) NE.out _) 0; have hx2 : ((w.drewN nd).setCell ⟨go, 0, none⟩ (.bool (r3 == 0))).frozen? ⟨gl, 0, none⟩ = false := blk_frozen (blk_far (blk_drewN BL.out nd) (p := ⟨go, 0, none⟩) NE.out _) 0))
  go_ret
  exact ⟨rfl, GO.out nd (r3 == 0) (by simp)⟩
 ·have hk : ok = false := by simpa using hk
  subst hk
  go_wp2_with (first | (go_at_call 60; refine (num_Get.calls A0 c0 l0 r1 r2 r3 _ HR0.out HC0.out A1.out).mono ?_; rintro e w' ⟨rfl, ⟨nd, rfl⟩⟩; have hx1 : ((w.drewN nd).setCell ⟨go, 0, none⟩ (.bool false)).cell? ⟨gl, 0, none⟩ = some (.slice A0 l0.length c0) := blk_cell (blk_far (blk_drewN BL.out nd) (p := ⟨go, 0, none⟩) NE.out _) 0; have hx2 : ((w.drewN nd).setCell ⟨go, 0, none⟩ (.bool false)).frozen? ⟨gl, 0, none⟩ = false := blk_frozen (blk_far (blk_drewN BL.out nd) (p := ⟨go, 0, none⟩) NE.out _) 0))
  go_ret
  exact ⟨rfl, GO.out nd false (by simp)⟩
theorem num_Get.bounds (l : List Int) (r1 r2 r3 : Int) (h : num_Get.f l = some (r1, r2, r3)) : 0 ≤ r2 ∧ r2 ≤ l.length := by
 have hs : ∀ k s j, num_Get.scan l k s = some j → s ≤ l.length → j ≤ s + k ∧ (j < l.length ∨ j = s + k) := by
  intro k
  induction k with
  | zero => intro s j h hl; simp [num_Get.scan] at h; subst h; exact ⟨by omega, .inr rfl⟩
  | succ k ih =>
   intro s j h hl
   unfold num_Get.scan at h
   split at h
   ·simp at h
   ·split at h
    ·simp at h; subst h; exact ⟨by omega, .inl (by omega)⟩
    ·have := ih (s + 1) j h (by omega)
     omega
 unfold num_Get.f at h
 split at h
 ·have h := Option.some.inj h
  unfold num_Get.ans at h
  split at h
  ·simp at h; omega
  ·rename_i s hsc
   split at h
   ·simp at h; omega
   ·rename_i hn
    have := hs 10 0 s hsc (by omega)
    simp only [Prod.mk.injEq] at h
    omega
 ·simp at h
def run_entry.f (a0 : ByteArray) (l1 : List Int) : Option (ByteArray × Int × List Int × Bool) :=
 (num_Get.f l1).bind fun g1 => (num_Get.f (l1.drop g1.2.1.toNat)).bind fun g2 =>
  if (g1.2.2 == 0 && g2.2.2 == 0) = false then some (⟨#[]⟩, 0, [], false)
  else if g1.1 > IntKind.u64.wrap (a0.size : Int) then some (⟨#[]⟩, 0, [], false)
  else if g2.1 > IntKind.u64.wrap (((l1.drop g1.2.1.toNat).drop g2.2.1.toNat).length : Int) then some (⟨#[]⟩, 0, [], false)
  else if 0 ≤ g1.1 ∧ g1.1 ≤ a0.size ∧ 0 ≤ g2.1 ∧ g2.1 ≤ ((l1.drop g1.2.1.toNat).drop g2.2.1.toNat).length ∧ (a0.extract 0 g1.1.toNat).size + (strOfNums (((l1.drop g1.2.1.toNat).drop g2.2.1.toNat).take g2.1.toNat)).size ≤ 9223372036854775807 then
   (num_Get.f (((l1.drop g1.2.1.toNat).drop g2.2.1.toNat).drop g2.1.toNat)).bind fun g3 =>
    some (a0.extract 0 g1.1.toNat ++ strOfNums (((l1.drop g1.2.1.toNat).drop g2.2.1.toNat).take g2.1.toNat), g3.1, (((l1.drop g1.2.1.toNat).drop g2.2.1.toNat).drop g2.1.toNat).drop g3.2.1.toNat, g3.2.2 == 0)
  else none
theorem run_entry.calls (a0 : ByteArray) (A1 : Option Addr) (c1 : Nat) (l1 : List Int) (r1 : ByteArray) (r2 : Int) (r3 : List Int) (r4 : Bool) (w : World) (hr1 : Kd.C (Kd.int .u8) w A1 l1.length l1) (hc1 : l1.length ≤ c1) (h : run_entry.f a0 l1 = some (r1, r2, r3, r4)) :
  Calls Try.prog 66 #[.string a0, .slice A1 l1.length c1] w fun e w' => ∃ (A' : Option Addr) (c' : Nat), e = .returned (.tuple #[.agg #[.string r1, .int .u64 r2], .slice A' r3.length c', .bool r4]) ∧ r3.length ≤ c' ∧ (∀ W, Kd.C (Kd.int .u8) W A1 l1.length l1 → Kd.C (Kd.int .u8) W A' r3.length r3) ∧ Below w.heap.size w w' := by
 have HR1 := Az.mk hr1
 have HC1 := Az.mk hc1
 clear hr1 hc1
 unfold run_entry.f at h
 replace h := Option.bind_eq_some_iff.mp h
 obtain ⟨⟨n1, n2, n3⟩, G1, h⟩ := h
 replace h := Option.bind_eq_some_iff.mp h
 obtain ⟨⟨m1, m2, m3⟩, G2, h⟩ := h
 dsimp only at G2 h
 have b1 := num_Get.bounds _ _ _ _ G1
 have b2 := num_Get.bounds _ _ _ _ G2
 have G1' := Az.mk G1
 have G2' := Az.mk G2
 have B1 := Az.mk b1
 have B2 := Az.mk b2
 have H := Az.mk h
 clear G1 G2 b1 b2 h
 have HB := Az.mk (Below.refl w.heap.size w)
 go_enter Try.func66, Try.ntmps66
 go_upto_region 3 with (fail)
 have bl4 := blk_alloc (blk_alloc (blk_new w (.cells #[.string ⟨#[]⟩, .int .u64 0] 41 (0, 0))) (.cells #[.slice A1 l1.length c1] 24 (0, 0))) (.cells #[.bool true] 4 (0, 0))
 have bll := blk_alloc (blk_new (w.alloc (.cells #[.string ⟨#[]⟩, .int .u64 0] 41 (0, 0))) (.cells #[.slice A1 l1.length c1] 24 (0, 0))) (.cells #[.bool true] 4 (0, 0))
 have blo := blk_new ((w.alloc (.cells #[.string ⟨#[]⟩, .int .u64 0] 41 (0, 0))).alloc (.cells #[.slice A1 l1.length c1] 24 (0, 0))) (.cells #[.bool true] 4 (0, 0))
 rw [World.size_alloc] at bll blo
 rw [World.size_alloc] at blo
 have hb1 : Below w.heap.size w (((w.alloc (.cells #[.string ⟨#[]⟩, .int .u64 0] 41 (0, 0))).alloc (.cells #[.slice A1 l1.length c1] 24 (0, 0))).alloc (.cells #[.bool true] 4 (0, 0))) := below_alloc (below_alloc (below_alloc (Below.refl _ _) _) _) _
 obtain ⟨W1, hW1⟩ : ∃ W1, W1 = (((w.alloc (.cells #[.string ⟨#[]⟩, .int .u64 0] 41 (0, 0))).alloc (.cells #[.slice A1 l1.length c1] 24 (0, 0))).alloc (.cells #[.bool true] 4 (0, 0))) := ⟨_, rfl⟩
 rw [← hW1] at bl4 bll blo hb1 ⊢
 clear hW1
 have BL4 := Az.mk bl4
 have BLL := Az.mk bll
 have BLO := Az.mk blo
 have HB := Az.mk hb1
 clear bl4 bll blo hb1
 go_upto_region 4 with (first | (go_at_call 69; (with_reducible refine (run_entry1.calls (w.heap.size + 1) (w.heap.size + 1 + 1) (by omega) A1 c1 l1 true n1 n2 n3 W1 BLL.out BLO.out (Kd.C_below HR1.out HB.out) HC1.out G1'.out B1.out.1 B1.out.2).mono ?_); rintro e W2 ⟨rfl, hbt2, A2, c2, hl2, ho2, hc2, hC2⟩; have BL4' := Az.mk (hbt2.blk (by omega) (by omega) BL4.out); have HB' := Az.mk (hbt2.below HB.out (by omega) (by omega)); have BLL' := Az.mk hl2; have BLO' := Az.mk ho2; have HC2 := Az.mk hc2; have HR2 := Az.mk hC2; clear hbt2 hl2 ho2 hc2 hC2 BL4 BLL BLO HB) | (go_at_call 69; (with_reducible refine (run_entry1.calls (w.heap.size + 1) (w.heap.size + 1 + 1) (by omega) A2 c2 (l1.drop n2.toNat) (true && (n3 == 0)) m1 m2 m3 W2 BLL'.out BLO'.out (HR2.out _ (Kd.C_below HR1.out HB'.out)) HC2.out G2'.out B2.out.1 B2.out.2).mono ?_); rintro e W3 ⟨rfl, hbt3, A3, c3, hl3, ho3, hc3, hC3⟩; have BL4 := Az.mk (hbt3.blk (by omega) (by omega) BL4'.out); have HB := Az.mk (hbt3.below HB'.out (by omega) (by omega)); have BLL := Az.mk hl3; have BLO := Az.mk ho3; have HC3 := Az.mk hc3; have HR3 := Az.mk hC3; clear hbt3 hl3 ho3 hc3 hC3 BL4' BLL' BLO' HB'))
 have h := H.out
 clear H
 have hl3 := BLL.out
 have hc3 := HC3.out
 have hr3 := HR3.out
 clear BLL HC3 HR3
 generalize (l1.drop n2.toNat).drop m2.toNat = l3 at h hl3 hc3 hr3
 have BLL := Az.mk hl3
 have HC3 := Az.mk hc3
 have HR3 := Az.mk hr3
 clear hl3 hc3 hr3
 have hoo := blk_cell BLO.out 0
 have hol := blk_cell BLL.out 0
 have hfo := blk_frozen BLO.out 0
 have hfl := blk_frozen BLL.out 0
 have hf40 := blk_frozen BL4.out 0
 have hf41 := blk_frozen BL4.out 1
 have hc40 : W3.cell? ⟨w.heap.size, 0, none⟩ = some (.string ⟨#[]⟩) := blk_cell BL4.out 0
 have hc41 : W3.cell? ⟨w.heap.size, 1, none⟩ = some (.int .u64 0) := blk_cell BL4.out 1
 have hcl : W3.cell? ⟨w.heap.size + 1, 0, none⟩ = some (.slice A3 l3.length c3) := hol
 obtain ⟨b, hb⟩ : ∃ b, b = (n3 == 0 && m3 == 0) := ⟨_, rfl⟩
 have hco : W3.cell? ⟨w.heap.size + 1 + 1, 0, none⟩ = some (.bool b) := by rw [hb]; simpa using hoo
 rw [← hb] at h
 clear hoo hol
 cases b with
 | false =>
  rw [if_pos rfl] at h
  simp only [Option.some.injEq, Prod.mk.injEq] at h
  obtain ⟨rfl, rfl, rfl, rfl⟩ := h
  clear hb hcl hfl
  go_wp2
  refine bodyPost_ret (results_ctt rfl _ _ w.heap.size 41 #[.string (⟨#[]⟩ : ByteArray), .int .u64 0] (0, 0) _ rfl (by (with_reducible repeat (first | refine blk_drewN ?_ _ | refine blk_drew ?_ | refine blk_alloc ?_ _)); refine blk_put (cs := #[.string (⟨#[]⟩ : ByteArray), .int .u64 0]) ?_ 1 _ rfl; (with_reducible repeat (first | refine blk_drewN ?_ _ | refine blk_drew ?_ | refine blk_alloc ?_ _)); refine blk_put (cs := #[.string (⟨#[]⟩ : ByteArray), .int .u64 0]) ?_ 0 _ rfl; (with_reducible repeat (first | refine blk_drewN ?_ _ | refine blk_drew ?_ | refine blk_alloc ?_ _)); exact BL4.out) Try.underlying41 rfl (by kernel_rfl)) rfl ?_
  exact ⟨none, 0, rfl, Nat.le_refl _, fun W _ => Kd.C_nil _ _, by repeat (first | (with_reducible first | exact HB.out | apply below_alloc | apply pw_below_drewN | apply below_drew1 | refine below_set ?_ (Nat.le_refl _)) | exact HB.out)⟩
 | true =>
  rw [if_neg (by simp)] at h
  have blo' := BLO.out
  rw [show (true && (n3 == 0) && (m3 == 0)) = true by simpa using hb.symm] at blo'
  clear BLO
  have BLO := Az.mk blo'
  clear blo'
  by_cases c5 : n1 > IntKind.u64.wrap (a0.size : Int)
  ·rw [if_pos c5] at h
   have c5b : decide (IntKind.u64.wrap (a0.size : Int) < n1) = true := decide_eq_true c5
   simp only [Option.some.injEq, Prod.mk.injEq] at h
   obtain ⟨rfl, rfl, rfl, rfl⟩ := h
   clear hb hcl hfl c5
   go_wp2
   refine bodyPost_ret (results_ctt rfl _ _ w.heap.size 41 #[.string (⟨#[]⟩ : ByteArray), .int .u64 0] (0, 0) _ rfl (by (with_reducible repeat (first | refine blk_drewN ?_ _ | refine blk_drew ?_ | refine blk_alloc ?_ _)); refine blk_put (cs := #[.string (⟨#[]⟩ : ByteArray), .int .u64 0]) ?_ 1 _ rfl; (with_reducible repeat (first | refine blk_drewN ?_ _ | refine blk_drew ?_ | refine blk_alloc ?_ _)); refine blk_put (cs := #[.string (⟨#[]⟩ : ByteArray), .int .u64 0]) ?_ 0 _ rfl; (with_reducible repeat (first | refine blk_drewN ?_ _ | refine blk_drew ?_ | refine blk_alloc ?_ _)); exact BL4.out) Try.underlying41 rfl (by kernel_rfl)) rfl ?_
   exact ⟨none, 0, rfl, Nat.le_refl _, fun W _ => Kd.C_nil _ _, by repeat (first | (with_reducible first | exact HB.out | apply below_alloc | apply pw_below_drewN | apply below_drew1 | refine below_set ?_ (Nat.le_refl _)) | exact HB.out)⟩
  rw [if_neg c5] at h
  have c5b : decide (IntKind.u64.wrap (a0.size : Int) < n1) = false := decide_eq_false c5
  clear c5
  by_cases c6 : m1 > IntKind.u64.wrap (l3.length : Int)
  ·rw [if_pos c6] at h
   have c6b : decide (IntKind.u64.wrap (l3.length : Int) < m1) = true := decide_eq_true c6
   simp only [Option.some.injEq, Prod.mk.injEq] at h
   obtain ⟨rfl, rfl, rfl, rfl⟩ := h
   clear hb c6
   go_wp2
   refine bodyPost_ret (results_ctt rfl _ _ w.heap.size 41 #[.string (⟨#[]⟩ : ByteArray), .int .u64 0] (0, 0) _ rfl (by (with_reducible repeat (first | refine blk_drewN ?_ _ | refine blk_drew ?_ | refine blk_alloc ?_ _)); refine blk_put (cs := #[.string (⟨#[]⟩ : ByteArray), .int .u64 0]) ?_ 1 _ rfl; (with_reducible repeat (first | refine blk_drewN ?_ _ | refine blk_drew ?_ | refine blk_alloc ?_ _)); refine blk_put (cs := #[.string (⟨#[]⟩ : ByteArray), .int .u64 0]) ?_ 0 _ rfl; (with_reducible repeat (first | refine blk_drewN ?_ _ | refine blk_drew ?_ | refine blk_alloc ?_ _)); exact BL4.out) Try.underlying41 rfl (by kernel_rfl)) rfl ?_
   exact ⟨none, 0, rfl, Nat.le_refl _, fun W _ => Kd.C_nil _ _, by repeat (first | (with_reducible first | exact HB.out | apply below_alloc | apply pw_below_drewN | apply below_drew1 | refine below_set ?_ (Nat.le_refl _)) | exact HB.out)⟩
  rw [if_neg c6] at h
  have c6b : decide (IntKind.u64.wrap (l3.length : Int) < m1) = false := decide_eq_false c6
  clear c6
  by_cases c7 : 0 ≤ n1 ∧ n1 ≤ a0.size ∧ 0 ≤ m1 ∧ m1 ≤ l3.length ∧ (a0.extract 0 n1.toNat).size + (strOfNums (l3.take m1.toNat)).size ≤ 9223372036854775807
  ·rw [if_pos c7] at h
   obtain ⟨d0, d1, d2, d3, d4⟩ := c7
   replace h := Option.bind_eq_some_iff.mp h
   obtain ⟨⟨p1, p2, p3⟩, G3, h⟩ := h
   dsimp only at G3 h
   have b3 := num_Get.bounds _ _ _ _ G3
   have B3 := Az.mk b3
   have G3' := Az.mk G3
   have H := Az.mk h
   clear G3 b3 h hb
   go_upto_region 6 with (fail)
   obtain ⟨i0, hi0, _, hsz, _⟩ := info_parts info5
   obtain ⟨hcut, hA, hC⟩ := print_take_of (P := Try.prog) (Value.int .u8) 0 24 5 .u64 Try.underlying24 hi0 hsz A3 c3 l3 m1 d2 d3 HC3.out
   obtain ⟨A4, hcut4, hA4, hC4⟩ := print_drop_of (P := Try.prog) (Value.int .u8) 0 24 5 .u64 Try.underlying24 hi0 hsz A3 c3 l3 m1 d2 d3 HC3.out
   have HR4 : Az (∀ W, Kd.C (Kd.int .u8) W A3 l3.length l3 → Kd.C (Kd.int .u8) W A4 (l3.drop m1.toNat).length (l3.drop m1.toNat)) := Az.mk (fun W => fun h : Kd.C (Kd.int .u8) W A3 l3.length l3 => Kd.C_of_reads (h1 := fun _ => rfl) (hA4 W (Kd.reads_of_C h)))
   have HC4 := Az.mk hC4
   have HRt : Az (Kd.C (Kd.int .u8) W3 A3 (l3.take m1.toNat).length (l3.take m1.toNat)) := Az.mk (Kd.C_of_reads (h1 := fun _ => rfl) (hA _ (Kd.reads_of_C (HR3.out _ (HR2.out _ (Kd.C_below HR1.out HB.out))))))
   clear hA hC hA4 hC4 hi0 hsz
   have el : (l3.take m1.toNat).length = m1.toNat := by rw [List.length_take]; omega
   have hcvA := Kd.C_string (P := Try.prog) (c := c3) Try.underlying24 Try.underlying5 Try.underlying9 (Kd.C_drew HRt.out)
   have hcvB := Kd.C_string (P := Try.prog) (c := c3) Try.underlying24 Try.underlying5 Try.underlying9 (Kd.C_drew (Kd.C_alloc HRt.out (.cells #[.string ⟨#[]⟩, .int .u64 0] 41 (0, 0))))
   rw [el] at hcvA hcvB
   have hclB : ((W3.alloc (.cells #[.string ⟨#[]⟩, .int .u64 0] 41 (0, 0))).drew).cell? ⟨w.heap.size + 1, 0, none⟩ = some (.slice A3 l3.length c3) := blk_cell (blk_drew (blk_alloc BLL.out _)) 0
   obtain ⟨X, hX⟩ : ∃ X, X = a0.extract 0 n1.toNat ++ strOfNums (l3.take m1.toNat) := ⟨_, rfl⟩
   have HX := Az.mk hX
   have bl12 := blk_drew (blk_new W3 (.cells #[.string X, .int .u64 0] 41 (0, 0)))
   have bll4 := blk_drew (blk_alloc BLL.out (.cells #[.string X, .int .u64 0] 41 (0, 0)))
   have blo4 := blk_drew (blk_alloc BLO.out (.cells #[.string X, .int .u64 0] 41 (0, 0)))
   have bl44 := blk_drew (blk_alloc BL4.out (.cells #[.string X, .int .u64 0] 41 (0, 0)))
   have hb4 := below_drew1 (below_alloc HB.out (.cells #[.string X, .int .u64 0] 41 (0, 0)))
   have hlt := Az.mk (blk_lt BLO.out)
   have BL12 := Az.mk bl12
   have BLL4 := Az.mk bll4
   have BLO4 := Az.mk blo4
   have BL44 := Az.mk bl44
   have HB4 := Az.mk hb4
   clear bl12 bll4 blo4 bl44 hb4 hX
   go_region
   all_goals
    rw [← HX.out]
    clear hcvA hcvB hclB hco hcl hc40 hc41 hfo hfl hf40 hf41 BL4 BLL BLO HB
    have BL12_ := BL12.out
    have BLL4_ := BLL4.out
    have BLO4_ := BLO4.out
    have BL44_ := BL44.out
    have HB4_ := HB4.out
    clear BL12 BLL4 BLO4 BL44 HB4
    generalize hW4 : (W3.alloc (.cells #[.string X, .int .u64 0] 41 (0, 0))).drew = W4 at BL12_ BLL4_ BLO4_ BL44_ HB4_ ⊢
    clear hW4
    have hc := blk_cell BLL4_ 0
    have hc' : W4.cell? ⟨w.heap.size + 1, 0, none⟩ = some (.slice A3 l3.length c3) := hc
    have hf := blk_frozen BLL4_ 0
    clear hc
    have BL12 := Az.mk BL12_
    have BLL4 := Az.mk BLL4_
    have BLO4 := Az.mk BLO4_
    have BL44 := Az.mk BL44_
    have HB4 := Az.mk HB4_
    clear BL12_ BLL4_ BLO4_ BL44_ HB4_
    go_upto_region 8 with (fail)
    have BL12_ := blk_far BL12.out (p := ⟨w.heap.size + 1, 0, none⟩) (by have := hlt.out; simp; omega) (.slice A4 (l3.length - m1.toNat) (c3 - m1.toNat))
    have BLL_ := blk_set BLL4.out 0 (.slice A4 (l3.length - m1.toNat) (c3 - m1.toNat))
    have BLO_ := blk_far BLO4.out (p := ⟨w.heap.size + 1, 0, none⟩) (by simp) (.slice A4 (l3.length - m1.toNat) (c3 - m1.toNat))
    have BL4_ := blk_far BL44.out (p := ⟨w.heap.size + 1, 0, none⟩) (by simp) (.slice A4 (l3.length - m1.toNat) (c3 - m1.toNat))
    have HB_ := below_set (j := 0) (v := .slice A4 (l3.length - m1.toNat) (c3 - m1.toNat)) HB4.out (show w.heap.size ≤ w.heap.size + 1 by omega)
    clear hc' hf BL12 BLL4 BLO4 BL44 HB4
    generalize hW5 : W4.setCell ⟨w.heap.size + 1, 0, none⟩ (.slice A4 (l3.length - m1.toNat) (c3 - m1.toNat)) = W5 at BL12_ BLL_ BLO_ BL4_ HB_ ⊢
    clear hW5
    rw [show l3.length - m1.toNat = (l3.drop m1.toNat).length from List.length_drop.symm] at BLL_
    replace BLL_ : W5.heap[w.heap.size + 1]? = some (.cells #[.slice A4 (l3.drop m1.toNat).length (c3 - m1.toNat)] 24 (0, 0)) := BLL_
    have BL12 := Az.mk BL12_
    have BLL := Az.mk BLL_
    have BLO := Az.mk BLO_
    have BL4 := Az.mk BL4_
    have HB := Az.mk HB_
    clear BL12_ BLL_ BLO_ BL4_ HB_
    go_upto_region 9 with (go_at_call 69; (with_reducible refine (run_entry1.calls (w.heap.size + 1) (w.heap.size + 1 + 1) (by omega) A4 (c3 - m1.toNat) (l3.drop m1.toNat) true p1 p2 p3 W5 BLL.out BLO.out (HR4.out _ (HR3.out _ (HR2.out _ (Kd.C_below HR1.out HB.out)))) HC4.out G3'.out B3.out.1 B3.out.2).mono ?_); rintro e W6 ⟨rfl, hbt6, A6, c6, hl6, ho6, hc6, hC6⟩; have BL4' := Az.mk (hbt6.blk (by omega) (by omega) BL4.out); have BL12' := Az.mk (hbt6.blk (by have := hlt.out; omega) (by have := hlt.out; omega) BL12.out); have HB' := Az.mk (hbt6.below HB.out (by omega) (by omega)); have BLL' := Az.mk hl6; have BLO' := Az.mk ho6; have HC6 := Az.mk hc6; have HR6 := Az.mk hC6; clear hbt6 hl6 ho6 hc6 hC6 BL4 BL12 BLL BLO HB; have hx0 : W6.cell? ⟨W3.heap.size, 0, none⟩ = some (.string X) := blk_cell BL12'.out 0; have hx1 : W6.cell? ⟨W3.heap.size, 1, none⟩ = some (.int .u64 0) := blk_cell BL12'.out 1; have hy0 := blk_frozen BL12'.out 0; have hy1 := blk_frozen BL12'.out 1)
    have BL12_ := blk_set BL12'.out 1 (.int .u64 p1)
    have BLL_ := blk_far BLL'.out (p := ⟨W3.heap.size, 1, none⟩) (by have := hlt.out; simp; omega) (.int .u64 p1)
    have BLO_ := blk_far BLO'.out (p := ⟨W3.heap.size, 1, none⟩) (by have := hlt.out; simp; omega) (.int .u64 p1)
    have BL4_ := blk_far BL4'.out (p := ⟨W3.heap.size, 1, none⟩) (by have := hlt.out; simp; omega) (.int .u64 p1)
    have HB_ := below_set (j := 1) (v := .int .u64 p1) HB'.out (show w.heap.size ≤ W3.heap.size by have := hlt.out; omega)
    clear hx0 hx1 hy0 hy1 BL12' BLL' BLO' BL4' HB'
    generalize hW7 : W6.setCell ⟨W3.heap.size, 1, none⟩ (.int .u64 p1) = W7 at BL12_ BLL_ BLO_ BL4_ HB_ ⊢
    clear hW7
    have hx0 : W7.cell? ⟨W3.heap.size, 0, none⟩ = some (.string X) := blk_cell BL12_ 0
    have hx1 : W7.cell? ⟨W3.heap.size, 1, none⟩ = some (.int .u64 p1) := blk_cell BL12_ 1
    have hxl : W7.cell? ⟨w.heap.size + 1, 0, none⟩ = some (.slice A6 ((l3.drop m1.toNat).drop p2.toNat).length c6) := blk_cell BLL_ 0
    have hxo : W7.cell? ⟨w.heap.size + 1 + 1, 0, none⟩ = some (.bool (p3 == 0)) := by have := blk_cell BLO_ 0; simpa using this
    have hz0 : W7.cell? ⟨w.heap.size, 0, none⟩ = some (.string ⟨#[]⟩) := blk_cell BL4_ 0
    have hz1 : W7.cell? ⟨w.heap.size, 1, none⟩ = some (.int .u64 0) := blk_cell BL4_ 1
    have hf0 := blk_frozen BL4_ 0
    have hf1 := blk_frozen BL4_ 1
    have BL4 := Az.mk BL4_
    have HB := Az.mk HB_
    clear BL12_ BLL_ BLO_ BL4_ HB_
    have h := H.out
    simp only [Option.some.injEq, Prod.mk.injEq] at h
    rw [← HX.out] at h
    have hr7 := fun W hW => HR6.out W (HR4.out W (HR3.out W (HR2.out W hW)))
    have hc6 := HC6.out
    clear HR6 HC6
    obtain ⟨l5, hl5⟩ : ∃ l5, l5 = (l3.drop m1.toNat).drop p2.toNat := ⟨_, rfl⟩
    rw [← hl5] at h hxl hr7 hc6
    clear hl5
    have HR7 := Az.mk hr7
    have HC6 := Az.mk hc6
    clear hr7 hc6
    obtain ⟨rfl, rfl, rfl, rfl⟩ := h
    clear H
    go_region
    all_goals
     go_wp2
     refine bodyPost_ret (results_ctt rfl _ _ w.heap.size 41 #[.string X, .int .u64 p1] (0, 0) _ rfl (by (with_reducible repeat (first | refine blk_drewN ?_ _ | refine blk_drew ?_ | refine blk_alloc ?_ _)); refine blk_put (cs := #[.string X, .int .u64 0]) ?_ 1 _ rfl; (with_reducible repeat (first | refine blk_drewN ?_ _ | refine blk_drew ?_ | refine blk_alloc ?_ _)); refine blk_put (cs := #[.string (⟨#[]⟩ : ByteArray), .int .u64 0]) ?_ 0 _ rfl; (with_reducible repeat (first | refine blk_drewN ?_ _ | refine blk_drew ?_ | refine blk_alloc ?_ _)); exact BL4.out) Try.underlying41 rfl (by kernel_rfl)) rfl ?_
     exact ⟨_, _, rfl, HC6.out, HR7.out, by repeat (first | (with_reducible first | exact HB.out | apply below_alloc | apply pw_below_drewN | apply below_drew1 | refine below_set ?_ (Nat.le_refl _)) | exact HB.out)⟩
  ·rw [if_neg c7] at h
   exact absurd h (by simp)
def run_unblock.go : Nat → ByteArray → List Int → List S41 → Option (List S41 × Bool)
 | 0, _, left, acc => some (acc, left.length == 0)
 | n + 1, was, left, acc => (run_entry.f was left).bind fun r => if r.2.2.2 = false then some ([], false) else if acc.length < 5864062014805 then run_unblock.go n r.1 r.2.2.1 (acc ++ [⟨r.1, r.2.1⟩]) else none
def run_unblock.f (l0 : List Int) : Option (List S41 × Bool) :=
 (num_Get.f l0).bind fun g => if g.2.2 ≠ 0 then some ([], false) else if g.1 > 255 then some ([], false) else if 0 ≤ g.1 then run_unblock.go g.1.toNat ⟨#[]⟩ (l0.drop g.2.1.toNat) [] else none
theorem run_unblock.calls (A0 : Option Addr) (c0 : Nat) (l0 : List Int) (r1 : List S41) (r2 : Bool) (w : World) (hr0 : Kd.C (Kd.int .u8) w A0 l0.length l0) (hc0 : l0.length ≤ c0) (h : run_unblock.f l0 = some (r1, r2)) :
  Calls Try.prog 61 #[.slice A0 l0.length c0] w fun e w' => ∃ v0_ : Value, e = .returned (.tuple #[v0_, .bool r2]) ∧ Kd.R k41 41 w' w.heap.size (fun _ => True) v0_ r1 ∧ Below w.heap.size w w' := by
 have HR0 := Az.mk hr0
 have HC0 := Az.mk hc0
 clear hr0 hc0
 unfold run_unblock.f at h
 replace h := Option.bind_eq_some_iff.mp h
 obtain ⟨⟨n1, n2, n3⟩, G1, h⟩ := h
 dsimp only at h
 have b1 := num_Get.bounds _ _ _ _ G1
 have G1' := Az.mk G1
 have B1 := Az.mk b1
 have H := Az.mk h
 clear G1 b1 h
 have HB := Az.mk (Below.refl w.heap.size w)
 go_enter Try.func61, Try.ntmps61
 go_upto_region 2 with (go_at_call 60; refine (num_Get.calls A0 c0 l0 n1 n2 n3 _ HR0.out HC0.out G1'.out).mono ?_; rintro e w' ⟨rfl, ⟨nd, rfl⟩⟩)
 have h := H.out
 clear H
 by_cases c3 : n3 = 0
 ·rw [if_neg (by simpa using c3)] at h
  have c3b : (n3 != 0) = false := by simpa using c3
  clear c3
  by_cases c4 : n1 > 255
  ·rw [if_pos c4] at h
   have c4b : decide (255 < n1) = true := decide_eq_true c4
   clear c4
   simp only [Option.some.injEq, Prod.mk.injEq] at h
   obtain ⟨rfl, rfl⟩ := h
   go_wp2
   go_ret2
   exact ⟨_, rfl, Kd.R_nil _ _ _ _ _, pw_below_drewN HB.out _⟩
  ·rw [if_neg c4] at h
   have c4b : decide (255 < n1) = false := decide_eq_false c4
   have c4' := Az.mk c4
   clear c4
   by_cases c5 : 0 ≤ n1
   ·rw [if_pos c5] at h
    have H := Az.mk h
    have C5 := Az.mk c5
    clear h c5
    obtain ⟨i0, hi0, _, hsz, _⟩ := info_parts info5
    obtain ⟨A2, hcut2, hA2, hC2⟩ := print_drop_of (P := Try.prog) (Value.int .u8) 0 24 5 .i64 Try.underlying24 hi0 hsz A0 c0 l0 n2 B1.out.1 B1.out.2 HC0.out
    have HR2 : Az (Kd.C (Kd.int .u8) w A2 (l0.drop n2.toNat).length (l0.drop n2.toNat)) := Az.mk (Kd.C_of_reads (h1 := fun _ => rfl) (hA2 w (Kd.reads_of_C HR0.out)))
    have HC2 := Az.mk hC2
    clear hA2 hC2 hi0 hsz
    have b1 := B1.out.1
    have b2 := B1.out.2
    go_upto_region 5 with (fail)
    go_region
    go_wp2
    go_loopg [7, 8, 9, 29] n1.toNat (fun kq v7 v8 v9 v29 w' => ∃ (x7 : List S41) (x8 : ByteArray) (x9 : List Int) (x29 : Int) (A9 : Option Addr) (c9 : Nat), v8 = .string x8 ∧ v9 = .slice A9 x9.length c9 ∧ v29 = .int .u64 x29 ∧ Az (x29 = n1 - kq) ∧ Az (kq ≤ n1.toNat) ∧ Az (run_unblock.go kq x8 x9 x7 = some (r1, r2)) ∧ Az (x9.length ≤ c9) ∧ Az (Kd.C (Kd.int .u8) w A9 x9.length x9) ∧ Az (Kd.R k41 41 w' w.heap.size (fun _ => True) v7 x7) ∧ Az (Below w.heap.size w w'))
    case atStart => exact ⟨[], ⟨#[]⟩, l0.drop n2.toNat, 0, A2, c0 - n2.toNat, rfl, by rw [List.length_drop], rfl, ⟨by have := C5.out; omega⟩, ⟨Nat.le_refl _⟩, H, HC2, HR2, ⟨Kd.R_nil _ _ _ _ _⟩, ⟨pw_below_drewN HB.out _⟩⟩
    case round =>
     clear H HC2 HR2 HB hcut2
     obtain ⟨x7, x8, x9, x29, A9, c9, rfl, rfl, rfl, E29, K9, H, HC9, HR9, HO, HB⟩ := hrel
     cases gk with
     | zero =>
      have hlt : decide (x29 < n1) = false := by have := E29.out; simp; omega
      have h := H.out
      simp only [run_unblock.go, Option.some.injEq, Prod.mk.injEq] at h
      obtain ⟨rfl, hr2⟩ := h
      have hr2' : (((x9.length : Nat) : Int) == 0) = r2 := by rw [← hr2]; cases x9 <;> simp <;> omega
      clear hr2 H
      go_wp2
      go_ret2
      exact ⟨_, rfl, HO.out, HB.out⟩
     | succ k1 =>
      have hlt : decide (x29 < n1) = true := by have := E29.out; have := K9.out; simp; omega
      have h := H.out
      clear H
      simp only [run_unblock.go] at h
      replace h := Option.bind_eq_some_iff.mp h
      obtain ⟨⟨e1, e2, e3, e4⟩, G, h⟩ := h
      dsimp only at h
      have G := Az.mk G
      have H := Az.mk h
      clear h
      go_upto_region 9 with (go_at_call 66; (refine (run_entry.calls x8 A9 c9 x9 e1 e2 e3 e4 _ (Kd.C_below HR9.out HB.out) HC9.out G.out).mono ?_); rintro e w1 ⟨A3, c3, rfl, hc3, hr3, hb⟩; have HC3 := Az.mk hc3; have HR3 := Az.mk (hr3 _ HR9.out); have HB1 := Az.mk hb; clear hc3 hr3 hb)
      have bk := blk_new w1 (.cells #[.string e1, .int .u64 e2] 41 (0, 0))
      have ho2 := Kd.R_alloc (Kd.R_elderB (Kd.R_below HO.out HB1.out) w1.heap.size (Nat.le_refl _)) (.cells #[.string e1, .int .u64 e2] 41 (0, 0))
      have hb2 := below_alloc (below_step HB.out HB1.out) (.cells #[.string e1, .int .u64 e2] 41 (0, 0))
      have hg2 : w.heap.size ≤ w1.heap.size := (below_step HB.out HB1.out).size
      generalize hg : w1.heap.size = g at *
      generalize hW2 : w1.alloc (.cells #[.string e1, .int .u64 e2] 41 (0, 0)) = W2 at *
      clear hW2 hg
      have hc0 : W2.cell? ⟨g, 0, none⟩ = some (.string e1) := blk_cell bk 0
      have hc1 : W2.cell? ⟨g, 1, none⟩ = some (.int .u64 e2) := blk_cell bk 1
      have BK := Az.mk bk
      have HO2 := Az.mk ho2
      have HB2 := Az.mk hb2
      have HG := Az.mk hg2
      clear bk ho2 hb2 hg2 HB1 HB HO
      have h := H.out
      clear H
      cases e4 with
      | false =>
       rw [if_pos rfl] at h
       simp only [Option.some.injEq, Prod.mk.injEq] at h
       obtain ⟨rfl, rfl⟩ := h
       go_wp2
       go_ret2
       exact ⟨_, rfl, Kd.R_nil _ _ _ _ _, HB2.out⟩
      | true =>
       rw [if_neg (by simp)] at h
       by_cases c6 : x7.length < 5864062014805
       ·rw [if_pos c6] at h
        have LM := Az.mk c6
        have H := Az.mk h
        clear h c6
        have hw : IntKind.u64.wrap (x29 + 1) = n1 - k1 := by
         have := E29.out
         have := K9.out
         have := C5.out
         have := c4'.out
         simp [IntKind.wrap, IntKind.bits, IntKind.signed]
         omega
        have HW := Az.mk hw
        clear hw
        go_wp2_with ((with_reducible refine gate_builtin (b := .append) (xs := #[.tmp 40, .tmp 42]) rfl ?_); at_builtin; refine Kd.R_append k41 (w0 := w) w.heap.size rfl (.tmp 40) (.tmp 42) 36 41 (.agg #[(.string ⟨#[]⟩), (.int .u64 0)]) 24 rfl Try.underlying36 info41 rfl (by decide) (by omega) u7 x7 (⟨e1, e2⟩ : S41) [.string e1, .int .u64 e2] (fun k_ => k_ ≠ g) (fun _ => False) rfl (by first | (go_simp; done) | (go_simp; rfl)) ?aP (fun _ hk => hk.elim) ?aF ?aO ?aB ?aS ?aL ?_; (case aP => exact k41_mkM _ _ _ (⟨e1, e2⟩ : S41)); (case aB => exact (bl_ HB2)); (case aF => exact (fun k_ hk => Kd.freshB (g := g) (o := .cells #[.string e1, .int .u64 e2] 41 (0, 0)) (bk_ BK.out) k_ hk)); (case aO => exact (by (with_reducible repeat (first | apply Kd.R_alloc | apply Kd.R_drewN | apply Kd.R_drew)); exact Kd.R_mono HO2.out (fun _ hk => hk.2))); (case aS => exact (below_size (bl_ HB2))); (case aL => have := LM.out; omega); intro v8_ w3 ho hb hg hat; have BK3 := Az.mk (blk_grown (g := g) (o := .cells #[.string e1, .int .u64 e2] 41 (0, 0)) (bk_ BK.out) hg (Kd.R_away HO2.out (fun _ hk => hk.2))); have HO3 := Az.mk ho; have HB3 := Az.mk hb; clear ho hb hg hat BK HO2 HB2; have hcz0 : w3.cell? ⟨g, 0, none⟩ = some (.string e1) := blk_cell BK3.out 0; have hcz1 : w3.cell? ⟨g, 1, none⟩ = some (.int .u64 e2) := blk_cell BK3.out 1)
        go_roundg k1
        case measure => have := K9.out; omega
        case rel => exact ⟨x7 ++ [⟨e1, e2⟩], e1, e3, _, A3, c3, rfl, rfl, rfl, HW, ⟨by have := K9.out; omega⟩, H, HC3, HR3, ⟨by (with_reducible repeat (first | apply Kd.R_alloc | apply Kd.R_drewN | apply Kd.R_drew)); exact Kd.R_mono HO3.out (fun _ hk => trivial)⟩, ⟨bl_ HB3⟩⟩
       ·rw [if_neg c6] at h
        exact absurd h (by simp)
   ·rw [if_neg c5] at h
    exact absurd h (by simp)
 ·rw [if_pos c3] at h
  have c3b : (n3 != 0) = true := by simpa using c3
  clear c3
  simp only [Option.some.injEq, Prod.mk.injEq] at h
  obtain ⟨rfl, rfl⟩ := h
  go_wp2
  go_ret2
  exact ⟨_, rfl, Kd.R_nil _ _ _ _ _, pw_below_drewN HB.out _⟩
mutual
def run_Decode.j0 : Nat → List Int → List (List Int) → Int → Bool → Option ((List (S41)) × Int)
 | 0, _, _, _, _ => none
 | k + 1, x0, x4, x6, x36 => if x36 = true then (some (([] : List (S41)), 2)) else (if 1 ≤ (wrap64 ((x4.length : Int) - 1)) then (if (wrap64 ((x4.length : Int) - 1)) ≤ (x4.length : Int) then ((some ((x4.take ((wrap64 ((x4.length : Int) - 1)) : Int).toNat).drop 1 : List (List Int))).bind fun y206 => (run_Decode.l0 k x0 x6 ([] : List (S41)) y206 (y206.length : Int) 0)) else (none)) else (none))
def run_Decode.l0 : Nat → List Int → Int → List (S41) → List (List Int) → Int → Int → Option ((List (S41)) × Int)
 | 0, _, _, _, _, _, _ => none
 | k + 1, x0, x6, x9, x41, x42, x43 => if x43 < x42 then (if 0 ≤ x43 then (if x43 < (x41.length : Int) then ((run_unblock.f (rd_L5 x41 x43)).bind fun bt211 => (if bt211.2 = true then (if x9.length + bt211.1.length < 5864062014805 then (run_Decode.l0 k x0 x6 (x9 ++ bt211.1) x41 x42 (wrap64 (x43 + 1))) else (none)) else (some (([] : List (S41)), 2)))) else (none)) else (none)) else ((run_Encode.f k x9 (wrap64 (x6))).bind fun bt218 => (if bt218.2 = 0 then ((bytes_Equal.f bt218.1 x0).bind fun t222 => (if t222 = true then (some (x9, 0)) else (some (([] : List (S41)), 2)))) else (some (([] : List (S41)), 2))))
end
def run_Decode.f (k : Nat) (l0 : List Int) : Option ((List (S41)) × Int) := (frame_Scan.f k l0).bind fun bt198 => (if (bt198.1.length : Int) < 2 then (some (([] : List (S41)), 2)) else (if 0 < (bt198.1.length : Int) then ((num_Get.f (rd_L5 bt198.1 0)).bind fun bt203 => (if bt203.2.2 = 0 then (run_Decode.j0 k l0 bt198.1 bt203.1 (decide (bt203.1 > 255))) else (run_Decode.j0 k l0 bt198.1 bt203.1 true))) else (none)))
theorem run_Decode.mono_l : ∀ k, (∀ y0 y1 y2 y3, LeO (run_Decode.j0 k y0 y1 y2 y3) (run_Decode.j0 (k + 1) y0 y1 y2 y3)) ∧ (∀ y0 y1 y2 y3 y4 y5, LeO (run_Decode.l0 k y0 y1 y2 y3 y4 y5) (run_Decode.l0 (k + 1) y0 y1 y2 y3 y4 y5))
 | 0 => ⟨fun _ _ _ _ r h => by simp [run_Decode.j0] at h, fun _ _ _ _ _ _ r h => by simp [run_Decode.l0] at h⟩
 | k + 1 => by
  obtain ⟨ih0, ih1⟩ := run_Decode.mono_l k
  refine ⟨?_, ?_⟩
  ·intro y0 y1 y2 y3
   unfold run_Decode.j0
   repeat' first
   | (with_reducible exact ih0 _ _ _ _)
   | (with_reducible exact ih1 _ _ _ _ _ _)
   | (with_reducible exact frame_Scan.mono _ _)
   | (with_reducible exact run_Encode.mono _ _ _)
   | (with_reducible exact LeO.refl _)
   | (with_reducible exact LeO.none _)
   | (with_reducible refine LeO.ite ?_ ?_)
   | (with_reducible refine LeO.bind ?_ (fun _ => ?_))
   | exact ih0 _ _ _ _
   | exact ih1 _ _ _ _ _ _
   | exact frame_Scan.mono _ _
   | exact run_Encode.mono _ _ _
   | exact LeO.none _
   | refine LeO.ite ?_ ?_
   | refine LeO.bind ?_ (fun _ => ?_)
  ·intro y0 y1 y2 y3 y4 y5
   unfold run_Decode.l0
   repeat' first
   | (with_reducible exact ih0 _ _ _ _)
   | (with_reducible exact ih1 _ _ _ _ _ _)
   | (with_reducible exact frame_Scan.mono _ _)
   | (with_reducible exact run_Encode.mono _ _ _)
   | (with_reducible exact LeO.refl _)
   | (with_reducible exact LeO.none _)
   | (with_reducible refine LeO.ite ?_ ?_)
   | (with_reducible refine LeO.bind ?_ (fun _ => ?_))
   | exact ih0 _ _ _ _
   | exact ih1 _ _ _ _ _ _
   | exact frame_Scan.mono _ _
   | exact run_Encode.mono _ _ _
   | exact LeO.none _
   | refine LeO.ite ?_ ?_
   | refine LeO.bind ?_ (fun _ => ?_)
theorem run_Decode.mono : ∀ a0 k, LeO (run_Decode.f k a0) (run_Decode.f (k + 1) a0) := by
 intro a0 k
 obtain ⟨ih0, ih1⟩ := run_Decode.mono_l k
 unfold run_Decode.f
 repeat' first
   | (with_reducible exact ih0 _ _ _ _)
   | (with_reducible exact ih1 _ _ _ _ _ _)
   | (with_reducible exact frame_Scan.mono _ _)
   | (with_reducible exact run_Encode.mono _ _ _)
   | (with_reducible exact LeO.refl _)
   | (with_reducible exact LeO.none _)
   | (with_reducible refine LeO.ite ?_ ?_)
   | (with_reducible refine LeO.bind ?_ (fun _ => ?_))
   | exact ih0 _ _ _ _
   | exact ih1 _ _ _ _ _ _
   | exact frame_Scan.mono _ _
   | exact run_Encode.mono _ _ _
   | exact LeO.none _
   | refine LeO.ite ?_ ?_
   | refine LeO.bind ?_ (fun _ => ?_)
theorem run_Decode.calls (k : Nat) (A0 : Option Addr) (c0 : Nat) (l0 : List Int) (r1 : List (S41)) (r2 : Int) (w : World) (hr0 : Kd.C (Kd.int .u8) w A0 l0.length l0) (hc0 : l0.length ≤ c0) (h : run_Decode.f k l0 = some (r1, r2)) :
  Calls Try.prog 47 #[.slice A0 l0.length c0] w fun e w' => ∃ v0_ : Value, e = .returned (.tuple #[v0_, .int .i64 r2]) ∧ Kd.R k41 41 w' w.heap.size (fun _ => True) v0_ r1 ∧ Below w.heap.size w w' := by
 have HR0 := Az.mk hr0
 have HC0 := Az.mk hc0
 clear hr0 hc0
 have HB := Az.mk (Below.refl w.heap.size w)
 have H : ((frame_Scan.f k l0).bind fun bt198 => (if (bt198.1.length : Int) < 2 then (some (([] : List (S41)), 2)) else (if 0 < (bt198.1.length : Int) then ((num_Get.f (rd_L5 bt198.1 0)).bind fun bt203 => (if bt203.2.2 = 0 then (run_Decode.j0 k l0 bt198.1 bt203.1 (decide (bt203.1 > 255))) else (run_Decode.j0 k l0 bt198.1 bt203.1 true))) else (none)))) = some (r1, r2) := h
 clear h
 replace H := Option.bind_eq_some_iff.mp H
 obtain ⟨⟨t198, t199⟩, A20, H⟩ := H
 replace H : (if (t198.length : Int) < 2 then (some (([] : List (S41)), 2)) else (if 0 < (t198.length : Int) then ((num_Get.f (rd_L5 t198 0)).bind fun bt203 => (if bt203.2.2 = 0 then (run_Decode.j0 k l0 t198 bt203.1 (decide (bt203.1 > 255))) else (run_Decode.j0 k l0 t198 bt203.1 true))) else (none))) = some (r1, r2) := H
 have A2 := Az.mk A20
 clear A20
 by_cases c3 : (t198.length : Int) < 2
 ·rw [if_pos c3] at H
  have c3b0 := decide_eq_true c3
  have c3b1 : decide (t198.length < 2) = true := decide_eq_true (by omega)
  clear c3
  simp only [Option.some.injEq, Prod.mk.injEq] at H
  obtain ⟨rfl, rfl⟩ := H
  go_enter Try.func47, Try.ntmps47
  go_wp2_with (first | ((with_reducible refine gate_callee (f := 59) rfl ?_); refine goesL_ (some 17) rfl rfl Try.func59 (by kernel_rfl) rfl #[.slice A0 l0.length c0] rfl ar_ ?_; (with_reducible refine (frame_Scan.calls k _ _ l0 t198 t199 _ ?side1 ?side2 A2.out).mono ?_); (case side1 => exact cl_ HR0.out); (case side2 => exact HC0.out); rintro e w4 ⟨v200, rfl, ho0, hb⟩; refine ⟨_, rfl, ?_⟩; have n0_ := Az.mk (Kd.S_lower ho0 (below_size (bl_ HB))); have n1_ := Az.mk (below_step (bl_ HB) hb); clear HB; have HO201 := n0_; have HB := n1_; clear n0_ n1_; (try clear hb); (try clear hb2); (try clear hk); (try clear hi); (try clear ho0); obtain ⟨Ao5, co5, eo5⟩ := Kd.S_slice HO201.out; subst eo5))
  go_ret2
  exact ⟨_, er_, nl_, bl_ HB⟩
 ·rw [if_neg c3] at H
  have c3b0 := decide_eq_false c3
  have c3b1 : decide (t198.length < 2) = false := decide_eq_false (by omega)
  clear c3
  by_cases c6 : 0 < (t198.length : Int)
  ·rw [if_pos c6] at H
   have c6b0 := decide_eq_true c6
   have c6b1 : decide (0 < t198.length) = true := decide_eq_true (by omega)
   clear c6
   replace H := Option.bind_eq_some_iff.mp H
   obtain ⟨⟨t203, t204, t205⟩, A70, H⟩ := H
   replace H : (if t205 = 0 then (run_Decode.j0 k l0 t198 t203 (decide (t203 > 255))) else (run_Decode.j0 k l0 t198 t203 true)) = some (r1, r2) := H
   have A7 := Az.mk A70
   clear A70
   have HC8 := Az.mk H
   clear H
   go_enter Try.func47, Try.ntmps47
   go_upto_region 5 with (first | ((with_reducible refine gate_callee (f := 59) rfl ?_); refine goesL_ (some 17) rfl rfl Try.func59 (by kernel_rfl) rfl #[.slice A0 l0.length c0] rfl ar_ ?_; (with_reducible refine (frame_Scan.calls k _ _ l0 t198 t199 _ ?side1 ?side2 A2.out).mono ?_); (case side1 => exact cl_ HR0.out); (case side2 => exact HC0.out); rintro e w9 ⟨v200, rfl, ho0, hb⟩; refine ⟨_, rfl, ?_⟩; have n0_ := Az.mk (Kd.S_lower ho0 (below_size (bl_ HB))); have n1_ := Az.mk (below_step (bl_ HB) hb); clear HB; have HO201 := n0_; have HB := n1_; clear n0_ n1_; (try clear hb); (try clear hb2); (try clear hk); (try clear hi); (try clear ho0); obtain ⟨Ao10, co10, eo10⟩ := Kd.S_slice HO201.out; subst eo10; have p202 : 0 ≤ (0 : Int) := (by omega); have q202 : 0 < (t198.length : Int) := of_decide_eq_true as_; obtain ⟨ad202, A202_0, c202_0, e202, hx202_0, hl202_0, hi202_0⟩ := at_L5 (Kd.S_reads' HO201.out).2.2 0 p202 q202; cases e202; obtain ⟨ce202, hce202, hMe202, hcc202⟩ := Kd.S_get HO201.out [] 0 p202 (by first | exact q202 | exact of_decide_eq_true as_ | (have e_ := (Kd.S_reads' HO201.out).1; omega)); obtain ⟨ve202_0, rfl, ge202_0⟩ := hMe202; have hv202_0 := hcc202 0 _ rfl; rw [Nat.add_zero, show ((Kd.slice 5 (Kd.int .u8))).sz = 1 from rfl, Nat.mul_one] at hv202_0; replace hv202_0 := Option.some.inj (hv202_0.symm.trans hx202_0); rw [hv202_0] at ge202_0; have HL202_0 := Az.mk (show Kd.R (Kd.int .u8) 5 _ _ _ _ (rd_L5 t198 0) from ge202_0); clear hv202_0 ge202_0; clear hcc202 hce202; have qi202 : (0 < t198.length) = True := eq_true (by omega); (try rw [show ((0 : Int)).toNat = 0 from rfl] at hx202_0); (try rw [Addr.add_zero'] at hx202_0); have HR202_0 := Az.mk hi202_0; have HC202_0 := Az.mk hl202_0; clear hi202_0 hl202_0; replace p202 := eq_true p202; replace q202 := eq_true q202) | ((with_reducible refine gate_callee (f := 60) rfl ?_); refine goesL_ (some 27) rfl rfl Try.func60 (by kernel_rfl) rfl #[.slice A202_0 (rd_L5 t198 0).length c202_0] rfl ar_ ?_; (with_reducible refine (num_Get.calls _ _ (rd_L5 t198 0) t203 t204 t205 _ ?side1 ?side2 A7.out).mono ?_); (case side1 => repeat (first | exact (by repeat (first | (with_reducible exact HR202_0.out) | (with_reducible refine Kd.C_alloc ?_ _) | (with_reducible refine Kd.C_drewN ?_ _) | (with_reducible refine Kd.C_drew ?_) | exact HR202_0.out)) | (with_reducible refine Kd.C_alloc ?_ _) | (with_reducible refine Kd.C_drewN ?_ _) | (with_reducible refine Kd.C_drew ?_))); (case side2 => exact HC202_0.out); rintro e w' ⟨rfl, ⟨nd, rfl⟩⟩; refine ⟨_, rfl, ?_⟩))
   (try simp only [Act.put, List.setIfInBounds_toArray, List.set_cons_zero, List.set_cons_succ])
   go_cut [36] (fun v36 wc => ∃ (kq : Nat) (x36_7 : Bool), v36 = .bool x36_7 ∧ Az (run_Decode.j0 kq l0 t198 t203 x36_7 = some (r1, r2)) ∧ Az (kq ≤ k) ∧ Az (Kd.S (Kd.slice 5 (Kd.int .u8)) 24 wc w.heap.size (fun _ => True) (.slice (some ad202) t198.length co10) t198) ∧ Az (Kd.C (Kd.int .u8) wc A202_0 (rd_L5 t198 0).length (rd_L5 t198 0)) ∧ Az (Below w.heap.size w wc))
   case first =>
    have H := HC8.out
    clear HC8
    by_cases c11 : t205 = 0
    ·rw [if_pos c11] at H
     have c11b0 : (t205 == 0) = true := beq_iff_eq.mpr c11
     have c11b1 : (t205 != 0) = false := bne_eq_false_iff_eq.mpr c11
     clear c11
     (first | rw [c11b0] | (simp only [i64_w, i32_w]; rw [c11b0]) | skip)
     have H' := Az.mk H
     clear H
     go_wp2
     go_meet
     case rel => exact ⟨_, (decide (t203 > 255)), (es_), H', ⟨by first | omega | exact Nat.le_refl _⟩, ⟨sl_ HO201.out⟩, ⟨by repeat (first | (with_reducible exact HR202_0.out) | (with_reducible refine Kd.C_alloc ?_ _) | (with_reducible refine Kd.C_drewN ?_ _) | (with_reducible refine Kd.C_drew ?_) | exact HR202_0.out)⟩, ⟨bl_ HB⟩⟩
    ·rw [if_neg c11] at H
     have c11b0 : (t205 == 0) = false := beq_eq_false_iff_ne.mpr c11
     have c11b1 : (t205 != 0) = true := bne_iff_ne.mpr c11
     (first | rw [c11b0] | (simp only [i64_w, i32_w]; rw [c11b0]) | skip)
     have H' := Az.mk H
     clear H
     go_wp2
     go_meet
     case rel => exact ⟨_, (true), (es_), H', ⟨by first | omega | exact Nat.le_refl _⟩, ⟨sl_ HO201.out⟩, ⟨by repeat (first | (with_reducible exact HR202_0.out) | (with_reducible refine Kd.C_alloc ?_ _) | (with_reducible refine Kd.C_drewN ?_ _) | (with_reducible refine Kd.C_drew ?_) | exact HR202_0.out)⟩, ⟨bl_ HB⟩⟩
   case rest =>
    clear HC8
    try clear c1
    try clear c2
    try clear p2
    try clear q2
    try clear hx2
    try clear qi2
    try clear c3
    try clear c3b0
    try clear c3b1
    try clear c4
    try clear c5
    try clear c6
    try clear c6b0
    try clear c6b1
    try clear c11
    try clear c11b0
    try clear c11b1
    try clear hx202_0
    try clear p202
    try clear q202
    obtain ⟨kq, x36_7, rfl, HA, HJ7, HO_4, HR202_0, HB⟩ := hcut
    cases kq with
    | zero => exact absurd HA.out (by simp [run_Decode.j0])
    | succ kj7 =>
     have H := HA.out
     clear HA
     simp only [run_Decode.j0] at H
     by_cases c12 : x36_7 = true
     ·subst c12
      have H1 : (some (([] : List (S41)), 2)) = some (r1, r2) := by rw [if_pos rfl] at H; exact H
      clear H
      have H := H1
      clear H1
      simp only [Option.some.injEq, Prod.mk.injEq] at H
      obtain ⟨rfl, rfl⟩ := H
      go_wp2
      go_ret2
      exact ⟨_, er_, nl_, bl_ HB⟩
     ·replace c12 := Bool.eq_false_iff.mpr c12
      subst c12
      have H1 : (if 1 ≤ (wrap64 ((t198.length : Int) - 1)) then (if (wrap64 ((t198.length : Int) - 1)) ≤ (t198.length : Int) then ((some ((t198.take ((wrap64 ((t198.length : Int) - 1)) : Int).toNat).drop 1 : List (List Int))).bind fun y206 => (run_Decode.l0 kj7 l0 t203 ([] : List (S41)) y206 (y206.length : Int) 0)) else (none)) else (none)) = some (r1, r2) := by rw [if_neg (show ¬ (false = true) by decide)] at H; exact H
      clear H
      have H := H1
      clear H1
      by_cases c13 : 1 ≤ (wrap64 ((t198.length : Int) - 1))
      ·rw [if_pos c13] at H
       have c13b0 := eq_true c13
       have c13b1 := decide_eq_true c13
       clear c13
       by_cases c14 : (wrap64 ((t198.length : Int) - 1)) ≤ (t198.length : Int)
       ·rw [if_pos c14] at H
        have c14b0 := eq_true c14
        have c14b1 := decide_eq_true c14
        clear c14
        obtain ⟨y206, hy206⟩ : ∃ y_ : List (List Int), y_ = ((t198.take ((wrap64 ((t198.length : Int) - 1)) : Int).toNat).drop 1) := ⟨_, rfl⟩
        replace H : (run_Decode.l0 kj7 l0 t203 ([] : List (S41)) y206 (y206.length : Int) 0) = some (r1, r2) := hr_ hy206 H
        have Ny206 := Az.mk hy206
        clear hy206
        have H' := Az.mk H
        clear H
        have q15 : ((wrap64 ((t198.length : Int) - 1)) : Int) ≤ ((t198.length : Int) : Int) := of_decide_eq_true as_
        obtain ⟨i015, hi015, _, hsz15, _⟩ := info_parts info24
        have hroom15 : t198.length ≤ co10 := (Kd.S_reads' HO_4.out).2.1
        have hC15 : Kd.C (Kd.slice 5 (Kd.int .u8)) _ (some ad202) t198.length t198 := (Kd.S_reads' HO_4.out).2.2
        have ql15 : (1 : Int) ≤ ((wrap64 ((t198.length : Int) - 1)) : Int) := of_decide_eq_true as_
        have hcut15 := cut_mid (P := Try.prog) 22 24 .i64 .i64 Try.underlying22 hi015 1 hsz15 (some ad202) t198.length co10 1 (wrap64 ((t198.length : Int) - 1)) (by omega) ql15 q15 hroom15
        have hr15 := Kd.C_mid (lo := (1 : Int).toNat) (hi := ((wrap64 ((t198.length : Int) - 1)) : Int).toNat) (c := co10) hC15 (by omega) (by omega) hroom15
        obtain ⟨A15, hA15⟩ : ∃ A1, A1 = (if co10 = (1 : Int).toNat then (some ad202) else ((some ad202) : Option Addr).map (·.add ((1 : Int).toNat * 1))) := ⟨_, rfl⟩
        obtain ⟨c15, hc15⟩ : ∃ c1, c1 = co10 - (1 : Int).toNat := ⟨_, rfl⟩
        have hy15 : y206.length = ((wrap64 ((t198.length : Int) - 1)) : Int).toNat - (1 : Int).toNat := (by rw [Ny206.out, List.length_drop, List.length_take] <;> omega)
        rw [show ((t198).take ((wrap64 ((t198.length : Int) - 1)) : Int).toNat).drop (1 : Int).toNat = y206 from Ny206.out.symm] at hr15
        replace hr15 : Kd.C (Kd.slice 5 (Kd.int .u8)) _ A15 y206.length y206 := (by rw [hA15]; exact hr15)
        rw [← hy15, ← hA15, ← hc15] at hcut15
        have HFC := Az.mk (fun W => fun hC_ : Kd.C (Kd.slice 5 (Kd.int .u8)) W (some ad202) t198.length t198 => (by have q_ := Kd.C_mid (lo := (1 : Int).toNat) (hi := ((wrap64 ((t198.length : Int) - 1)) : Int).toNat) (c := co10) hC_ (by omega) (by omega) hroom15; rw [show ((t198).take ((wrap64 ((t198.length : Int) - 1)) : Int).toNat).drop (1 : Int).toNat = y206 from Ny206.out.symm] at q_; rw [hA15]; exact q_ : Kd.C (Kd.slice 5 (Kd.int .u8)) W A15 y206.length y206))
        have HR209 := Az.mk hr15
        have HC209 := Az.mk (show y206.length ≤ c15 from by rw [hy15, hc15]; exact Nat.sub_le_sub_right (Nat.le_trans (by omega) hroom15) _)
        clear hr15 hC15 hroom15 hi015 hsz15 hc15
        have KY15 := Az.mk hy15
        have KA15 := Az.mk hA15
        clear hy15 hA15
        have KL15 := Az.mk (show ((wrap64 ((t198.length : Int) - 1)) : Int).toNat ≤ t198.length from by omega)
        have KM15 := Az.mk (show 1 ≤ ((wrap64 ((t198.length : Int) - 1)) : Int).toNat from by omega)
        replace q15 := eq_true q15
        go_wp2
        go_loopg [9, 43] kj7 (fun kq v9 v43 w' => ∃ (x9_2 : List (S41)) (x43_2 : Int), v43 = .int .i64 x43_2 ∧ Az (run_Decode.l0 kq l0 t203 x9_2 y206 (y206.length : Int) x43_2 = some (r1, r2)) ∧ Az (kq ≤ kj7) ∧ Az (Kd.R k41 41 w' w.heap.size (fun _ => True) v9 x9_2) ∧ Az (Below w.heap.size w w') ∧ Az (Kd.S (Kd.slice 5 (Kd.int .u8)) 24 w' w.heap.size (fun _ => True) (.slice (some ad202) t198.length co10) t198))
        case atStart => exact ⟨(([] : List (S41))), (0), (es_), H', ⟨Nat.le_refl _⟩, ⟨nl_⟩, ⟨bl_ HB⟩, ⟨(by (with_reducible repeat (first | apply Kd.S_alloc | apply Kd.S_drewN | apply Kd.S_drew)); exact Kd.S_mono HO_4.out (fun _ _ => trivial))⟩⟩
        case round =>
         clear H'
         try clear c1
         try clear q1
         try clear c2
         try clear p2
         try clear q2
         try clear hx2
         try clear qi2
         try clear c3
         try clear c3b0
         try clear c3b1
         try clear c4
         try clear c5
         try clear c6
         try clear c6b0
         try clear c6b1
         try clear p6
         try clear c11
         try clear c11b0
         try clear c11b1
         try clear c12
         try clear c13
         try clear c13b0
         try clear c13b1
         try clear c14
         try clear c14b0
         try clear c14b1
         try clear c15
         try clear q15
         try clear hx202_0
         try clear p2
         try clear p202
         try clear q15
         try clear q2
         try clear q202
         obtain ⟨x9_2, x43_2, rfl, HA, HK2, HO_9, HB, HS4⟩ := hrel
         have HR15w := Az.mk (HFC.out _ (Kd.S_reads' HS4.out).2.2)
         cases gk with
         | zero => exact absurd HA.out (by simp [run_Decode.l0])
         | succ k2 =>
          have H := HA.out
          clear HA
          simp only [run_Decode.l0] at H
          by_cases c16 : x43_2 < (y206.length : Int)
          ·rw [if_pos c16] at H
           have c16b0 := decide_eq_true c16
           clear c16
           by_cases c17 : 0 ≤ x43_2
           ·rw [if_pos c17] at H
            have c17b0 := decide_eq_true c17
            clear c17
            by_cases c18 : x43_2 < (y206.length : Int)
            ·rw [if_pos c18] at H
             have c18b0 := decide_eq_true c18
             clear c18
             replace H := Option.bind_eq_some_iff.mp H
             obtain ⟨⟨t211, t212⟩, A190, H⟩ := H
             replace H : (if t212 = true then (if x9_2.length + t211.length < 5864062014805 then (run_Decode.l0 k2 l0 t203 (x9_2 ++ t211) y206 (y206.length : Int) (wrap64 (x43_2 + 1))) else (none)) else (some (([] : List (S41)), 2))) = some (r1, r2) := H
             have A19 := Az.mk A190
             clear A190
             by_cases c20 : t212 = true
             ·subst c20
              have H1 : (if x9_2.length + t211.length < 5864062014805 then (run_Decode.l0 k2 l0 t203 (x9_2 ++ t211) y206 (y206.length : Int) (wrap64 (x43_2 + 1))) else (none)) = some (r1, r2) := by rw [if_pos rfl] at H; exact H
              clear H
              have H := H1
              clear H1
              by_cases c21 : x9_2.length + t211.length < 5864062014805
              ·rw [if_pos c21] at H
               have LMc21 := Az.mk c21
               clear c21
               obtain ⟨y215, hy215⟩ : ∃ y_ : List (S41), y_ = (x9_2 ++ t211) := ⟨_, rfl⟩
               replace H : (run_Decode.l0 k2 l0 t203 y215 y206 (y206.length : Int) (wrap64 (x43_2 + 1))) = some (r1, r2) := hr_ hy215 H
               have Ny215 := Az.mk hy215
               clear hy215
               have H' := Az.mk H
               clear H
               have p210 : 0 ≤ (x43_2 : Int) := of_decide_eq_true as_
               have q210 : x43_2 < (y206.length : Int) := of_decide_eq_true as_
               obtain ⟨ad210, A210_0, c210_0, e210, hx210_0, hl210_0, hi210_0⟩ := at_L5 HR15w.out x43_2 p210 q210
               cases e210
               have HR210_0 := Az.mk hi210_0
               have HC210_0 := Az.mk hl210_0
               clear hi210_0 hl210_0
               replace p210 := eq_true p210
               replace q210 := eq_true q210
               go_wp2_with (first | ((with_reducible refine gate_callee (f := 61) rfl ?_); refine goesL_ (some 49) rfl rfl Try.func61 (by kernel_rfl) rfl #[.slice A210_0 (rd_L5 y206 x43_2).length c210_0] rfl ar_ ?_; (with_reducible refine (run_unblock.calls _ _ (rd_L5 y206 x43_2) t211 true _ ?side1 ?side2 A19.out).mono ?_); (case side1 => exact cl_ HR210_0.out); (case side2 => exact HC210_0.out); rintro e w22 ⟨v213, rfl, ho0, hb⟩; refine ⟨_, rfl, ?_⟩; have s4_ := Az.mk (Kd.S_below (sl_ HS4.out) hb); clear HS4; have HS4 := s4_; clear s4_; have n0_ := Az.mk (Kd.R_elder' (rl_ HO_9.out) (Kd.R_base ho0) hb); have n1_ := Az.mk (Kd.R_lower (Kd.R_new' ho0 (Kd.R_lt (rl_ HO_9.out))) (below_size (bl_ HB))); have n2_ := Az.mk (below_step (bl_ HB) hb); clear HO_9; clear HB; have HO_9 := n0_; have HO214 := n1_; have HB := n2_; clear n0_ n1_ n2_; (try clear hb); (try clear hb2); (try clear hk); (try clear hi); (try clear ho0); obtain ⟨Ao24, co24, eo24⟩ := Kd.R_slice HO214.out; subst eo24) | ((with_reducible refine gate_builtin (b := .append) (xs := #[.tmp 54, .tmp 55]) rfl ?_); at_builtin; refine Kd.R_append_rows k41 (w0 := w) w.heap.size rfl (.tmp 54) (.tmp 55) 36 41 (.agg #[(.string ⟨#[]⟩), (.int .u64 0)]) 24 rfl Try.underlying36 info41 rfl (by decide) (by omega) u9 x9_2 t211 _ _ _ (fun k_ => some k_ ≠ (.slice Ao24 t211.length co24 : Value).ownBlock) (fun _ => False) rfl rfl ?aO ?aR (fun _ _ h => h) (fun _ h => h.elim) ?aF ?aB ?aS ?aL ?_; (case aR => exact cl_ (Kd.R_reads' HO214.out).2.2); (case aB => exact (bl_ HB)); (case aF => exact (fun k_ hk => Kd.fresh' (Kd.R_lt (rl_ HO214.out)) k_ hk)); (case aO => exact (by (with_reducible repeat (first | apply Kd.R_alloc | apply Kd.R_drewN | apply Kd.R_drew)); exact Kd.R_mono HO_9.out (fun _ hk => hk.2))); (case aS => exact (below_size (bl_ HB))); (case aL => have := LMc21.out; omega); intro v216 w23 ho hb hg hat; have s4_ := Az.mk (Kd.S_over' (sl_ HS4.out) (Kd.R_typed (by (with_reducible repeat (first | apply Kd.R_alloc | apply Kd.R_drewN | apply Kd.R_drew)); exact Kd.R_mono HO_9.out (fun _ hk => hk.2))) (by decide) hg); clear HS4; have HS4 := s4_; clear s4_; rw [← Ny215.out] at ho; have n0_ := Az.mk (Kd.R_after (ok := (fun _ => True)) (rl_ HO214.out) hg hat); have n1_ := Az.mk (hb); have n2_ := Az.mk (ho); clear HO214; clear HB; clear HO_9; have HO214 := n0_; have HB := n1_; have HO217 := n2_; clear n0_ n1_ n2_; clear ho hb hg hat))
               go_roundg k2
               case measure => have := HJ7.out; have := HK2.out; omega
               case rel => exact ⟨(y215), (wrap64 (x43_2 + 1)), (es_), H', ⟨by have := HJ7.out; have := HK2.out; omega⟩, ⟨by (with_reducible repeat (first | apply Kd.R_alloc | apply Kd.R_drewN | apply Kd.R_drew)); exact Kd.R_mono HO217.out (fun _ hk => trivial)⟩, ⟨bl_ HB⟩, ⟨(sl_ HS4.out)⟩⟩
              ·rw [if_neg c21] at H
               exact absurd H (by simp)
             ·replace c20 := Bool.eq_false_iff.mpr c20
              subst c20
              have H1 : (some (([] : List (S41)), 2)) = some (r1, r2) := by rw [if_neg (show ¬ (false = true) by decide)] at H; exact H
              clear H
              have H := H1
              clear H1
              simp only [Option.some.injEq, Prod.mk.injEq] at H
              obtain ⟨rfl, rfl⟩ := H
              have p210 : 0 ≤ (x43_2 : Int) := of_decide_eq_true as_
              have q210 : x43_2 < (y206.length : Int) := of_decide_eq_true as_
              obtain ⟨ad210, A210_0, c210_0, e210, hx210_0, hl210_0, hi210_0⟩ := at_L5 HR15w.out x43_2 p210 q210
              cases e210
              have HR210_0 := Az.mk hi210_0
              have HC210_0 := Az.mk hl210_0
              clear hi210_0 hl210_0
              replace p210 := eq_true p210
              replace q210 := eq_true q210
              go_wp2_with (first | ((with_reducible refine gate_callee (f := 61) rfl ?_); refine goesL_ (some 49) rfl rfl Try.func61 (by kernel_rfl) rfl #[.slice A210_0 (rd_L5 y206 x43_2).length c210_0] rfl ar_ ?_; (with_reducible refine (run_unblock.calls _ _ (rd_L5 y206 x43_2) t211 false _ ?side1 ?side2 A19.out).mono ?_); (case side1 => exact cl_ HR210_0.out); (case side2 => exact HC210_0.out); rintro e w25 ⟨v213, rfl, ho0, hb⟩; refine ⟨_, rfl, ?_⟩; have s4_ := Az.mk (Kd.S_below (sl_ HS4.out) hb); clear HS4; have HS4 := s4_; clear s4_; have n0_ := Az.mk (Kd.R_elder' (rl_ HO_9.out) (Kd.R_base ho0) hb); have n1_ := Az.mk (Kd.R_lower (Kd.R_new' ho0 (Kd.R_lt (rl_ HO_9.out))) (below_size (bl_ HB))); have n2_ := Az.mk (below_step (bl_ HB) hb); clear HO_9; clear HB; have HO_9 := n0_; have HO214 := n1_; have HB := n2_; clear n0_ n1_ n2_; (try clear hb); (try clear hb2); (try clear hk); (try clear hi); (try clear ho0)))
              go_ret2
              exact ⟨_, er_, nl_, bl_ HB⟩
            ·rw [if_neg c18] at H
             exact absurd H (by simp)
           ·rw [if_neg c17] at H
            exact absurd H (by simp)
          ·rw [if_neg c16] at H
           have c16b0 := decide_eq_false c16
           clear c16
           replace H := Option.bind_eq_some_iff.mp H
           obtain ⟨⟨t218, t219⟩, A260, H⟩ := H
           replace H : (if t219 = 0 then ((bytes_Equal.f t218 l0).bind fun t222 => (if t222 = true then (some (x9_2, 0)) else (some (([] : List (S41)), 2)))) else (some (([] : List (S41)), 2))) = some (r1, r2) := H
           have A26 := Az.mk A260
           clear A260
           by_cases c27 : t219 = 0
           ·rw [if_pos c27] at H
            have c27b0 : (t219 == 0) = true := beq_iff_eq.mpr c27
            have c27b1 : (t219 != 0) = false := bne_eq_false_iff_eq.mpr c27
            clear c27
            replace H := Option.bind_eq_some_iff.mp H
            obtain ⟨t222, A280, H⟩ := H
            replace H : (if t222 = true then (some (x9_2, 0)) else (some (([] : List (S41)), 2))) = some (r1, r2) := H
            have A28 := Az.mk A280
            clear A280
            by_cases c29 : t222 = true
            ·subst c29
             have H1 : (some (x9_2, 0)) = some (r1, r2) := by rw [if_pos rfl] at H; exact H
             clear H
             have H := H1
             clear H1
             simp only [Option.some.injEq, Prod.mk.injEq] at H
             obtain ⟨rfl, rfl⟩ := H
             obtain ⟨Ao30, co30, eo30⟩ := Kd.R_slice HO_9.out
             subst eo30
             go_wp2_with (first | ((with_reducible refine gate_callee (f := 16) rfl ?_); refine goesL_ (some 62) rfl rfl Try.func16 (by kernel_rfl) rfl #[.slice Ao30 x9_2.length co30, .int .i64 (wrap64 (t203))] rfl ar_ ?_; (with_reducible refine (run_Encode.calls k2 _ _ x9_2 (wrap64 (t203)) t218 t219 _ ?side1 ?side2 A26.out).mono ?_); (case side1 => exact cl_ (Kd.R_reads' HO_9.out).2.2); (case side2 => exact (Kd.R_reads' HO_9.out).2.1); rintro e w31 ⟨v220, rfl, ho0, hb⟩; refine ⟨_, rfl, ?_⟩; have n0_ := Az.mk (Kd.R_below (rl_ HO_9.out) hb); have n1_ := Az.mk (Kd.R_lower ho0 (below_size (bl_ HB))); have n2_ := Az.mk (below_step (bl_ HB) hb); clear HO_9; clear HB; have HO_9 := n0_; have HO221 := n1_; have HB := n2_; clear n0_ n1_ n2_; (try clear hb); (try clear hb2); (try clear hk); (try clear hi); (try clear ho0); obtain ⟨Ao32, co32, eo32⟩ := Kd.R_slice HO221.out; subst eo32) | (go_at_call 62; (with_reducible refine (bytes_Equal.calls _ _ t218 _ _ l0 true _ ?side1 ?side2 ?side3 ?side4 A28.out).mono ?_); (case side1 => exact cl_ (Kd.R_reads' HO221.out).2.2); (case side2 => exact (Kd.R_reads' HO221.out).2.1); (case side3 => exact cl_ (Kd.C_below HR0.out HB.out)); (case side4 => exact HC0.out); rintro e w' ⟨rfl, ⟨nd, rfl⟩⟩))
             go_ret2
             exact ⟨_, er_, by (with_reducible repeat (first | apply Kd.R_alloc | apply Kd.R_drewN | apply Kd.R_drew)); exact HO_9.out, bl_ HB⟩
            ·replace c29 := Bool.eq_false_iff.mpr c29
             subst c29
             have H1 : (some (([] : List (S41)), 2)) = some (r1, r2) := by rw [if_neg (show ¬ (false = true) by decide)] at H; exact H
             clear H
             have H := H1
             clear H1
             simp only [Option.some.injEq, Prod.mk.injEq] at H
             obtain ⟨rfl, rfl⟩ := H
             obtain ⟨Ao33, co33, eo33⟩ := Kd.R_slice HO_9.out
             subst eo33
             go_wp2_with (first | ((with_reducible refine gate_callee (f := 16) rfl ?_); refine goesL_ (some 62) rfl rfl Try.func16 (by kernel_rfl) rfl #[.slice Ao33 x9_2.length co33, .int .i64 (wrap64 (t203))] rfl ar_ ?_; (with_reducible refine (run_Encode.calls k2 _ _ x9_2 (wrap64 (t203)) t218 t219 _ ?side1 ?side2 A26.out).mono ?_); (case side1 => exact cl_ (Kd.R_reads' HO_9.out).2.2); (case side2 => exact (Kd.R_reads' HO_9.out).2.1); rintro e w34 ⟨v220, rfl, ho0, hb⟩; refine ⟨_, rfl, ?_⟩; have n0_ := Az.mk (Kd.R_below (rl_ HO_9.out) hb); have n1_ := Az.mk (Kd.R_lower ho0 (below_size (bl_ HB))); have n2_ := Az.mk (below_step (bl_ HB) hb); clear HO_9; clear HB; have HO_9 := n0_; have HO221 := n1_; have HB := n2_; clear n0_ n1_ n2_; (try clear hb); (try clear hb2); (try clear hk); (try clear hi); (try clear ho0); obtain ⟨Ao35, co35, eo35⟩ := Kd.R_slice HO221.out; subst eo35) | (go_at_call 62; (with_reducible refine (bytes_Equal.calls _ _ t218 _ _ l0 false _ ?side1 ?side2 ?side3 ?side4 A28.out).mono ?_); (case side1 => exact cl_ (Kd.R_reads' HO221.out).2.2); (case side2 => exact (Kd.R_reads' HO221.out).2.1); (case side3 => exact cl_ (Kd.C_below HR0.out HB.out)); (case side4 => exact HC0.out); rintro e w' ⟨rfl, ⟨nd, rfl⟩⟩))
             go_ret2
             exact ⟨_, er_, nl_, bl_ HB⟩
           ·rw [if_neg c27] at H
            have c27b0 : (t219 == 0) = false := beq_eq_false_iff_ne.mpr c27
            have c27b1 : (t219 != 0) = true := bne_iff_ne.mpr c27
            simp only [Option.some.injEq, Prod.mk.injEq] at H
            obtain ⟨rfl, rfl⟩ := H
            obtain ⟨Ao36, co36, eo36⟩ := Kd.R_slice HO_9.out
            subst eo36
            go_wp2_with (first | ((with_reducible refine gate_callee (f := 16) rfl ?_); refine goesL_ (some 62) rfl rfl Try.func16 (by kernel_rfl) rfl #[.slice Ao36 x9_2.length co36, .int .i64 (wrap64 (t203))] rfl ar_ ?_; (with_reducible refine (run_Encode.calls k2 _ _ x9_2 (wrap64 (t203)) t218 t219 _ ?side1 ?side2 A26.out).mono ?_); (case side1 => exact cl_ (Kd.R_reads' HO_9.out).2.2); (case side2 => exact (Kd.R_reads' HO_9.out).2.1); rintro e w37 ⟨v220, rfl, ho0, hb⟩; refine ⟨_, rfl, ?_⟩; have n0_ := Az.mk (Kd.R_below (rl_ HO_9.out) hb); have n1_ := Az.mk (Kd.R_lower ho0 (below_size (bl_ HB))); have n2_ := Az.mk (below_step (bl_ HB) hb); clear HO_9; clear HB; have HO_9 := n0_; have HO221 := n1_; have HB := n2_; clear n0_ n1_ n2_; (try clear hb); (try clear hb2); (try clear hk); (try clear hi); (try clear ho0)))
            go_ret2
            exact ⟨_, er_, nl_, bl_ HB⟩
       ·rw [if_neg c14] at H
        exact absurd H (by simp)
      ·rw [if_neg c13] at H
       exact absurd H (by simp)
  ·rw [if_neg c6] at H
   exact absurd H (by simp)
end Go.Proofs.Ytiohnpphhepdfaa.PPa
end
section
namespace Go.Proofs.Ytiohnpphhepdfaa.PPa
open Go.RowKit Go.Proofs.YtiohnpphhepdfaaW.PrintWords Go.Proofs.YtiohnpphhepdfaaW.PrintLast Go.Proofs.YtiohnpphhepdfaaW.PrintMore
attribute [local go_sem] max2_int min2_int max_two min_two max_three min_three max_four min_four
attribute [local go_sem] Go.Proofs.Ytiohnpphhepdfaa.MoreWords.str_leq Go.Proofs.Ytiohnpphhepdfaa.MoreWords.str_gtr Go.Proofs.Ytiohnpphhepdfaa.MoreWords.str_geq
set_option maxHeartbeats 8000000
set_option maxRecDepth 100000
set_option linter.unusedVariables false
set_option linter.unusedSimpArgs false
def rhd (l : List S41) : S41 := l.getD 0 z41
def ButOne (w w' : World) (g : Nat) : Prop := w'.os = w.os ∧ w'.tape = w.tape ∧ w'.output = w.output ∧ w.heap.size ≤ w'.heap.size ∧ ∀ k, k ≠ g → k < w.heap.size → w'.heap[k]? = w.heap[k]?
theorem ButOne.refl (w : World) (g : Nat) : ButOne w w g := ⟨rfl, rfl, rfl, Nat.le_refl _, fun _ _ _ => rfl⟩
theorem ButOne.blk {w w' : World} {g i : Nat} {o : Obj} (h : ButOne w w' g) (h1 : i ≠ g) (hb : w.heap[i]? = some o) : w'.heap[i]? = some o := (h.2.2.2.2 i h1 (blk_lt hb)).trans hb
theorem ButOne.low {w0 w w' : World} {g : Nat} (h : ButOne w w' g) (hb : Below w0.heap.size w0 w) (hg : w0.heap.size ≤ g) : Below w0.heap.size w0 w' :=
 ⟨h.1.trans hb.os, h.2.1.trans hb.tape, h.2.2.1.trans hb.output, Nat.le_trans hb.size h.2.2.2.1, fun k hk => (h.2.2.2.2 k (by omega) (Nat.lt_of_lt_of_le hk hb.size)).trans (hb.block k hk)⟩
theorem ButOne.of_below {w w' : World} (h : Below w.heap.size w w') (g : Nat) : ButOne w w' g := ⟨h.os, h.tape, h.output, h.size, fun k _ hk => h.block k hk⟩
theorem ButOne.trans {w w1 w2 : World} {g : Nat} (h : ButOne w w1 g) (k : ButOne w1 w2 g) : ButOne w w2 g :=
 ⟨k.1.trans h.1, k.2.1.trans h.2.1, k.2.2.1.trans h.2.2.1, Nat.le_trans h.2.2.2.1 k.2.2.2.1, fun i h1 h2 => (k.2.2.2.2 i h1 (Nat.lt_of_lt_of_le h2 h.2.2.2.1)).trans (h.2.2.2.2 i h1 h2)⟩
theorem ButOne.put {w w' : World} {g : Nat} (h : ButOne w w' g) (i : Nat) (u : Value) : ButOne w (w'.setCell ⟨g, i, none⟩ u) g :=
 ⟨h.1, h.2.1, h.2.2.1, by simpa [World.size_setCell] using h.2.2.2.1, fun k h1 h2 => (Below.heap_setCell _ ⟨g, i, none⟩ u k (by simpa using h1)).trans (h.2.2.2.2 k h1 h2)⟩
theorem ButOne.alloc {w w' : World} {g : Nat} (h : ButOne w w' g) (o : Obj) : ButOne w (w'.alloc o) g := h.trans (ButOne.of_below (below_alloc (Below.refl _ _) o) g)
theorem ButOne.drewN {w w' : World} {g : Nat} (h : ButOne w w' g) (n : Nat) : ButOne w (w'.drewN n) g := h.trans (ButOne.of_below (pw_below_drewN (Below.refl _ _) n) g)
theorem ButOne.setNew {w w' : World} {g b : Nat} (h : ButOne w w' g) (hb : w.heap.size ≤ b) (i : Nat) (u : Value) : ButOne w (w'.setCell ⟨b, i, none⟩ u) g :=
 ⟨h.1, h.2.1, h.2.2.1, by simpa [World.size_setCell] using h.2.2.2.1, fun k h1 h2 => (Below.heap_setCell _ ⟨b, i, none⟩ u k (by simp only; omega)).trans (h.2.2.2.2 k h1 h2)⟩
structure ReaderIs (w0 w : World) (g : Nat) (l : List S41) : Prop where
 blk : ∃ A c, w.heap[g]? = some (.cells #[.slice A l.length c] 88 (0, 0)) ∧ l.length ≤ c ∧ Kd.C k41 w0 A l.length l
 ge : w0.heap.size ≤ g
 low : Below w0.heap.size w0 w
theorem ReaderIs.lt {w0 w : World} {g : Nat} {l : List S41} (h : ReaderIs w0 w g l) : g < w.heap.size := by
 obtain ⟨A, c, hb, _⟩ := h.blk
 exact blk_lt hb
theorem ReaderIs.move {w0 w w' : World} {g : Nat} {l : List S41} (h : ReaderIs w0 w g l) (hb : w'.heap[g]? = w.heap[g]?) (hl : Below w0.heap.size w0 w') : ReaderIs w0 w' g l := by
 obtain ⟨A, c, h1, h2, h3⟩ := h.blk
 exact ⟨⟨A, c, hb.trans h1, h2, h3⟩, h.ge, hl⟩
theorem ReaderIs.below {w0 w w' : World} {g : Nat} {l : List S41} (h : ReaderIs w0 w g l) (hb : Below w.heap.size w w') : ReaderIs w0 w' g l := h.move (hb.block g h.lt) (below_then h.low h.low.size hb)
theorem ReaderIs.alloc {w0 w : World} {g : Nat} {l : List S41} (h : ReaderIs w0 w g l) (o : Obj) : ReaderIs w0 (w.alloc o) g l := h.below (below_alloc (Below.refl _ _) o)
theorem ReaderIs.drewN {w0 w : World} {g : Nat} {l : List S41} (h : ReaderIs w0 w g l) (n : Nat) : ReaderIs w0 (w.drewN n) g l := h.below (pw_below_drewN (Below.refl _ _) n)
theorem ReaderIs.far {w0 w : World} {g b : Nat} {l : List S41} (h : ReaderIs w0 w g l) (hb : g < b) (i : Nat) (u : Value) : ReaderIs w0 (w.setCell ⟨b, i, none⟩ u) g l :=
 h.move (Below.heap_setCell _ ⟨b, i, none⟩ u g (by simp only; omega)) (h.low.setCell (by have := h.ge; simp only; omega) _)
theorem ReaderIs.head {w0 w : World} {g : Nat} {l : List S41} (h : ReaderIs w0 w g l) (hp : l.length ≠ 0) :
  ∃ ad c, w.heap[g]? = some (.cells #[.slice (some ad) l.length c] 88 (0, 0)) ∧ l.length ≤ c ∧ w.cell? ad = some (.string (rhd l).f0) ∧ w.cell? ⟨ad.block, ad.off + 1, none⟩ = some (.int .u64 (rhd l).f1) ∧ Kd.C k41 w0 (some ad) l.length l := by
 obtain ⟨A, c, h1, h2, h3⟩ := h.blk
 obtain ⟨ad, rfl, h4, h5⟩ := at_T41 (Kd.C_below h3 h.low) 0 (Int.le_refl _) (by omega)
 have eh : rd_T41 l 0 = rhd l := rfl
 rw [show ((0 : Int)).toNat = 0 from rfl, show 0 * 2 = 0 from rfl, Addr.add_zero'] at h4 h5
 rw [eh] at h4 h5
 exact ⟨ad, c, h1, h2, h4, h5, h3⟩
theorem rhd_nil {l : List S41} (h : l.length = 0) : rhd l = z41 := by rw [List.eq_nil_of_length_eq_zero h]; rfl
theorem reader_Peek.calls (w0 w : World) (g : Nat) (l : List S41) (hR : ReaderIs w0 w g l) :
  Calls Try.prog 48 #[.pointer (some ⟨g, 0, none⟩)] w fun e w' => e = .returned (.tuple #[.agg #[.string (rhd l).f0, .int .u64 (rhd l).f1], .bool (decide (l.length ≠ 0))]) ∧ ReaderIs w0 w' g l ∧ Below w.heap.size w w' := by
 have HR := Az.mk hR
 clear hR
 go_enter Try.func48, Try.ntmps48
 go_upto_region 1 with (fail)
 have HR1 := Az.mk (HR.out.alloc (.cells #[.string ⟨#[]⟩, .int .u64 0] 41 (0, 0)))
 have hbk : (w.alloc (.cells #[.string ⟨#[]⟩, .int .u64 0] 41 (0, 0))).heap[w.heap.size]? = some (.cells #[.string ⟨#[]⟩, .int .u64 0] 41 (0, 0)) := blk_new _ _
 have HB1 := Az.mk (below_alloc (Below.refl w.heap.size w) (.cells #[.string ⟨#[]⟩, .int .u64 0] 41 (0, 0)))
 obtain ⟨W1, hW1⟩ : ∃ W1, W1 = w.alloc (.cells #[.string ⟨#[]⟩, .int .u64 0] 41 (0, 0)) := ⟨_, rfl⟩
 rw [← hW1] at HR1 hbk HB1 ⊢
 obtain ⟨b, hb⟩ : ∃ b, b = w.heap.size := ⟨_, rfl⟩
 have hgb : g < b := by have := HR.out.lt; omega
 rw [← hb] at hbk ⊢
 have BK := Az.mk hbk
 have HBG := Az.mk hgb
 have HBW := Az.mk (Nat.le_of_eq hb.symm)
 clear hW1 hbk hb hgb
 have hf0 := blk_frozen BK.out 0
 have hb0 : W1.cell? ⟨b, 0, none⟩ = some (.string ⟨#[]⟩) := blk_cell BK.out 0
 have hb1 : W1.cell? ⟨b, 1, none⟩ = some (.int .u64 0) := blk_cell BK.out 1
 have hf1 := blk_frozen BK.out 1
 by_cases c1 : l.length = 0
 ·obtain ⟨A, c, h1, h2, h3⟩ := HR1.out.blk
  have hc0 : W1.cell? ⟨g, 0, none⟩ = some (.slice A l.length c) := blk_cell h1 0
  have e1 : ((l.length : Int) == 0) = true := beq_iff_eq.mpr (by omega)
  have EZ := Az.mk (rhd_nil c1)
  have ED := Az.mk (decide_eq_false (by omega : ¬ l.length ≠ 0))
  clear h1 h2 h3 c1
  go_wp2
  refine bodyPost_ret (results_ct rfl _ _ b 41 #[.string (⟨#[]⟩ : ByteArray), .int .u64 0] (0, 0) _ rfl (by (with_reducible repeat (first | refine blk_drewN ?_ _ | refine blk_drew ?_ | refine blk_alloc ?_ _)); refine blk_put (cs := #[.string (⟨#[]⟩ : ByteArray), .int .u64 0]) ?_ 1 _ rfl; (with_reducible repeat (first | refine blk_drewN ?_ _ | refine blk_drew ?_ | refine blk_alloc ?_ _)); refine blk_put (cs := #[.string (⟨#[]⟩ : ByteArray), .int .u64 0]) ?_ 0 _ rfl; exact BK.out) Try.underlying41 rfl (by kernel_rfl)) rfl ?_
  exact ⟨by rw [EZ.out, ED.out]; rfl, (HR1.out.far HBG.out 0 _).far HBG.out 1 _, below_set (below_set HB1.out HBW.out) HBW.out⟩
 ·obtain ⟨ad, c, h1, h2, h3, h4, _⟩ := HR1.out.head c1
  have hc0 : W1.cell? ⟨g, 0, none⟩ = some (.slice (some ad) l.length c) := blk_cell h1 0
  have e1 : ((l.length : Int) == 0) = false := beq_eq_false_iff_ne.mpr (by omega)
  have i1 : ((0 : Int) < (l.length : Int)) = True := eq_true (by omega)
  have i3 : (0 < l.length) = True := eq_true (by omega)
  have ED := Az.mk (decide_eq_true (by omega : l.length ≠ 0))
  clear h1 h2 c1
  go_wp2
  refine bodyPost_ret (results_ct rfl _ _ b 41 #[.string (rhd l).f0, .int .u64 (rhd l).f1] (0, 0) _ rfl (by (with_reducible repeat (first | refine blk_drewN ?_ _ | refine blk_drew ?_ | refine blk_alloc ?_ _)); refine blk_put (cs := #[.string (rhd l).f0, .int .u64 0]) ?_ 1 _ rfl; (with_reducible repeat (first | refine blk_drewN ?_ _ | refine blk_drew ?_ | refine blk_alloc ?_ _)); refine blk_put (cs := #[.string (⟨#[]⟩ : ByteArray), .int .u64 0]) ?_ 0 _ rfl; exact BK.out) Try.underlying41 rfl (by kernel_rfl)) rfl ?_
  exact ⟨by rw [ED.out]; rfl, (HR1.out.far HBG.out 0 _).far HBG.out 1 _, below_set (below_set HB1.out HBW.out) HBW.out⟩
theorem k41_sz : k41.sz = 2 := rfl
theorem reader_Next.calls (w0 w : World) (g : Nat) (l : List S41) (hR : ReaderIs w0 w g l) :
  Calls Try.prog 29 #[.pointer (some ⟨g, 0, none⟩)] w fun e w' => e = .returned (.tuple #[.agg #[.string (rhd l).f0, .int .u64 (rhd l).f1], .bool (decide (l.length ≠ 0))]) ∧ ReaderIs w0 w' g (l.drop 1) ∧ ButOne w w' g := by
 have HR := Az.mk hR
 clear hR
 go_enter Try.func29, Try.ntmps29
 go_upto_region 1 with (fail)
 have HR1 := Az.mk (HR.out.alloc (.cells #[.string ⟨#[]⟩, .int .u64 0] 41 (0, 0)))
 have hbk : (w.alloc (.cells #[.string ⟨#[]⟩, .int .u64 0] 41 (0, 0))).heap[w.heap.size]? = some (.cells #[.string ⟨#[]⟩, .int .u64 0] 41 (0, 0)) := blk_new _ _
 have HB1 := Az.mk (below_alloc (Below.refl w.heap.size w) (.cells #[.string ⟨#[]⟩, .int .u64 0] 41 (0, 0)))
 obtain ⟨W1, hW1⟩ : ∃ W1, W1 = w.alloc (.cells #[.string ⟨#[]⟩, .int .u64 0] 41 (0, 0)) := ⟨_, rfl⟩
 rw [← hW1] at HR1 hbk HB1 ⊢
 obtain ⟨b, hb⟩ : ∃ b, b = w.heap.size := ⟨_, rfl⟩
 have hgb : g < b := by have := HR.out.lt; omega
 rw [← hb] at hbk ⊢
 have BK := Az.mk hbk
 have HBG := Az.mk hgb
 have HBW := Az.mk (Nat.le_of_eq hb.symm)
 clear hW1 hbk hb hgb
 by_cases c1 : l.length = 0
 ·have ED := Az.mk (decide_eq_false (by omega : ¬ l.length ≠ 0))
  have EL := Az.mk (List.eq_nil_of_length_eq_zero c1)
  clear c1
  go_upto_region 2 with (go_at_call 48; refine (reader_Peek.calls w0 _ g l HR1.out).mono ?_; rintro e_ W2 ⟨he_, hR2, hB2⟩; rw [ED.out] at he_; subst he_; have HR2 := Az.mk hR2; have HB2 := Az.mk (below_step HB1.out hB2); have BK2 := Az.mk ((hB2.block _ (blk_lt BK.out)).trans BK.out); clear hR2 hB2)
  have HR3 := Az.mk (HR2.out.alloc (.cells #[.string (rhd l).f0, .int .u64 (rhd l).f1] 41 (0, 0)))
  have hbx : (W2.alloc (.cells #[.string (rhd l).f0, .int .u64 (rhd l).f1] 41 (0, 0))).heap[W2.heap.size]? = some (.cells #[.string (rhd l).f0, .int .u64 (rhd l).f1] 41 (0, 0)) := blk_new _ _
  have hbk := blk_alloc BK2.out (.cells #[.string (rhd l).f0, .int .u64 (rhd l).f1] 41 (0, 0))
  have HB3 := Az.mk (below_alloc HB2.out (.cells #[.string (rhd l).f0, .int .u64 (rhd l).f1] 41 (0, 0)))
  have hbx2 : b ≠ W2.heap.size := by have := blk_lt BK2.out; omega
  have hgx : g ≠ W2.heap.size := by have := HR2.out.lt; omega
  obtain ⟨W3, hW3⟩ : ∃ W3, W3 = W2.alloc (.cells #[.string (rhd l).f0, .int .u64 (rhd l).f1] 41 (0, 0)) := ⟨_, rfl⟩
  rw [← hW3] at HR3 hbx hbk HB3 ⊢
  obtain ⟨bx, hx⟩ : ∃ bx, bx = W2.heap.size := ⟨_, rfl⟩
  rw [← hx] at hbx hbx2 hgx ⊢
  have BX3 := Az.mk hbx
  have BK3 := Az.mk hbk
  have HNX := Az.mk hbx2
  have HGX := Az.mk hgx
  clear hW3 hx hbx hbk hbx2 hgx HR2 HB2 BK2 HR1 HB1 BK
  have hf0 := blk_frozen BK3.out 0
  have hb0 : W3.cell? ⟨b, 0, none⟩ = some (.string ⟨#[]⟩) := blk_cell BK3.out 0
  have hb1 : W3.cell? ⟨b, 1, none⟩ = some (.int .u64 0) := blk_cell BK3.out 1
  have hf1 := blk_frozen BK3.out 1
  have hx0 : W3.cell? ⟨bx, 0, none⟩ = some (.string (rhd l).f0) := blk_cell BX3.out 0
  have hx1 : W3.cell? ⟨bx, 1, none⟩ = some (.int .u64 (rhd l).f1) := blk_cell BX3.out 1
  go_wp2
  refine bodyPost_ret (results_ct rfl _ _ b 41 #[.string (rhd l).f0, .int .u64 (rhd l).f1] (0, 0) _ rfl (by (with_reducible repeat (first | refine blk_drewN ?_ _ | refine blk_drew ?_ | refine blk_alloc ?_ _)); refine blk_put (cs := #[.string (rhd l).f0, .int .u64 0]) ?_ 1 _ rfl; (with_reducible repeat (first | refine blk_drewN ?_ _ | refine blk_drew ?_ | refine blk_alloc ?_ _)); refine blk_put (cs := #[.string (⟨#[]⟩ : ByteArray), .int .u64 0]) ?_ 0 _ rfl; exact BK3.out) Try.underlying41 rfl (by kernel_rfl)) rfl ?_
  refine ⟨by rw [ED.out]; rfl, ?_, ((ButOne.of_below HB3.out g).setNew HBW.out 0 _).setNew HBW.out 1 _⟩
  have hr := (HR3.out.far HBG.out 0 (Value.string (rhd l).f0)).far HBG.out 1 (Value.int .u64 (rhd l).f1)
  rw [EL.out] at hr ⊢
  exact hr
 ·have ED := Az.mk (decide_eq_true (by omega : l.length ≠ 0))
  have C1 := Az.mk c1
  clear c1
  go_upto_region 2 with (go_at_call 48; refine (reader_Peek.calls w0 _ g l HR1.out).mono ?_; rintro e_ W2 ⟨he_, hR2, hB2⟩; rw [ED.out] at he_; subst he_; have HR2 := Az.mk hR2; have HB2 := Az.mk (below_step HB1.out hB2); have BK2 := Az.mk ((hB2.block _ (blk_lt BK.out)).trans BK.out); clear hR2 hB2)
  have HR3 := Az.mk (HR2.out.alloc (.cells #[.string (rhd l).f0, .int .u64 (rhd l).f1] 41 (0, 0)))
  have hbx : (W2.alloc (.cells #[.string (rhd l).f0, .int .u64 (rhd l).f1] 41 (0, 0))).heap[W2.heap.size]? = some (.cells #[.string (rhd l).f0, .int .u64 (rhd l).f1] 41 (0, 0)) := blk_new _ _
  have hbk := blk_alloc BK2.out (.cells #[.string (rhd l).f0, .int .u64 (rhd l).f1] 41 (0, 0))
  have HB3 := Az.mk (below_alloc HB2.out (.cells #[.string (rhd l).f0, .int .u64 (rhd l).f1] 41 (0, 0)))
  have hbx2 : b ≠ W2.heap.size := by have := blk_lt BK2.out; omega
  have hgx : g ≠ W2.heap.size := by have := HR2.out.lt; omega
  obtain ⟨W3, hW3⟩ : ∃ W3, W3 = W2.alloc (.cells #[.string (rhd l).f0, .int .u64 (rhd l).f1] 41 (0, 0)) := ⟨_, rfl⟩
  rw [← hW3] at HR3 hbx hbk HB3 ⊢
  obtain ⟨bx, hx⟩ : ∃ bx, bx = W2.heap.size := ⟨_, rfl⟩
  rw [← hx] at hbx hbx2 hgx ⊢
  have BX3 := Az.mk hbx
  have BK3 := Az.mk hbk
  have HNX := Az.mk hbx2
  have HGX := Az.mk hgx
  clear hW3 hx hbx hbk hbx2 hgx HR2 HB2 BK2 HR1 HB1 BK
  have hf0 := blk_frozen BK3.out 0
  have hb0 : W3.cell? ⟨b, 0, none⟩ = some (.string ⟨#[]⟩) := blk_cell BK3.out 0
  have hb1 : W3.cell? ⟨b, 1, none⟩ = some (.int .u64 0) := blk_cell BK3.out 1
  have hf1 := blk_frozen BK3.out 1
  have hx0 : W3.cell? ⟨bx, 0, none⟩ = some (.string (rhd l).f0) := blk_cell BX3.out 0
  have hx1 : W3.cell? ⟨bx, 1, none⟩ = some (.int .u64 (rhd l).f1) := blk_cell BX3.out 1
  go_upto_region 3 with (fail)
  obtain ⟨ad, c, h1, h2, h3, h4, h5⟩ := HR3.out.head C1.out
  have hc0 : W3.cell? ⟨g, 0, none⟩ = some (.slice (some ad) l.length c) := blk_cell h1 0
  have hfg : W3.frozen? ⟨g, 0, none⟩ = false := blk_frozen h1 0
  have h2' : (l.length : Int) ≤ (c : Int) := by omega
  have hl1 : (1 : Int) ≤ (l.length : Int) := by have := C1.out; omega
  go_region
  have hC := Kd.C_drop (m := 1) (c := l.length) h5 (by have := C1.out; omega) (Nat.le_refl _)
  rw [k41_sz] at hC
  have hA : (if l.length = 1 then some ad else (some ad).map (·.add (1 * 2))) = (if l.length = 1 then some ad else some ⟨ad.block, ad.off + 2, none⟩) := rfl
  rw [hA] at hC
  generalize (if l.length = 1 then some ad else some ⟨ad.block, ad.off + 2, none⟩ : Option Addr) = A3 at hC ⊢
  have hld : l.length - 1 = (l.drop 1).length := List.length_drop.symm
  rw [hld]
  have hr4 : ReaderIs w0 (W3.setCell ⟨g, 0, none⟩ (.slice A3 (l.drop 1).length (l.drop 1).length)).drew g (l.drop 1) := by
   refine ⟨⟨A3, (l.drop 1).length, blk_drew (blk_put h1 0 _ rfl), Nat.le_refl _, hC⟩, HR3.out.ge, below_drew1 (HR3.out.low.setCell HR3.out.ge _)⟩
  have hb4 : ButOne w (W3.setCell ⟨g, 0, none⟩ (.slice A3 (l.drop 1).length (l.drop 1).length)).drew g := ((ButOne.of_below HB3.out g).put 0 _).drewN 1
  have bk4 := blk_drew (blk_far BK3.out (p := ⟨g, 0, none⟩) (by have := HBG.out; show b ≠ g; omega) (.slice A3 (l.drop 1).length (l.drop 1).length))
  have bx4 := blk_drew (blk_far BX3.out (p := ⟨g, 0, none⟩) (by have := HGX.out; show bx ≠ g; omega) (.slice A3 (l.drop 1).length (l.drop 1).length))
  generalize (W3.setCell ⟨g, 0, none⟩ (.slice A3 (l.drop 1).length (l.drop 1).length)).drew = W4 at hr4 hb4 bk4 bx4 ⊢
  have HR4 := Az.mk hr4
  have HB4 := Az.mk hb4
  have BK4 := Az.mk bk4
  clear h1 h2 h3 h4 h5 hc0 hfg h2' hl1 hC hA hr4 hb4 bk4 hf0 hb0 hb1 hf1 hx0 hx1 hld
  have hf0 := blk_frozen BK4.out 0
  have hb0 : W4.cell? ⟨b, 0, none⟩ = some (.string ⟨#[]⟩) := blk_cell BK4.out 0
  have hb1 : W4.cell? ⟨b, 1, none⟩ = some (.int .u64 0) := blk_cell BK4.out 1
  have hf1 := blk_frozen BK4.out 1
  have hx0 : W4.cell? ⟨bx, 0, none⟩ = some (.string (rhd l).f0) := blk_cell bx4 0
  have hx1 : W4.cell? ⟨bx, 1, none⟩ = some (.int .u64 (rhd l).f1) := blk_cell bx4 1
  clear bx4
  go_wp2
  refine bodyPost_ret (results_ct rfl _ _ b 41 #[.string (rhd l).f0, .int .u64 (rhd l).f1] (0, 0) _ rfl (by (with_reducible repeat (first | refine blk_drewN ?_ _ | refine blk_drew ?_ | refine blk_alloc ?_ _)); refine blk_put (cs := #[.string (rhd l).f0, .int .u64 0]) ?_ 1 _ rfl; (with_reducible repeat (first | refine blk_drewN ?_ _ | refine blk_drew ?_ | refine blk_alloc ?_ _)); refine blk_put (cs := #[.string (⟨#[]⟩ : ByteArray), .int .u64 0]) ?_ 0 _ rfl; exact BK4.out) Try.underlying41 rfl (by kernel_rfl)) rfl ?_
  exact ⟨by rw [ED.out]; rfl, (HR4.out.far HBG.out 0 _).far HBG.out 1 _, (HB4.out.setNew HBW.out 0 _).setNew HBW.out 1 _⟩
theorem reader_Open.calls (k : Nat) (A0 : Option Addr) (c0 : Nat) (l0 : List Int) (r1 : List S41) (r2 : Int) (w : World) (hr0 : Kd.C (Kd.int .u8) w A0 l0.length l0) (hc0 : l0.length ≤ c0) (h : run_Decode.f k l0 = some (r1, r2)) :
  Calls Try.prog 28 #[.slice A0 l0.length c0] w fun e w' => Below w.heap.size w w' ∧ ((r2 ≠ 0 ∧ e = .returned (.tuple #[.pointer none, .int .i64 r2])) ∨
   (r2 = 0 ∧ ∃ g w0, e = .returned (.tuple #[.pointer (some ⟨g, 0, none⟩), .int .i64 0]) ∧ Below w.heap.size w w0 ∧ ReaderIs w0 w' g r1)) := by
 have HR0 := Az.mk hr0
 have HC0 := Az.mk hc0
 have H := Az.mk h
 clear hr0 hc0 h
 by_cases c1 : r2 = 0
 ·subst c1
  go_enter Try.func28, Try.ntmps28
  go_wp2_with (go_at_call 47; refine (run_Decode.calls k _ _ l0 r1 0 _ HR0.out HC0.out H.out).mono ?_; rintro e_ W1 ⟨v1, rfl, ho, hb⟩; have HO := Az.mk ho; have HB := Az.mk hb; obtain ⟨A, c, rfl⟩ := Kd.R_slice ho; clear ho hb)
  have hr := Kd.R_reads' HO.out
  have hnew : ReaderIs W1 (W1.alloc (.cells #[.slice A r1.length c] 88)) W1.heap.size r1 := ⟨⟨A, c, blk_new _ _, hr.2.1, hr.2.2⟩, Nat.le_refl _, below_alloc (Below.refl _ _) _⟩
  all_goals (go_ret2; exact ⟨below_alloc HB.out _, .inr ⟨trivial, _, W1, rfl, HB.out, hnew⟩⟩)
 ·have e1 : (r2 != 0) = true := bne_iff_ne.mpr c1
  have C1 := Az.mk c1
  clear c1
  go_enter Try.func28, Try.ntmps28
  go_wp2_with (go_at_call 47; refine (run_Decode.calls k _ _ l0 r1 r2 _ HR0.out HC0.out H.out).mono ?_; rintro e_ W1 ⟨v1, rfl, ho, hb⟩; have HB := Az.mk hb; obtain ⟨A, c, rfl⟩ := Kd.R_slice ho; clear ho hb)
  go_ret2
  exact ⟨HB.out, .inl ⟨C1.out, rfl⟩⟩
theorem read_after {W0 w1 : World} {g : Nat} {l : List S41} (x : S41) (hT : ReaderIs W0 w1 g l) :
  ReaderIs W0 (w1.alloc (.cells #[.string x.f0, .int .u64 x.f1] 41)) g l ∧ (w1.alloc (.cells #[.string x.f0, .int .u64 x.f1] 41)).heap[w1.heap.size]? = some (.cells #[.string x.f0, .int .u64 x.f1] 41 (0, 0)) ∧ g < w1.heap.size :=
 ⟨hT.alloc _, blk_new _ _, hT.lt⟩
theorem read_blk {W0 w1 W6 : World} {g : Nat} {l : List S41} (x : S41) (hT : ReaderIs W0 w1 g l) (hB6 : ButOne (w1.alloc (.cells #[.string x.f0, .int .u64 x.f1] 41)) W6 g) :
  W6.heap[w1.heap.size]? = some (.cells #[.string x.f0, .int .u64 x.f1] 41 (0, 0)) := by
 obtain ⟨h1, h2, h3⟩ := read_after x hT
 exact hB6.blk (by omega) h2
theorem read_post {w W0 w1 W6 : World} {g bx : Nat} {l l2 : List S41} (x x2 : S41) {v : Value} {out : List S41} (hT : ReaderIs W0 w1 g l) (hR : Kd.R k41 41 w1 W0.heap.size (fun k => k ≠ bx) v out)
  (hT6 : ReaderIs W0 W6 g l2) (hB6 : ButOne (w1.alloc (.cells #[.string x.f0, .int .u64 x.f1] 41)) W6 g) (hB : Below w.heap.size w w1) (hW : w.heap.size ≤ W0.heap.size) (W7 : World)
  (h7 : W7 = (W6.setCell ⟨w1.heap.size, 0, none⟩ (.string x2.f0)).setCell ⟨w1.heap.size, 1, none⟩ (.int .u64 x2.f1)) :
  W7.heap[w1.heap.size]? = some (.cells #[.string x2.f0, .int .u64 x2.f1] 41 (0, 0)) ∧ g < w1.heap.size ∧ Kd.R k41 41 W7 W0.heap.size (fun k => k ≠ w1.heap.size) v out ∧ ReaderIs W0 W7 g l2 ∧ Below w.heap.size w W7 := by
 obtain ⟨h1, h2, h3⟩ := read_after x hT
 have hb6 := read_blk x hT hB6
 have hR1 : Kd.R k41 41 w1 W0.heap.size (fun k => k ≠ w1.heap.size) v out := Kd.R_mono (Kd.R_bound hR) (fun k hk => by have := hk.2.2.1; omega)
 have hR2 := Kd.R_below hR1 (below_alloc (Below.refl _ _) (.cells #[.string x.f0, .int .u64 x.f1] 41))
 obtain ⟨A, c, hg, _⟩ := h1.blk
 have hR3 := Kd.R_types hR2 hg (by decide)
 have hR4 : Kd.R k41 41 W6 W0.heap.size (fun k => k ≠ w1.heap.size) v out := Kd.R_mono (Kd.R_step hR3 (fun k hk hlt => hB6.2.2.2.2 k hk.2 hlt)) (fun k hk => hk.1)
 have hgw : w.heap.size ≤ g := Nat.le_trans hW hT.ge
 have hb2 : Below w.heap.size w W6 := hB6.low (below_alloc hB _) hgw
 subst h7
 refine ⟨?_, h3, Kd.R_far (p := ⟨w1.heap.size, 1, none⟩) (Kd.R_far (p := ⟨w1.heap.size, 0, none⟩) hR4 (fun k hk => hk) _) (fun k hk => hk) _, (hT6.far h3 0 _).far h3 1 _, (hb2.setCell hB.size _).setCell hB.size _⟩
 refine blk_put (cs := #[.string x2.f0, .int .u64 x.f1]) ?_ 1 _ rfl
 exact blk_put (cs := #[.string x.f0, .int .u64 x.f1]) hb6 0 _ rfl
theorem grown_reader {W0 W w1 : World} {g bx : Nat} {l : List S41} {v : Value} {out : List S41} (hT : ReaderIs W0 W g l) (hR : Kd.R k41 41 W W0.heap.size (fun k => k ≠ bx) v out) (hg : W.grownBy w1 v.ownBlock) (hb : Below W0.heap.size W0 w1) {o : Obj} (hx : W.heap[bx]? = some o) :
  ReaderIs W0 w1 g l ∧ w1.heap[bx]? = some o := by
 obtain ⟨A, c, hgo, _⟩ := hT.blk
 have hty : some g ≠ v.ownBlock := by
  intro he
  obtain ⟨inner, ho⟩ := Kd.R_own hR
  obtain ⟨cells, hc⟩ := own_typed ho g he.symm
  rw [hgo] at hc
  injection hc with hc
  injection hc with _ hc
  exact absurd hc (by decide)
 refine ⟨hT.move (hg.block g (blk_lt hgo) hty) hb, ?_⟩
 refine (hg.block bx (blk_lt hx) (fun he => ?_)).trans hx
 exact hR.1 bx he.symm rfl
def RdRel (L out rest : List S41) (x : S41) (b : Bool) (n : Nat) : Prop := (b = true → out ++ x :: rest = L ∧ n = rest.length + 1) ∧ (b = false → out = L)
theorem rhd_cons {l : List S41} (h : l.length ≠ 0) : rhd l :: l.drop 1 = l := by
 cases l with
 | nil => exact absurd rfl h
 | cons a r => rfl
theorem RdRel.start (L : List S41) (b : Bool) (hb : b = true ↔ L.length ≠ 0) : RdRel L [] (L.drop 1) (rhd L) b L.length := by
 refine ⟨fun h => ?_, fun h => ?_⟩
 ·have h := hb.mp h
  exact ⟨by rw [rhd_cons h]; rfl, by rw [List.length_drop]; omega⟩
 ·have h : ¬ L.length ≠ 0 := fun h' => by rw [hb.mpr h'] at h; exact absurd h (by decide)
  exact (List.eq_nil_of_length_eq_zero (by omega)).symm
theorem RdRel.next {L out rest : List S41} {x : S41} {n : Nat} (h : RdRel L out rest x true (n + 1)) (b : Bool) (hb : b = true ↔ rest.length ≠ 0) : RdRel L (out ++ [x]) (rest.drop 1) (rhd rest) b n := by
 obtain ⟨h1, h2⟩ := h.1 rfl
 refine ⟨fun h => ?_, fun h => ?_⟩
 ·have h := hb.mp h
  exact ⟨by rw [rhd_cons h, List.append_assoc]; exact h1, by rw [List.length_drop]; omega⟩
 ·have h : ¬ rest.length ≠ 0 := fun h' => by rw [hb.mpr h'] at h; exact absurd h (by decide)
  rw [List.eq_nil_of_length_eq_zero (show rest.length = 0 by omega)] at h1
  exact h1
def loser_read.f (k : Nat) (l0 : List Int) : Option (List S41 × Int) := (run_Decode.f k l0).bind fun r => if r.2 = 0 then (if r.1.length < 5864062014805 then some (r.1, 0) else none) else some ([], r.2)
theorem loser_read.calls (k : Nat) (A0 : Option Addr) (c0 : Nat) (l0 : List Int) (r1 : List S41) (r2 : Int) (w : World) (hr0 : Kd.C (Kd.int .u8) w A0 l0.length l0) (hc0 : l0.length ≤ c0) (h : loser_read.f k l0 = some (r1, r2)) :
  Calls Try.prog 15 #[.slice A0 l0.length c0] w fun e w' => ∃ v0_ : Value, e = .returned (.tuple #[v0_, .int .i64 r2]) ∧ Kd.R k41 41 w' w.heap.size (fun _ => True) v0_ r1 ∧ Below w.heap.size w w' := by
 have HR0 := Az.mk hr0
 have HC0 := Az.mk hc0
 clear hr0 hc0
 unfold loser_read.f at h
 replace h := Option.bind_eq_some_iff.mp h
 obtain ⟨⟨L, e0⟩, hd, h⟩ := h
 have HD := Az.mk hd
 clear hd
 by_cases c1 : e0 = 0
 ·subst c1
  rw [if_pos rfl] at h
  by_cases c2 : L.length < 5864062014805
  case neg =>
   rw [if_neg c2] at h
   exact absurd h (by simp)
  rw [if_pos c2] at h
  simp only [Option.some.injEq, Prod.mk.injEq] at h
  obtain ⟨rfl, rfl⟩ := h
  have HLIM := Az.mk c2
  clear c2
  go_enter Try.func15, Try.ntmps15
  go_upto_region 4 with (go_at_call 28; refine (reader_Open.calls k _ _ l0 L 0 _ HR0.out HC0.out HD.out).mono ?_; rintro e_ W1 ⟨hb, ⟨h_, _⟩ | ⟨_, g, w0, rfl, hb0, hT⟩⟩; exact absurd rfl h_; have HB := Az.mk hb; have HB0 := Az.mk hb0; have HT := Az.mk hT; clear hb hb0 hT)
  go_wp2_with (go_at_call 29; refine (reader_Next.calls w0 W1 g L HT.out).mono ?_; rintro e_ W2 ⟨rfl, hT2, hB2⟩; have HT2 := Az.mk hT2; have HBT2 := Az.mk hB2; clear hT2 hB2)
  have hwg : w.heap.size ≤ g := Nat.le_trans HB0.out.size HT.out.ge
  have hb2 := HBT2.out.low HB.out hwg
  have htA := HT2.out.alloc (.cells #[.string (rhd L).f0, .int .u64 (rhd L).f1] 41)
  have hnew := blk_new W2 (.cells #[.string (rhd L).f0, .int .u64 (rhd L).f1] 41)
  have HBA := Az.mk (below_alloc hb2 (.cells #[.string (rhd L).f0, .int .u64 (rhd L).f1] 41))
  have HS := Az.mk (show g < W2.heap.size from HT2.out.lt)
  have HTA := Az.mk htA
  have HNEW := Az.mk hnew
  have HW0S := Az.mk (show w.heap.size ≤ w0.heap.size from HB0.out.size)
  have HW0B := Az.mk (show Below w.heap.size w w0 from HB0.out)
  clear hwg hb2 htA hnew HT2 HBT2 HT HB HB0
  go_loopg [6, 7, 8] L.length (fun kq v6 v7 v8 w' => ∃ (out rest : List S41) (bx : Nat) (x : S41) (b : Bool), v7 = .pointer (some ⟨bx, 0, none⟩) ∧ v8 = .bool b ∧ Az (w'.heap[bx]? = some (.cells #[.string x.f0, .int .u64 x.f1] 41 (0, 0))) ∧ Az (g < bx) ∧ Az (Kd.R k41 41 w' w0.heap.size (fun k => k ≠ bx) v6 out) ∧ Az (ReaderIs w0 w' g rest) ∧ Az (RdRel L out rest x b kq) ∧ Az (Below w.heap.size w w'))
  case atStart => exact ⟨[], L.drop 1, W2.heap.size, rhd L, _, rfl, rfl, HNEW, HS, ⟨Kd.R_nil _ _ _ _ _⟩, HTA, ⟨RdRel.start L _ (by simp)⟩, HBA⟩
  case round =>
   obtain ⟨out, rest, bx, x, b, rfl, rfl, HX, HG, HR, HT, HM, HB⟩ := hrel
   cases b with
   | false =>
    obtain rfl := HM.out.2 rfl
    go_wp2
    go_ret2
    exact ⟨_, rfl, Kd.R_mono (Kd.R_lower HR.out HW0S.out) (fun _ _ => trivial), HB.out⟩
   | true =>
    cases gk with
    | zero => exact absurd (HM.out.1 rfl).2 (by omega)
    | succ d =>
     obtain ⟨A, c, rfl⟩ := Kd.R_slice HR.out
     have hlim : out.length < 5864062014805 := by
      have h1 := (HM.out.1 rfl).1
      have h2 := HLIM.out
      rw [← h1, List.length_append] at h2
      omega
     have HLI := Az.mk hlim
     clear hlim
     have hx0 : wr.cell? ⟨bx, 0, none⟩ = some (.string x.f0) := blk_cell HX.out 0
     have hx1 : wr.cell? ⟨bx, 1, none⟩ = some (.int .u64 x.f1) := blk_cell HX.out 1
     go_wp2_with ((with_reducible refine gate_builtin (b := .append) (xs := #[.tmp 28, .tmp 30]) rfl ?_); at_builtin; refine Kd.R_append k41 (w0 := w0) w0.heap.size rfl (.tmp 28) (.tmp 30) 36 41 (.agg #[.string ⟨#[]⟩, .int .u64 0]) 24 rfl Try.underlying36 info41 rfl (by decide) (by omega) (.slice A out.length c) out x [.string x.f0, .int .u64 x.f1] (fun k => k ≠ bx) (fun _ => False) rfl rfl ?aP (fun _ hk => hk.elim) ?aF ?aO ?aB ?aS ?aL ?_)
     case aP => exact k41_mkM _ _ _ x
     case aF => intro k hk e; have := blk_lt HX.out; omega
     case aO => exact HR.out
     case aB => exact HT.out.low
     case aS => exact HT.out.low.size
     case aL => have := HLI.out; omega
     intro v1 w1 ho hb hg hat
     obtain ⟨ht1, hxw⟩ := grown_reader HT.out HR.out hg hb HX.out
     clear hg hat HR HT HX hx0 hx1
     have hbw := below_then HW0B.out HW0S.out hb
     obtain ⟨A1, c1, rfl⟩ := Kd.R_slice ho
     have HT1 := Az.mk ht1
     have HR1 := Az.mk ho
     have HBW := Az.mk hbw
     have hx0 : w1.cell? ⟨bx, 0, none⟩ = some (.string x.f0) := blk_cell hxw 0
     have hx1 : w1.cell? ⟨bx, 1, none⟩ = some (.int .u64 x.f1) := blk_cell hxw 1
     clear hb hbw ht1 ho hxw
     have HTa := Az.mk (read_after x HT1.out).1
     go_wp2_with (go_at_call 29; refine (reader_Next.calls w0 _ g rest HTa.out).mono ?_; rintro e_ W6 ⟨rfl, hT6, hB6⟩; have HT6 := Az.mk hT6; have HB6 := Az.mk hB6; have hk6 := read_blk x HT1.out hB6; have hz0 : W6.cell? ⟨w1.heap.size, 0, none⟩ = some (.string x.f0) := blk_cell hk6 0; have hz1 : W6.cell? ⟨w1.heap.size, 1, none⟩ = some (.int .u64 x.f1) := blk_cell hk6 1; have hq0 := blk_frozen hk6 0; have hq1 := blk_frozen hk6 1; clear hT6 hB6 hk6)
     go_roundg d
     case measure => omega
     case rel =>
      obtain ⟨p1, p2, p3, p4, p5⟩ := read_post x (rhd rest) HT1.out HR1.out HT6.out HB6.out HBW.out HW0S.out _ rfl
      exact ⟨out ++ [x], rest.drop 1, _, rhd rest, _, rfl, rfl, ⟨p1⟩, ⟨p2⟩, ⟨by first | exact p3 | (rw [List.length_append, List.length_singleton] at p3; exact p3)⟩, ⟨p4⟩, ⟨HM.out.next _ (by simp)⟩, ⟨p5⟩⟩
 ·rw [if_neg c1] at h
  simp only [Option.some.injEq, Prod.mk.injEq] at h
  obtain ⟨rfl, rfl⟩ := h
  have e1 : (e0 != 0) = true := bne_iff_ne.mpr c1
  have C1 := Az.mk c1
  clear c1
  go_enter Try.func15, Try.ntmps15
  go_wp2_with (go_at_call 28; refine (reader_Open.calls k _ _ l0 L e0 _ HR0.out HC0.out HD.out).mono ?_; rintro e_ W1 ⟨hb, ⟨_, rfl⟩ | ⟨h_, _⟩⟩; have HB := Az.mk hb; clear hb; rotate_left; exact absurd h_ C1.out)
  go_ret2
  exact ⟨_, rfl, Kd.R_nil _ _ _ _ _, HB.out⟩
def loser_Runs.l0 : Nat → Int → List (List (S41)) → List (List Int) → Int → Int → Option (List Int × Int)
 | 0, _, _, _, _, _ => none
 | k + 1, x1, x6, x13, x14, x15 => if x15 < x14 then (if 0 ≤ x15 then (if x15 < (x13.length : Int) then ((loser_read.f k (rd_L5 x13 x15)).bind fun bt226 => (if bt226.2 = 0 then (if x6.length < 5864062014805 then (loser_Runs.l0 k x1 (x6 ++ [bt226.1]) x13 x14 (wrap64 (x15 + 1))) else (none)) else (some (([] : List Int), bt226.2)))) else (none)) else (none)) else ((loser_Merge.f k x6).bind fun bt233 => (if bt233.2 = 0 then ((run_Encode.f k bt233.1 x1).bind fun bt237 => (some (bt237.1, bt237.2))) else (some (([] : List Int), bt233.2))))
def loser_Runs.f (k : Nat) (l0 : List (List Int)) (a1 : Int) : Option (List Int × Int) := loser_Runs.l0 k a1 ([] : List (List (S41))) l0 (l0.length : Int) 0
theorem loser_Runs.calls (k : Nat) (A0 : Option Addr) (c0 : Nat) (l0 : List (List Int)) (a1 : Int) (r1 : List Int) (r2 : Int) (w : World) (hr0 : Kd.C (Kd.slice 5 (Kd.int .u8)) w A0 l0.length l0) (hc0 : l0.length ≤ c0) (h : loser_Runs.f k l0 a1 = some (r1, r2)) :
  Calls Try.prog 7 #[.slice A0 l0.length c0, .int .i64 a1] w fun e w' => ∃ v0_ : Value, e = .returned (.tuple #[v0_, .int .i64 r2]) ∧ Kd.R (Kd.int .u8) 5 w' w.heap.size (fun _ => True) v0_ r1 ∧ Below w.heap.size w w' := by
 have HR0 := Az.mk hr0
 have HC0 := Az.mk hc0
 clear hr0 hc0
 have HB := Az.mk (Below.refl w.heap.size w)
 have H : (loser_Runs.l0 k a1 ([] : List (List (S41))) l0 (l0.length : Int) 0) = some (r1, r2) := h
 clear h
 have H' := Az.mk H
 clear H
 go_enter Try.func7, Try.ntmps7
 go_wp2
 go_loopg [6, 15] k (fun kq v6 v15 w' => ∃ (x6_1 : List (List (S41))) (x15_1 : Int), v15 = .int .i64 x15_1 ∧ Az (loser_Runs.l0 kq a1 x6_1 l0 (l0.length : Int) x15_1 = some (r1, r2)) ∧ Az (kq ≤ k) ∧ Az (Kd.S (Kd.slice 41 k41) 36 w' w.heap.size (fun _ => True) v6 x6_1) ∧ Az (Below w.heap.size w w'))
 case atStart => exact ⟨(([] : List (List (S41)))), (0), (es_), H', ⟨Nat.le_refl _⟩, ⟨by first | exact Kd.S_nil _ _ _ _ _ | exact Kd.N_nil _ _ _ _ _ | exact Kd.V_nil _ _ _ _ _ | exact Kd.Q_nil _ _ _ _ _ | exact Kd.R_nil _ _ _ _ _⟩, ⟨bl_ HB⟩⟩
 case round =>
  clear H'
  try clear p2
  obtain ⟨x6_1, x15_1, rfl, HA, HK1, HO_6, HB⟩ := hrel
  cases gk with
  | zero => exact absurd HA.out (by simp [loser_Runs.l0])
  | succ k1 =>
   have H := HA.out
   clear HA
   simp only [loser_Runs.l0] at H
   by_cases c3 : x15_1 < (l0.length : Int)
   ·rw [if_pos c3] at H
    have c3b0 := decide_eq_true c3
    clear c3
    by_cases c4 : 0 ≤ x15_1
    ·rw [if_pos c4] at H
     have c4b0 := decide_eq_true c4
     clear c4
     by_cases c5 : x15_1 < (l0.length : Int)
     ·rw [if_pos c5] at H
      have c5b0 := decide_eq_true c5
      clear c5
      replace H := Option.bind_eq_some_iff.mp H
      obtain ⟨⟨t226, t227⟩, A60, H⟩ := H
      replace H : (if t227 = 0 then (if x6_1.length < 5864062014805 then (loser_Runs.l0 k1 a1 (x6_1 ++ [t226]) l0 (l0.length : Int) (wrap64 (x15_1 + 1))) else (none)) else (some (([] : List Int), t227))) = some (r1, r2) := H
      have A6 := Az.mk A60
      clear A60
      by_cases c7 : t227 = 0
      ·rw [if_pos c7] at H
       have c7b0 : (t227 == 0) = true := beq_iff_eq.mpr c7
       have c7b1 : (t227 != 0) = false := bne_eq_false_iff_eq.mpr c7
       clear c7
       by_cases c8 : x6_1.length < 5864062014805
       ·rw [if_pos c8] at H
        have LMc8 := Az.mk c8
        clear c8
        obtain ⟨y230, hy230⟩ : ∃ y_ : List (List (S41)), y_ = (x6_1 ++ [t226]) := ⟨_, rfl⟩
        replace H : (loser_Runs.l0 k1 a1 y230 l0 (l0.length : Int) (wrap64 (x15_1 + 1))) = some (r1, r2) := hr_ hy230 H
        have Ny230 := Az.mk hy230
        clear hy230
        have H' := Az.mk H
        clear H
        have p225 : 0 ≤ (x15_1 : Int) := of_decide_eq_true as_
        have q225 : x15_1 < (l0.length : Int) := of_decide_eq_true as_
        obtain ⟨ad225, A225_0, c225_0, e225, hx225_0, hl225_0, hi225_0⟩ := at_L5 HR0.out x15_1 p225 q225
        cases e225
        replace hx225_0 := (HB.out.cell (World.block_lt_of_cell? w _ hx225_0)).trans hx225_0
        have HR225_0 := Az.mk hi225_0
        have HC225_0 := Az.mk hl225_0
        clear hi225_0 hl225_0
        replace p225 := eq_true p225
        replace q225 := eq_true q225
        go_wp2_with (first | ((with_reducible refine gate_callee (f := 15) rfl ?_); refine goesL_ (some 21) rfl rfl Try.func15 (by kernel_rfl) rfl #[.slice A225_0 (rd_L5 l0 x15_1).length c225_0] rfl ar_ ?_; (with_reducible refine (loser_read.calls k1 _ _ (rd_L5 l0 x15_1) t226 t227 _ ?side1 ?side2 A6.out).mono ?_); (case side1 => exact cl_ (Kd.C_below HR225_0.out HB.out)); (case side2 => exact HC225_0.out); rintro e w9 ⟨v228, rfl, ho0, hb⟩; refine ⟨_, rfl, ?_⟩; have n0_ := Az.mk (Kd.S_elder' (sl_ HO_6.out) (Kd.R_base ho0) hb); have n1_ := Az.mk (Kd.R_lower ho0 (below_size (bl_ HB))); have n2_ := Az.mk (below_step (bl_ HB) hb); clear HO_6; clear HB; have HO_6 := n0_; have HO229 := n1_; have HB := n2_; clear n0_ n1_ n2_; (try clear hb); (try clear hb2); (try clear hk); (try clear hi); (try clear ho0); obtain ⟨Ao11, co11, eo11⟩ := Kd.R_slice HO229.out; subst eo11) | ((with_reducible refine gate_builtin (b := .append) (xs := #[.tmp 27, .tmp 29]) rfl ?_); at_builtin; refine Kd.S_append (Kd.slice 41 k41) (w0 := w) w.heap.size rfl (.tmp 27) (.tmp 29) 42 36 (.slice none 0 0) 24 rfl Try.underlying42 info36 rfl (by decide) (by omega) u6 x6_1 t226 [.slice Ao11 t226.length co11] (fun _ => True) (fun k_ => some k_ = (.slice Ao11 t226.length co11 : Value).ownBlock) rfl rfl ?aP (fun k_ hk_ => ((Kd.R_mono (ok' := fun k_ => ((fun _ => True)) k_ ∧ some k_ ≠ (u6 : Value).ownBlock) (Kd.R_apart' (HO229.out) (Kd.S_typed HO_6.out) (by decide)) (fun k_ hk => ⟨trivial, hk.2⟩))).1 k_ hk_.symm) ?aF ?aO ?aB ?aS ?aL ?_; (case aP => exact Kd.M_row (Kd.R_mono (Kd.R_tight rfl (Kd.R_mono (ok' := fun k_ => ((fun _ => True)) k_ ∧ some k_ ≠ (u6 : Value).ownBlock) (Kd.R_apart' (HO229.out) (Kd.S_typed HO_6.out) (by decide)) (fun k_ hk => ⟨trivial, hk.2⟩))) (fun _ h_ => h_))); (case aB => exact (bl_ HB)); (case aF => exact (fun _ _ => trivial)); (case aO => exact (by (with_reducible repeat (first | apply Kd.S_alloc | apply Kd.S_drewN | apply Kd.S_drew)); exact Kd.S_mono HO_6.out (fun k_ hk => ⟨trivial, fun e_ => hk.2 e_⟩))); (case aS => exact (below_size (bl_ HB))); (case aL => have := LMc8.out; omega); intro v231 w10 ho hb hg hat; rw [← Ny230.out] at ho; have n0_ := Az.mk (hb); have n1_ := Az.mk (ho); clear HB; clear HO_6; clear HO229; have HB := n0_; have HO232 := n1_; clear n0_ n1_; clear ho hb hg hat))
        go_roundg k1
        case measure => have := HK1.out; omega
        case rel => exact ⟨(y230), (wrap64 (x15_1 + 1)), (es_), H', ⟨by have := HK1.out; omega⟩, ⟨sl_ HO232.out⟩, ⟨bl_ HB⟩⟩
       ·rw [if_neg c8] at H
        exact absurd H (by simp)
      ·rw [if_neg c7] at H
       have c7b0 : (t227 == 0) = false := beq_eq_false_iff_ne.mpr c7
       have c7b1 : (t227 != 0) = true := bne_iff_ne.mpr c7
       simp only [Option.some.injEq, Prod.mk.injEq] at H
       obtain ⟨rfl, rfl⟩ := H
       have p225 : 0 ≤ (x15_1 : Int) := of_decide_eq_true as_
       have q225 : x15_1 < (l0.length : Int) := of_decide_eq_true as_
       obtain ⟨ad225, A225_0, c225_0, e225, hx225_0, hl225_0, hi225_0⟩ := at_L5 HR0.out x15_1 p225 q225
       cases e225
       replace hx225_0 := (HB.out.cell (World.block_lt_of_cell? w _ hx225_0)).trans hx225_0
       have HR225_0 := Az.mk hi225_0
       have HC225_0 := Az.mk hl225_0
       clear hi225_0 hl225_0
       replace p225 := eq_true p225
       replace q225 := eq_true q225
       go_wp2_with (first | ((with_reducible refine gate_callee (f := 15) rfl ?_); refine goesL_ (some 21) rfl rfl Try.func15 (by kernel_rfl) rfl #[.slice A225_0 (rd_L5 l0 x15_1).length c225_0] rfl ar_ ?_; (with_reducible refine (loser_read.calls k1 _ _ (rd_L5 l0 x15_1) t226 t227 _ ?side1 ?side2 A6.out).mono ?_); (case side1 => exact cl_ (Kd.C_below HR225_0.out HB.out)); (case side2 => exact HC225_0.out); rintro e w12 ⟨v228, rfl, ho0, hb⟩; refine ⟨_, rfl, ?_⟩; have n0_ := Az.mk (Kd.S_elder' (sl_ HO_6.out) (Kd.R_base ho0) hb); have n1_ := Az.mk (Kd.R_lower ho0 (below_size (bl_ HB))); have n2_ := Az.mk (below_step (bl_ HB) hb); clear HO_6; clear HB; have HO_6 := n0_; have HO229 := n1_; have HB := n2_; clear n0_ n1_ n2_; (try clear hb); (try clear hb2); (try clear hk); (try clear hi); (try clear ho0)))
       go_ret2
       exact ⟨_, er_, nl_, bl_ HB⟩
     ·rw [if_neg c5] at H
      exact absurd H (by simp)
    ·rw [if_neg c4] at H
     exact absurd H (by simp)
   ·rw [if_neg c3] at H
    have c3b0 := decide_eq_false c3
    clear c3
    replace H := Option.bind_eq_some_iff.mp H
    obtain ⟨⟨t233, t234⟩, A130, H⟩ := H
    replace H : (if t234 = 0 then ((run_Encode.f k1 t233 a1).bind fun bt237 => (some (bt237.1, bt237.2))) else (some (([] : List Int), t234))) = some (r1, r2) := H
    have A13 := Az.mk A130
    clear A130
    by_cases c14 : t234 = 0
    ·rw [if_pos c14] at H
     have c14b0 : (t234 == 0) = true := beq_iff_eq.mpr c14
     have c14b1 : (t234 != 0) = false := bne_eq_false_iff_eq.mpr c14
     clear c14
     replace H := Option.bind_eq_some_iff.mp H
     obtain ⟨⟨t237, t238⟩, A150, H⟩ := H
     replace H : (some (t237, t238)) = some (r1, r2) := H
     have A15 := Az.mk A150
     clear A150
     simp only [Option.some.injEq, Prod.mk.injEq] at H
     obtain ⟨rfl, rfl⟩ := H
     obtain ⟨Ao16, co16, eo16⟩ := Kd.S_slice HO_6.out
     subst eo16
     go_wp2_with (first | ((with_reducible refine gate_callee (f := 13) rfl ?_); refine goesL_ (some 34) rfl rfl Try.func13 (by kernel_rfl) rfl #[.slice Ao16 x6_1.length co16] rfl ar_ ?_; (with_reducible refine (loser_Merge.calls k1 _ _ x6_1 t233 t234 _ ?side1 ?side2 A13.out).mono ?_); (case side1 => repeat (first | exact (Kd.S_reads' HO_6.out).2.2 | (with_reducible refine Kd.C_alloc ?_ _) | (with_reducible refine Kd.C_drewN ?_ _) | (with_reducible refine Kd.C_drew ?_))); (case side2 => exact (Kd.S_reads' HO_6.out).2.1); rintro e w17 ⟨v235, rfl, ho0, hb⟩; refine ⟨_, rfl, ?_⟩; have n0_ := Az.mk (Kd.S_elder' (sl_ HO_6.out) (Kd.R_base ho0) hb); have n1_ := Az.mk (Kd.R_lower ho0 (below_size (bl_ HB))); have n2_ := Az.mk (below_step (bl_ HB) hb); clear HO_6; clear HB; have HO_6 := n0_; have HO236 := n1_; have HB := n2_; clear n0_ n1_ n2_; (try clear hb); (try clear hb2); (try clear hk); (try clear hi); (try clear ho0); obtain ⟨Ao18, co18, eo18⟩ := Kd.R_slice HO236.out; subst eo18) | ((with_reducible refine gate_callee (f := 16) rfl ?_); refine goesL_ (some 42) rfl rfl Try.func16 (by kernel_rfl) rfl #[.slice Ao18 t233.length co18, .int .i64 a1] rfl ar_ ?_; (with_reducible refine (run_Encode.calls k1 _ _ t233 a1 t237 t238 _ ?side1 ?side2 A15.out).mono ?_); (case side1 => exact cl_ (Kd.R_reads' HO236.out).2.2); (case side2 => exact (Kd.R_reads' HO236.out).2.1); rintro e w19 ⟨v239, rfl, ho0, hb⟩; refine ⟨_, rfl, ?_⟩; have n0_ := Az.mk (Kd.S_below (sl_ HO_6.out) hb); have n1_ := Az.mk (Kd.R_below (rl_ HO236.out) hb); have n2_ := Az.mk (Kd.R_lower ho0 (below_size (bl_ HB))); have n3_ := Az.mk (below_step (bl_ HB) hb); clear HO_6; clear HO236; clear HB; have HO_6 := n0_; have HO236 := n1_; have HO240 := n2_; have HB := n3_; clear n0_ n1_ n2_ n3_; (try clear hb); (try clear hb2); (try clear hk); (try clear hi); (try clear ho0)))
     go_ret2
     exact ⟨_, er_, by (with_reducible repeat (first | apply Kd.R_alloc | apply Kd.R_drewN | apply Kd.R_drew)); exact HO240.out, bl_ HB⟩
    ·rw [if_neg c14] at H
     have c14b0 : (t234 == 0) = false := beq_eq_false_iff_ne.mpr c14
     have c14b1 : (t234 != 0) = true := bne_iff_ne.mpr c14
     simp only [Option.some.injEq, Prod.mk.injEq] at H
     obtain ⟨rfl, rfl⟩ := H
     obtain ⟨Ao20, co20, eo20⟩ := Kd.S_slice HO_6.out
     subst eo20
     go_wp2_with (first | ((with_reducible refine gate_callee (f := 13) rfl ?_); refine goesL_ (some 34) rfl rfl Try.func13 (by kernel_rfl) rfl #[.slice Ao20 x6_1.length co20] rfl ar_ ?_; (with_reducible refine (loser_Merge.calls k1 _ _ x6_1 t233 t234 _ ?side1 ?side2 A13.out).mono ?_); (case side1 => repeat (first | exact (Kd.S_reads' HO_6.out).2.2 | (with_reducible refine Kd.C_alloc ?_ _) | (with_reducible refine Kd.C_drewN ?_ _) | (with_reducible refine Kd.C_drew ?_))); (case side2 => exact (Kd.S_reads' HO_6.out).2.1); rintro e w21 ⟨v235, rfl, ho0, hb⟩; refine ⟨_, rfl, ?_⟩; have n0_ := Az.mk (Kd.S_elder' (sl_ HO_6.out) (Kd.R_base ho0) hb); have n1_ := Az.mk (Kd.R_lower ho0 (below_size (bl_ HB))); have n2_ := Az.mk (below_step (bl_ HB) hb); clear HO_6; clear HB; have HO_6 := n0_; have HO236 := n1_; have HB := n2_; clear n0_ n1_ n2_; (try clear hb); (try clear hb2); (try clear hk); (try clear hi); (try clear ho0)))
     go_ret2
     exact ⟨_, er_, nl_, bl_ HB⟩
mutual
def r09_May.l0 : Nat → List (S41) → Int → Option (Int)
 | 0, _, _ => none
 | k + 1, x0, x3 => if x3 < (x0.length : Int) then (if 0 ≤ x3 then (if (((rd_T41 x0 x3).f0).size : Int) < 1 then (some 1) else (if (((rd_T41 x0 x3).f0).size : Int) > 255 then (some 1) else (if ((rd_T41 x0 x3).f1) < 1 then (some 1) else (if ((rd_T41 x0 x3).f1) > 4611686018427387904 then (some 1) else (r09_May.l0 k x0 (wrap64 (x3 + 1))))))) else (none)) else (r09_May.l1 k x0 1)
def r09_May.l1 : Nat → List (S41) → Int → Option (Int)
 | 0, _, _ => none
 | k + 1, x0, x5 => if x5 < (x0.length : Int) then (if 0 ≤ (wrap64 (x5 - 1)) then (if (wrap64 (x5 - 1)) < (x0.length : Int) then (if 0 ≤ x5 then (if ((Op.bytesLess (((rd_T41 x0 (wrap64 (x5 - 1))).f0).toList) (((rd_T41 x0 x5).f0).toList)) = true) then (r09_May.l1 k x0 (wrap64 (x5 + 1))) else (some 9)) else (none)) else (none)) else (none)) else (some 0)
end
def r09_May.f (k : Nat) (l0 : List (S41)) : Option (Int) := r09_May.l0 k l0 0
theorem r09_May.mono_l : ∀ k, (∀ y0 y1, LeO (r09_May.l0 k y0 y1) (r09_May.l0 (k + 1) y0 y1)) ∧ (∀ y0 y1, LeO (r09_May.l1 k y0 y1) (r09_May.l1 (k + 1) y0 y1))
 | 0 => ⟨fun _ _ r h => by simp [r09_May.l0] at h, fun _ _ r h => by simp [r09_May.l1] at h⟩
 | k + 1 => by
  obtain ⟨ih0, ih1⟩ := r09_May.mono_l k
  refine ⟨?_, ?_⟩
  ·intro y0 y1
   unfold r09_May.l0
   repeat' first
   | (with_reducible exact ih0 _ _)
   | (with_reducible exact ih1 _ _)
   | (with_reducible exact LeO.refl _)
   | (with_reducible exact LeO.none _)
   | (with_reducible refine LeO.ite ?_ ?_)
   | (with_reducible refine LeO.bind ?_ (fun _ => ?_))
   | exact ih0 _ _
   | exact ih1 _ _
   | exact LeO.none _
   | refine LeO.ite ?_ ?_
   | refine LeO.bind ?_ (fun _ => ?_)
  ·intro y0 y1
   unfold r09_May.l1
   repeat' first
   | (with_reducible exact ih0 _ _)
   | (with_reducible exact ih1 _ _)
   | (with_reducible exact LeO.refl _)
   | (with_reducible exact LeO.none _)
   | (with_reducible refine LeO.ite ?_ ?_)
   | (with_reducible refine LeO.bind ?_ (fun _ => ?_))
   | exact ih0 _ _
   | exact ih1 _ _
   | exact LeO.none _
   | refine LeO.ite ?_ ?_
   | refine LeO.bind ?_ (fun _ => ?_)
theorem r09_May.mono : ∀ a0 k, LeO (r09_May.f k a0) (r09_May.f (k + 1) a0) := by
 intro a0 k
 obtain ⟨ih0, ih1⟩ := r09_May.mono_l k
 unfold r09_May.f
 repeat' first
   | (with_reducible exact ih0 _ _)
   | (with_reducible exact ih1 _ _)
   | (with_reducible exact LeO.refl _)
   | (with_reducible exact LeO.none _)
   | (with_reducible refine LeO.ite ?_ ?_)
   | (with_reducible refine LeO.bind ?_ (fun _ => ?_))
   | exact ih0 _ _
   | exact ih1 _ _
   | exact LeO.none _
   | refine LeO.ite ?_ ?_
   | refine LeO.bind ?_ (fun _ => ?_)
theorem r09_May.calls (k : Nat) (A0 : Option Addr) (c0 : Nat) (l0 : List (S41)) (r : Int) (w : World) (hr0 : Kd.C k41 w A0 l0.length l0) (hc0 : l0.length ≤ c0) (h : r09_May.f k l0 = some r) :
  Calls Try.prog 37 #[.slice A0 l0.length c0] w fun e w' => e = .returned (.int .i64 r) ∧ Drawn0 w w' := by
 have HR0 := Az.mk hr0
 have HC0 := Az.mk hc0
 clear hr0 hc0
 have H : (r09_May.l0 k l0 0) = some r := h
 clear h
 have H' := Az.mk H
 clear H
 go_enter Try.func37, Try.ntmps37
 go_wp2
 repeat (go_quiet (fail); try go_wp2)
 go_loopg [3] k (fun kq v3 w' => ∃ (x3_1 : Int), v3 = .int .i64 x3_1 ∧ Az (r09_May.l0 kq l0 x3_1 = some r) ∧ Az (kq ≤ k) ∧ Drawn0 w w')
 case atStart => exact ⟨(0), (es_), H', ⟨Nat.le_refl _⟩, dw_⟩
 case round =>
  clear H'
  obtain ⟨x3_1, rfl, HA, HK1, ⟨m1, rfl⟩⟩ := hrel
  cases gk with
  | zero => exact absurd HA.out (by simp [r09_May.l0])
  | succ k1 =>
   have H := HA.out
   clear HA
   simp only [r09_May.l0] at H
   by_cases c2 : x3_1 < (l0.length : Int)
   ·rw [if_pos c2] at H
    have c2b0 := decide_eq_true c2
    clear c2
    by_cases c3 : 0 ≤ x3_1
    ·rw [if_pos c3] at H
     have c3b0 := decide_eq_true c3
     clear c3
     by_cases c4 : (((rd_T41 l0 x3_1).f0).size : Int) < 1
     ·rw [if_pos c4] at H
      have c4b0 := decide_eq_true c4
      have c4b1 : decide (((rd_T41 l0 x3_1).f0).size < 1) = true := decide_eq_true (by omega)
      clear c4
      obtain rfl := Option.some.inj H
      have p241 : 0 ≤ (x3_1 : Int) := of_decide_eq_true as_
      have q241 : x3_1 < (l0.length : Int) := of_decide_eq_true as_
      obtain ⟨ad241, e241, hx241_0, hx241_1⟩ := at_T41 HR0.out x3_1 p241 q241
      cases e241
      replace p241 := eq_true p241
      replace q241 := eq_true q241
      go_wp2
      repeat (go_quiet (fail); try go_wp2)
      go_ret
      exact ⟨es_, dw_⟩
     ·rw [if_neg c4] at H
      have c4b0 := decide_eq_false c4
      have c4b1 : decide (((rd_T41 l0 x3_1).f0).size < 1) = false := decide_eq_false (by omega)
      clear c4
      by_cases c5 : (((rd_T41 l0 x3_1).f0).size : Int) > 255
      ·rw [if_pos c5] at H
       have c5b0 := decide_eq_true c5
       have c5b1 : decide (255 < ((rd_T41 l0 x3_1).f0).size) = true := decide_eq_true (by omega)
       clear c5
       obtain rfl := Option.some.inj H
       have p241 : 0 ≤ (x3_1 : Int) := of_decide_eq_true as_
       have q241 : x3_1 < (l0.length : Int) := of_decide_eq_true as_
       obtain ⟨ad241, e241, hx241_0, hx241_1⟩ := at_T41 HR0.out x3_1 p241 q241
       cases e241
       replace p241 := eq_true p241
       replace q241 := eq_true q241
       go_wp2
       repeat (go_quiet (fail); try go_wp2)
       go_ret
       exact ⟨es_, dw_⟩
      ·rw [if_neg c5] at H
       have c5b0 := decide_eq_false c5
       have c5b1 : decide (255 < ((rd_T41 l0 x3_1).f0).size) = false := decide_eq_false (by omega)
       clear c5
       by_cases c6 : ((rd_T41 l0 x3_1).f1) < 1
       ·rw [if_pos c6] at H
        have c6b0 := decide_eq_true c6
        clear c6
        obtain rfl := Option.some.inj H
        have p241 : 0 ≤ (x3_1 : Int) := of_decide_eq_true as_
        have q241 : x3_1 < (l0.length : Int) := of_decide_eq_true as_
        obtain ⟨ad241, e241, hx241_0, hx241_1⟩ := at_T41 HR0.out x3_1 p241 q241
        cases e241
        replace p241 := eq_true p241
        replace q241 := eq_true q241
        have p242 : 0 ≤ (x3_1 : Int) := of_decide_eq_true as_
        have q242 : x3_1 < (l0.length : Int) := of_decide_eq_true as_
        obtain ⟨ad242, e242, hx242_0, hx242_1⟩ := at_T41 HR0.out x3_1 p242 q242
        obtain rfl : ad241 = ad242 := (by injection e242)
        replace p242 := eq_true p242
        replace q242 := eq_true q242
        go_wp2
        repeat (go_quiet (fail); try go_wp2)
        go_ret
        exact ⟨es_, dw_⟩
       ·rw [if_neg c6] at H
        have c6b0 := decide_eq_false c6
        clear c6
        by_cases c7 : ((rd_T41 l0 x3_1).f1) > 4611686018427387904
        ·rw [if_pos c7] at H
         have c7b0 := decide_eq_true c7
         clear c7
         obtain rfl := Option.some.inj H
         have p241 : 0 ≤ (x3_1 : Int) := of_decide_eq_true as_
         have q241 : x3_1 < (l0.length : Int) := of_decide_eq_true as_
         obtain ⟨ad241, e241, hx241_0, hx241_1⟩ := at_T41 HR0.out x3_1 p241 q241
         cases e241
         replace p241 := eq_true p241
         replace q241 := eq_true q241
         have p242 : 0 ≤ (x3_1 : Int) := of_decide_eq_true as_
         have q242 : x3_1 < (l0.length : Int) := of_decide_eq_true as_
         obtain ⟨ad242, e242, hx242_0, hx242_1⟩ := at_T41 HR0.out x3_1 p242 q242
         obtain rfl : ad241 = ad242 := (by injection e242)
         replace p242 := eq_true p242
         replace q242 := eq_true q242
         have p243 : 0 ≤ (x3_1 : Int) := of_decide_eq_true as_
         have q243 : x3_1 < (l0.length : Int) := of_decide_eq_true as_
         obtain ⟨ad243, e243, hx243_0, hx243_1⟩ := at_T41 HR0.out x3_1 p243 q243
         obtain rfl : ad241 = ad243 := (by injection e243)
         replace p243 := eq_true p243
         replace q243 := eq_true q243
         go_wp2
         repeat (go_quiet (fail); try go_wp2)
         go_ret
         exact ⟨es_, dw_⟩
        ·rw [if_neg c7] at H
         have c7b0 := decide_eq_false c7
         clear c7
         have H' := Az.mk H
         clear H
         have p241 : 0 ≤ (x3_1 : Int) := of_decide_eq_true as_
         have q241 : x3_1 < (l0.length : Int) := of_decide_eq_true as_
         obtain ⟨ad241, e241, hx241_0, hx241_1⟩ := at_T41 HR0.out x3_1 p241 q241
         cases e241
         replace p241 := eq_true p241
         replace q241 := eq_true q241
         have p242 : 0 ≤ (x3_1 : Int) := of_decide_eq_true as_
         have q242 : x3_1 < (l0.length : Int) := of_decide_eq_true as_
         obtain ⟨ad242, e242, hx242_0, hx242_1⟩ := at_T41 HR0.out x3_1 p242 q242
         obtain rfl : ad241 = ad242 := (by injection e242)
         replace p242 := eq_true p242
         replace q242 := eq_true q242
         have p243 : 0 ≤ (x3_1 : Int) := of_decide_eq_true as_
         have q243 : x3_1 < (l0.length : Int) := of_decide_eq_true as_
         obtain ⟨ad243, e243, hx243_0, hx243_1⟩ := at_T41 HR0.out x3_1 p243 q243
         obtain rfl : ad241 = ad243 := (by injection e243)
         replace p243 := eq_true p243
         replace q243 := eq_true q243
         go_wp2
         repeat (go_quiet (fail); try go_wp2)
         go_roundg k1
         case measure => have := HK1.out; omega
         case rel => exact ⟨(wrap64 (x3_1 + 1)), (es_), H', ⟨by have := HK1.out; omega⟩, dw_⟩
    ·rw [if_neg c3] at H
     exact absurd H (by simp)
   ·rw [if_neg c2] at H
    have c2b0 := decide_eq_false c2
    clear c2
    have H' := Az.mk H
    clear H
    go_wp2
    repeat (go_quiet (fail); try go_wp2)
    go_loopg [5] k1 (fun kq v5 w' => ∃ (x5_2 : Int), v5 = .int .i64 x5_2 ∧ Az (r09_May.l1 kq l0 x5_2 = some r) ∧ Az (kq ≤ k1) ∧ Drawn0 w w')
    case atStart => exact ⟨(1), (es_), H', ⟨Nat.le_refl _⟩, dw_⟩
    case round =>
     clear H'
     try clear c2
     try clear c2b0
     try clear p2
     try clear q2
     try clear hx2
     try clear c3
     try clear c3b0
     try clear c4
     try clear c4b0
     try clear c4b1
     try clear c5
     try clear c5b0
     try clear c5b1
     try clear c6
     try clear c6b0
     try clear p6
     try clear c7
     try clear c7b0
     try clear hx241_0
     try clear hx241_1
     try clear hx242_0
     try clear hx242_1
     try clear hx243_0
     try clear hx243_1
     try clear p241
     try clear p242
     try clear p243
     try clear q241
     try clear q242
     try clear q243
     obtain ⟨x5_2, rfl, HA, HK2, ⟨m2, rfl⟩⟩ := hrel
     cases gk with
     | zero => exact absurd HA.out (by simp [r09_May.l1])
     | succ k2 =>
      have H := HA.out
      clear HA
      simp only [r09_May.l1] at H
      by_cases c8 : x5_2 < (l0.length : Int)
      ·rw [if_pos c8] at H
       have c8b0 := decide_eq_true c8
       clear c8
       obtain ⟨ji9, hji9⟩ : ∃ j_ : Int, (wrap64 (x5_2 - 1)) = j_ := ⟨_, rfl⟩
       replace H : (if 0 ≤ (ji9) then (if (ji9) < (l0.length : Int) then (if 0 ≤ x5_2 then (if ((Op.bytesLess (((rd_T41 l0 (ji9)).f0).toList) (((rd_T41 l0 x5_2).f0).toList)) = true) then (r09_May.l1 k2 l0 (wrap64 (x5_2 + 1))) else (some 9)) else (none)) else (none)) else (none)) = some r := by first | (rw [hji9] at H; exact H) | (simp only [hji9] at H ⊢; exact H)
       have hji9w : (IntKind.i64.wrap (x5_2 - 1)) = ji9 := (i64_w _).trans hji9
       by_cases c10 : 0 ≤ (ji9)
       ·rw [if_pos c10] at H
        have c10b0 := decide_eq_true c10
        clear c10
        by_cases c11 : (ji9) < (l0.length : Int)
        ·rw [if_pos c11] at H
         have c11b0 := decide_eq_true c11
         clear c11
         by_cases c12 : 0 ≤ x5_2
         ·rw [if_pos c12] at H
          have c12b0 := decide_eq_true c12
          clear c12
          by_cases c13 : ((Op.bytesLess (((rd_T41 l0 (ji9)).f0).toList) (((rd_T41 l0 x5_2).f0).toList)) = true)
          ·rw [if_pos c13] at H
           have c13b0 : (Op.bytesLess (((rd_T41 l0 (ji9)).f0).toList) (((rd_T41 l0 x5_2).f0).toList)) = true := c13
           clear c13
           have H' := Az.mk H
           clear H
           have p244 : 0 ≤ ((ji9) : Int) := of_decide_eq_true as_
           have q244 : (ji9) < (l0.length : Int) := of_decide_eq_true as_
           obtain ⟨ad244, e244, hx244_0, hx244_1⟩ := at_T41 HR0.out (ji9) p244 q244
           cases e244
           replace p244 := eq_true p244
           replace q244 := eq_true q244
           have p245 : 0 ≤ (x5_2 : Int) := of_decide_eq_true as_
           have q245 : x5_2 < (l0.length : Int) := of_decide_eq_true as_
           obtain ⟨ad245, e245, hx245_0, hx245_1⟩ := at_T41 HR0.out x5_2 p245 q245
           obtain rfl : ad244 = ad245 := (by injection e245)
           replace p245 := eq_true p245
           replace q245 := eq_true q245
           go_wp2
           repeat (go_quiet (fail); try go_wp2)
           go_roundg k2
           case measure => have := HK1.out; have := HK2.out; omega
           case rel => exact ⟨(wrap64 (x5_2 + 1)), (es_), H', ⟨by have := HK1.out; have := HK2.out; omega⟩, dw_⟩
          ·rw [if_neg c13] at H
           have c13b0 : (Op.bytesLess (((rd_T41 l0 (ji9)).f0).toList) (((rd_T41 l0 x5_2).f0).toList)) = false := by simpa using c13
           clear c13
           obtain rfl := Option.some.inj H
           have p244 : 0 ≤ ((ji9) : Int) := of_decide_eq_true as_
           have q244 : (ji9) < (l0.length : Int) := of_decide_eq_true as_
           obtain ⟨ad244, e244, hx244_0, hx244_1⟩ := at_T41 HR0.out (ji9) p244 q244
           cases e244
           replace p244 := eq_true p244
           replace q244 := eq_true q244
           have p245 : 0 ≤ (x5_2 : Int) := of_decide_eq_true as_
           have q245 : x5_2 < (l0.length : Int) := of_decide_eq_true as_
           obtain ⟨ad245, e245, hx245_0, hx245_1⟩ := at_T41 HR0.out x5_2 p245 q245
           obtain rfl : ad244 = ad245 := (by injection e245)
           replace p245 := eq_true p245
           replace q245 := eq_true q245
           go_wp2
           repeat (go_quiet (fail); try go_wp2)
           go_ret
           exact ⟨by first | rfl | (simp; done) | (simp only [← hji9] <;> (first | rfl | simp)) | (simp [*]; done), dw_⟩
         ·rw [if_neg c12] at H
          exact absurd H (by simp)
        ·rw [if_neg c11] at H
         exact absurd H (by simp)
       ·rw [if_neg c10] at H
        exact absurd H (by simp)
      ·rw [if_neg c8] at H
       have c8b0 := decide_eq_false c8
       clear c8
       obtain rfl := Option.some.inj H
       go_wp2
       repeat (go_quiet (fail); try go_wp2)
       go_ret
       exact ⟨es_, dw_⟩
end Go.Proofs.Ytiohnpphhepdfaa.PPa
end
section
namespace Go.Proofs.Ytiohnpphhepdfaa.PPa
open Go.RowKit Go.Proofs.YtiohnpphhepdfaaW.PrintWords Go.Proofs.YtiohnpphhepdfaaW.PrintLast Go.Proofs.YtiohnpphhepdfaaW.PrintMore
attribute [local go_sem] max2_int min2_int max_two min_two max_three min_three max_four min_four
attribute [local go_sem] Go.Proofs.Ytiohnpphhepdfaa.MoreWords.str_leq Go.Proofs.Ytiohnpphhepdfaa.MoreWords.str_gtr Go.Proofs.Ytiohnpphhepdfaa.MoreWords.str_geq
set_option linter.unusedVariables false
set_option linter.unusedSimpArgs false
theorem eqA52 (d : Nat) (w : World) (x0 y0 : Int) (x1 y1 : Int) :
  (Op.equalIn (d + 2) 52 (.agg #[.int .i64 x0, .int .i64 x1]) (.agg #[.int .i64 y0, .int .i64 y1])).run Try.prog w = .ok (x0 == y0 && (x1 == y1)) w := by
 obtain ⟨i, hi⟩ : ∃ i, Try.prog.info? 3 = some i := Option.isSome_iff_exists.mp (show (Try.prog.info? 3).isSome = true by kernel_rfl)
 have hc : Try.prog.cellsOf 3 = 1 := by kernel_rfl
 have p0 : (part 3 #[.int .i64 x0, .int .i64 x1] 0).run Try.prog w = .ok (.int .i64 x0) w := by go_simp
 have q0 : (part 3 #[.int .i64 y0, .int .i64 y1] 0).run Try.prog w = .ok (.int .i64 y0) w := by go_simp
 have e0 : (Op.equalIn (d + 1) 3 (.int .i64 x0) (.int .i64 y0)).run Try.prog w = .ok (x0 == y0) w := by go_simp
 have p1 : (part 3 #[.int .i64 x0, .int .i64 x1] 1).run Try.prog w = .ok (.int .i64 x1) w := by go_simp
 have q1 : (part 3 #[.int .i64 y0, .int .i64 y1] 1).run Try.prog w = .ok (.int .i64 y1) w := by go_simp
 have e1 : (Op.equalIn (d + 1) 3 (.int .i64 x1) (.int .i64 y1)).run Try.prog w = .ok (x1 == y1) w := by go_simp
 rw [run_equalIn_array w (d + 1) _ _ Try.underlying52 hi, hc, show List.range 2 = [0, 1] from rfl]
 simp only [Nat.zero_mul, Nat.mul_one, Op.eqItems, Sem.run_bind, p0, q0, e0, p1, q1, e1, Result.andThen_ok]
 generalize (x0 == y0) = b0 at *; generalize (x1 == y1) = b1 at *
 cases b0 <;> cases b1 <;> simp [p0, q0, e0, p1, q1, e1]
end Go.Proofs.Ytiohnpphhepdfaa.PPa
end
section
namespace Go.Proofs.Ytiohnpphhepdfaa.PPa
open Go.RowKit Go.Proofs.YtiohnpphhepdfaaW.PrintWords Go.Proofs.YtiohnpphhepdfaaW.PrintLast Go.Proofs.YtiohnpphhepdfaaW.PrintMore
attribute [local go_sem] max2_int min2_int max_two min_two max_three min_three max_four min_four
attribute [local go_sem] Go.Proofs.Ytiohnpphhepdfaa.MoreWords.str_leq Go.Proofs.Ytiohnpphhepdfaa.MoreWords.str_gtr Go.Proofs.Ytiohnpphhepdfaa.MoreWords.str_geq
set_option maxHeartbeats 8000000
set_option maxRecDepth 100000
set_option linter.unusedVariables false
set_option linter.unusedSimpArgs false
def r01_Put.l0 : Nat → Int → List Int → Option (List Int)
 | 0, _, _ => none
 | k + 1, x1, x5 => if x1 > 127 then (if x5.length < 140737488355328 then (r01_Put.l0 k (IntKind.u64.wrap (Int.tdiv x1 128)) (x5 ++ [(IntKind.u64.wrap (128 + (Int.tmod x1 128))) % 256])) else (none)) else (if x5.length < 140737488355328 then (some (x5 ++ [(x1) % 256])) else (none))
def r01_Put.f (k : Nat) (l0 : List Int) (a1 : Int) : Option (List Int) := (some (([] : List Int) : List Int)).bind fun y246 => (if y246.length + l0.length < 140737488355328 then (r01_Put.l0 k a1 (y246 ++ l0)) else (none))
theorem r01_Put.mono_l : ∀ k, (∀ y0 y1, LeO (r01_Put.l0 k y0 y1) (r01_Put.l0 (k + 1) y0 y1))
 | 0 => fun _ _ r h => by simp [r01_Put.l0] at h
 | k + 1 => by
  have ih0 := r01_Put.mono_l k
  ·intro y0 y1
   unfold r01_Put.l0
   repeat' first
   | (with_reducible exact ih0 _ _)
   | (with_reducible exact LeO.refl _)
   | (with_reducible exact LeO.none _)
   | (with_reducible refine LeO.ite ?_ ?_)
   | (with_reducible refine LeO.bind ?_ (fun _ => ?_))
   | exact ih0 _ _
   | exact LeO.none _
   | refine LeO.ite ?_ ?_
   | refine LeO.bind ?_ (fun _ => ?_)
theorem r01_Put.mono : ∀ a0 a1 k, LeO (r01_Put.f k a0 a1) (r01_Put.f (k + 1) a0 a1) := by
 intro a0 a1 k
 have ih0 := r01_Put.mono_l k
 unfold r01_Put.f
 repeat' first
   | (with_reducible exact ih0 _ _)
   | (with_reducible exact LeO.refl _)
   | (with_reducible exact LeO.none _)
   | (with_reducible refine LeO.ite ?_ ?_)
   | (with_reducible refine LeO.bind ?_ (fun _ => ?_))
   | exact ih0 _ _
   | exact LeO.none _
   | refine LeO.ite ?_ ?_
   | refine LeO.bind ?_ (fun _ => ?_)
theorem r01_Put.calls (k : Nat) (A0 : Option Addr) (c0 : Nat) (l0 : List Int) (a1 : Int) (r : List Int) (w : World) (hr0 : Kd.C (Kd.int .u8) w A0 l0.length l0) (hc0 : l0.length ≤ c0) (h : r01_Put.f k l0 a1 = some r) :
  Calls Try.prog 40 #[.slice A0 l0.length c0, .int .u64 a1] w fun e w' => ∃ v0_ : Value, e = .returned (v0_) ∧ Kd.R (Kd.int .u8) 5 w' w.heap.size (fun _ => True) v0_ r ∧ Below w.heap.size w w' := by
 have HR0 := Az.mk hr0
 have HC0 := Az.mk hc0
 clear hr0 hc0
 have HB := Az.mk (Below.refl w.heap.size w)
 have H : ((some (([] : List Int) : List Int)).bind fun y246 => (if y246.length + l0.length < 140737488355328 then (r01_Put.l0 k a1 (y246 ++ l0)) else (none))) = some r := h
 clear h
 obtain ⟨y246, hy246⟩ : ∃ y_ : List Int, y_ = (([] : List Int)) := ⟨_, rfl⟩
 replace H : (if y246.length + l0.length < 140737488355328 then (r01_Put.l0 k a1 (y246 ++ l0)) else (none)) = some r := hr_ hy246 H
 have Ny246 := Az.mk hy246
 clear hy246
 by_cases c3 : y246.length + l0.length < 140737488355328
 ·rw [if_pos c3] at H
  have LMc3 := Az.mk c3
  clear c3
  obtain ⟨y249, hy249⟩ : ∃ y_ : List Int, y_ = (y246 ++ l0) := ⟨_, rfl⟩
  replace H : (r01_Put.l0 k a1 y249) = some r := hr_ hy249 H
  have Ny249 := Az.mk hy249
  clear hy249
  have H' := Az.mk H
  clear H
  go_enter Try.func40, Try.ntmps40
  go_wp2_with (first | ((with_reducible refine gate_dst (N := 6) rfl ?_); refine Kd.R_lit (Kd.int .u8) _ 5 ?hg (N := 6) ?hd (xs := ([] : List Int)) (inner := []) (ok := fun _ => True) (okp := fun _ => True) ?hr ?hp (fun _ hk => hk) trivial (Below.refl _ _) (Nat.le_refl _) (by simp) ?_; (case hd => rfl); (case hg => rfl); (case hr => first | (go_simp; done) | (go_simp; rfl)); (case hp => exact (Reps.none _ _)); intro v247 w4 ho5 hb hg_ hnew_; clear hg_ hnew_; (first | rw [← Ny246.out] at ho5 | (simp only [Int.reduceToNat] at ho5; rw [← Ny246.out] at ho5)); have n0_ := Az.mk (Kd.R_lower ho5 (below_size (bl_ HB))); have n1_ := Az.mk (below_step (bl_ HB) hb); clear HB; have HO248 := n0_; have HB := n1_; clear n0_ n1_; clear hb ho5) | ((with_reducible refine gate_builtin (b := .append) (xs := #[.tmp 6, .tmp 7]) rfl ?_); at_builtin; refine Kd.R_append_rows (Kd.int .u8) (w0 := w) w.heap.size rfl (.tmp 6) (.tmp 7) 24 5 (.int .u8 0) 1 rfl Try.underlying24 info5 rfl (by decide) (by omega) v247 y246 l0 _ _ _ (fun _ => True) (fun _ => False) rfl rfl ?aO ?aR (fun _ _ h => h) (fun _ h => h.elim) ?aF ?aB ?aS ?aL ?_; (case aR => exact cl_ (Kd.C_below HR0.out HB.out)); (case aB => exact (bl_ HB)); (case aF => exact (fun _ _ => trivial)); (case aO => exact (rl_ HO248.out)); (case aS => exact (below_size (bl_ HB))); (case aL => have := LMc3.out; omega); intro v250 w6 ho hb hg hat; rw [← Ny249.out] at ho; have n0_ := Az.mk (hb); have n1_ := Az.mk (ho); clear HB; clear HO248; have HB := n0_; have HO251 := n1_; clear n0_ n1_; clear ho hb hg hat))
  go_loopg [1, 5] k (fun kq v1 v5 w' => ∃ (x1_1 : Int) (x5_1 : List Int), v1 = .int .u64 x1_1 ∧ Az (r01_Put.l0 kq x1_1 x5_1 = some r) ∧ Az (kq ≤ k) ∧ Az (Kd.R (Kd.int .u8) 5 w' w.heap.size (fun _ => True) v5 x5_1) ∧ Az (Below w.heap.size w w'))
  case atStart => exact ⟨(a1), (y249), (es_), H', ⟨Nat.le_refl _⟩, ⟨rl_ HO251.out⟩, ⟨bl_ HB⟩⟩
  case round =>
   clear H'
   try clear p2
   try clear c3
   try clear c4
   obtain ⟨x1_1, x5_1, rfl, HA, HK1, HO_5, HB⟩ := hrel
   cases gk with
   | zero => exact absurd HA.out (by simp [r01_Put.l0])
   | succ k1 =>
    have H := HA.out
    clear HA
    simp only [r01_Put.l0] at H
    by_cases c7 : x1_1 > 127
    ·rw [if_pos c7] at H
     have c7b0 := decide_eq_true c7
     clear c7
     by_cases c8 : x5_1.length < 140737488355328
     ·rw [if_pos c8] at H
      have LMc8 := Az.mk c8
      clear c8
      obtain ⟨y252, hy252⟩ : ∃ y_ : List Int, y_ = (x5_1 ++ [(IntKind.u64.wrap (128 + (Int.tmod x1_1 128))) % 256]) := ⟨_, rfl⟩
      replace H : (r01_Put.l0 k1 (IntKind.u64.wrap (Int.tdiv x1_1 128)) y252) = some r := hr_ hy252 H
      have Ny252 := Az.mk hy252
      clear hy252
      have H' := Az.mk H
      clear H
      go_wp2_with (first | ((with_reducible refine gate_builtin (b := .append) (xs := #[.tmp 11, .tmp 16]) rfl ?_); at_builtin; refine Kd.R_append (Kd.int .u8) (w0 := w) w.heap.size rfl (.tmp 11) (.tmp 16) 24 5 (.int .u8 0) 1 rfl Try.underlying24 info5 rfl (by decide) (by omega) u5 x5_1 ((IntKind.u64.wrap (128 + (Int.tmod x1_1 128))) % 256) [.int .u8 ((IntKind.u64.wrap (128 + (Int.tmod x1_1 128))) % 256)] (fun _ => True) (fun _ => False) rfl rfl ?aP (fun _ hk => hk.elim) ?aF ?aO ?aB ?aS ?aL ?_; (case aP => exact rfl); (case aB => exact (bl_ HB)); (case aF => exact (fun _ _ => trivial)); (case aO => exact (rl_ HO_5.out)); (case aS => exact (below_size (bl_ HB))); (case aL => have := LMc8.out; omega); intro v253 w9 ho hb hg hat; rw [← Ny252.out] at ho; have n0_ := Az.mk (hb); have n1_ := Az.mk (ho); clear HB; clear HO_5; have HB := n0_; have HO254 := n1_; clear n0_ n1_; clear ho hb hg hat))
      go_roundg k1
      case measure => have := HK1.out; omega
      case rel => exact ⟨(IntKind.u64.wrap (Int.tdiv x1_1 128)), (y252), (es_), H', ⟨by have := HK1.out; omega⟩, ⟨rl_ HO254.out⟩, ⟨bl_ HB⟩⟩
     ·rw [if_neg c8] at H
      exact absurd H (by simp)
    ·rw [if_neg c7] at H
     have c7b0 := decide_eq_false c7
     clear c7
     by_cases c10 : x5_1.length < 140737488355328
     ·rw [if_pos c10] at H
      have LMc10 := Az.mk c10
      clear c10
      obtain ⟨y255, hy255⟩ : ∃ y_ : List Int, y_ = (x5_1 ++ [(x1_1) % 256]) := ⟨_, rfl⟩
      replace H : (some y255) = some r := hr_ hy255 H
      have Ny255 := Az.mk hy255
      clear hy255
      obtain rfl := Option.some.inj H
      go_wp2_with (first | ((with_reducible refine gate_builtin (b := .append) (xs := #[.tmp 20, .tmp 23]) rfl ?_); at_builtin; refine Kd.R_append (Kd.int .u8) (w0 := w) w.heap.size rfl (.tmp 20) (.tmp 23) 24 5 (.int .u8 0) 1 rfl Try.underlying24 info5 rfl (by decide) (by omega) u5 x5_1 ((x1_1) % 256) [.int .u8 ((x1_1) % 256)] (fun _ => True) (fun _ => False) rfl rfl ?aP (fun _ hk => hk.elim) ?aF ?aO ?aB ?aS ?aL ?_; (case aP => exact rfl); (case aB => exact (bl_ HB)); (case aF => exact (fun _ _ => trivial)); (case aO => exact (rl_ HO_5.out)); (case aS => exact (below_size (bl_ HB))); (case aL => have := LMc10.out; omega); intro v256 w11 ho hb hg hat; rw [← Ny255.out] at ho; have n0_ := Az.mk (hb); have n1_ := Az.mk (ho); clear HB; clear HO_5; have HB := n0_; have HO257 := n1_; clear n0_ n1_; clear ho hb hg hat))
      go_ret
      exact ⟨_, er_, by (with_reducible repeat (first | apply Kd.R_alloc | apply Kd.R_drewN | apply Kd.R_drew)); exact HO257.out, bl_ HB⟩
     ·rw [if_neg c10] at H
      exact absurd H (by simp)
 ·rw [if_neg c3] at H
  exact absurd H (by simp)
mutual
def r02_More.l0 : Nat → Int → List Int → Int → Option (Int)
 | 0, _, _, _ => none
 | k + 1, x0, x1, x5 => if x5 < (x1.length : Int) then (if 0 ≤ x5 then (r02_More.l1 k (Go.bits .xor .u32 x0 ((rd x1 x5) % 4294967296)) x1 x5 0) else (none)) else (some ((4294967295 - x0) % 4294967296))
def r02_More.l1 : Nat → Int → List Int → Int → Int → Option (Int)
 | 0, _, _, _, _ => none
 | k + 1, x0, x1, x5, x6 => if x6 < 8 then (if (Int.tmod x0 2) = 1 then (r02_More.l1 k (Go.bits .xor .u32 ((Int.tdiv x0 2) % 4294967296) 3988292384) x1 x5 (wrap64 (x6 + 1))) else (r02_More.l1 k ((Int.tdiv x0 2) % 4294967296) x1 x5 (wrap64 (x6 + 1)))) else (r02_More.l0 k x0 x1 (wrap64 (x5 + 1)))
end
def r02_More.f (k : Nat) (a0 : Int) (l1 : List Int) : Option (Int) := r02_More.l0 k ((4294967295 - a0) % 4294967296) l1 0
theorem r02_More.mono_l : ∀ k, (∀ y0 y1 y2, LeO (r02_More.l0 k y0 y1 y2) (r02_More.l0 (k + 1) y0 y1 y2)) ∧ (∀ y0 y1 y2 y3, LeO (r02_More.l1 k y0 y1 y2 y3) (r02_More.l1 (k + 1) y0 y1 y2 y3))
 | 0 => ⟨fun _ _ _ r h => by simp [r02_More.l0] at h, fun _ _ _ _ r h => by simp [r02_More.l1] at h⟩
 | k + 1 => by
  obtain ⟨ih0, ih1⟩ := r02_More.mono_l k
  refine ⟨?_, ?_⟩
  ·intro y0 y1 y2
   unfold r02_More.l0
   repeat' first
   | (with_reducible exact ih0 _ _ _)
   | (with_reducible exact ih1 _ _ _ _)
   | (with_reducible exact LeO.refl _)
   | (with_reducible exact LeO.none _)
   | (with_reducible refine LeO.ite ?_ ?_)
   | (with_reducible refine LeO.bind ?_ (fun _ => ?_))
   | exact ih0 _ _ _
   | exact ih1 _ _ _ _
   | exact LeO.none _
   | refine LeO.ite ?_ ?_
   | refine LeO.bind ?_ (fun _ => ?_)
  ·intro y0 y1 y2 y3
   unfold r02_More.l1
   repeat' first
   | (with_reducible exact ih0 _ _ _)
   | (with_reducible exact ih1 _ _ _ _)
   | (with_reducible exact LeO.refl _)
   | (with_reducible exact LeO.none _)
   | (with_reducible refine LeO.ite ?_ ?_)
   | (with_reducible refine LeO.bind ?_ (fun _ => ?_))
   | exact ih0 _ _ _
   | exact ih1 _ _ _ _
   | exact LeO.none _
   | refine LeO.ite ?_ ?_
   | refine LeO.bind ?_ (fun _ => ?_)
theorem r02_More.mono : ∀ a0 a1 k, LeO (r02_More.f k a0 a1) (r02_More.f (k + 1) a0 a1) := by
 intro a0 a1 k
 obtain ⟨ih0, ih1⟩ := r02_More.mono_l k
 unfold r02_More.f
 repeat' first
   | (with_reducible exact ih0 _ _ _)
   | (with_reducible exact ih1 _ _ _ _)
   | (with_reducible exact LeO.refl _)
   | (with_reducible exact LeO.none _)
   | (with_reducible refine LeO.ite ?_ ?_)
   | (with_reducible refine LeO.bind ?_ (fun _ => ?_))
   | exact ih0 _ _ _
   | exact ih1 _ _ _ _
   | exact LeO.none _
   | refine LeO.ite ?_ ?_
   | refine LeO.bind ?_ (fun _ => ?_)
theorem r02_More.calls (k : Nat) (a0 : Int) (A1 : Option Addr) (c1 : Nat) (l1 : List Int) (r : Int) (w : World) (hr1 : Kd.C (Kd.int .u8) w A1 l1.length l1) (hc1 : l1.length ≤ c1) (h : r02_More.f k a0 l1 = some r) :
  Calls Try.prog 64 #[.int .u32 a0, .slice A1 l1.length c1] w fun e w' => e = .returned (.int .u32 r) ∧ Drawn0 w w' := by
 have HR1 := Az.mk hr1
 have HC1 := Az.mk hc1
 clear hr1 hc1
 have H : (r02_More.l0 k ((4294967295 - a0) % 4294967296) l1 0) = some r := h
 clear h
 have H' := Az.mk H
 clear H
 go_enter Try.func64, Try.ntmps64
 go_wp2
 go_loopg [0, 5] k (fun kq v0 v5 w' => ∃ (x0_1 : Int) (x5_1 : Int), v0 = .int .u32 x0_1 ∧ v5 = .int .i64 x5_1 ∧ Az (r02_More.l0 kq x0_1 l1 x5_1 = some r) ∧ Az (kq ≤ k) ∧ Drawn0 w w')
 case atStart => exact ⟨((4294967295 - a0) % 4294967296), (0), (es_), (es_), H', ⟨Nat.le_refl _⟩, dw_⟩
 case round =>
  clear H'
  try clear c1
  try clear p2
  obtain ⟨x0_1, x5_1, rfl, rfl, HA, HK1, ⟨m1, rfl⟩⟩ := hrel
  cases gk with
  | zero => exact absurd HA.out (by simp [r02_More.l0])
  | succ k1 =>
   have H := HA.out
   clear HA
   simp only [r02_More.l0] at H
   by_cases c3 : x5_1 < (l1.length : Int)
   ·rw [if_pos c3] at H
    have c3b0 := decide_eq_true c3
    clear c3
    by_cases c4 : 0 ≤ x5_1
    ·rw [if_pos c4] at H
     have c4b0 := decide_eq_true c4
     clear c4
     have H' := Az.mk H
     clear H
     have p258 : 0 ≤ (x5_1 : Int) := of_decide_eq_true as_
     have q258 : x5_1 < (l1.length : Int) := of_decide_eq_true as_
     obtain ⟨ad258, e258, hx258_0⟩ := Kd.at_int HR1.out x5_1 p258 q258
     cases e258
     replace p258 := eq_true p258
     replace q258 := eq_true q258
     go_wp2
     go_loopg [0, 6] k1 (fun kq v0 v6 w' => ∃ (x0_2 : Int) (x6_2 : Int), v0 = .int .u32 x0_2 ∧ v6 = .int .i64 x6_2 ∧ Az (r02_More.l1 kq x0_2 l1 x5_1 x6_2 = some r) ∧ Az (kq ≤ k1) ∧ Drawn0 w w')
     case atStart => exact ⟨(Go.bits .xor .u32 x0_1 ((rd l1 x5_1) % 4294967296)), (0), (es_), (es_), H', ⟨Nat.le_refl _⟩, dw_⟩
     case round =>
      clear H'
      try clear c1
      try clear p2
      try clear q2
      try clear hx2
      try clear c3
      try clear c3b0
      try clear c4
      try clear c4b0
      try clear hx258_0
      try clear p2
      try clear p258
      try clear q258
      obtain ⟨x0_2, x6_2, rfl, rfl, HA, HK2, ⟨m2, rfl⟩⟩ := hrel
      cases gk with
      | zero => exact absurd HA.out (by simp [r02_More.l1])
      | succ k2 =>
       have H := HA.out
       clear HA
       simp only [r02_More.l1] at H
       by_cases c5 : x6_2 < 8
       ·rw [if_pos c5] at H
        have c5b0 := decide_eq_true c5
        clear c5
        by_cases c6 : (Int.tmod x0_2 2) = 1
        ·rw [if_pos c6] at H
         have c6b0 : ((Int.tmod x0_2 2) == 1) = true := beq_iff_eq.mpr c6
         have c6b1 : ((Int.tmod x0_2 2) != 1) = false := bne_eq_false_iff_eq.mpr c6
         clear c6
         have H' := Az.mk H
         clear H
         go_wp2
         go_roundg k2
         case measure => have := HK1.out; have := HK2.out; omega
         case rel => exact ⟨(Go.bits .xor .u32 ((Int.tdiv x0_2 2) % 4294967296) 3988292384), (wrap64 (x6_2 + 1)), (es_), (es_), H', ⟨by have := HK1.out; have := HK2.out; omega⟩, dw_⟩
        ·rw [if_neg c6] at H
         have c6b0 : ((Int.tmod x0_2 2) == 1) = false := beq_eq_false_iff_ne.mpr c6
         have c6b1 : ((Int.tmod x0_2 2) != 1) = true := bne_iff_ne.mpr c6
         have H' := Az.mk H
         clear H
         go_wp2
         go_roundg k2
         case measure => have := HK1.out; have := HK2.out; omega
         case rel => exact ⟨((Int.tdiv x0_2 2) % 4294967296), (wrap64 (x6_2 + 1)), (es_), (es_), H', ⟨by have := HK1.out; have := HK2.out; omega⟩, dw_⟩
       ·rw [if_neg c5] at H
        have c5b0 := decide_eq_false c5
        clear c5
        have H' := Az.mk H
        clear H
        go_wp2
        go_roundg k2
        case measure => have := HK1.out; have := HK2.out; omega
        case rel => exact ⟨(x0_2), (wrap64 (x5_1 + 1)), (es_), (es_), H', ⟨by have := HK1.out; have := HK2.out; omega⟩, dw_⟩
    ·rw [if_neg c4] at H
     exact absurd H (by simp)
   ·rw [if_neg c3] at H
    have c3b0 := decide_eq_false c3
    clear c3
    obtain rfl := Option.some.inj H
    go_wp2
    go_ret
    exact ⟨es_, dw_⟩
def r02_Of.f (k : Nat) (l0 : List Int) : Option (Int) := (r02_More.f k 0 l0).bind fun t259 => (some t259)
theorem r02_Of.mono : ∀ a0 k, LeO (r02_Of.f k a0) (r02_Of.f (k + 1) a0) := by
 intro a0 k
 unfold r02_Of.f
 repeat' first
   | (with_reducible exact r02_More.mono _ _ _)
   | (with_reducible exact LeO.refl _)
   | (with_reducible exact LeO.none _)
   | (with_reducible refine LeO.ite ?_ ?_)
   | (with_reducible refine LeO.bind ?_ (fun _ => ?_))
   | exact r02_More.mono _ _ _
   | exact LeO.none _
   | refine LeO.ite ?_ ?_
   | refine LeO.bind ?_ (fun _ => ?_)
theorem r02_Of.calls (k : Nat) (A0 : Option Addr) (c0 : Nat) (l0 : List Int) (r : Int) (w : World) (hr0 : Kd.C (Kd.int .u8) w A0 l0.length l0) (hc0 : l0.length ≤ c0) (h : r02_Of.f k l0 = some r) :
  Calls Try.prog 56 #[.slice A0 l0.length c0] w fun e w' => e = .returned (.int .u32 r) ∧ Drawn0 w w' := by
 have HR0 := Az.mk hr0
 have HC0 := Az.mk hc0
 clear hr0 hc0
 have H : ((r02_More.f k 0 l0).bind fun t259 => (some t259)) = some r := h
 clear h
 replace H := Option.bind_eq_some_iff.mp H
 obtain ⟨t259, A20, H⟩ := H
 replace H : (some t259) = some r := H
 have A2 := Az.mk A20
 clear A20
 obtain rfl := Option.some.inj H
 go_enter Try.func56, Try.ntmps56
 go_wp2_with (first | ((with_reducible refine gate_callee (f := 64) rfl ?_); refine goesL_ (some 4) rfl rfl Try.func64 (by kernel_rfl) rfl #[.int .u32 0, .slice A0 l0.length c0] rfl ar_ ?_; (with_reducible refine (r02_More.calls k 0 _ _ l0 t259 _ ?side1 ?side2 A2.out).mono ?_); (case side1 => exact cl_ HR0.out); (case side2 => exact HC0.out); rintro e w' ⟨rfl, ⟨nd, rfl⟩⟩; refine ⟨_, rfl, ?_⟩))
 go_ret
 exact ⟨es_, dw_⟩
def r03_Put.f (k : Nat) (l0 : List Int) (l1 : List Int) : Option (List Int × Int) := if (l1.length : Int) > 1048576 then (some (([] : List Int), 6)) else ((r01_Put.f k l0 (IntKind.u64.wrap ((l1.length : Int)))).bind fun t260 => (if t260.length + l1.length < 140737488355328 then ((some (t260 ++ l1 : List Int)).bind fun y263 => ((r02_Of.f k l1).bind fun t266 => ((some (([(Int.tmod t266 256) % 256, ((Int.tdiv t266 256) % 4294967296) % 256, ((Int.tdiv t266 65536) % 4294967296) % 256, ((Int.tdiv t266 16777216) % 4294967296) % 256] : List Int) : List Int)).bind fun y267 => (if y263.length + y267.length < 140737488355328 then (some ((y263 ++ y267), 0)) else (none))))) else (none)))
theorem r03_Put.mono : ∀ a0 a1 k, LeO (r03_Put.f k a0 a1) (r03_Put.f (k + 1) a0 a1) := by
 intro a0 a1 k
 unfold r03_Put.f
 repeat' first
   | (with_reducible exact r01_Put.mono _ _ _)
   | (with_reducible exact r02_Of.mono _ _)
   | (with_reducible exact LeO.refl _)
   | (with_reducible exact LeO.none _)
   | (with_reducible refine LeO.ite ?_ ?_)
   | (with_reducible refine LeO.bind ?_ (fun _ => ?_))
   | exact r01_Put.mono _ _ _
   | exact r02_Of.mono _ _
   | exact LeO.none _
   | refine LeO.ite ?_ ?_
   | refine LeO.bind ?_ (fun _ => ?_)
theorem r03_Put.calls (k : Nat) (A0 : Option Addr) (c0 : Nat) (l0 : List Int) (A1 : Option Addr) (c1 : Nat) (l1 : List Int) (r1 : List Int) (r2 : Int) (w : World) (hr0 : Kd.C (Kd.int .u8) w A0 l0.length l0) (hc0 : l0.length ≤ c0) (hr1 : Kd.C (Kd.int .u8) w A1 l1.length l1) (hc1 : l1.length ≤ c1) (h : r03_Put.f k l0 l1 = some (r1, r2)) :
  Calls Try.prog 39 #[.slice A0 l0.length c0, .slice A1 l1.length c1] w fun e w' => ∃ v0_ : Value, e = .returned (.tuple #[v0_, .int .i64 r2]) ∧ Kd.R (Kd.int .u8) 5 w' w.heap.size (fun _ => True) v0_ r1 ∧ Below w.heap.size w w' := by
 have HR0 := Az.mk hr0
 have HC0 := Az.mk hc0
 clear hr0 hc0
 have HR1 := Az.mk hr1
 have HC1 := Az.mk hc1
 clear hr1 hc1
 have HB := Az.mk (Below.refl w.heap.size w)
 have H : (if (l1.length : Int) > 1048576 then (some (([] : List Int), 6)) else ((r01_Put.f k l0 (IntKind.u64.wrap ((l1.length : Int)))).bind fun t260 => (if t260.length + l1.length < 140737488355328 then ((some (t260 ++ l1 : List Int)).bind fun y263 => ((r02_Of.f k l1).bind fun t266 => ((some (([(Int.tmod t266 256) % 256, ((Int.tdiv t266 256) % 4294967296) % 256, ((Int.tdiv t266 65536) % 4294967296) % 256, ((Int.tdiv t266 16777216) % 4294967296) % 256] : List Int) : List Int)).bind fun y267 => (if y263.length + y267.length < 140737488355328 then (some ((y263 ++ y267), 0)) else (none))))) else (none)))) = some (r1, r2) := h
 clear h
 by_cases c3 : (l1.length : Int) > 1048576
 ·rw [if_pos c3] at H
  have c3b0 := decide_eq_true c3
  have c3b1 : decide (1048576 < l1.length) = true := decide_eq_true (by omega)
  clear c3
  simp only [Option.some.injEq, Prod.mk.injEq] at H
  obtain ⟨rfl, rfl⟩ := H
  go_enter Try.func39, Try.ntmps39
  go_wp2
  go_ret2
  exact ⟨_, er_, nl_, bl_ HB⟩
 ·rw [if_neg c3] at H
  have c3b0 := decide_eq_false c3
  have c3b1 : decide (1048576 < l1.length) = false := decide_eq_false (by omega)
  clear c3
  replace H := Option.bind_eq_some_iff.mp H
  obtain ⟨t260, A40, H⟩ := H
  replace H : (if t260.length + l1.length < 140737488355328 then ((some (t260 ++ l1 : List Int)).bind fun y263 => ((r02_Of.f k l1).bind fun t266 => ((some (([(Int.tmod t266 256) % 256, ((Int.tdiv t266 256) % 4294967296) % 256, ((Int.tdiv t266 65536) % 4294967296) % 256, ((Int.tdiv t266 16777216) % 4294967296) % 256] : List Int) : List Int)).bind fun y267 => (if y263.length + y267.length < 140737488355328 then (some ((y263 ++ y267), 0)) else (none))))) else (none)) = some (r1, r2) := H
  have A4 := Az.mk A40
  clear A40
  by_cases c5 : t260.length + l1.length < 140737488355328
  ·rw [if_pos c5] at H
   have LMc5 := Az.mk c5
   clear c5
   obtain ⟨y263, hy263⟩ : ∃ y_ : List Int, y_ = (t260 ++ l1) := ⟨_, rfl⟩
   replace H : ((r02_Of.f k l1).bind fun t266 => ((some (([(Int.tmod t266 256) % 256, ((Int.tdiv t266 256) % 4294967296) % 256, ((Int.tdiv t266 65536) % 4294967296) % 256, ((Int.tdiv t266 16777216) % 4294967296) % 256] : List Int) : List Int)).bind fun y267 => (if y263.length + y267.length < 140737488355328 then (some ((y263 ++ y267), 0)) else (none)))) = some (r1, r2) := hr_ hy263 H
   have Ny263 := Az.mk hy263
   clear hy263
   replace H := Option.bind_eq_some_iff.mp H
   obtain ⟨t266, A60, H⟩ := H
   replace H : ((some (([(Int.tmod t266 256) % 256, ((Int.tdiv t266 256) % 4294967296) % 256, ((Int.tdiv t266 65536) % 4294967296) % 256, ((Int.tdiv t266 16777216) % 4294967296) % 256] : List Int) : List Int)).bind fun y267 => (if y263.length + y267.length < 140737488355328 then (some ((y263 ++ y267), 0)) else (none))) = some (r1, r2) := H
   have A6 := Az.mk A60
   clear A60
   obtain ⟨y267, hy267⟩ : ∃ y_ : List Int, y_ = (([(Int.tmod t266 256) % 256, ((Int.tdiv t266 256) % 4294967296) % 256, ((Int.tdiv t266 65536) % 4294967296) % 256, ((Int.tdiv t266 16777216) % 4294967296) % 256] : List Int)) := ⟨_, rfl⟩
   replace H : (if y263.length + y267.length < 140737488355328 then (some ((y263 ++ y267), 0)) else (none)) = some (r1, r2) := hr_ hy267 H
   have Ny267 := Az.mk hy267
   clear hy267
   by_cases c7 : y263.length + y267.length < 140737488355328
   ·rw [if_pos c7] at H
    have LMc7 := Az.mk c7
    clear c7
    obtain ⟨y270, hy270⟩ : ∃ y_ : List Int, y_ = (y263 ++ y267) := ⟨_, rfl⟩
    replace H : (some (y270, 0)) = some (r1, r2) := hr_ hy270 H
    have Ny270 := Az.mk hy270
    clear hy270
    simp only [Option.some.injEq, Prod.mk.injEq] at H
    obtain ⟨rfl, rfl⟩ := H
    go_enter Try.func39, Try.ntmps39
    go_wp2_with (first | ((with_reducible refine gate_callee (f := 40) rfl ?_); refine goesL_ (some 15) rfl rfl Try.func40 (by kernel_rfl) rfl #[.slice A0 l0.length c0, .int .u64 (IntKind.u64.wrap ((l1.length : Int)))] rfl ar_ ?_; (with_reducible refine (r01_Put.calls k _ _ l0 (IntKind.u64.wrap ((l1.length : Int))) t260 _ ?side1 ?side2 A4.out).mono ?_); (case side1 => exact cl_ HR0.out); (case side2 => exact HC0.out); rintro e w8 ⟨v261, rfl, ho0, hb⟩; refine ⟨_, rfl, ?_⟩; have n0_ := Az.mk (Kd.R_lower ho0 (below_size (bl_ HB))); have n1_ := Az.mk (below_step (bl_ HB) hb); clear HB; have HO262 := n0_; have HB := n1_; clear n0_ n1_; (try clear hb); (try clear hb2); (try clear hk); (try clear hi); (try clear ho0)) | ((with_reducible refine gate_builtin (b := .append) (xs := #[.tmp 16, .tmp 17]) rfl ?_); at_builtin; refine Kd.R_append_rows (Kd.int .u8) (w0 := w) w.heap.size rfl (.tmp 16) (.tmp 17) 24 5 (.int .u8 0) 1 rfl Try.underlying24 info5 rfl (by decide) (by omega) v261 t260 l1 _ _ _ (fun _ => True) (fun _ => False) rfl rfl ?aO ?aR (fun _ _ h => h) (fun _ h => h.elim) ?aF ?aB ?aS ?aL ?_; (case aR => exact cl_ (Kd.C_below HR1.out HB.out)); (case aB => exact (bl_ HB)); (case aF => exact (fun _ _ => trivial)); (case aO => exact (rl_ HO262.out)); (case aS => exact (below_size (bl_ HB))); (case aL => have := LMc5.out; omega); intro v264 w9 ho hb hg hat; rw [← Ny263.out] at ho; have n0_ := Az.mk (hb); have n1_ := Az.mk (ho); clear HB; clear HO262; have HB := n0_; have HO265 := n1_; clear n0_ n1_; clear ho hb hg hat) | ((with_reducible refine gate_callee (f := 56) rfl ?_); refine goesL_ (some 20) rfl rfl Try.func56 (by kernel_rfl) rfl #[.slice A1 l1.length c1] rfl ar_ ?_; (with_reducible refine (r02_Of.calls k _ _ l1 t266 _ ?side1 ?side2 A6.out).mono ?_); (case side1 => exact cl_ (Kd.C_below HR1.out HB.out)); (case side2 => exact HC1.out); rintro e w' ⟨rfl, ⟨nd, rfl⟩⟩; refine ⟨_, rfl, ?_⟩) | ((with_reducible refine gate_dst (N := 36) rfl ?_); refine Kd.R_lit (Kd.int .u8) _ 5 ?hg (N := 36) ?hd (xs := ([(Int.tmod t266 256) % 256, ((Int.tdiv t266 256) % 4294967296) % 256, ((Int.tdiv t266 65536) % 4294967296) % 256, ((Int.tdiv t266 16777216) % 4294967296) % 256] : List Int)) (inner := [.int .u8 ((Int.tmod t266 256) % 256), .int .u8 (((Int.tdiv t266 256) % 4294967296) % 256), .int .u8 (((Int.tdiv t266 65536) % 4294967296) % 256), .int .u8 (((Int.tdiv t266 16777216) % 4294967296) % 256)]) (ok := fun _ => True) (okp := fun _ => True) ?hr ?hp (fun _ hk => hk) trivial (Below.refl _ _) (Nat.le_refl _) (by simp) ?_; (case hd => rfl); (case hg => rfl); (case hr => first | (go_simp; done) | (go_simp; rfl)); (case hp => exact (Reps.one (show Kd.M (Kd.int .u8) _ _ _ ((Int.tmod t266 256) % 256) [.int .u8 ((Int.tmod t266 256) % 256)] from rfl) (Reps.one (show Kd.M (Kd.int .u8) _ _ _ (((Int.tdiv t266 256) % 4294967296) % 256) [.int .u8 (((Int.tdiv t266 256) % 4294967296) % 256)] from rfl) (Reps.one (show Kd.M (Kd.int .u8) _ _ _ (((Int.tdiv t266 65536) % 4294967296) % 256) [.int .u8 (((Int.tdiv t266 65536) % 4294967296) % 256)] from rfl) (Reps.one (show Kd.M (Kd.int .u8) _ _ _ (((Int.tdiv t266 16777216) % 4294967296) % 256) [.int .u8 (((Int.tdiv t266 16777216) % 4294967296) % 256)] from rfl) (Reps.none _ _)))))); intro v268 w10 ho11 hb hg_ hnew_; clear hg_ hnew_; (first | rw [← Ny267.out] at ho11 | (simp only [Int.reduceToNat] at ho11; rw [← Ny267.out] at ho11)); have n0_ := Az.mk (Kd.R_elder' (rl_ HO265.out) (Kd.R_base ho11) hb); have n1_ := Az.mk (Kd.R_lower (Kd.R_new' ho11 (Kd.R_lt (rl_ HO265.out))) (below_size (bl_ HB))); have n2_ := Az.mk (below_step (bl_ HB) hb); clear HO265; clear HB; have HO265 := n0_; have HO269 := n1_; have HB := n2_; clear n0_ n1_ n2_; clear hb ho11; obtain ⟨Ao13, co13, eo13⟩ := Kd.R_slice HO269.out; subst eo13) | ((with_reducible refine gate_builtin (b := .append) (xs := #[.tmp 21, .tmp 36]) rfl ?_); at_builtin; refine Kd.R_append_rows (Kd.int .u8) (w0 := w) w.heap.size rfl (.tmp 21) (.tmp 36) 24 5 (.int .u8 0) 1 rfl Try.underlying24 info5 rfl (by decide) (by omega) v264 y263 y267 _ _ _ (fun k_ => some k_ ≠ (.slice Ao13 y267.length co13 : Value).ownBlock) (fun _ => False) rfl rfl ?aO ?aR (fun _ _ h => h) (fun _ h => h.elim) ?aF ?aB ?aS ?aL ?_; (case aR => exact cl_ (Kd.R_reads' HO269.out).2.2); (case aB => exact (bl_ HB)); (case aF => exact (fun k_ hk => Kd.fresh' (Kd.R_lt (rl_ HO269.out)) k_ hk)); (case aO => exact (by (with_reducible repeat (first | apply Kd.R_alloc | apply Kd.R_drewN | apply Kd.R_drew)); exact Kd.R_mono HO265.out (fun _ hk => hk.2))); (case aS => exact (below_size (bl_ HB))); (case aL => have := LMc7.out; omega); intro v271 w12 ho hb hg hat; rw [← Ny270.out] at ho; have n0_ := Az.mk (Kd.R_after (ok := (fun _ => True)) (rl_ HO269.out) hg hat); have n1_ := Az.mk (hb); have n2_ := Az.mk (ho); clear HO269; clear HB; clear HO265; have HO269 := n0_; have HB := n1_; have HO272 := n2_; clear n0_ n1_ n2_; clear ho hb hg hat))
    go_ret2
    exact ⟨_, er_, by (with_reducible repeat (first | apply Kd.R_alloc | apply Kd.R_drewN | apply Kd.R_drew)); exact Kd.R_mono HO272.out (fun _ hk => trivial), bl_ HB⟩
   ·rw [if_neg c7] at H
    exact absurd H (by simp)
  ·rw [if_neg c5] at H
   exact absurd H (by simp)
def r09_Alike.l0 : Nat → ByteArray → ByteArray → Int → Option (Int)
 | 0, _, _, _ => none
 | k + 1, x0, x1, x5 => if x5 < (x0.size : Int) then (if x5 < (x1.size : Int) then (if 0 ≤ x5 then (if (bt x0 x5) = (bt x1 x5) then (r09_Alike.l0 k x0 x1 (wrap64 (x5 + 1))) else (some x5)) else (none)) else (some x5)) else (some x5)
def r09_Alike.f (k : Nat) (a0 : ByteArray) (a1 : ByteArray) : Option (Int) := r09_Alike.l0 k a0 a1 0
theorem r09_Alike.mono_l : ∀ k, (∀ y0 y1 y2, LeO (r09_Alike.l0 k y0 y1 y2) (r09_Alike.l0 (k + 1) y0 y1 y2))
 | 0 => fun _ _ _ r h => by simp [r09_Alike.l0] at h
 | k + 1 => by
  have ih0 := r09_Alike.mono_l k
  ·intro y0 y1 y2
   unfold r09_Alike.l0
   repeat' first
   | (with_reducible exact ih0 _ _ _)
   | (with_reducible exact LeO.refl _)
   | (with_reducible exact LeO.none _)
   | (with_reducible refine LeO.ite ?_ ?_)
   | (with_reducible refine LeO.bind ?_ (fun _ => ?_))
   | exact ih0 _ _ _
   | exact LeO.none _
   | refine LeO.ite ?_ ?_
   | refine LeO.bind ?_ (fun _ => ?_)
theorem r09_Alike.mono : ∀ a0 a1 k, LeO (r09_Alike.f k a0 a1) (r09_Alike.f (k + 1) a0 a1) := by
 intro a0 a1 k
 have ih0 := r09_Alike.mono_l k
 unfold r09_Alike.f
 repeat' first
   | (with_reducible exact ih0 _ _ _)
   | (with_reducible exact LeO.refl _)
   | (with_reducible exact LeO.none _)
   | (with_reducible refine LeO.ite ?_ ?_)
   | (with_reducible refine LeO.bind ?_ (fun _ => ?_))
   | exact ih0 _ _ _
   | exact LeO.none _
   | refine LeO.ite ?_ ?_
   | refine LeO.bind ?_ (fun _ => ?_)
theorem r09_Alike.calls (k : Nat) (a0 : ByteArray) (a1 : ByteArray) (r : Int) (w : World) (h : r09_Alike.f k a0 a1 = some r) :
  Calls Try.prog 57 #[.string a0, .string a1] w fun e w' => e = .returned (.int .i64 r) ∧ Drawn0 w w' := by
 have H : (r09_Alike.l0 k a0 a1 0) = some r := h
 clear h
 have H' := Az.mk H
 clear H
 go_enter Try.func57, Try.ntmps57
 go_wp2
 repeat (go_quiet (fail); try go_wp2)
 go_loopg [5] k (fun kq v5 w' => ∃ (x5_1 : Int), v5 = .int .i64 x5_1 ∧ Az (r09_Alike.l0 kq a0 a1 x5_1 = some r) ∧ Az (kq ≤ k) ∧ Drawn0 w w')
 case atStart => exact ⟨(0), (es_), H', ⟨Nat.le_refl _⟩, dw_⟩
 case round =>
  clear H'
  try clear p2
  obtain ⟨x5_1, rfl, HA, HK1, ⟨m1, rfl⟩⟩ := hrel
  cases gk with
  | zero => exact absurd HA.out (by simp [r09_Alike.l0])
  | succ k1 =>
   have H := HA.out
   clear HA
   simp only [r09_Alike.l0] at H
   by_cases c3 : x5_1 < (a0.size : Int)
   ·rw [if_pos c3] at H
    have c3b0 := decide_eq_true c3
    clear c3
    by_cases c4 : x5_1 < (a1.size : Int)
    ·rw [if_pos c4] at H
     have c4b0 := decide_eq_true c4
     clear c4
     by_cases c5 : 0 ≤ x5_1
     ·rw [if_pos c5] at H
      have c5b0 := decide_eq_true c5
      clear c5
      by_cases c8 : (bt a0 x5_1) = (bt a1 x5_1)
      ·rw [if_pos c8] at H
       have c8b0 : ((bt a0 x5_1) == (bt a1 x5_1)) = true := beq_iff_eq.mpr c8
       have c8b1 : ((bt a0 x5_1) != (bt a1 x5_1)) = false := bne_eq_false_iff_eq.mpr c8
       clear c8
       have H' := Az.mk H
       clear H
       have p6 : 0 ≤ (x5_1 : Int) := of_decide_eq_true as_
       have q6 : x5_1 < (a0.size : Int) := of_decide_eq_true as_
       have hx6 := bt_at a0 x5_1
       replace p6 := eq_true p6
       replace q6 := eq_true q6
       have p7 : 0 ≤ (x5_1 : Int) := of_decide_eq_true as_
       have q7 : x5_1 < (a1.size : Int) := of_decide_eq_true as_
       have hx7 := bt_at a1 x5_1
       replace p7 := eq_true p7
       replace q7 := eq_true q7
       go_wp2
       repeat (go_quiet (fail); try go_wp2)
       go_roundg k1
       case measure => have := HK1.out; omega
       case rel => exact ⟨(wrap64 (x5_1 + 1)), (es_), H', ⟨by have := HK1.out; omega⟩, dw_⟩
      ·rw [if_neg c8] at H
       have c8b0 : ((bt a0 x5_1) == (bt a1 x5_1)) = false := beq_eq_false_iff_ne.mpr c8
       have c8b1 : ((bt a0 x5_1) != (bt a1 x5_1)) = true := bne_iff_ne.mpr c8
       obtain rfl := Option.some.inj H
       have p6 : 0 ≤ (x5_1 : Int) := of_decide_eq_true as_
       have q6 : x5_1 < (a0.size : Int) := of_decide_eq_true as_
       have hx6 := bt_at a0 x5_1
       replace p6 := eq_true p6
       replace q6 := eq_true q6
       have p7 : 0 ≤ (x5_1 : Int) := of_decide_eq_true as_
       have q7 : x5_1 < (a1.size : Int) := of_decide_eq_true as_
       have hx7 := bt_at a1 x5_1
       replace p7 := eq_true p7
       replace q7 := eq_true q7
       go_wp2
       repeat (go_quiet (fail); try go_wp2)
       go_ret
       exact ⟨es_, dw_⟩
     ·rw [if_neg c5] at H
      exact absurd H (by simp)
    ·rw [if_neg c4] at H
     have c4b0 := decide_eq_false c4
     clear c4
     obtain rfl := Option.some.inj H
     go_wp2
     repeat (go_quiet (fail); try go_wp2)
     go_ret
     exact ⟨es_, dw_⟩
   ·rw [if_neg c3] at H
    have c3b0 := decide_eq_false c3
    clear c3
    obtain rfl := Option.some.inj H
    go_wp2
    repeat (go_quiet (fail); try go_wp2)
    go_ret
    exact ⟨es_, dw_⟩
def r09_Block.l0 : Nat → List (S41) → List Int → Int → Option (List Int)
 | 0, _, _, _ => none
 | k + 1, x0, x3, x4 => if x4 < (x0.length : Int) then (if x4 > 0 then (if 0 ≤ (wrap64 (x4 - 1)) then (if (wrap64 (x4 - 1)) < (x0.length : Int) then (if 0 ≤ x4 then ((r09_Alike.f k ((rd_T41 x0 (wrap64 (x4 - 1))).f0) ((rd_T41 x0 x4).f0)).bind fun t278 => ((r01_Put.f k x3 (IntKind.u64.wrap (t278))).bind fun t279 => ((r01_Put.f k t279 (IntKind.u64.wrap (wrap64 ((((rd_T41 x0 x4).f0).size : Int) - t278)))).bind fun t283 => (if 0 ≤ t278 then (if t278 ≤ (((rd_T41 x0 x4).f0).size : Int) then (if t283.length + (((rd_T41 x0 x4).f0).extract (t278 : Int).toNat ((rd_T41 x0 x4).f0).size).size < 140737488355328 then ((r01_Put.f k (t283 ++ bytesOf (((rd_T41 x0 x4).f0).extract (t278 : Int).toNat ((rd_T41 x0 x4).f0).size)) ((rd_T41 x0 x4).f1)).bind fun t291 => (r09_Block.l0 k x0 t291 (wrap64 (x4 + 1)))) else (none)) else (none)) else (none))))) else (none)) else (none)) else (none)) else ((r01_Put.f k x3 0).bind fun t294 => (if 0 ≤ x4 then ((r01_Put.f k t294 (IntKind.u64.wrap (wrap64 ((((rd_T41 x0 x4).f0).size : Int))))).bind fun t298 => (if 0 ≤ (((rd_T41 x0 x4).f0).size : Int) then (if t298.length + ((rd_T41 x0 x4).f0).size < 140737488355328 then ((r01_Put.f k (t298 ++ bytesOf ((rd_T41 x0 x4).f0)) ((rd_T41 x0 x4).f1)).bind fun t306 => (r09_Block.l0 k x0 t306 (wrap64 (x4 + 1)))) else (none)) else (none))) else (none)))) else (some x3)
def r09_Block.f (k : Nat) (l0 : List (S41)) : Option (List Int) := (r01_Put.f k ([] : List Int) (IntKind.u64.wrap ((l0.length : Int)))).bind fun t273 => (r09_Block.l0 k l0 t273 0)
theorem r09_Block.mono_l : ∀ k, (∀ y0 y1 y2, LeO (r09_Block.l0 k y0 y1 y2) (r09_Block.l0 (k + 1) y0 y1 y2))
 | 0 => fun _ _ _ r h => by simp [r09_Block.l0] at h
 | k + 1 => by
  have ih0 := r09_Block.mono_l k
  ·intro y0 y1 y2
   unfold r09_Block.l0
   repeat' first
   | (with_reducible exact ih0 _ _ _)
   | (with_reducible exact r01_Put.mono _ _ _)
   | (with_reducible exact r09_Alike.mono _ _ _)
   | (with_reducible exact LeO.refl _)
   | (with_reducible exact LeO.none _)
   | (with_reducible refine LeO.ite ?_ ?_)
   | (with_reducible refine LeO.bind ?_ (fun _ => ?_))
   | exact ih0 _ _ _
   | exact r01_Put.mono _ _ _
   | exact r09_Alike.mono _ _ _
   | exact LeO.none _
   | refine LeO.ite ?_ ?_
   | refine LeO.bind ?_ (fun _ => ?_)
theorem r09_Block.mono : ∀ a0 k, LeO (r09_Block.f k a0) (r09_Block.f (k + 1) a0) := by
 intro a0 k
 have ih0 := r09_Block.mono_l k
 unfold r09_Block.f
 repeat' first
   | (with_reducible exact ih0 _ _ _)
   | (with_reducible exact r01_Put.mono _ _ _)
   | (with_reducible exact r09_Alike.mono _ _ _)
   | (with_reducible exact LeO.refl _)
   | (with_reducible exact LeO.none _)
   | (with_reducible refine LeO.ite ?_ ?_)
   | (with_reducible refine LeO.bind ?_ (fun _ => ?_))
   | exact ih0 _ _ _
   | exact r01_Put.mono _ _ _
   | exact r09_Alike.mono _ _ _
   | exact LeO.none _
   | refine LeO.ite ?_ ?_
   | refine LeO.bind ?_ (fun _ => ?_)
theorem r09_Block.calls (k : Nat) (A0 : Option Addr) (c0 : Nat) (l0 : List (S41)) (r : List Int) (w : World) (hr0 : Kd.C k41 w A0 l0.length l0) (hc0 : l0.length ≤ c0) (h : r09_Block.f k l0 = some r) :
  Calls Try.prog 41 #[.slice A0 l0.length c0] w fun e w' => ∃ v0_ : Value, e = .returned (v0_) ∧ Kd.R (Kd.int .u8) 5 w' w.heap.size (fun _ => True) v0_ r ∧ Below w.heap.size w w' := by
 have HR0 := Az.mk hr0
 have HC0 := Az.mk hc0
 clear hr0 hc0
 have HB := Az.mk (Below.refl w.heap.size w)
 have H : ((r01_Put.f k ([] : List Int) (IntKind.u64.wrap ((l0.length : Int)))).bind fun t273 => (r09_Block.l0 k l0 t273 0)) = some r := h
 clear h
 replace H := Option.bind_eq_some_iff.mp H
 obtain ⟨t273, A20, H⟩ := H
 replace H : (r09_Block.l0 k l0 t273 0) = some r := H
 have A2 := Az.mk A20
 clear A20
 have H' := Az.mk H
 clear H
 go_enter Try.func41, Try.ntmps41
 go_wp2_with (first | (go_at_call 40; (refine (r01_Put.calls k _ _ ([] : List Int) (IntKind.u64.wrap ((l0.length : Int))) t273 _ ?side1 ?side2 A2.out).mono ?_); (case side1 => exact Kd.C_nil _ _); (case side2 => exact Nat.le_refl _); rintro e w3 ⟨v274, rfl, ho0, hb⟩; have n0_ := Az.mk (Kd.R_lower ho0 (below_size (bl_ HB))); have n1_ := Az.mk (below_step (bl_ HB) hb); clear HB; have HO275 := n0_; have HB := n1_; clear n0_ n1_; (try clear hb); (try clear hb2); (try clear hk); (try clear hi); (try clear ho0)))
 repeat (go_quiet (first | (go_at_call 40; (refine (r01_Put.calls k _ _ ([] : List Int) (IntKind.u64.wrap ((l0.length : Int))) t273 _ ?side1 ?side2 A2.out).mono ?_); (case side1 => exact Kd.C_nil _ _); (case side2 => exact Nat.le_refl _); rintro e w3 ⟨v274, rfl, ho0, hb⟩; have n0_ := Az.mk (Kd.R_lower ho0 (below_size (bl_ HB))); have n1_ := Az.mk (below_step (bl_ HB) hb); clear HB; have HO275 := n0_; have HB := n1_; clear n0_ n1_; (try clear hb); (try clear hb2); (try clear hk); (try clear hi); (try clear ho0))); try go_wp2_with (first | (go_at_call 40; (refine (r01_Put.calls k _ _ ([] : List Int) (IntKind.u64.wrap ((l0.length : Int))) t273 _ ?side1 ?side2 A2.out).mono ?_); (case side1 => exact Kd.C_nil _ _); (case side2 => exact Nat.le_refl _); rintro e w3 ⟨v274, rfl, ho0, hb⟩; have n0_ := Az.mk (Kd.R_lower ho0 (below_size (bl_ HB))); have n1_ := Az.mk (below_step (bl_ HB) hb); clear HB; have HO275 := n0_; have HB := n1_; clear n0_ n1_; (try clear hb); (try clear hb2); (try clear hk); (try clear hi); (try clear ho0))))
 go_loopg [3, 4] k (fun kq v3 v4 w' => ∃ (x3_1 : List Int) (x4_1 : Int), v4 = .int .i64 x4_1 ∧ Az (r09_Block.l0 kq l0 x3_1 x4_1 = some r) ∧ Az (kq ≤ k) ∧ Az (Kd.R (Kd.int .u8) 5 w' w.heap.size (fun _ => True) v3 x3_1) ∧ Az (Below w.heap.size w w'))
 case atStart => exact ⟨(t273), (0), (es_), H', ⟨Nat.le_refl _⟩, ⟨rl_ HO275.out⟩, ⟨bl_ HB⟩⟩
 case round =>
  clear H'
  try clear p2
  obtain ⟨x3_1, x4_1, rfl, HA, HK1, HO_3, HB⟩ := hrel
  cases gk with
  | zero => exact absurd HA.out (by simp [r09_Block.l0])
  | succ k1 =>
   have H := HA.out
   clear HA
   simp only [r09_Block.l0] at H
   by_cases c4 : x4_1 < (l0.length : Int)
   ·rw [if_pos c4] at H
    have c4b0 := decide_eq_true c4
    clear c4
    by_cases c5 : x4_1 > 0
    ·rw [if_pos c5] at H
     have c5b0 := decide_eq_true c5
     clear c5
     obtain ⟨ji6, hji6⟩ : ∃ j_ : Int, (wrap64 (x4_1 - 1)) = j_ := ⟨_, rfl⟩
     replace H : (if 0 ≤ (ji6) then (if (ji6) < (l0.length : Int) then (if 0 ≤ x4_1 then ((r09_Alike.f k1 ((rd_T41 l0 (ji6)).f0) ((rd_T41 l0 x4_1).f0)).bind fun t278 => ((r01_Put.f k1 x3_1 (IntKind.u64.wrap (t278))).bind fun t279 => ((r01_Put.f k1 t279 (IntKind.u64.wrap (wrap64 ((((rd_T41 l0 x4_1).f0).size : Int) - t278)))).bind fun t283 => (if 0 ≤ t278 then (if t278 ≤ (((rd_T41 l0 x4_1).f0).size : Int) then (if t283.length + (((rd_T41 l0 x4_1).f0).extract (t278 : Int).toNat ((rd_T41 l0 x4_1).f0).size).size < 140737488355328 then ((r01_Put.f k1 (t283 ++ bytesOf (((rd_T41 l0 x4_1).f0).extract (t278 : Int).toNat ((rd_T41 l0 x4_1).f0).size)) ((rd_T41 l0 x4_1).f1)).bind fun t291 => (r09_Block.l0 k1 l0 t291 (wrap64 (x4_1 + 1)))) else (none)) else (none)) else (none))))) else (none)) else (none)) else (none)) = some r := by first | (rw [hji6] at H; exact H) | (simp only [hji6] at H ⊢; exact H)
     have hji6w : (IntKind.i64.wrap (x4_1 - 1)) = ji6 := (i64_w _).trans hji6
     by_cases c7 : 0 ≤ (ji6)
     ·rw [if_pos c7] at H
      have c7b0 := decide_eq_true c7
      clear c7
      by_cases c8 : (ji6) < (l0.length : Int)
      ·rw [if_pos c8] at H
       have c8b0 := decide_eq_true c8
       clear c8
       by_cases c9 : 0 ≤ x4_1
       ·rw [if_pos c9] at H
        have c9b0 := decide_eq_true c9
        clear c9
        replace H := Option.bind_eq_some_iff.mp H
        obtain ⟨t278, A100, H⟩ := H
        replace H : ((r01_Put.f k1 x3_1 (IntKind.u64.wrap (t278))).bind fun t279 => ((r01_Put.f k1 t279 (IntKind.u64.wrap (wrap64 ((((rd_T41 l0 x4_1).f0).size : Int) - t278)))).bind fun t283 => (if 0 ≤ t278 then (if t278 ≤ (((rd_T41 l0 x4_1).f0).size : Int) then (if t283.length + (((rd_T41 l0 x4_1).f0).extract (t278 : Int).toNat ((rd_T41 l0 x4_1).f0).size).size < 140737488355328 then ((r01_Put.f k1 (t283 ++ bytesOf (((rd_T41 l0 x4_1).f0).extract (t278 : Int).toNat ((rd_T41 l0 x4_1).f0).size)) ((rd_T41 l0 x4_1).f1)).bind fun t291 => (r09_Block.l0 k1 l0 t291 (wrap64 (x4_1 + 1)))) else (none)) else (none)) else (none)))) = some r := H
        have A10 := Az.mk A100
        clear A100
        replace H := Option.bind_eq_some_iff.mp H
        obtain ⟨t279, A110, H⟩ := H
        replace H : ((r01_Put.f k1 t279 (IntKind.u64.wrap (wrap64 ((((rd_T41 l0 x4_1).f0).size : Int) - t278)))).bind fun t283 => (if 0 ≤ t278 then (if t278 ≤ (((rd_T41 l0 x4_1).f0).size : Int) then (if t283.length + (((rd_T41 l0 x4_1).f0).extract (t278 : Int).toNat ((rd_T41 l0 x4_1).f0).size).size < 140737488355328 then ((r01_Put.f k1 (t283 ++ bytesOf (((rd_T41 l0 x4_1).f0).extract (t278 : Int).toNat ((rd_T41 l0 x4_1).f0).size)) ((rd_T41 l0 x4_1).f1)).bind fun t291 => (r09_Block.l0 k1 l0 t291 (wrap64 (x4_1 + 1)))) else (none)) else (none)) else (none))) = some r := H
        have A11 := Az.mk A110
        clear A110
        replace H := Option.bind_eq_some_iff.mp H
        obtain ⟨t283, A120, H⟩ := H
        replace H : (if 0 ≤ t278 then (if t278 ≤ (((rd_T41 l0 x4_1).f0).size : Int) then (if t283.length + (((rd_T41 l0 x4_1).f0).extract (t278 : Int).toNat ((rd_T41 l0 x4_1).f0).size).size < 140737488355328 then ((r01_Put.f k1 (t283 ++ bytesOf (((rd_T41 l0 x4_1).f0).extract (t278 : Int).toNat ((rd_T41 l0 x4_1).f0).size)) ((rd_T41 l0 x4_1).f1)).bind fun t291 => (r09_Block.l0 k1 l0 t291 (wrap64 (x4_1 + 1)))) else (none)) else (none)) else (none)) = some r := H
        have A12 := Az.mk A120
        clear A120
        by_cases c13 : 0 ≤ t278
        ·rw [if_pos c13] at H
         have c13b0 := eq_true c13
         have c13b1 := decide_eq_true c13
         clear c13
         by_cases c14 : t278 ≤ (((rd_T41 l0 x4_1).f0).size : Int)
         ·rw [if_pos c14] at H
          have c14b0 := eq_true c14
          have c14b1 := decide_eq_true c14
          clear c14
          by_cases c15 : t283.length + (((rd_T41 l0 x4_1).f0).extract (t278 : Int).toNat ((rd_T41 l0 x4_1).f0).size).size < 140737488355328
          ·rw [if_pos c15] at H
           have LMc15 := Az.mk c15
           clear c15
           obtain ⟨y287, hy287⟩ : ∃ y_ : List Int, y_ = (t283 ++ bytesOf (((rd_T41 l0 x4_1).f0).extract (t278 : Int).toNat ((rd_T41 l0 x4_1).f0).size)) := ⟨_, rfl⟩
           replace H : ((r01_Put.f k1 y287 ((rd_T41 l0 x4_1).f1)).bind fun t291 => (r09_Block.l0 k1 l0 t291 (wrap64 (x4_1 + 1)))) = some r := hr_ hy287 H
           have Ny287 := Az.mk hy287
           clear hy287
           replace H := Option.bind_eq_some_iff.mp H
           obtain ⟨t291, A160, H⟩ := H
           replace H : (r09_Block.l0 k1 l0 t291 (wrap64 (x4_1 + 1))) = some r := H
           have A16 := Az.mk A160
           clear A160
           have H' := Az.mk H
           clear H
           have p276 : 0 ≤ ((ji6) : Int) := of_decide_eq_true as_
           have q276 : (ji6) < (l0.length : Int) := of_decide_eq_true as_
           obtain ⟨ad276, e276, hx276_0, hx276_1⟩ := at_T41 HR0.out (ji6) p276 q276
           cases e276
           replace hx276_0 := (HB.out.cell (World.block_lt_of_cell? w _ hx276_0)).trans hx276_0
           replace hx276_1 := (HB.out.cell (World.block_lt_of_cell? w _ hx276_1)).trans hx276_1
           replace p276 := eq_true p276
           replace q276 := eq_true q276
           have p277 : 0 ≤ (x4_1 : Int) := of_decide_eq_true as_
           have q277 : x4_1 < (l0.length : Int) := of_decide_eq_true as_
           obtain ⟨ad277, e277, hx277_0, hx277_1⟩ := at_T41 HR0.out x4_1 p277 q277
           obtain rfl : ad276 = ad277 := (by injection e277)
           replace hx277_0 := (HB.out.cell (World.block_lt_of_cell? w _ hx277_0)).trans hx277_0
           replace hx277_1 := (HB.out.cell (World.block_lt_of_cell? w _ hx277_1)).trans hx277_1
           replace p277 := eq_true p277
           replace q277 := eq_true q277
           go_wp2_with (first | (go_at_call 57; (with_reducible refine (r09_Alike.calls k1 ((rd_T41 l0 (ji6)).f0) ((rd_T41 l0 x4_1).f0) t278 _ A10.out).mono ?_); rintro e w' ⟨rfl, ⟨nd, rfl⟩⟩; (try first | exact ⟨rfl, _, World.drewN_drewN _ _ _⟩ | exact ⟨rfl, _, Eq.trans (World.drewN_drewN _ _ _) (congrArg (World.drewN _) (Nat.add_assoc _ _ _))⟩); obtain ⟨Ao17, co17, eo17⟩ := Kd.R_slice HO_3.out; subst eo17) | (go_at_call 40; (with_reducible refine (r01_Put.calls k1 _ _ x3_1 (IntKind.u64.wrap (t278)) t279 _ ?side1 ?side2 A11.out).mono ?_); (case side1 => exact cl_ (Kd.R_reads' HO_3.out).2.2); (case side2 => exact (Kd.R_reads' HO_3.out).2.1); rintro e w18 ⟨v280, rfl, ho0, hb⟩; have n0_ := Az.mk (Kd.R_elder' (rl_ HO_3.out) (Kd.R_base ho0) hb); have n1_ := Az.mk (Kd.R_lower (Kd.R_new' ho0 (Kd.R_lt (rl_ HO_3.out))) (below_size (bl_ HB))); have n2_ := Az.mk (below_step (bl_ HB) hb); clear HO_3; clear HB; have HO_3 := n0_; have HO281 := n1_; have HB := n2_; clear n0_ n1_ n2_; (try clear hb); (try clear hb2); (try clear hk); (try clear hi); (try clear ho0); have p282 : 0 ≤ (x4_1 : Int) := of_decide_eq_true as_; have q282 : x4_1 < (l0.length : Int) := of_decide_eq_true as_; obtain ⟨ad282, e282, hx282_0, hx282_1⟩ := at_T41 HR0.out x4_1 p282 q282; obtain rfl : ad276 = ad282 := (by injection e282); replace hx282_0 := (HB.out.cell (World.block_lt_of_cell? w _ hx282_0)).trans hx282_0; replace hx282_1 := (HB.out.cell (World.block_lt_of_cell? w _ hx282_1)).trans hx282_1; replace p282 := eq_true p282; replace q282 := eq_true q282; obtain ⟨Ao19, co19, eo19⟩ := Kd.R_slice HO281.out; subst eo19) | (go_at_call 40; (with_reducible refine (r01_Put.calls k1 _ _ t279 (IntKind.u64.wrap (wrap64 ((((rd_T41 l0 x4_1).f0).size : Int) - t278))) t283 _ ?side1 ?side2 A12.out).mono ?_); (case side1 => exact cl_ (Kd.R_reads' HO281.out).2.2); (case side2 => exact (Kd.R_reads' HO281.out).2.1); rintro e w20 ⟨v284, rfl, ho0, hb⟩; have n0_ := Az.mk (Kd.R_elder' (rl_ HO_3.out) (Kd.R_base ho0) hb); have n1_ := Az.mk (Kd.R_elder' (rl_ HO281.out) (Kd.R_base ho0) hb); have n2_ := Az.mk (Kd.R_lower (Kd.R_new' (Kd.R_new' ho0 (Kd.R_lt (rl_ HO_3.out))) (Kd.R_lt (rl_ HO281.out))) (below_size (bl_ HB))); have n3_ := Az.mk (below_step (bl_ HB) hb); clear HO_3; clear HO281; clear HB; have HO_3 := n0_; have HO281 := n1_; have HO285 := n2_; have HB := n3_; clear n0_ n1_ n2_ n3_; (try clear hb); (try clear hb2); (try clear hk); (try clear hi); (try clear ho0); have p286 : 0 ≤ (x4_1 : Int) := of_decide_eq_true as_; have q286 : x4_1 < (l0.length : Int) := of_decide_eq_true as_; obtain ⟨ad286, e286, hx286_0, hx286_1⟩ := at_T41 HR0.out x4_1 p286 q286; obtain rfl : ad276 = ad286 := (by injection e286); replace hx286_0 := (HB.out.cell (World.block_lt_of_cell? w _ hx286_0)).trans hx286_0; replace hx286_1 := (HB.out.cell (World.block_lt_of_cell? w _ hx286_1)).trans hx286_1; replace p286 := eq_true p286; replace q286 := eq_true q286) | (at_builtin; refine Go.Proofs.Ytiohnpphhepdfaa.MoreWords.R_append_str (w0 := w) w.heap.size rfl (.tmp 45) _ 24 9 5 rfl Try.underlying24 Try.underlying9 info5 v284 t283 (((rd_T41 l0 x4_1).f0).extract (t278 : Int).toNat ((rd_T41 l0 x4_1).f0).size) (fun k_ => some k_ ≠ (.slice Ao17 x3_1.length co17 : Value).ownBlock ∧ some k_ ≠ (.slice Ao19 t279.length co19 : Value).ownBlock) rfl rfl ?aO ?aF ?aB ?aS ?aL ?_; (case aB => exact (bl_ HB)); (case aF => exact (fun k_ hk => ⟨Kd.fresh' (Kd.R_lt (rl_ HO_3.out)) k_ hk, Kd.fresh' (Kd.R_lt (rl_ HO281.out)) k_ hk⟩)); (case aO => exact (by (with_reducible repeat (first | apply Kd.R_alloc | apply Kd.R_drewN | apply Kd.R_drew)); exact Kd.R_mono HO285.out (fun _ hk => by first | exact ⟨hk.1.2, hk.2⟩ | exact ⟨hk.1, hk.2⟩))); (case aS => exact (below_size (bl_ HB))); (case aL => have := LMc15.out; omega); intro v288 w21 ho hb hg hat; rw [← Ny287.out] at ho; have n0_ := Az.mk (Kd.R_after (ok := (fun k_ => some k_ ≠ (.slice Ao19 t279.length co19 : Value).ownBlock)) (by (with_reducible repeat (first | apply Kd.R_alloc | apply Kd.R_drewN | apply Kd.R_drew)); exact Kd.R_mono HO_3.out (fun _ hk => by first | exact ⟨hk.1.2, hk.2⟩ | exact ⟨hk.1, hk.2⟩)) hg hat); have n1_ := Az.mk (Kd.R_after (ok := (fun k_ => some k_ ≠ (.slice Ao17 x3_1.length co17 : Value).ownBlock)) (by (with_reducible repeat (first | apply Kd.R_alloc | apply Kd.R_drewN | apply Kd.R_drew)); exact Kd.R_mono HO281.out (fun _ hk => by first | exact ⟨hk.1.2, hk.2⟩ | exact ⟨hk.1, hk.2⟩)) hg hat); have n2_ := Az.mk (hb); have n3_ := Az.mk (ho); clear HO_3; clear HO281; clear HB; clear HO285; have HO_3 := n0_; have HO281 := n1_; have HB := n2_; have HO289 := n3_; clear n0_ n1_ n2_ n3_; clear ho hb hg hat; have p290 : 0 ≤ (x4_1 : Int) := of_decide_eq_true as_; have q290 : x4_1 < (l0.length : Int) := of_decide_eq_true as_; obtain ⟨ad290, e290, hx290_0, hx290_1⟩ := at_T41 HR0.out x4_1 p290 q290; obtain rfl : ad276 = ad290 := (by injection e290); replace hx290_0 := (HB.out.cell (World.block_lt_of_cell? w _ hx290_0)).trans hx290_0; replace hx290_1 := (HB.out.cell (World.block_lt_of_cell? w _ hx290_1)).trans hx290_1; replace p290 := eq_true p290; replace q290 := eq_true q290; obtain ⟨Ao22, co22, eo22⟩ := Kd.R_slice HO289.out; subst eo22) | (go_at_call 40; (with_reducible refine (r01_Put.calls k1 _ _ y287 ((rd_T41 l0 x4_1).f1) t291 _ ?side1 ?side2 A16.out).mono ?_); (case side1 => exact cl_ (Kd.R_reads' HO289.out).2.2); (case side2 => exact (Kd.R_reads' HO289.out).2.1); rintro e w23 ⟨v292, rfl, ho0, hb⟩; have n0_ := Az.mk (Kd.R_elder' (rl_ HO_3.out) (Kd.R_base ho0) hb); have n1_ := Az.mk (Kd.R_elder' (rl_ HO281.out) (Kd.R_base ho0) hb); have n2_ := Az.mk (Kd.R_elder' (rl_ HO289.out) (Kd.R_base ho0) hb); have n3_ := Az.mk (Kd.R_lower (Kd.R_new' (Kd.R_new' (Kd.R_new' ho0 (Kd.R_lt (rl_ HO_3.out))) (Kd.R_lt (rl_ HO281.out))) (Kd.R_lt (rl_ HO289.out))) (below_size (bl_ HB))); have n4_ := Az.mk (below_step (bl_ HB) hb); clear HO_3; clear HO281; clear HO289; clear HB; have HO_3 := n0_; have HO281 := n1_; have HO289 := n2_; have HO293 := n3_; have HB := n4_; clear n0_ n1_ n2_ n3_ n4_; (try clear hb); (try clear hb2); (try clear hk); (try clear hi); (try clear ho0)))
           repeat (go_quiet (first | (go_at_call 57; (with_reducible refine (r09_Alike.calls k1 ((rd_T41 l0 (ji6)).f0) ((rd_T41 l0 x4_1).f0) t278 _ A10.out).mono ?_); rintro e w' ⟨rfl, ⟨nd, rfl⟩⟩; (try first | exact ⟨rfl, _, World.drewN_drewN _ _ _⟩ | exact ⟨rfl, _, Eq.trans (World.drewN_drewN _ _ _) (congrArg (World.drewN _) (Nat.add_assoc _ _ _))⟩); obtain ⟨Ao17, co17, eo17⟩ := Kd.R_slice HO_3.out; subst eo17) | (go_at_call 40; (with_reducible refine (r01_Put.calls k1 _ _ x3_1 (IntKind.u64.wrap (t278)) t279 _ ?side1 ?side2 A11.out).mono ?_); (case side1 => exact cl_ (Kd.R_reads' HO_3.out).2.2); (case side2 => exact (Kd.R_reads' HO_3.out).2.1); rintro e w18 ⟨v280, rfl, ho0, hb⟩; have n0_ := Az.mk (Kd.R_elder' (rl_ HO_3.out) (Kd.R_base ho0) hb); have n1_ := Az.mk (Kd.R_lower (Kd.R_new' ho0 (Kd.R_lt (rl_ HO_3.out))) (below_size (bl_ HB))); have n2_ := Az.mk (below_step (bl_ HB) hb); clear HO_3; clear HB; have HO_3 := n0_; have HO281 := n1_; have HB := n2_; clear n0_ n1_ n2_; (try clear hb); (try clear hb2); (try clear hk); (try clear hi); (try clear ho0); have p282 : 0 ≤ (x4_1 : Int) := of_decide_eq_true as_; have q282 : x4_1 < (l0.length : Int) := of_decide_eq_true as_; obtain ⟨ad282, e282, hx282_0, hx282_1⟩ := at_T41 HR0.out x4_1 p282 q282; obtain rfl : ad276 = ad282 := (by injection e282); replace hx282_0 := (HB.out.cell (World.block_lt_of_cell? w _ hx282_0)).trans hx282_0; replace hx282_1 := (HB.out.cell (World.block_lt_of_cell? w _ hx282_1)).trans hx282_1; replace p282 := eq_true p282; replace q282 := eq_true q282; obtain ⟨Ao19, co19, eo19⟩ := Kd.R_slice HO281.out; subst eo19) | (go_at_call 40; (with_reducible refine (r01_Put.calls k1 _ _ t279 (IntKind.u64.wrap (wrap64 ((((rd_T41 l0 x4_1).f0).size : Int) - t278))) t283 _ ?side1 ?side2 A12.out).mono ?_); (case side1 => exact cl_ (Kd.R_reads' HO281.out).2.2); (case side2 => exact (Kd.R_reads' HO281.out).2.1); rintro e w20 ⟨v284, rfl, ho0, hb⟩; have n0_ := Az.mk (Kd.R_elder' (rl_ HO_3.out) (Kd.R_base ho0) hb); have n1_ := Az.mk (Kd.R_elder' (rl_ HO281.out) (Kd.R_base ho0) hb); have n2_ := Az.mk (Kd.R_lower (Kd.R_new' (Kd.R_new' ho0 (Kd.R_lt (rl_ HO_3.out))) (Kd.R_lt (rl_ HO281.out))) (below_size (bl_ HB))); have n3_ := Az.mk (below_step (bl_ HB) hb); clear HO_3; clear HO281; clear HB; have HO_3 := n0_; have HO281 := n1_; have HO285 := n2_; have HB := n3_; clear n0_ n1_ n2_ n3_; (try clear hb); (try clear hb2); (try clear hk); (try clear hi); (try clear ho0); have p286 : 0 ≤ (x4_1 : Int) := of_decide_eq_true as_; have q286 : x4_1 < (l0.length : Int) := of_decide_eq_true as_; obtain ⟨ad286, e286, hx286_0, hx286_1⟩ := at_T41 HR0.out x4_1 p286 q286; obtain rfl : ad276 = ad286 := (by injection e286); replace hx286_0 := (HB.out.cell (World.block_lt_of_cell? w _ hx286_0)).trans hx286_0; replace hx286_1 := (HB.out.cell (World.block_lt_of_cell? w _ hx286_1)).trans hx286_1; replace p286 := eq_true p286; replace q286 := eq_true q286) | (at_builtin; refine Go.Proofs.Ytiohnpphhepdfaa.MoreWords.R_append_str (w0 := w) w.heap.size rfl (.tmp 45) _ 24 9 5 rfl Try.underlying24 Try.underlying9 info5 v284 t283 (((rd_T41 l0 x4_1).f0).extract (t278 : Int).toNat ((rd_T41 l0 x4_1).f0).size) (fun k_ => some k_ ≠ (.slice Ao17 x3_1.length co17 : Value).ownBlock ∧ some k_ ≠ (.slice Ao19 t279.length co19 : Value).ownBlock) rfl rfl ?aO ?aF ?aB ?aS ?aL ?_; (case aB => exact (bl_ HB)); (case aF => exact (fun k_ hk => ⟨Kd.fresh' (Kd.R_lt (rl_ HO_3.out)) k_ hk, Kd.fresh' (Kd.R_lt (rl_ HO281.out)) k_ hk⟩)); (case aO => exact (by (with_reducible repeat (first | apply Kd.R_alloc | apply Kd.R_drewN | apply Kd.R_drew)); exact Kd.R_mono HO285.out (fun _ hk => by first | exact ⟨hk.1.2, hk.2⟩ | exact ⟨hk.1, hk.2⟩))); (case aS => exact (below_size (bl_ HB))); (case aL => have := LMc15.out; omega); intro v288 w21 ho hb hg hat; rw [← Ny287.out] at ho; have n0_ := Az.mk (Kd.R_after (ok := (fun k_ => some k_ ≠ (.slice Ao19 t279.length co19 : Value).ownBlock)) (by (with_reducible repeat (first | apply Kd.R_alloc | apply Kd.R_drewN | apply Kd.R_drew)); exact Kd.R_mono HO_3.out (fun _ hk => by first | exact ⟨hk.1.2, hk.2⟩ | exact ⟨hk.1, hk.2⟩)) hg hat); have n1_ := Az.mk (Kd.R_after (ok := (fun k_ => some k_ ≠ (.slice Ao17 x3_1.length co17 : Value).ownBlock)) (by (with_reducible repeat (first | apply Kd.R_alloc | apply Kd.R_drewN | apply Kd.R_drew)); exact Kd.R_mono HO281.out (fun _ hk => by first | exact ⟨hk.1.2, hk.2⟩ | exact ⟨hk.1, hk.2⟩)) hg hat); have n2_ := Az.mk (hb); have n3_ := Az.mk (ho); clear HO_3; clear HO281; clear HB; clear HO285; have HO_3 := n0_; have HO281 := n1_; have HB := n2_; have HO289 := n3_; clear n0_ n1_ n2_ n3_; clear ho hb hg hat; have p290 : 0 ≤ (x4_1 : Int) := of_decide_eq_true as_; have q290 : x4_1 < (l0.length : Int) := of_decide_eq_true as_; obtain ⟨ad290, e290, hx290_0, hx290_1⟩ := at_T41 HR0.out x4_1 p290 q290; obtain rfl : ad276 = ad290 := (by injection e290); replace hx290_0 := (HB.out.cell (World.block_lt_of_cell? w _ hx290_0)).trans hx290_0; replace hx290_1 := (HB.out.cell (World.block_lt_of_cell? w _ hx290_1)).trans hx290_1; replace p290 := eq_true p290; replace q290 := eq_true q290; obtain ⟨Ao22, co22, eo22⟩ := Kd.R_slice HO289.out; subst eo22) | (go_at_call 40; (with_reducible refine (r01_Put.calls k1 _ _ y287 ((rd_T41 l0 x4_1).f1) t291 _ ?side1 ?side2 A16.out).mono ?_); (case side1 => exact cl_ (Kd.R_reads' HO289.out).2.2); (case side2 => exact (Kd.R_reads' HO289.out).2.1); rintro e w23 ⟨v292, rfl, ho0, hb⟩; have n0_ := Az.mk (Kd.R_elder' (rl_ HO_3.out) (Kd.R_base ho0) hb); have n1_ := Az.mk (Kd.R_elder' (rl_ HO281.out) (Kd.R_base ho0) hb); have n2_ := Az.mk (Kd.R_elder' (rl_ HO289.out) (Kd.R_base ho0) hb); have n3_ := Az.mk (Kd.R_lower (Kd.R_new' (Kd.R_new' (Kd.R_new' ho0 (Kd.R_lt (rl_ HO_3.out))) (Kd.R_lt (rl_ HO281.out))) (Kd.R_lt (rl_ HO289.out))) (below_size (bl_ HB))); have n4_ := Az.mk (below_step (bl_ HB) hb); clear HO_3; clear HO281; clear HO289; clear HB; have HO_3 := n0_; have HO281 := n1_; have HO289 := n2_; have HO293 := n3_; have HB := n4_; clear n0_ n1_ n2_ n3_ n4_; (try clear hb); (try clear hb2); (try clear hk); (try clear hi); (try clear ho0))); try go_wp2_with (first | (go_at_call 57; (with_reducible refine (r09_Alike.calls k1 ((rd_T41 l0 (ji6)).f0) ((rd_T41 l0 x4_1).f0) t278 _ A10.out).mono ?_); rintro e w' ⟨rfl, ⟨nd, rfl⟩⟩; (try first | exact ⟨rfl, _, World.drewN_drewN _ _ _⟩ | exact ⟨rfl, _, Eq.trans (World.drewN_drewN _ _ _) (congrArg (World.drewN _) (Nat.add_assoc _ _ _))⟩); obtain ⟨Ao17, co17, eo17⟩ := Kd.R_slice HO_3.out; subst eo17) | (go_at_call 40; (with_reducible refine (r01_Put.calls k1 _ _ x3_1 (IntKind.u64.wrap (t278)) t279 _ ?side1 ?side2 A11.out).mono ?_); (case side1 => exact cl_ (Kd.R_reads' HO_3.out).2.2); (case side2 => exact (Kd.R_reads' HO_3.out).2.1); rintro e w18 ⟨v280, rfl, ho0, hb⟩; have n0_ := Az.mk (Kd.R_elder' (rl_ HO_3.out) (Kd.R_base ho0) hb); have n1_ := Az.mk (Kd.R_lower (Kd.R_new' ho0 (Kd.R_lt (rl_ HO_3.out))) (below_size (bl_ HB))); have n2_ := Az.mk (below_step (bl_ HB) hb); clear HO_3; clear HB; have HO_3 := n0_; have HO281 := n1_; have HB := n2_; clear n0_ n1_ n2_; (try clear hb); (try clear hb2); (try clear hk); (try clear hi); (try clear ho0); have p282 : 0 ≤ (x4_1 : Int) := of_decide_eq_true as_; have q282 : x4_1 < (l0.length : Int) := of_decide_eq_true as_; obtain ⟨ad282, e282, hx282_0, hx282_1⟩ := at_T41 HR0.out x4_1 p282 q282; obtain rfl : ad276 = ad282 := (by injection e282); replace hx282_0 := (HB.out.cell (World.block_lt_of_cell? w _ hx282_0)).trans hx282_0; replace hx282_1 := (HB.out.cell (World.block_lt_of_cell? w _ hx282_1)).trans hx282_1; replace p282 := eq_true p282; replace q282 := eq_true q282; obtain ⟨Ao19, co19, eo19⟩ := Kd.R_slice HO281.out; subst eo19) | (go_at_call 40; (with_reducible refine (r01_Put.calls k1 _ _ t279 (IntKind.u64.wrap (wrap64 ((((rd_T41 l0 x4_1).f0).size : Int) - t278))) t283 _ ?side1 ?side2 A12.out).mono ?_); (case side1 => exact cl_ (Kd.R_reads' HO281.out).2.2); (case side2 => exact (Kd.R_reads' HO281.out).2.1); rintro e w20 ⟨v284, rfl, ho0, hb⟩; have n0_ := Az.mk (Kd.R_elder' (rl_ HO_3.out) (Kd.R_base ho0) hb); have n1_ := Az.mk (Kd.R_elder' (rl_ HO281.out) (Kd.R_base ho0) hb); have n2_ := Az.mk (Kd.R_lower (Kd.R_new' (Kd.R_new' ho0 (Kd.R_lt (rl_ HO_3.out))) (Kd.R_lt (rl_ HO281.out))) (below_size (bl_ HB))); have n3_ := Az.mk (below_step (bl_ HB) hb); clear HO_3; clear HO281; clear HB; have HO_3 := n0_; have HO281 := n1_; have HO285 := n2_; have HB := n3_; clear n0_ n1_ n2_ n3_; (try clear hb); (try clear hb2); (try clear hk); (try clear hi); (try clear ho0); have p286 : 0 ≤ (x4_1 : Int) := of_decide_eq_true as_; have q286 : x4_1 < (l0.length : Int) := of_decide_eq_true as_; obtain ⟨ad286, e286, hx286_0, hx286_1⟩ := at_T41 HR0.out x4_1 p286 q286; obtain rfl : ad276 = ad286 := (by injection e286); replace hx286_0 := (HB.out.cell (World.block_lt_of_cell? w _ hx286_0)).trans hx286_0; replace hx286_1 := (HB.out.cell (World.block_lt_of_cell? w _ hx286_1)).trans hx286_1; replace p286 := eq_true p286; replace q286 := eq_true q286) | (at_builtin; refine Go.Proofs.Ytiohnpphhepdfaa.MoreWords.R_append_str (w0 := w) w.heap.size rfl (.tmp 45) _ 24 9 5 rfl Try.underlying24 Try.underlying9 info5 v284 t283 (((rd_T41 l0 x4_1).f0).extract (t278 : Int).toNat ((rd_T41 l0 x4_1).f0).size) (fun k_ => some k_ ≠ (.slice Ao17 x3_1.length co17 : Value).ownBlock ∧ some k_ ≠ (.slice Ao19 t279.length co19 : Value).ownBlock) rfl rfl ?aO ?aF ?aB ?aS ?aL ?_; (case aB => exact (bl_ HB)); (case aF => exact (fun k_ hk => ⟨Kd.fresh' (Kd.R_lt (rl_ HO_3.out)) k_ hk, Kd.fresh' (Kd.R_lt (rl_ HO281.out)) k_ hk⟩)); (case aO => exact (by (with_reducible repeat (first | apply Kd.R_alloc | apply Kd.R_drewN | apply Kd.R_drew)); exact Kd.R_mono HO285.out (fun _ hk => by first | exact ⟨hk.1.2, hk.2⟩ | exact ⟨hk.1, hk.2⟩))); (case aS => exact (below_size (bl_ HB))); (case aL => have := LMc15.out; omega); intro v288 w21 ho hb hg hat; rw [← Ny287.out] at ho; have n0_ := Az.mk (Kd.R_after (ok := (fun k_ => some k_ ≠ (.slice Ao19 t279.length co19 : Value).ownBlock)) (by (with_reducible repeat (first | apply Kd.R_alloc | apply Kd.R_drewN | apply Kd.R_drew)); exact Kd.R_mono HO_3.out (fun _ hk => by first | exact ⟨hk.1.2, hk.2⟩ | exact ⟨hk.1, hk.2⟩)) hg hat); have n1_ := Az.mk (Kd.R_after (ok := (fun k_ => some k_ ≠ (.slice Ao17 x3_1.length co17 : Value).ownBlock)) (by (with_reducible repeat (first | apply Kd.R_alloc | apply Kd.R_drewN | apply Kd.R_drew)); exact Kd.R_mono HO281.out (fun _ hk => by first | exact ⟨hk.1.2, hk.2⟩ | exact ⟨hk.1, hk.2⟩)) hg hat); have n2_ := Az.mk (hb); have n3_ := Az.mk (ho); clear HO_3; clear HO281; clear HB; clear HO285; have HO_3 := n0_; have HO281 := n1_; have HB := n2_; have HO289 := n3_; clear n0_ n1_ n2_ n3_; clear ho hb hg hat; have p290 : 0 ≤ (x4_1 : Int) := of_decide_eq_true as_; have q290 : x4_1 < (l0.length : Int) := of_decide_eq_true as_; obtain ⟨ad290, e290, hx290_0, hx290_1⟩ := at_T41 HR0.out x4_1 p290 q290; obtain rfl : ad276 = ad290 := (by injection e290); replace hx290_0 := (HB.out.cell (World.block_lt_of_cell? w _ hx290_0)).trans hx290_0; replace hx290_1 := (HB.out.cell (World.block_lt_of_cell? w _ hx290_1)).trans hx290_1; replace p290 := eq_true p290; replace q290 := eq_true q290; obtain ⟨Ao22, co22, eo22⟩ := Kd.R_slice HO289.out; subst eo22) | (go_at_call 40; (with_reducible refine (r01_Put.calls k1 _ _ y287 ((rd_T41 l0 x4_1).f1) t291 _ ?side1 ?side2 A16.out).mono ?_); (case side1 => exact cl_ (Kd.R_reads' HO289.out).2.2); (case side2 => exact (Kd.R_reads' HO289.out).2.1); rintro e w23 ⟨v292, rfl, ho0, hb⟩; have n0_ := Az.mk (Kd.R_elder' (rl_ HO_3.out) (Kd.R_base ho0) hb); have n1_ := Az.mk (Kd.R_elder' (rl_ HO281.out) (Kd.R_base ho0) hb); have n2_ := Az.mk (Kd.R_elder' (rl_ HO289.out) (Kd.R_base ho0) hb); have n3_ := Az.mk (Kd.R_lower (Kd.R_new' (Kd.R_new' (Kd.R_new' ho0 (Kd.R_lt (rl_ HO_3.out))) (Kd.R_lt (rl_ HO281.out))) (Kd.R_lt (rl_ HO289.out))) (below_size (bl_ HB))); have n4_ := Az.mk (below_step (bl_ HB) hb); clear HO_3; clear HO281; clear HO289; clear HB; have HO_3 := n0_; have HO281 := n1_; have HO289 := n2_; have HO293 := n3_; have HB := n4_; clear n0_ n1_ n2_ n3_ n4_; (try clear hb); (try clear hb2); (try clear hk); (try clear hi); (try clear ho0))))
           go_roundg k1
           case measure => have := HK1.out; omega
           case rel => exact ⟨(t291), (wrap64 (x4_1 + 1)), (es_), H', ⟨by have := HK1.out; omega⟩, ⟨by (with_reducible repeat (first | apply Kd.R_alloc | apply Kd.R_drewN | apply Kd.R_drew)); exact Kd.R_mono HO293.out (fun _ hk => trivial)⟩, ⟨bl_ HB⟩⟩
          ·rw [if_neg c15] at H
           exact absurd H (by simp)
         ·rw [if_neg c14] at H
          exact absurd H (by simp)
        ·rw [if_neg c13] at H
         exact absurd H (by simp)
       ·rw [if_neg c9] at H
        exact absurd H (by simp)
      ·rw [if_neg c8] at H
       exact absurd H (by simp)
     ·rw [if_neg c7] at H
      exact absurd H (by simp)
    ·rw [if_neg c5] at H
     have c5b0 := decide_eq_false c5
     clear c5
     replace H := Option.bind_eq_some_iff.mp H
     obtain ⟨t294, A240, H⟩ := H
     replace H : (if 0 ≤ x4_1 then ((r01_Put.f k1 t294 (IntKind.u64.wrap (wrap64 ((((rd_T41 l0 x4_1).f0).size : Int))))).bind fun t298 => (if 0 ≤ (((rd_T41 l0 x4_1).f0).size : Int) then (if t298.length + ((rd_T41 l0 x4_1).f0).size < 140737488355328 then ((r01_Put.f k1 (t298 ++ bytesOf ((rd_T41 l0 x4_1).f0)) ((rd_T41 l0 x4_1).f1)).bind fun t306 => (r09_Block.l0 k1 l0 t306 (wrap64 (x4_1 + 1)))) else (none)) else (none))) else (none)) = some r := H
     have A24 := Az.mk A240
     clear A240
     by_cases c25 : 0 ≤ x4_1
     ·rw [if_pos c25] at H
      have c25b0 := decide_eq_true c25
      clear c25
      replace H := Option.bind_eq_some_iff.mp H
      obtain ⟨t298, A260, H⟩ := H
      replace H : (if 0 ≤ (((rd_T41 l0 x4_1).f0).size : Int) then (if t298.length + ((rd_T41 l0 x4_1).f0).size < 140737488355328 then ((r01_Put.f k1 (t298 ++ bytesOf ((rd_T41 l0 x4_1).f0)) ((rd_T41 l0 x4_1).f1)).bind fun t306 => (r09_Block.l0 k1 l0 t306 (wrap64 (x4_1 + 1)))) else (none)) else (none)) = some r := H
      have A26 := Az.mk A260
      clear A260
      by_cases c27 : 0 ≤ (((rd_T41 l0 x4_1).f0).size : Int)
      ·rw [if_pos c27] at H
       have c27b0 := eq_true c27
       have c27b1 := decide_eq_true c27
       clear c27
       by_cases c28 : t298.length + ((rd_T41 l0 x4_1).f0).size < 140737488355328
       ·rw [if_pos c28] at H
        have LMc28 := Az.mk c28
        clear c28
        obtain ⟨y302, hy302⟩ : ∃ y_ : List Int, y_ = (t298 ++ bytesOf ((rd_T41 l0 x4_1).f0)) := ⟨_, rfl⟩
        replace H : ((r01_Put.f k1 y302 ((rd_T41 l0 x4_1).f1)).bind fun t306 => (r09_Block.l0 k1 l0 t306 (wrap64 (x4_1 + 1)))) = some r := hr_ hy302 H
        have Ny302 := Az.mk hy302
        clear hy302
        replace H := Option.bind_eq_some_iff.mp H
        obtain ⟨t306, A290, H⟩ := H
        replace H : (r09_Block.l0 k1 l0 t306 (wrap64 (x4_1 + 1))) = some r := H
        have A29 := Az.mk A290
        clear A290
        have H' := Az.mk H
        clear H
        obtain ⟨Ao30, co30, eo30⟩ := Kd.R_slice HO_3.out
        subst eo30
        go_wp2_with (first | (go_at_call 40; (with_reducible refine (r01_Put.calls k1 _ _ x3_1 0 t294 _ ?side1 ?side2 A24.out).mono ?_); (case side1 => exact cl_ (Kd.R_reads' HO_3.out).2.2); (case side2 => exact (Kd.R_reads' HO_3.out).2.1); rintro e w31 ⟨v295, rfl, ho0, hb⟩; have n0_ := Az.mk (Kd.R_elder' (rl_ HO_3.out) (Kd.R_base ho0) hb); have n1_ := Az.mk (Kd.R_lower (Kd.R_new' ho0 (Kd.R_lt (rl_ HO_3.out))) (below_size (bl_ HB))); have n2_ := Az.mk (below_step (bl_ HB) hb); clear HO_3; clear HB; have HO_3 := n0_; have HO296 := n1_; have HB := n2_; clear n0_ n1_ n2_; (try clear hb); (try clear hb2); (try clear hk); (try clear hi); (try clear ho0); have p297 : 0 ≤ (x4_1 : Int) := of_decide_eq_true as_; have q297 : x4_1 < (l0.length : Int) := of_decide_eq_true as_; obtain ⟨ad297, e297, hx297_0, hx297_1⟩ := at_T41 HR0.out x4_1 p297 q297; cases e297; replace hx297_0 := (HB.out.cell (World.block_lt_of_cell? w _ hx297_0)).trans hx297_0; replace hx297_1 := (HB.out.cell (World.block_lt_of_cell? w _ hx297_1)).trans hx297_1; replace p297 := eq_true p297; replace q297 := eq_true q297; obtain ⟨Ao32, co32, eo32⟩ := Kd.R_slice HO296.out; subst eo32) | (go_at_call 40; (with_reducible refine (r01_Put.calls k1 _ _ t294 (IntKind.u64.wrap (wrap64 ((((rd_T41 l0 x4_1).f0).size : Int)))) t298 _ ?side1 ?side2 A26.out).mono ?_); (case side1 => exact cl_ (Kd.R_reads' HO296.out).2.2); (case side2 => exact (Kd.R_reads' HO296.out).2.1); rintro e w33 ⟨v299, rfl, ho0, hb⟩; have n0_ := Az.mk (Kd.R_elder' (rl_ HO_3.out) (Kd.R_base ho0) hb); have n1_ := Az.mk (Kd.R_elder' (rl_ HO296.out) (Kd.R_base ho0) hb); have n2_ := Az.mk (Kd.R_lower (Kd.R_new' (Kd.R_new' ho0 (Kd.R_lt (rl_ HO_3.out))) (Kd.R_lt (rl_ HO296.out))) (below_size (bl_ HB))); have n3_ := Az.mk (below_step (bl_ HB) hb); clear HO_3; clear HO296; clear HB; have HO_3 := n0_; have HO296 := n1_; have HO300 := n2_; have HB := n3_; clear n0_ n1_ n2_ n3_; (try clear hb); (try clear hb2); (try clear hk); (try clear hi); (try clear ho0); have p301 : 0 ≤ (x4_1 : Int) := of_decide_eq_true as_; have q301 : x4_1 < (l0.length : Int) := of_decide_eq_true as_; obtain ⟨ad301, e301, hx301_0, hx301_1⟩ := at_T41 HR0.out x4_1 p301 q301; obtain rfl : ad297 = ad301 := (by injection e301); replace hx301_0 := (HB.out.cell (World.block_lt_of_cell? w _ hx301_0)).trans hx301_0; replace hx301_1 := (HB.out.cell (World.block_lt_of_cell? w _ hx301_1)).trans hx301_1; replace p301 := eq_true p301; replace q301 := eq_true q301) | (at_builtin; refine Go.Proofs.Ytiohnpphhepdfaa.MoreWords.R_append_str (w0 := w) w.heap.size rfl (.tmp 45) _ 24 9 5 rfl Try.underlying24 Try.underlying9 info5 v299 t298 ((rd_T41 l0 x4_1).f0) (fun k_ => some k_ ≠ (.slice Ao30 x3_1.length co30 : Value).ownBlock ∧ some k_ ≠ (.slice Ao32 t294.length co32 : Value).ownBlock) rfl rfl ?aO ?aF ?aB ?aS ?aL ?_; (case aB => exact (bl_ HB)); (case aF => exact (fun k_ hk => ⟨Kd.fresh' (Kd.R_lt (rl_ HO_3.out)) k_ hk, Kd.fresh' (Kd.R_lt (rl_ HO296.out)) k_ hk⟩)); (case aO => exact (by (with_reducible repeat (first | apply Kd.R_alloc | apply Kd.R_drewN | apply Kd.R_drew)); exact Kd.R_mono HO300.out (fun _ hk => by first | exact ⟨hk.1.2, hk.2⟩ | exact ⟨hk.1, hk.2⟩))); (case aS => exact (below_size (bl_ HB))); (case aL => have := LMc28.out; omega); intro v303 w34 ho hb hg hat; rw [← Ny302.out] at ho; have n0_ := Az.mk (Kd.R_after (ok := (fun k_ => some k_ ≠ (.slice Ao32 t294.length co32 : Value).ownBlock)) (by (with_reducible repeat (first | apply Kd.R_alloc | apply Kd.R_drewN | apply Kd.R_drew)); exact Kd.R_mono HO_3.out (fun _ hk => by first | exact ⟨hk.1.2, hk.2⟩ | exact ⟨hk.1, hk.2⟩)) hg hat); have n1_ := Az.mk (Kd.R_after (ok := (fun k_ => some k_ ≠ (.slice Ao30 x3_1.length co30 : Value).ownBlock)) (by (with_reducible repeat (first | apply Kd.R_alloc | apply Kd.R_drewN | apply Kd.R_drew)); exact Kd.R_mono HO296.out (fun _ hk => by first | exact ⟨hk.1.2, hk.2⟩ | exact ⟨hk.1, hk.2⟩)) hg hat); have n2_ := Az.mk (hb); have n3_ := Az.mk (ho); clear HO_3; clear HO296; clear HB; clear HO300; have HO_3 := n0_; have HO296 := n1_; have HB := n2_; have HO304 := n3_; clear n0_ n1_ n2_ n3_; clear ho hb hg hat; have p305 : 0 ≤ (x4_1 : Int) := of_decide_eq_true as_; have q305 : x4_1 < (l0.length : Int) := of_decide_eq_true as_; obtain ⟨ad305, e305, hx305_0, hx305_1⟩ := at_T41 HR0.out x4_1 p305 q305; obtain rfl : ad297 = ad305 := (by injection e305); replace hx305_0 := (HB.out.cell (World.block_lt_of_cell? w _ hx305_0)).trans hx305_0; replace hx305_1 := (HB.out.cell (World.block_lt_of_cell? w _ hx305_1)).trans hx305_1; replace p305 := eq_true p305; replace q305 := eq_true q305; obtain ⟨Ao35, co35, eo35⟩ := Kd.R_slice HO304.out; subst eo35) | (go_at_call 40; (with_reducible refine (r01_Put.calls k1 _ _ y302 ((rd_T41 l0 x4_1).f1) t306 _ ?side1 ?side2 A29.out).mono ?_); (case side1 => exact cl_ (Kd.R_reads' HO304.out).2.2); (case side2 => exact (Kd.R_reads' HO304.out).2.1); rintro e w36 ⟨v307, rfl, ho0, hb⟩; have n0_ := Az.mk (Kd.R_elder' (rl_ HO_3.out) (Kd.R_base ho0) hb); have n1_ := Az.mk (Kd.R_elder' (rl_ HO296.out) (Kd.R_base ho0) hb); have n2_ := Az.mk (Kd.R_elder' (rl_ HO304.out) (Kd.R_base ho0) hb); have n3_ := Az.mk (Kd.R_lower (Kd.R_new' (Kd.R_new' (Kd.R_new' ho0 (Kd.R_lt (rl_ HO_3.out))) (Kd.R_lt (rl_ HO296.out))) (Kd.R_lt (rl_ HO304.out))) (below_size (bl_ HB))); have n4_ := Az.mk (below_step (bl_ HB) hb); clear HO_3; clear HO296; clear HO304; clear HB; have HO_3 := n0_; have HO296 := n1_; have HO304 := n2_; have HO308 := n3_; have HB := n4_; clear n0_ n1_ n2_ n3_ n4_; (try clear hb); (try clear hb2); (try clear hk); (try clear hi); (try clear ho0)))
        repeat (go_quiet (first | (go_at_call 40; (with_reducible refine (r01_Put.calls k1 _ _ x3_1 0 t294 _ ?side1 ?side2 A24.out).mono ?_); (case side1 => exact cl_ (Kd.R_reads' HO_3.out).2.2); (case side2 => exact (Kd.R_reads' HO_3.out).2.1); rintro e w31 ⟨v295, rfl, ho0, hb⟩; have n0_ := Az.mk (Kd.R_elder' (rl_ HO_3.out) (Kd.R_base ho0) hb); have n1_ := Az.mk (Kd.R_lower (Kd.R_new' ho0 (Kd.R_lt (rl_ HO_3.out))) (below_size (bl_ HB))); have n2_ := Az.mk (below_step (bl_ HB) hb); clear HO_3; clear HB; have HO_3 := n0_; have HO296 := n1_; have HB := n2_; clear n0_ n1_ n2_; (try clear hb); (try clear hb2); (try clear hk); (try clear hi); (try clear ho0); have p297 : 0 ≤ (x4_1 : Int) := of_decide_eq_true as_; have q297 : x4_1 < (l0.length : Int) := of_decide_eq_true as_; obtain ⟨ad297, e297, hx297_0, hx297_1⟩ := at_T41 HR0.out x4_1 p297 q297; cases e297; replace hx297_0 := (HB.out.cell (World.block_lt_of_cell? w _ hx297_0)).trans hx297_0; replace hx297_1 := (HB.out.cell (World.block_lt_of_cell? w _ hx297_1)).trans hx297_1; replace p297 := eq_true p297; replace q297 := eq_true q297; obtain ⟨Ao32, co32, eo32⟩ := Kd.R_slice HO296.out; subst eo32) | (go_at_call 40; (with_reducible refine (r01_Put.calls k1 _ _ t294 (IntKind.u64.wrap (wrap64 ((((rd_T41 l0 x4_1).f0).size : Int)))) t298 _ ?side1 ?side2 A26.out).mono ?_); (case side1 => exact cl_ (Kd.R_reads' HO296.out).2.2); (case side2 => exact (Kd.R_reads' HO296.out).2.1); rintro e w33 ⟨v299, rfl, ho0, hb⟩; have n0_ := Az.mk (Kd.R_elder' (rl_ HO_3.out) (Kd.R_base ho0) hb); have n1_ := Az.mk (Kd.R_elder' (rl_ HO296.out) (Kd.R_base ho0) hb); have n2_ := Az.mk (Kd.R_lower (Kd.R_new' (Kd.R_new' ho0 (Kd.R_lt (rl_ HO_3.out))) (Kd.R_lt (rl_ HO296.out))) (below_size (bl_ HB))); have n3_ := Az.mk (below_step (bl_ HB) hb); clear HO_3; clear HO296; clear HB; have HO_3 := n0_; have HO296 := n1_; have HO300 := n2_; have HB := n3_; clear n0_ n1_ n2_ n3_; (try clear hb); (try clear hb2); (try clear hk); (try clear hi); (try clear ho0); have p301 : 0 ≤ (x4_1 : Int) := of_decide_eq_true as_; have q301 : x4_1 < (l0.length : Int) := of_decide_eq_true as_; obtain ⟨ad301, e301, hx301_0, hx301_1⟩ := at_T41 HR0.out x4_1 p301 q301; obtain rfl : ad297 = ad301 := (by injection e301); replace hx301_0 := (HB.out.cell (World.block_lt_of_cell? w _ hx301_0)).trans hx301_0; replace hx301_1 := (HB.out.cell (World.block_lt_of_cell? w _ hx301_1)).trans hx301_1; replace p301 := eq_true p301; replace q301 := eq_true q301) | (at_builtin; refine Go.Proofs.Ytiohnpphhepdfaa.MoreWords.R_append_str (w0 := w) w.heap.size rfl (.tmp 45) _ 24 9 5 rfl Try.underlying24 Try.underlying9 info5 v299 t298 ((rd_T41 l0 x4_1).f0) (fun k_ => some k_ ≠ (.slice Ao30 x3_1.length co30 : Value).ownBlock ∧ some k_ ≠ (.slice Ao32 t294.length co32 : Value).ownBlock) rfl rfl ?aO ?aF ?aB ?aS ?aL ?_; (case aB => exact (bl_ HB)); (case aF => exact (fun k_ hk => ⟨Kd.fresh' (Kd.R_lt (rl_ HO_3.out)) k_ hk, Kd.fresh' (Kd.R_lt (rl_ HO296.out)) k_ hk⟩)); (case aO => exact (by (with_reducible repeat (first | apply Kd.R_alloc | apply Kd.R_drewN | apply Kd.R_drew)); exact Kd.R_mono HO300.out (fun _ hk => by first | exact ⟨hk.1.2, hk.2⟩ | exact ⟨hk.1, hk.2⟩))); (case aS => exact (below_size (bl_ HB))); (case aL => have := LMc28.out; omega); intro v303 w34 ho hb hg hat; rw [← Ny302.out] at ho; have n0_ := Az.mk (Kd.R_after (ok := (fun k_ => some k_ ≠ (.slice Ao32 t294.length co32 : Value).ownBlock)) (by (with_reducible repeat (first | apply Kd.R_alloc | apply Kd.R_drewN | apply Kd.R_drew)); exact Kd.R_mono HO_3.out (fun _ hk => by first | exact ⟨hk.1.2, hk.2⟩ | exact ⟨hk.1, hk.2⟩)) hg hat); have n1_ := Az.mk (Kd.R_after (ok := (fun k_ => some k_ ≠ (.slice Ao30 x3_1.length co30 : Value).ownBlock)) (by (with_reducible repeat (first | apply Kd.R_alloc | apply Kd.R_drewN | apply Kd.R_drew)); exact Kd.R_mono HO296.out (fun _ hk => by first | exact ⟨hk.1.2, hk.2⟩ | exact ⟨hk.1, hk.2⟩)) hg hat); have n2_ := Az.mk (hb); have n3_ := Az.mk (ho); clear HO_3; clear HO296; clear HB; clear HO300; have HO_3 := n0_; have HO296 := n1_; have HB := n2_; have HO304 := n3_; clear n0_ n1_ n2_ n3_; clear ho hb hg hat; have p305 : 0 ≤ (x4_1 : Int) := of_decide_eq_true as_; have q305 : x4_1 < (l0.length : Int) := of_decide_eq_true as_; obtain ⟨ad305, e305, hx305_0, hx305_1⟩ := at_T41 HR0.out x4_1 p305 q305; obtain rfl : ad297 = ad305 := (by injection e305); replace hx305_0 := (HB.out.cell (World.block_lt_of_cell? w _ hx305_0)).trans hx305_0; replace hx305_1 := (HB.out.cell (World.block_lt_of_cell? w _ hx305_1)).trans hx305_1; replace p305 := eq_true p305; replace q305 := eq_true q305; obtain ⟨Ao35, co35, eo35⟩ := Kd.R_slice HO304.out; subst eo35) | (go_at_call 40; (with_reducible refine (r01_Put.calls k1 _ _ y302 ((rd_T41 l0 x4_1).f1) t306 _ ?side1 ?side2 A29.out).mono ?_); (case side1 => exact cl_ (Kd.R_reads' HO304.out).2.2); (case side2 => exact (Kd.R_reads' HO304.out).2.1); rintro e w36 ⟨v307, rfl, ho0, hb⟩; have n0_ := Az.mk (Kd.R_elder' (rl_ HO_3.out) (Kd.R_base ho0) hb); have n1_ := Az.mk (Kd.R_elder' (rl_ HO296.out) (Kd.R_base ho0) hb); have n2_ := Az.mk (Kd.R_elder' (rl_ HO304.out) (Kd.R_base ho0) hb); have n3_ := Az.mk (Kd.R_lower (Kd.R_new' (Kd.R_new' (Kd.R_new' ho0 (Kd.R_lt (rl_ HO_3.out))) (Kd.R_lt (rl_ HO296.out))) (Kd.R_lt (rl_ HO304.out))) (below_size (bl_ HB))); have n4_ := Az.mk (below_step (bl_ HB) hb); clear HO_3; clear HO296; clear HO304; clear HB; have HO_3 := n0_; have HO296 := n1_; have HO304 := n2_; have HO308 := n3_; have HB := n4_; clear n0_ n1_ n2_ n3_ n4_; (try clear hb); (try clear hb2); (try clear hk); (try clear hi); (try clear ho0))); try go_wp2_with (first | (go_at_call 40; (with_reducible refine (r01_Put.calls k1 _ _ x3_1 0 t294 _ ?side1 ?side2 A24.out).mono ?_); (case side1 => exact cl_ (Kd.R_reads' HO_3.out).2.2); (case side2 => exact (Kd.R_reads' HO_3.out).2.1); rintro e w31 ⟨v295, rfl, ho0, hb⟩; have n0_ := Az.mk (Kd.R_elder' (rl_ HO_3.out) (Kd.R_base ho0) hb); have n1_ := Az.mk (Kd.R_lower (Kd.R_new' ho0 (Kd.R_lt (rl_ HO_3.out))) (below_size (bl_ HB))); have n2_ := Az.mk (below_step (bl_ HB) hb); clear HO_3; clear HB; have HO_3 := n0_; have HO296 := n1_; have HB := n2_; clear n0_ n1_ n2_; (try clear hb); (try clear hb2); (try clear hk); (try clear hi); (try clear ho0); have p297 : 0 ≤ (x4_1 : Int) := of_decide_eq_true as_; have q297 : x4_1 < (l0.length : Int) := of_decide_eq_true as_; obtain ⟨ad297, e297, hx297_0, hx297_1⟩ := at_T41 HR0.out x4_1 p297 q297; cases e297; replace hx297_0 := (HB.out.cell (World.block_lt_of_cell? w _ hx297_0)).trans hx297_0; replace hx297_1 := (HB.out.cell (World.block_lt_of_cell? w _ hx297_1)).trans hx297_1; replace p297 := eq_true p297; replace q297 := eq_true q297; obtain ⟨Ao32, co32, eo32⟩ := Kd.R_slice HO296.out; subst eo32) | (go_at_call 40; (with_reducible refine (r01_Put.calls k1 _ _ t294 (IntKind.u64.wrap (wrap64 ((((rd_T41 l0 x4_1).f0).size : Int)))) t298 _ ?side1 ?side2 A26.out).mono ?_); (case side1 => exact cl_ (Kd.R_reads' HO296.out).2.2); (case side2 => exact (Kd.R_reads' HO296.out).2.1); rintro e w33 ⟨v299, rfl, ho0, hb⟩; have n0_ := Az.mk (Kd.R_elder' (rl_ HO_3.out) (Kd.R_base ho0) hb); have n1_ := Az.mk (Kd.R_elder' (rl_ HO296.out) (Kd.R_base ho0) hb); have n2_ := Az.mk (Kd.R_lower (Kd.R_new' (Kd.R_new' ho0 (Kd.R_lt (rl_ HO_3.out))) (Kd.R_lt (rl_ HO296.out))) (below_size (bl_ HB))); have n3_ := Az.mk (below_step (bl_ HB) hb); clear HO_3; clear HO296; clear HB; have HO_3 := n0_; have HO296 := n1_; have HO300 := n2_; have HB := n3_; clear n0_ n1_ n2_ n3_; (try clear hb); (try clear hb2); (try clear hk); (try clear hi); (try clear ho0); have p301 : 0 ≤ (x4_1 : Int) := of_decide_eq_true as_; have q301 : x4_1 < (l0.length : Int) := of_decide_eq_true as_; obtain ⟨ad301, e301, hx301_0, hx301_1⟩ := at_T41 HR0.out x4_1 p301 q301; obtain rfl : ad297 = ad301 := (by injection e301); replace hx301_0 := (HB.out.cell (World.block_lt_of_cell? w _ hx301_0)).trans hx301_0; replace hx301_1 := (HB.out.cell (World.block_lt_of_cell? w _ hx301_1)).trans hx301_1; replace p301 := eq_true p301; replace q301 := eq_true q301) | (at_builtin; refine Go.Proofs.Ytiohnpphhepdfaa.MoreWords.R_append_str (w0 := w) w.heap.size rfl (.tmp 45) _ 24 9 5 rfl Try.underlying24 Try.underlying9 info5 v299 t298 ((rd_T41 l0 x4_1).f0) (fun k_ => some k_ ≠ (.slice Ao30 x3_1.length co30 : Value).ownBlock ∧ some k_ ≠ (.slice Ao32 t294.length co32 : Value).ownBlock) rfl rfl ?aO ?aF ?aB ?aS ?aL ?_; (case aB => exact (bl_ HB)); (case aF => exact (fun k_ hk => ⟨Kd.fresh' (Kd.R_lt (rl_ HO_3.out)) k_ hk, Kd.fresh' (Kd.R_lt (rl_ HO296.out)) k_ hk⟩)); (case aO => exact (by (with_reducible repeat (first | apply Kd.R_alloc | apply Kd.R_drewN | apply Kd.R_drew)); exact Kd.R_mono HO300.out (fun _ hk => by first | exact ⟨hk.1.2, hk.2⟩ | exact ⟨hk.1, hk.2⟩))); (case aS => exact (below_size (bl_ HB))); (case aL => have := LMc28.out; omega); intro v303 w34 ho hb hg hat; rw [← Ny302.out] at ho; have n0_ := Az.mk (Kd.R_after (ok := (fun k_ => some k_ ≠ (.slice Ao32 t294.length co32 : Value).ownBlock)) (by (with_reducible repeat (first | apply Kd.R_alloc | apply Kd.R_drewN | apply Kd.R_drew)); exact Kd.R_mono HO_3.out (fun _ hk => by first | exact ⟨hk.1.2, hk.2⟩ | exact ⟨hk.1, hk.2⟩)) hg hat); have n1_ := Az.mk (Kd.R_after (ok := (fun k_ => some k_ ≠ (.slice Ao30 x3_1.length co30 : Value).ownBlock)) (by (with_reducible repeat (first | apply Kd.R_alloc | apply Kd.R_drewN | apply Kd.R_drew)); exact Kd.R_mono HO296.out (fun _ hk => by first | exact ⟨hk.1.2, hk.2⟩ | exact ⟨hk.1, hk.2⟩)) hg hat); have n2_ := Az.mk (hb); have n3_ := Az.mk (ho); clear HO_3; clear HO296; clear HB; clear HO300; have HO_3 := n0_; have HO296 := n1_; have HB := n2_; have HO304 := n3_; clear n0_ n1_ n2_ n3_; clear ho hb hg hat; have p305 : 0 ≤ (x4_1 : Int) := of_decide_eq_true as_; have q305 : x4_1 < (l0.length : Int) := of_decide_eq_true as_; obtain ⟨ad305, e305, hx305_0, hx305_1⟩ := at_T41 HR0.out x4_1 p305 q305; obtain rfl : ad297 = ad305 := (by injection e305); replace hx305_0 := (HB.out.cell (World.block_lt_of_cell? w _ hx305_0)).trans hx305_0; replace hx305_1 := (HB.out.cell (World.block_lt_of_cell? w _ hx305_1)).trans hx305_1; replace p305 := eq_true p305; replace q305 := eq_true q305; obtain ⟨Ao35, co35, eo35⟩ := Kd.R_slice HO304.out; subst eo35) | (go_at_call 40; (with_reducible refine (r01_Put.calls k1 _ _ y302 ((rd_T41 l0 x4_1).f1) t306 _ ?side1 ?side2 A29.out).mono ?_); (case side1 => exact cl_ (Kd.R_reads' HO304.out).2.2); (case side2 => exact (Kd.R_reads' HO304.out).2.1); rintro e w36 ⟨v307, rfl, ho0, hb⟩; have n0_ := Az.mk (Kd.R_elder' (rl_ HO_3.out) (Kd.R_base ho0) hb); have n1_ := Az.mk (Kd.R_elder' (rl_ HO296.out) (Kd.R_base ho0) hb); have n2_ := Az.mk (Kd.R_elder' (rl_ HO304.out) (Kd.R_base ho0) hb); have n3_ := Az.mk (Kd.R_lower (Kd.R_new' (Kd.R_new' (Kd.R_new' ho0 (Kd.R_lt (rl_ HO_3.out))) (Kd.R_lt (rl_ HO296.out))) (Kd.R_lt (rl_ HO304.out))) (below_size (bl_ HB))); have n4_ := Az.mk (below_step (bl_ HB) hb); clear HO_3; clear HO296; clear HO304; clear HB; have HO_3 := n0_; have HO296 := n1_; have HO304 := n2_; have HO308 := n3_; have HB := n4_; clear n0_ n1_ n2_ n3_ n4_; (try clear hb); (try clear hb2); (try clear hk); (try clear hi); (try clear ho0))))
        go_roundg k1
        case measure => have := HK1.out; omega
        case rel => exact ⟨(t306), (wrap64 (x4_1 + 1)), (es_), H', ⟨by have := HK1.out; omega⟩, ⟨by (with_reducible repeat (first | apply Kd.R_alloc | apply Kd.R_drewN | apply Kd.R_drew)); exact Kd.R_mono HO308.out (fun _ hk => trivial)⟩, ⟨bl_ HB⟩⟩
       ·rw [if_neg c28] at H
        exact absurd H (by simp)
      ·rw [if_neg c27] at H
       exact absurd H (by simp)
     ·rw [if_neg c25] at H
      exact absurd H (by simp)
   ·rw [if_neg c4] at H
    have c4b0 := decide_eq_false c4
    clear c4
    obtain rfl := Option.some.inj H
    go_wp2
    repeat (go_quiet (fail); try go_wp2)
    go_ret
    exact ⟨_, er_, by (with_reducible repeat (first | apply Kd.R_alloc | apply Kd.R_drewN | apply Kd.R_drew)); exact HO_3.out, bl_ HB⟩
end Go.Proofs.Ytiohnpphhepdfaa.PPa
end
