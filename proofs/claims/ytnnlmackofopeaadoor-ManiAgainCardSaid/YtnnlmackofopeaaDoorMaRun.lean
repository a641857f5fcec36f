/- Contract of inTurn at Replace's operations. -/
import Derived.Test.YtnnlmackofopeaaDoorMaTurn
namespace Go.Proofs.YtnnlmackofopeaaDoor.Fs
open Go.RowKit Go.Lib Go.Maps Go.Shelf Go.Sort Go.Proofs.YtnnlmackofopeaaDoorW.PrintWords Go.Proofs.YtnnlmackofopeaaDoorW.PrintLast Go.Proofs.YtnnlmackofopeaaDoorW.PrintMore
set_option linter.unusedVariables false
set_option linter.unusedSimpArgs false
def opAt (t n : ByteArray) (ys : List Int) : Nat → FsS → Int × FsS
  | 0, S => S.create t
  | 1, S => S.append t ys
  | 2, S => S.sync t
  | 3, S => S.rename t n
  | _, S => S.syncNames
/-- The operations that are left, one behind the other, up to the first that fails. -/
def turnS (t n : ByteArray) (ys : List Int) : Nat → FsS → Int × FsS
  | 0, S => (0, S)
  | d + 1, S => if (opAt t n ys (4 - d) S).1 = 0 then turnS t n ys d (opAt t n ys (4 - d) S).2 else opAt t n ys (4 - d) S
theorem turn_go {t n : ByteArray} {ys : List Int} {d : Nat} {S : FsS} (h : (opAt t n ys (4 - d) S).1 = 0) : turnS t n ys (d + 1) S = turnS t n ys d (opAt t n ys (4 - d) S).2 := by
  show (if _ then _ else _) = _
  rw [if_pos h]
theorem turn_end {t n : ByteArray} {ys : List Int} {d : Nat} {S : FsS} (h : ¬ (opAt t n ys (4 - d) S).1 = 0) : turnS t n ys (d + 1) S = opAt t n ys (4 - d) S := by
  show (if _ then _ else _) = _
  rw [if_neg h]
theorem op_lim (t n : ByteArray) (ys : List Int) (k : Nat) (S : FsS) : (opAt t n ys k S).2.ops ≤ S.ops + 2 ∧ (opAt t n ys k S).2.dat ≤ S.dat + ys.length := by
  have hb := beginT_files S
  have h1 : S.beginT.ops = S.ops := hb.2.1
  have h2 : S.beginT.dat = S.dat := hb.2.2.2.1
  have hB : S.beginT.ops ≤ S.ops + 2 ∧ S.beginT.dat ≤ S.dat + ys.length := ⟨by omega, by omega⟩
  unfold opAt
  split
  · unfold FsS.create
    split
    · exact ⟨by show S.beginT.ops + 1 + 1 ≤ _; omega, hB.2⟩
    · exact hB
  · unfold FsS.append
    split
    · split
      · split
        · exact hB
        · exact ⟨hB.1, by show S.beginT.dat + ys.length ≤ _; omega⟩
      · exact hB
    · exact hB
  · unfold FsS.sync
    split
    · split
      · exact hB
      · exact hB
    · exact hB
  · unfold FsS.rename
    split
    · split
      · split
        · exact hB
        · exact ⟨by show S.beginT.ops + 1 ≤ _; omega, hB.2⟩
      · exact hB
    · exact hB
  · unfold FsS.syncNames
    split
    · exact ⟨by show S.ops ≤ _; omega, by show S.dat ≤ _; omega⟩
    · have ht : S.tick.ops = S.ops ∧ S.tick.dat = S.dat := by unfold FsS.tick; split <;> exact ⟨rfl, rfl⟩
      exact ⟨by show S.tick.ops ≤ _; omega, by show S.tick.dat ≤ _; omega⟩
theorem mul_lim {a b : Nat} (h1 : a ≤ 2000) (h2 : b ≤ 1000000) : a * b ≤ 1000000000000000 := Nat.le_trans (Nat.mul_le_mul h1 h2) (by decide)
set_option maxHeartbeats 8000000 in
set_option maxRecDepth 100000 in
theorem inTurn_calls {B : Nat → Prop} {g : Nat} {S : FsS} {t n : ByteArray} {A : Option Addr} {m c r3 r4 r5 r7 rb : Nat} (ys : List Int) (hm : m = ys.length) (w : World) (h : One w B w g S) (hx : Boxes w g t n A m c r3 r4 r5 r7 rb) (hn : ¬ B r3 ∧ ¬ B r4 ∧ ¬ B r5 ∧ ¬ B r7 ∧ ¬ B rb) (hr : BR w A ys) (hA : ys = [] ∨ ∀ ad, A = some ad → ¬ B ad.block ∧ ad.block < w.heap.size) (hops : S.ops ≤ 1000) (hdat : S.dat ≤ 100000) (hyl : ys.length ≤ 100000) :
    Calls Tryd.prog 48 #[.slice (some ⟨rb, 0, none⟩) 5 5] w fun e w' => e = .returned (.int .i64 (turnS t n ys 5 S).1) ∧ One w B w' g (turnS t n ys 5 S).2 := by
  have eg49 : ∀ args w, (callFunc 49 args).run Tryd.prog w = .ok (.enter 49 args) w := enters_of Tryd.func49 (by kernel_rfl) rfl
  have eg50 : ∀ args w, (callFunc 50 args).run Tryd.prog w = .ok (.enter 50 args) w := enters_of Tryd.func50 (by kernel_rfl) rfl
  have eg51 : ∀ args w, (callFunc 51 args).run Tryd.prog w = .ok (.enter 51 args) w := enters_of Tryd.func51 (by kernel_rfl) rfl
  have eg52 : ∀ args w, (callFunc 52 args).run Tryd.prog w = .ok (.enter 52 args) w := enters_of Tryd.func52 (by kernel_rfl) rfl
  have eg23 : ∀ args w, (callFunc 23 args).run Tryd.prog w = .ok (.enter 23 args) w := enters_of Tryd.func23 (by kernel_rfl) rfl
  have HX := Aside0.mk (And.intro hx hn)
  have HR := Aside0.mk (And.intro hm (And.intro hr (And.intro hA (And.intro hops (And.intro hdat hyl)))))
  have H0 := Aside0.mk h
  clear hx hn hm hr hA hops hdat hyl h
  go_enter Tryd.func48, Tryd.ntmps48
  go_wp2
  go_loopg [8] 5 (fun kq v8 wr => ∃ (k : Nat) (T : FsS), v8 = .int .i64 (k : Int) ∧ k + kq = 5 ∧ Aside0 (turnS t n ys 5 S = turnS t n ys kq T ∧ T.ops ≤ 1000 + 2 * k ∧ T.dat ≤ 100000 + k * ys.length) ∧ Aside0 (One w B wr g T))
  case atStart => exact ⟨0, S, rfl, rfl, ⟨rfl, HR.out.2.2.2.1, by have := HR.out.2.2.2.2.1; omega⟩, H0⟩
  case round =>
    obtain ⟨k, T, rfl, hk, HT, HO⟩ := hrel
    cases gk with
    | zero =>
      obtain rfl : k = 5 := by omega
      clear hk
      go_wp2
      go_ret
      rw [HT.out.1]
      exact ⟨rfl, HO.out⟩
    | succ d =>
      have hB := HX.out.1.turn HO.out.turn HX.out.2
      have hlm := op_lim t n ys (4 - d) T
      have hkl : k * ys.length ≤ 500000 := Nat.le_trans (Nat.mul_le_mul (show k ≤ 5 by omega) HR.out.2.2.2.2.2) (by decide)
      have HTL := Aside0.mk (show T.ops ≤ 1008 ∧ T.dat ≤ 600000 from ⟨by have := HT.out.2.1; omega, by have := HT.out.2.2; omega⟩)
      have HN := Aside0.mk (show (opAt t n ys (4 - d) T).2.ops ≤ 1000 + 2 * (k + 1) ∧ (opAt t n ys (4 - d) T).2.dat ≤ 100000 + (k + 1) * ys.length from ⟨by have := HT.out.2.1; omega, by have := HT.out.2.2; rw [Nat.add_mul, Nat.one_mul]; omega⟩)
      obtain ⟨ec, hec⟩ : ∃ ec, ec = (opAt t n ys (4 - d) T).1 := ⟨_, rfl⟩
      clear hlm hkl
      have hbb := hB.bb
      have HBX := Aside0.mk hB
      clear hB
      have hk5 : k = 0 ∨ k = 1 ∨ k = 2 ∨ k = 3 ∨ k = 4 := by omega
      rcases hk5 with rfl | rfl | rfl | rfl | rfl
      · obtain rfl : d = 4 := by omega
        have x0 : wr.cell? ⟨rb, 0, none⟩ = some (.func (.func 49) #[] #[.pointer (some ⟨r3, 0, none⟩), .pointer (some ⟨r7, 0, none⟩)]) := blk_cell hbb 0
        have hc := cl1_calls HO.out HBX.out (by have := HTL.out; omega)
        rw [show T.create t = opAt t n ys (4 - 4) T from rfl, ← hec] at hc
        clear hbb hk
        by_cases e0 : ec = 0
        case pos =>
          have HGO := Aside0.mk (turn_go (d := 4) (by rw [← hec]; exact e0))
          subst e0
          clear hec
          go_wp2_with (go_at_fn 49; refine hc.mono ?_; rintro e w1 ⟨rfl, h⟩; have H1 := Aside0.mk h; clear h hc)
          go_roundg 4
          case measure => omega
          case rel => exact ⟨1, _, rfl, rfl, ⟨HT.out.1.trans HGO.out, HN.out⟩, H1⟩
        case neg =>
          have HGO := Aside0.mk (turn_end (d := 4) (by rw [← hec]; exact e0))
          have HEC := Aside0.mk hec
          have e1 : (ec = 0) = False := eq_false e0
          have e2 : (ec == 0) = false := by simpa using e0
          clear hec e0
          go_wp2_with (go_at_fn 49; refine hc.mono ?_; rintro e w1 ⟨rfl, h⟩; have H1 := Aside0.mk h; clear h hc)
          go_ret
          rw [HT.out.1, HGO.out, ← HEC.out]
          exact ⟨rfl, H1.out⟩
      · obtain rfl : d = 3 := by omega
        have x1 : wr.cell? ⟨rb, 1, none⟩ = some (.func (.func 50) #[] #[.pointer (some ⟨r3, 0, none⟩), .pointer (some ⟨r7, 0, none⟩), .pointer (some ⟨r5, 0, none⟩)]) := blk_cell hbb 1
        have hc := cl2_calls ys HR.out.1 HO.out HBX.out (HR.out.2.1.turn HO.out.turn (HR.out.2.2.1.imp id fun h ad e => (h ad e).1)) HR.out.2.2.1 (mul_lim (by have := HTL.out; omega) (by have := HTL.out; omega)) (by have := HTL.out; omega) (by have := HR.out.2.2.2.2.2; omega)
        rw [show T.append t ys = opAt t n ys (4 - 3) T from rfl, ← hec] at hc
        clear hbb hk
        by_cases e0 : ec = 0
        case pos =>
          have HGO := Aside0.mk (turn_go (d := 3) (by rw [← hec]; exact e0))
          subst e0
          clear hec
          go_wp2_with (go_at_fn 50; refine hc.mono ?_; rintro e w1 ⟨rfl, h⟩; have H1 := Aside0.mk h; clear h hc)
          go_roundg 3
          case measure => omega
          case rel => exact ⟨2, _, rfl, rfl, ⟨HT.out.1.trans HGO.out, HN.out⟩, H1⟩
        case neg =>
          have HGO := Aside0.mk (turn_end (d := 3) (by rw [← hec]; exact e0))
          have HEC := Aside0.mk hec
          have e1 : (ec = 0) = False := eq_false e0
          have e2 : (ec == 0) = false := by simpa using e0
          clear hec e0
          go_wp2_with (go_at_fn 50; refine hc.mono ?_; rintro e w1 ⟨rfl, h⟩; have H1 := Aside0.mk h; clear h hc)
          go_ret
          rw [HT.out.1, HGO.out, ← HEC.out]
          exact ⟨rfl, H1.out⟩
      · obtain rfl : d = 2 := by omega
        have x2 : wr.cell? ⟨rb, 2, none⟩ = some (.func (.func 51) #[] #[.pointer (some ⟨r3, 0, none⟩), .pointer (some ⟨r7, 0, none⟩)]) := blk_cell hbb 2
        have hc := cl3_calls HO.out HBX.out (by have := HTL.out; omega)
        rw [show T.sync t = opAt t n ys (4 - 2) T from rfl, ← hec] at hc
        clear hbb hk
        by_cases e0 : ec = 0
        case pos =>
          have HGO := Aside0.mk (turn_go (d := 2) (by rw [← hec]; exact e0))
          subst e0
          clear hec
          go_wp2_with (go_at_fn 51; refine hc.mono ?_; rintro e w1 ⟨rfl, h⟩; have H1 := Aside0.mk h; clear h hc)
          go_roundg 2
          case measure => omega
          case rel => exact ⟨3, _, rfl, rfl, ⟨HT.out.1.trans HGO.out, HN.out⟩, H1⟩
        case neg =>
          have HGO := Aside0.mk (turn_end (d := 2) (by rw [← hec]; exact e0))
          have HEC := Aside0.mk hec
          have e1 : (ec = 0) = False := eq_false e0
          have e2 : (ec == 0) = false := by simpa using e0
          clear hec e0
          go_wp2_with (go_at_fn 51; refine hc.mono ?_; rintro e w1 ⟨rfl, h⟩; have H1 := Aside0.mk h; clear h hc)
          go_ret
          rw [HT.out.1, HGO.out, ← HEC.out]
          exact ⟨rfl, H1.out⟩
      · obtain rfl : d = 1 := by omega
        have x3 : wr.cell? ⟨rb, 3, none⟩ = some (.func (.func 52) #[] #[.pointer (some ⟨r3, 0, none⟩), .pointer (some ⟨r7, 0, none⟩), .pointer (some ⟨r4, 0, none⟩)]) := blk_cell hbb 3
        have hc := cl4_calls HO.out HBX.out (by have := HTL.out; omega)
        rw [show T.rename t n = opAt t n ys (4 - 1) T from rfl, ← hec] at hc
        clear hbb hk
        by_cases e0 : ec = 0
        case pos =>
          have HGO := Aside0.mk (turn_go (d := 1) (by rw [← hec]; exact e0))
          subst e0
          clear hec
          go_wp2_with (go_at_fn 52; refine hc.mono ?_; rintro e w1 ⟨rfl, h⟩; have H1 := Aside0.mk h; clear h hc)
          go_roundg 1
          case measure => omega
          case rel => exact ⟨4, _, rfl, rfl, ⟨HT.out.1.trans HGO.out, HN.out⟩, H1⟩
        case neg =>
          have HGO := Aside0.mk (turn_end (d := 1) (by rw [← hec]; exact e0))
          have HEC := Aside0.mk hec
          have e1 : (ec = 0) = False := eq_false e0
          have e2 : (ec == 0) = false := by simpa using e0
          clear hec e0
          go_wp2_with (go_at_fn 52; refine hc.mono ?_; rintro e w1 ⟨rfl, h⟩; have H1 := Aside0.mk h; clear h hc)
          go_ret
          rw [HT.out.1, HGO.out, ← HEC.out]
          exact ⟨rfl, H1.out⟩
      · obtain rfl : d = 0 := by omega
        have x4 : wr.cell? ⟨rb, 4, none⟩ = some (.func (.func 23) #[.pointer (some ⟨g, 0, none⟩)] #[]) := blk_cell hbb 4
        have hc := HO.out.syncNames
        rw [show T.syncNames = opAt t n ys (4 - 0) T from rfl, ← hec] at hc
        clear hbb hk
        by_cases e0 : ec = 0
        case pos =>
          have HGO := Aside0.mk (turn_go (d := 0) (by rw [← hec]; exact e0))
          subst e0
          clear hec
          go_wp2_with (go_at_fn 23; refine hc.mono ?_; rintro e w1 ⟨rfl, h⟩; have H1 := Aside0.mk h; clear h hc)
          go_roundg 0
          case measure => omega
          case rel => exact ⟨5, _, rfl, rfl, ⟨HT.out.1.trans HGO.out, HN.out⟩, H1⟩
        case neg =>
          have HGO := Aside0.mk (turn_end (d := 0) (by rw [← hec]; exact e0))
          have HEC := Aside0.mk hec
          have e1 : (ec = 0) = False := eq_false e0
          have e2 : (ec == 0) = false := by simpa using e0
          clear hec e0
          go_wp2_with (go_at_fn 23; refine hc.mono ?_; rintro e w1 ⟨rfl, h⟩; have H1 := Aside0.mk h; clear h hc)
          go_ret
          rw [HT.out.1, HGO.out, ← HEC.out]
          exact ⟨rfl, H1.out⟩
end Go.Proofs.YtnnlmackofopeaaDoor.Fs
