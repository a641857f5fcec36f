/- FsBegins: the walk. -/
import Derived.Test.YtnnlmackofopeaaDoorFsBeginsLaw
import Derived.BigQuiet
namespace Go.Proofs.YtnnlmackofopeaaDoor.Fs
open Go.RowKit Go.Lib Go.Maps Go.Shelf Go.Sort Go.Proofs.YtnnlmackofopeaaDoorW.PrintWords Go.Proofs.YtnnlmackofopeaaDoorW.PrintLast Go.Proofs.YtnnlmackofopeaaDoorW.PrintMore
set_option linter.unusedVariables false
set_option linter.unusedSimpArgs false
theorem bg_big (m p : Nat) (h : m ≤ 2000) (e : p = 2) : p * m ≤ 1000000000000000 := by subst e; omega
set_option maxHeartbeats 4000000 in
set_option maxRecDepth 100000 in
theorem begins_calls (A : Option Addr) (c : Nat) (ls : List (List Int)) (sy n : Int) (w : World) (hr : RR w A ls) (hsy : 0 ≤ sy ∧ sy ≤ 255) (hn : -9223372036854775808 ≤ n ∧ n ≤ 9223372036854775807) (hll : ls.length ≤ maxLen) :
    Calls Tryd.prog 4 #[.slice A ls.length c, .int .u8 sy, .int .i64 n] w fun e w' => e = .returned (.bool true) ∧ Below w.heap.size w w' := by
  have HH := Aside0.mk (And.intro hr (And.intro hsy hn))
  obtain ⟨m, hm⟩ : ∃ m, m = ls.length := ⟨_, rfl⟩
  have HM := Aside0.mk (And.intro hm hll)
  rw [← hm]
  clear hr hsy hn hm hll
  go_enter Tryd.func4, Tryd.ntmps4
  go_upto_region 2 with (go_at_call 21; refine (shown_calls w).mono ?_; rintro e w1 ⟨rfl, hb⟩; have HB1 := Aside0.mk hb; clear hb)
  go_upto_region 3 with (go_at_call 14; refine (one_new q20 w1).mono ?_; rintro e w2 ⟨g, rfl, h⟩; have H0 := Aside0.mk h; clear h)
  go_upto_region 6 with (go_at_call 22; refine (H0.out.create na (by decide)).mono ?_; rintro e w3 ⟨rfl, h⟩; rw [go1_eq] at h; have H1 := Aside0.mk h; clear h H0)
  go_upto_region 7 with (go_at_call 23; refine (H1.out.syncNames).mono ?_; rintro e w4 ⟨rfl, h⟩; rw [bg_start] at h; have H2 := Aside0.mk h; clear h H1)
  go_wp2
  go_loopg [9, 10, 11] m (fun kq v9 v10 v11 wr => ∃ (i : Nat) (xs : List Int) (s : Nat), v9 = .string (sOf xs) ∧ v10 = .int .i64 (s : Int) ∧ v11 = .int .i64 (i : Int) ∧ i + kq = m ∧ Aside0 (s ≤ xs.length ∧ xs.length ≤ 100 * i ∧ i ≤ 20) ∧ Aside0 (One w1 (fun _ => False) wr g (bg xs s)))
  case atStart => exact ⟨0, [], 0, rfl, rfl, rfl, by omega, ⟨by simp⟩, H2⟩
  case round =>
    obtain ⟨i, xs, s, rfl, rfl, rfl, hi, HI, HO⟩ := hrel
    by_cases hgo : i < m ∧ i < 20
    case pos =>
      obtain ⟨d, rfl⟩ : ∃ d, gk = d + 1 := ⟨gk - 1, by omega⟩
      have e1 : ((i : Int) < (m : Int)) = True := eq_true (by omega)
      have e2 : ((i : Int) < 20) = True := eq_true (by omega)
      have e3 : (i < m) = True := eq_true (by omega)
      have hil : i < ls.length := by have := HM.out.1; omega
      obtain ⟨ad, A1, c1, rfl, hc0, hbr0⟩ := HH.out.1 i hil
      have hbw : Below w.heap.size w wr := below_step HB1.out HO.out.bel
      have hc : wr.cell? (ad.add i) = some (.slice A1 ls[i].length c1) := (hbw.cell (World.block_lt_of_cell? w _ hc0)).trans hc0
      obtain ⟨ys, hys⟩ : ∃ ys, ys = ls[i] := ⟨_, rfl⟩
      rw [← hys] at hc hc0 hbr0
      obtain ⟨q, hq⟩ : ∃ q, q = ys.length := ⟨_, rfl⟩
      rw [← hq] at hc hc0
      have HHI := Aside0.mk (And.intro hi (And.intro hgo (And.intro hq hbr0)))
      have HBW := Aside0.mk hbw
      have HC0 := Aside0.mk hc0
      by_cases hqm : q ≤ 100
      case neg =>
        have e4 : ((100 : Int) < (q : Int)) = True := eq_true (by omega)
        clear hqm hil hi hgo hys hq hbr0 hbw hc0
        go_wp2
        go_ret
        exact ⟨rfl, HBW.out⟩
      have e4 : ((100 : Int) < (q : Int)) = False := eq_false (by omega)
      have HQ := Aside0.mk hqm
      have hap := HO.out.append na A1 c1 ys (hbr0.below HBW.out) (hbr0.there.imp id fun h ad e => ⟨fun h => h, Nat.lt_of_lt_of_le (h ad e) HB1.out.size⟩) (bg_big _ _ (by have := HI.out; show xs.length ≤ 2000; omega) (bg_ops xs s)) (by have := HI.out; show xs.length ≤ 1000000000; omega) (by omega)
      rw [← hq] at hap
      clear hqm hil hi hgo hys hq hbr0 hbw hc0
      go_upto_region 15 with (go_at_call 24; refine hap.mono ?_; rintro e w5 ⟨rfl, h⟩; rw [bg_append xs ys s (by have := HI.out; have := HHI.out; have := HQ.out; omega)] at h; have HP := Aside0.mk h; clear h HO hap hc)
      have hbw : Below w.heap.size w w5 := below_step HB1.out HP.out.bel
      have hc : w5.cell? (ad.add i) = some (.slice A1 q c1) := (hbw.cell (World.block_lt_of_cell? w _ HC0.out)).trans HC0.out
      have s1 := str_BR (HHI.out.2.2.2.below hbw) c1
      rw [← HHI.out.2.2.1] at s1
      clear hbw
      have e5 : (9223372036854775807 < (sOf xs).size + (sOf ys).size) = False := eq_false (by rw [sOf_size, sOf_size]; have := HI.out; have := HHI.out; have := HQ.out; omega)
      have HXY := Aside0.mk (show (xs ++ ys).length ≤ 100 * (i + 1) ∧ s ≤ (xs ++ ys).length by rw [List.length_append]; have := HI.out; have := HHI.out; have := HQ.out; omega)
      by_cases hb : (i : Int) < wrap64 (sy.tmod 8)
      case pos =>
        have e6 : ((i : Int) < wrap64 (sy.tmod 8)) = True := eq_true hb
        clear hb
        go_upto_region 18 with (go_at_call 25; refine (HP.out.sync na (by show (xs ++ ys).length ≤ 1000000000; have := HXY.out; have := HI.out; omega)).mono ?_; rintro e w6 ⟨rfl, h⟩; rw [bg_sync] at h; have HS := Aside0.mk h; clear h HP)
        go_wp2
        go_roundg d
        case measure => have := HHI.out; omega
        case rel =>
          refine ⟨i + 1, xs ++ ys, (xs ++ ys).length, by rw [sOf_append], ?_, ?_, by have := HHI.out; omega, ⟨Nat.le_refl _, HXY.out.1, by have := HHI.out; omega⟩, HS⟩
          · rw [sOf_size, sOf_size, List.length_append]; rfl
          · rw [show wrap64 ((i : Int) + 1) = ((i + 1 : Nat) : Int) by have := HHI.out; exact add_wrap i 1 1000000000 (Nat.le_refl _) (by omega)]
      case neg =>
        have e6 : ((i : Int) < wrap64 (sy.tmod 8)) = False := eq_false hb
        clear hb
        go_wp2
        go_roundg d
        case measure => have := HHI.out; omega
        case rel =>
          refine ⟨i + 1, xs ++ ys, s, by rw [sOf_append], rfl, ?_, by have := HHI.out; omega, ⟨HXY.out.2, HXY.out.1, by have := HHI.out; omega⟩, HP⟩
          rw [show wrap64 ((i : Int) + 1) = ((i + 1 : Nat) : Int) by have := HHI.out; exact add_wrap i 1 1000000000 (Nat.le_refl _) (by omega)]
    case neg =>
      have hex : ((i : Int) < (m : Int)) = False ∨ (((i : Int) < (m : Int)) = True ∧ ((i : Int) < 20) = False) := by
        by_cases h1 : i < m
        · exact .inr ⟨eq_true (by omega), eq_false (by omega)⟩
        · exact .inl (eq_false (by omega))
      have hrd := HO
      clear hgo hi
      rcases hex with e1 | ⟨e1, e2⟩
      all_goals (
        go_upto_region 20 with (go_at_call 17; refine (HO.out.crash_new 0 (.cells #[.int .i64 n] 3) 1 [n] (IR.new wr n) (by rw [bg_ops]; decide) (by show xs.length ≤ 1000000000; have := HI.out; omega) (show 1 ≤ maxLen by decide)).mono ?_; rintro e w6 ⟨rfl, h⟩; have HC := Aside0.mk h; clear h HO)
        have hrd := HC.out.read na (by rw [bg_crash_dat]; have := HI.out; omega)
        obtain ⟨k, hk⟩ : ∃ k, k = s + (max (min n ((xs.length : Int) - (s : Int))) 0).toNat := ⟨_, rfl⟩
        have hkl : k ≤ xs.length := by have := HI.out; omega
        have hwk : wrap64 ((s : Int) + max (min n (wrap64 (((sOf xs).size : Int) - (s : Int)))) 0) = (k : Int) := by
          rw [sOf_size, wrap64_small (n := (xs.length : Int) - (s : Int)) (by have := HI.out; omega) (by have := HI.out; omega), wrap64_small (by have := HI.out; omega) (by have := HI.out; omega)]
          omega
        rw [bg_read xs s n HI.out.1, ← hk] at hrd
        obtain ⟨zs, hz⟩ : ∃ zs, zs = xs.take k := ⟨_, rfl⟩
        rw [← hz] at hrd
        have HK := Aside0.mk (And.intro hk (And.intro hkl (And.intro hwk hz)))
        clear hk hkl hwk hz
        go_upto_region 21 with (go_at_call 26; refine hrd.mono ?_; rintro e w7 ⟨v, rfl, hr, hb, h⟩; obtain ⟨A2, c2, rfl, hbr, _⟩ := row_BR (xs := zs) hr; have HR := Aside0.mk hbr; have HA := Aside0.mk h; clear h HC hr hb hrd hbr)
        go_upto_region 22 with (fail)
        rw [HK.out.2.2.1]
        have s1 : ∀ j, (convert 22 9 (.slice A2 zs.length c2)).run Tryd.prog (w7.drewN j) = .ok (.string (sOf zs)) (w7.drewN j) := fun j => str_BR (w := w7.drewN j) (BR.drewN HR.out j) c2
        have e7 : (k ≤ (sOf xs).size) = True := eq_true (by rw [sOf_size]; exact HK.out.2.1)
        have e8 : ((k : Int) ≤ ((sOf xs).size : Int)) = True := eq_true (by rw [sOf_size]; have := HK.out.2.1; omega)
        have e9 : (sOf xs).extract 0 k = sOf zs := by rw [sOf_take, ← HK.out.2.2.2]
        go_quiet (fail)
        go_wp2
        go_ret
        exact ⟨rfl, below_step HB1.out (below_step HA.out.bel (below_drew w7 _))⟩)
end Go.Proofs.YtnnlmackofopeaaDoor.Fs
