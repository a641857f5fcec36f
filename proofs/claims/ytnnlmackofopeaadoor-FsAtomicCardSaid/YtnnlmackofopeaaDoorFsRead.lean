/- Contract of (*Fs).Read. -/
import Derived.Test.YtnnlmackofopeaaDoorFsAppend
namespace Go.Proofs.YtnnlmackofopeaaDoor.Fs
open Go.RowKit Go.Lib Go.Maps Go.Shelf Go.Proofs.YtnnlmackofopeaaDoorW.PrintWords Go.Proofs.YtnnlmackofopeaaDoorW.PrintLast Go.Proofs.YtnnlmackofopeaaDoorW.PrintMore
set_option linter.unusedVariables false
set_option linter.unusedSimpArgs false
def FsS.read (S : FsS) (n : ByteArray) : Int × List Int := if mayS n = true then (match S.at_ n with | some i => (0, ((S.files[i]?).map (·.1)).getD []) | none => (7, [])) else (1, [])
theorem clone_calls (w : World) (own : Nat → Prop) (v : Value) (xs : List Int) (hd : DRow w own v xs) (hl : xs.length ≤ 1000000000) :
    Calls Tryd.prog 45 #[v] w fun e w' => ∃ v', e = .returned v' ∧ w'.ownsRow w.heap.size 5 1 v' xs.length (xs.map (Value.int .u8)) ∧ Below w.heap.size w w' := by
  obtain ⟨A, c, rfl, hlc, h⟩ := hd
  rcases h with ⟨rfl, rfl⟩ | ⟨b, cells, rfl, h1, h2, h3, h4⟩
  · have hx : xs = [] := List.eq_nil_of_length_eq_zero (by omega)
    subst hx
    exact (Any.bytes_Clone_nil Tryd.lays4 0 0 w).mono fun e w' ⟨he, hw⟩ => ⟨_, he, by subst hw; exact ⟨rfl, .inl ⟨rfl, rfl⟩⟩, by subst hw; exact Below.refl _ _⟩
  · refine (Any.bytes_Clone_at Tryd.lays4 ⟨b, 0, none⟩ xs.length c xs w rfl (by omega) (fun i hi => ?_)).mono fun e w' ⟨v', he, hr, _, hb⟩ => ⟨v', he, hr, hb⟩
    have hadd : (⟨b, 0, none⟩ : Addr).add i = ⟨b, i, none⟩ := by unfold Addr.add; split <;> simp_all
    rw [hadd, cell_of_row w b i cells 5 (0, 0) h2]
    have h5 : (cells.toList.take xs.length)[i]? = (xs.map (Value.int .u8))[i]? := by rw [h4]
    rw [List.getElem?_take_of_lt hi, List.getElem?_map, List.getElem?_eq_getElem hi] at h5
    rw [← Array.getElem?_toList, h5]
    simp [List.getD, List.getElem?_eq_getElem hi]
theorem read_nil (n : ByteArray) (w : World) : Calls Tryd.prog 26 #[.pointer none, .string n] w fun e w' => e = .returned (.tuple #[.slice none 0 0, .int .i64 1]) ∧ w' = w := by
  go_enter Tryd.func26, Tryd.ntmps26
  go_wp2
  go_ret2
  exact ⟨rfl, rfl⟩
theorem row_nil (w : World) (base : Nat) : w.ownsRow base 5 1 (.slice none 0 0) 0 (([] : List Int).map (Value.int .u8)) := ⟨rfl, .inl ⟨rfl, rfl⟩⟩
set_option maxHeartbeats 4000000 in
set_option maxRecDepth 100000 in
theorem read_calls (n : ByteArray) (w : World) (own : Nat → Prop) (g : Nat) (S : FsS) (hS : FsIs w own g S) (hdat : S.dat ≤ 1000000000) :
    Calls Tryd.prog 26 #[.pointer (some ⟨g, 0, none⟩), .string n] w fun e w' => ∃ v, e = .returned (.tuple #[v, .int .i64 (S.read n).1]) ∧ w'.ownsRow w.heap.size 5 1 v (S.read n).2.length ((S.read n).2.map (Value.int .u8)) ∧ Below w.heap.size w w' := by
  have hm := may_calls n w
  have HS := Aside0.mk hS
  have HD := Aside0.mk hdat
  cases hb : mayS n with
  | false =>
    have ER := Aside0.mk (show S.read n = (1, []) by unfold FsS.read; rw [hb]; rfl)
    rw [hb] at hm
    clear hS hdat hb
    go_enter Tryd.func26, Tryd.ntmps26
    go_wp2_with (go_at_call 44; refine hm.mono ?_; rintro e w1 ⟨rfl, hb1⟩; have HB1 := Aside0.mk hb1; clear hb1)
    go_ret2
    exact ⟨_, by rw [ER.out]; rfl, by rw [ER.out]; exact row_nil _ _, HB1.out⟩
  | true =>
    rw [hb] at hm
    have HN := Aside0.mk (may_size hb)
    cases hi : S.at_ n with
    | none =>
      have ER := Aside0.mk (show S.read n = (7, []) by unfold FsS.read; rw [if_pos hb, hi])
      have HH := Aside0.mk hi
      clear hS hdat hb hi
      go_enter Tryd.func26, Tryd.ntmps26
      go_upto_region 3 with (go_at_call 44; refine hm.mono ?_; rintro e w1 ⟨rfl, hb1⟩; have HB1 := Aside0.mk hb1; clear hb1)
      obtain ⟨G, hG⟩ := HS.out.below HB1.out
      have HG := Aside0.mk hG
      clear hG
      go_wp2_with (go_at_call 43; refine (of_calls n HN.out w1 own g S G HG.out).mono ?_; rintro e w2 ⟨rfl, ⟨_, rfl⟩ | ⟨i, b, v, hx, _⟩⟩; rotate_left; exact absurd hx (by rw [HH.out]; simp))
      go_ret2
      exact ⟨_, by rw [ER.out]; rfl, by rw [ER.out]; exact row_nil _ _, HB1.out⟩
    | some i =>
      have HH := Aside0.mk hi
      have HM := Aside0.mk hb
      clear hS hdat hb hi
      go_enter Tryd.func26, Tryd.ntmps26
      go_upto_region 3 with (go_at_call 44; refine hm.mono ?_; rintro e w1 ⟨rfl, hb1⟩; have HB1 := Aside0.mk hb1; clear hb1)
      obtain ⟨G, hG⟩ := HS.out.below HB1.out
      have HG := Aside0.mk hG
      clear hG
      go_upto_region 6 with (go_at_call 43; refine (of_calls n HN.out w1 own g S G HG.out).mono ?_; rintro e w2 ⟨rfl, ⟨hx, _⟩ | ⟨i', b, v, hi', hgf, hlt, rfl⟩⟩; exact absurd HH.out (by rw [at_none hx]; simp))
      obtain rfl : i' = i := by rw [HH.out] at hi'; exact (Option.some.inj hi').symm
      obtain ⟨f, hf⟩ : ∃ f, S.files[i']? = some f := ⟨_, List.getElem?_eq_getElem hlt⟩
      obtain ⟨q1, q2, q3, q4, q5⟩ := HG.out.file i' b v f hgf hf
      obtain ⟨A, cc, rfl⟩ := q3.slice
      have c0 : w2.cell? ⟨b, 0, none⟩ = some (.slice A f.1.length cc) := blk_cell q1 0
      have ER := Aside0.mk (show S.read n = (0, f.1) by unfold FsS.read; rw [if_pos HM.out, HH.out]; simp [hf])
      have hc := clone_calls w2 own _ f.1 q3 (by have := HD.out; omega)
      have HSZ := Aside0.mk HB1.out.size
      clear q1 q2 q3 q4 q5 hgf hf hi' hlt
      go_wp2_with (go_at_call 45; refine hc.mono ?_; rintro e w3 ⟨v, rfl, hr, hb3⟩; obtain ⟨A3, c3, rfl⟩ := row_slice hr; have HR3 := Aside0.mk hr; have HB3 := Aside0.mk hb3; clear hr hb3 hc)
      go_ret2
      refine ⟨_, by rw [ER.out]; rfl, ?_, below_step HB1.out HB3.out⟩
      rw [ER.out]
      refine ⟨HR3.out.1, HR3.out.2.imp id ?_⟩
      rintro ⟨k, cap, cur, h1, h2, h3⟩
      exact ⟨k, cap, cur, h1, Nat.le_trans HSZ.out h2, h3⟩
end Go.Proofs.YtnnlmackofopeaaDoor.Fs
