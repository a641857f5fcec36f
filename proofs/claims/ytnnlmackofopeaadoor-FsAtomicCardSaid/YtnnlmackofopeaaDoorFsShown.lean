/- Contract of the laws' shown (layer 19). -/
import Derived.Test.YtnnlmackofopeaaDoorFsBoth
import Derived.Lib.BufferRead
import Derived.Laws.BytesString
namespace Go.Proofs.YtnnlmackofopeaaDoor.Fs
open Go.RowKit Go.Lib Go.Maps Go.Shelf Go.Sort Go.Proofs.YtnnlmackofopeaaDoorW.PrintWords Go.Proofs.YtnnlmackofopeaaDoorW.PrintLast Go.Proofs.YtnnlmackofopeaaDoorW.PrintMore
set_option linter.unusedVariables false
set_option linter.unusedSimpArgs false
/-- The string of a row of bytes. -/
def sOf (xs : List Int) : ByteArray := xs.foldl (fun r n => r.push (UInt8.ofNat n.toNat)) ByteArray.empty
theorem str_BR {w : World} {A : Option Addr} {xs : List Int} (h : BR w A xs) (c : Nat) : (convert 22 9 (.slice A xs.length c)).run Tryd.prog w = .ok (.string (sOf xs)) w := by
  cases A with
  | none =>
    rcases h with rfl | ⟨a, e, _⟩
    · exact run_convert_nil_bytes (P := Tryd.prog) w 22 9 5 c Tryd.underlying22 Tryd.underlying5 Tryd.underlying9
    · cases e
  | some a =>
    rw [run_convert_bytes_string w 22 9 5 (some a) xs.length c Tryd.underlying22 Tryd.underlying5 Tryd.underlying9]
    have hl := run_loadCells_list (P := Tryd.prog) w a (xs.map (Value.int .u8)) (fun j v hj => by
      rcases h with rfl | ⟨a', e, h⟩
      · simp at hj
      · injection e with e
        subst e
        exact h j v hj)
    rw [List.length_map] at hl
    exact run_bytesToString w a xs.length c xs hl
theorem row_BR {w : World} {base : Nat} {v : Value} {xs : List Int} (h : w.ownsRow base 5 1 v xs.length (xs.map (Value.int .u8))) : ∃ A c, v = .slice A xs.length c ∧ BR w A xs ∧ (∀ ad, A = some ad → base ≤ ad.block ∧ ad.block < w.heap.size) := by
  rcases h.2 with ⟨rfl, h0⟩ | ⟨b, c, cur, rfl, hb, hc, _, _, _, ht⟩
  · have hx : xs = [] := List.eq_nil_of_length_eq_zero h0
    subst hx
    exact ⟨none, 0, rfl, .inl rfl, fun _ e => by cases e⟩
  · refine ⟨_, c, rfl, .inr ⟨_, rfl, fun j u hu => ?_⟩, fun ad e => by injection e with e; subst e; exact ⟨hb, blk_lt hc⟩⟩
    have hadd : (⟨b, 0, none⟩ : Addr).add j = ⟨b, j, none⟩ := by unfold Addr.add; split <;> simp_all
    rw [hadd, cell_of_row w b j cur 5 (0, 0) hc]
    rw [← ht, List.getElem?_take] at hu
    split at hu
    · simpa using hu
    · cases hu
theorem conv_run (w : World) (cs : Array Value) : (convert 22 22 (.slice (some ⟨w.heap.size, 0, none⟩) 3 3)).run Tryd.prog (w.alloc (.cells cs 5)) = .ok (.slice (some ⟨w.heap.size, 0, none⟩) 3 3) ((w.alloc (.cells cs 5)).freeze ⟨w.heap.size, cs.size, none⟩ 1) := by
  have hsh : (w.alloc (.cells cs 5)).shape? w.heap.size = some (5, cs.size) := by
    simp [World.shape?, World.alloc, -World.alloc_eq]
  simp [convert, run_underlying Tryd.underlying22, run_underlying Tryd.underlying5, markStringish, hsh, Result.andThen]
theorem freeze_eq (w : World) (cs : Array Value) : (w.alloc (.cells cs 5)).freeze ⟨w.heap.size, cs.size, none⟩ 1 = w.alloc (.cells cs 5 (cs.size, cs.size + 1)) := by
  have h : ((w.heap.push (Obj.cells cs 5)).modify w.heap.size fun x =>
      match x with
      | Obj.cells c elem (lo, hi) =>
        Obj.cells c elem (if lo == hi then (cs.size, cs.size + 1) else (min lo cs.size, max hi (cs.size + 1)))
      | o => o) = w.heap.push (Obj.cells cs 5 (cs.size, cs.size + 1)) := by
    refine Array.ext_getElem? fun i => ?_
    rw [Array.getElem?_modify, Array.getElem?_push, Array.getElem?_push]
    by_cases hi : w.heap.size = i
    · subst hi
      simp
    · simp [hi, Ne.symm hi]
  unfold World.freeze
  rw [if_neg (by decide)]
  show ({ (w.alloc (.cells cs 5)) with heap := _ } : World) = _
  simp only [World.alloc]
  exact congrArg (fun hh => ({ w with heap := hh } : World)) h
theorem conv_abc (w : World) (x y z : Value) : (convert 22 22 (.slice (some ⟨w.heap.size, 0, none⟩) 3 3)).run Tryd.prog (w.alloc (.cells #[x, y, z] 5)) = .ok (.slice (some ⟨w.heap.size, 0, none⟩) 3 3) (w.alloc (.cells #[x, y, z] 5 (3, 4))) := by
  have h := conv_run w #[x, y, z]
  rw [freeze_eq] at h
  exact h
abbrev oABC : Obj := .cells #[.int .u8 97, .int .u8 98, .int .u8 99] 5 (3, 4)
theorem br_abc (w : World) : BR (w.alloc oABC) (some ⟨w.heap.size, 0, none⟩) abc := by
  refine .inr ⟨_, rfl, fun j u hu => ?_⟩
  have hb := blk_new w oABC
  have hadd : (⟨w.heap.size, 0, none⟩ : Addr).add j = ⟨w.heap.size, j, none⟩ := by unfold Addr.add; split <;> simp_all
  rw [hadd, cell_of_row _ _ j _ 5 (3, 4) hb]
  have hj : j < 3 := by
    have := (List.getElem?_eq_some_iff.1 hu).1
    simpa using this
  match j, hj with
  | 0, _ => exact hu
  | 1, _ => exact hu
  | 2, _ => exact hu
set_option maxHeartbeats 4000000 in
set_option maxRecDepth 100000 in
theorem shown_calls (w : World) : Calls Tryd.prog 21 #[] w fun e w' => e = .returned (.bool true) ∧ Below w.heap.size w w' := by
  have hcv := conv_abc
  go_enter Tryd.func21, Tryd.ntmps21
  go_upto_region 2 with (go_at_call 14; refine (one_new 9 w).mono ?_; rintro e w1 ⟨f, rfl, h⟩; have HF := Aside0.mk h; clear h)
  go_upto_region 5 with (go_at_call 14; refine (one_new 9 w1).mono ?_; rintro e w2 ⟨g, rfl, h⟩; have HB := Aside0.mk (both_start HF.out h); clear h HF)
  go_upto_region 6 with (go_at_call 22; refine (HB.out.lift (R := fun e _ => e = .returned (.int .i64 ((fs0 9).create na).1)) (S' := sh1) (fun B h => h.create na (by decide))).mono ?_; rintro e w3 ⟨rfl, h⟩; have HB1 := Aside0.mk h; clear h HB)
  go_upto_region 7 with (go_at_call 24; refine (HB1.out.lift (R := fun e _ => e = .returned (.int .i64 (sh1.append na abc).1)) (S' := sh2) (fun B h => h.append_new na oABC 3 abc (br_abc _) (by decide) (by decide) (by decide))).mono ?_; rintro e w4 ⟨rfl, h⟩; have HB2 := Aside0.mk h; clear h HB1)
  go_upto_region 8 with (go_at_call 25; refine (HB2.out.lift (R := fun e _ => e = .returned (.int .i64 (sh2.sync na).1)) (S' := sh3) (fun B h => h.sync na (by decide))).mono ?_; rintro e w5 ⟨rfl, h⟩; rw [sh_sync]; have HB3 := Aside0.mk h; clear h HB2)
  go_upto_region 9 with (go_at_call 17; refine (HB3.out.lift (R := fun e _ => e = .returned (.tuple #[])) (S' := sh3.crash 0 []) (fun B h => h.crash 0 none 0 [] (fun i hi => absurd hi (Nat.not_lt_zero i)) (.inl rfl) (by decide) (by decide) (by decide))).mono ?_; rintro e w6 ⟨rfl, h⟩; have HB4 := Aside0.mk h.swap; clear h HB3)
  go_upto_region 10 with (go_at_call 22; refine (HB4.out.lift (R := fun e _ => e = .returned (.int .i64 ((fs0 9).create na).1)) (S' := sh1) (fun B h => h.create na (by decide))).mono ?_; rintro e w7 ⟨rfl, h⟩; have HB5 := Aside0.mk h; clear h HB4)
  go_upto_region 11 with (go_at_call 24; refine (HB5.out.lift (R := fun e _ => e = .returned (.int .i64 (sh1.append na abc).1)) (S' := sh2) (fun B h => h.append_new na oABC 3 abc (br_abc _) (by decide) (by decide) (by decide))).mono ?_; rintro e w8 ⟨rfl, h⟩; have HB6 := Aside0.mk h; clear h HB5)
  go_upto_region 12 with (go_at_call 25; refine (HB6.out.lift (R := fun e _ => e = .returned (.int .i64 (sh2.sync na).1)) (S' := sh3) (fun B h => h.sync na (by decide))).mono ?_; rintro e w9 ⟨rfl, h⟩; have HB7 := Aside0.mk h; clear h HB6)
  go_upto_region 13 with (go_at_call 17; refine (HB7.out.lift (R := fun e _ => e = .returned (.tuple #[])) (S' := sh3.crash 1 []) (fun B h => h.crash 1 none 0 [] (fun i hi => absurd hi (Nat.not_lt_zero i)) (.inl rfl) (by decide) (by decide) (by decide))).mono ?_; rintro e w10 ⟨rfl, h⟩; have HB8 := Aside0.mk h; clear h HB7)
  have hrd := HB8.out.lift (R := fun e w' => ∃ v, e = .returned (.tuple #[v, .int .i64 0]) ∧ w'.ownsRow w10.heap.size 5 1 v 3 (abc.map (Value.int .u8))) (S' := sh3.crash 1 []) (fun B h => (h.read na (by decide)).mono fun e w' ⟨v, he, hr, hb, h⟩ => by
    rw [sh_read] at he hr
    exact ⟨⟨v, he, hr⟩, h⟩)
  clear hcv
  go_upto_region 14 with (go_at_call 26; refine hrd.mono ?_; rintro e w11 ⟨⟨v, rfl, hr⟩, h⟩; obtain ⟨A, c, rfl, hbr, _⟩ := row_BR (xs := abc) hr; have HR := Aside0.mk hbr; have HB9 := Aside0.mk h.swap; clear h hr hbr hrd HB8)
  have hls := HB9.out.lift (R := fun e w' => ∃ A c, e = .returned (.slice A 0 c) ∧ Below w11.heap.size w11 w') (S' := sh3.crash 0 []) (fun B h => (h.list (by decide)).mono fun e w' ⟨v, he, hr, hb, h⟩ => by
    rw [sh_list] at hr
    obtain ⟨A, c, hv⟩ := row_slice hr
    exact ⟨⟨A, c, by rw [he, hv]; rfl, hb⟩, h⟩)
  go_wp2_with (go_at_call 20; refine hls.mono ?_; rintro e w12 ⟨⟨A2, c2, rfl, hb⟩, h⟩; have hst : (convert 22 9 (.slice A 3 c)).run Tryd.prog w12 = .ok (.string ⟨#[97, 98, 99]⟩) w12 := str_BR (HR.out.below hb) c; have HB10 := Aside0.mk h; clear h hb hls)
  go_ret
  obtain ⟨_, _, _, _, _, _, _, _, h⟩ := HB10.out
  exact ⟨rfl, h⟩
end Go.Proofs.YtnnlmackofopeaaDoor.Fs
