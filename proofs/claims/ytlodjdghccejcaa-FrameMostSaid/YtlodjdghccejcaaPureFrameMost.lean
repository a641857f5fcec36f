/- A payload of 2^20 bytes is put, of one more refused; bytes that say that they are more are none: for all numbers. -/
import Derived.Test.YtlodjdghccejcaaFrameLib
namespace Go.Proofs.Ytlodjdghccejcaa.Pure
open Go.RowKit Go.Proofs.Ytlodjdghccejcaa.PFrame Go.Proofs.YtlodjdghccejcaaW.PrintWords Go.Proofs.YtlodjdghccejcaaW.PrintLast Go.Proofs.Ytlodjdghccejcaa.NumLib Go.Proofs.Ytlodjdghccejcaa.FrameLib

theorem u8_range {x : Int} (h : (Lit.int .u8 x).wf = true) : 0 ≤ x ∧ x ≤ 255 := NumLib.wf_byte h
theorem get_one : (getR [129, 128, 64, 1, 2, 3]).2.2 = 2 := by decide +kernel
theorem get_two : (getR [128, 128, 64, 1, 2, 3]).2.2 = 3 := by decide +kernel
theorem zeros_bytes (n : Nat) : NumLib.Bytes (List.replicate n 0) := fun x hx => by
  have := List.eq_of_mem_replicate hx
  omega
theorem FrameMost : manteletlaw03_FrameMost.Pure := by
  intro a ha
  replace ha := u8_range ha
  refine ⟨30, ?_⟩
  have hm : Int.tmod a 2 = a % 2 := Int.tmod_eq_emod_of_nonneg ha.1
  have hw : wrap64 (1048576 + wrap64 (Int.tmod a 2)) = 1048576 + a % 2 := by rw [hm]; unfold wrap64; omega
  have hw2 : wrap64 (1048576 + a % 2 + 7) = 1048576 + a % 2 + 7 := by unfold wrap64; omega
  unfold manteletlaw03_FrameMost.f
  rw [show manteletlaw03_shown.f = some true from rfl, Option.bind_some, hw, hw2, hm, if_pos (by omega), if_pos (by omega)]
  have g1 := FrameLib.get_f 30 (by decide) [129, 128, 64, 1, 2, 3] (by unfold NumLib.Bytes; decide) (by decide)
  have g2 := FrameLib.get_f 30 (by decide) [128, 128, 64, 1, 2, 3] (by unfold NumLib.Bytes; decide) (by decide)
  by_cases h : a % 2 = 1
  · rw [h, FrameLib.put_full 30 [] _ (by rw [List.length_replicate]; decide), Option.bind_some, g1, Option.bind_some, g2, Option.bind_some, if_pos rfl, if_pos rfl, if_pos rfl, get_one, get_two, if_pos (show (([] : List Int).length : Int) = 0 from rfl), if_pos rfl]
    rfl
  · have h0 : a % 2 = 0 := by omega
    have hl : ((List.replicate (1048576 : Nat) (0 : Int)).length : Nat) = 1048576 := List.length_replicate
    have e : (1048576 + (0 : Int)).toNat = 1048576 := by decide
    rw [h0, e, FrameLib.put_f 30 (by decide) [] (List.replicate 1048576 0) (zeros_bytes _) (by decide) (by rw [hl]; omega), Option.bind_some, g1, Option.bind_some, g2, Option.bind_some, if_neg (by decide), if_pos rfl, if_pos rfl, get_one, get_two]
    have hp : (putn (1048576 : Nat)).length = 3 := by decide
    have hr : (([] ++ recL (List.replicate 1048576 0)).length : Int) = 1048576 + 0 + 7 := by
      unfold recL
      rw [List.nil_append, List.length_append, List.length_append, sum_len, hl, hp]
      decide
    rw [if_pos hr, if_pos rfl]
    rfl
end Go.Proofs.Ytlodjdghccejcaa.Pure
