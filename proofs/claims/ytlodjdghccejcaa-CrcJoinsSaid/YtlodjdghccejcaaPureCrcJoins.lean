/- The sum of two parts is that of the second one more, wherever they are cut: for all bytes. -/
import Derived.Test.YtlodjdghccejcaaCrcLib
import Derived.Test.YtlodjdghccejcaaPCrcx
namespace Go.Proofs.Ytlodjdghccejcaa.Pure
open Go.RowKit Go.Proofs.Ytlodjdghccejcaa.PCrc Go.Proofs.Ytlodjdghccejcaa.CrcLib Go.Proofs.YtlodjdghccejcaaW.PrintWords Go.Proofs.YtlodjdghccejcaaW.PrintLast

theorem joins (l m : List Int) (hl : Bytes l) (hm : Bytes m) : ((crc_Of.f l).bind fun t => crc_More.f t m) = crc_Of.f (l ++ m) := by
  have hlm : Bytes (l ++ m) := fun x hx => by
    rcases List.mem_append.1 hx with h | h
    · exact hl x h
    · exact hm x h
  rw [of_f l hl, Option.bind_some, more_f _ m hm, of_f _ hlm, bv_num, ones_twice, F_append]
theorem CrcJoins : manteletlaw02_CrcJoins.Pure := by
  intro l cut _ hlen hl hc
  replace hl : Bytes l := fun x hx => wf_byte (hl x hx)
  replace hc := wf_u16 hc
  unfold manteletlaw02_CrcJoins.f
  rw [shown_f, Option.bind_some]
  by_cases hlong : (l.length : Int) > 20000
  · rw [if_pos hlong]
  · have e1 : wrap64 ((l.length : Int) + 1) = (l.length : Int) + 1 := by unfold wrap64; omega
    have e2 : wrap64 cut = cut := by unfold wrap64; omega
    have hlt := Int.emod_lt_of_pos cut (show 0 < (l.length : Int) + 1 by omega)
    have hge := Int.emod_nonneg cut (show (l.length : Int) + 1 ≠ 0 by omega)
    rw [if_neg hlong, e1, e2, if_neg (by omega), if_pos rfl, Int.tmod_eq_emod_of_nonneg hc.1]
    generalize cut % ((l.length : Int) + 1) = k at *
    have h1 := joins (l.take k.toNat) (l.drop k.toNat) (bytes_take hl _) (bytes_drop hl _)
    rw [List.take_append_drop] at h1
    have h2 := joins l [] hl (fun x hx => by simp at hx)
    rw [List.append_nil] at h2
    rw [of_f _ (bytes_take hl _), Option.bind_some] at h1
    rw [of_f l hl, Option.bind_some] at h2
    rw [of_f l hl] at h1
    rw [if_pos hge, if_pos (by omega), of_f _ (bytes_take hl _), Option.bind_some, h1, Option.bind_some, of_f l hl, Option.bind_some, if_pos rfl, Option.bind_some, h2, Option.bind_some, Option.bind_some]
    simp
end Go.Proofs.Ytlodjdghccejcaa.Pure
