/- A number stands behind what was there, which stays, and what is handed in isn't changed: for all bytes and numbers. -/
import Derived.Test.YtlndbodbhbcgcaaNumShownB
import Derived.Test.YtlndbodbhbcgcaaPNbx2
namespace Go.Proofs.Ytlndbodbhbcgcaa.Pure
open Go.RowKit Go.Proofs.Ytlndbodbhbcgcaa.PNb Go.Proofs.YtlndbodbhbcgcaaW.PrintWords Go.Proofs.YtlndbodbhbcgcaaW.PrintLast

theorem NumBehind : manteletlaw01_NumBehind.Pure := by
  intro l n h1 h2 hl hn
  obtain ⟨n0, n1⟩ := NumLib.wf_u64 hn
  have hw : 0 ≤ IntKind.u64.wrap (n + 1) ∧ IntKind.u64.wrap (n + 1) < 18446744073709551616 := by
    rw [show IntKind.u64.wrap (n + 1) = (n + 1) % 18446744073709551616 by simp [IntKind.wrap, IntKind.bits, IntKind.signed]]
    omega
  have p1 := NumLib.putn_len n n0 n1
  have p2 := NumLib.putn_len _ hw.1 hw.2
  simp only [maxLen] at h1
  refine ⟨20, ?_⟩
  unfold manteletlaw01_NumBehind.f
  rw [NumLib.shown_f 20 (by decide), Option.bind_some, NumLib.put_f 20 n l (by decide) n0 n1 (by omega), Option.bind_some, NumLib.put_f 20 _ l (by decide) hw.1 hw.2 (by omega), Option.bind_some,
    NumLib.put_f 20 n [] (by decide) n0 n1 (by decide), NumLib.put_f 20 _ [] (by decide) hw.1 hw.2 (by decide)]
  rw [if_pos rfl, if_pos rfl, if_pos (by rw [List.length_append]; omega), if_pos (by omega), if_pos (by rw [List.length_append]; omega), Int.toNat_natCast, List.take_left, if_pos rfl, Option.bind_some, List.drop_left, List.nil_append, if_pos rfl,
    if_pos (by rw [List.length_append]; omega), Option.bind_some, List.drop_left, List.nil_append]
  simp
end Go.Proofs.Ytlndbodbhbcgcaa.Pure
