/- A number is read as it was put, whatever stands behind; what is read is put as it stood: for all inputs. -/
import Derived.Test.YtlndbodbhbcgcaaNumShown
import Derived.Test.YtlndbodbhbcgcaaPNumx
namespace Go.Proofs.Ytlndbodbhbcgcaa.Pure
open Go.RowKit Go.Proofs.Ytlndbodbhbcgcaa.PNum Go.Proofs.YtlndbodbhbcgcaaW.PrintWords Go.Proofs.YtlndbodbhbcgcaaW.PrintLast

theorem NumBack : manteletlaw01_NumBack.Pure := by
  intro n l hn _ hlen hl
  replace hl : NumLib.Bytes l := fun x hx => NumLib.wf_byte (hl x hx)
  replace hn := NumLib.wf_u64 hn
  refine ⟨30, ?_⟩
  have hp := NumLib.putn_len n hn.1 hn.2
  unfold manteletlaw01_NumBack.f
  rw [NumLib.shown_f 30 (by decide), Option.bind_some, NumLib.put_f 30 n [] (by decide) hn.1 hn.2 (by decide), Option.bind_some, Option.bind_some, List.nil_append, List.nil_append, if_pos (show ([] : List Int).length + (NumLib.putn n).length < 140737488355328 by rw [List.length_nil]; omega), Option.bind_some, if_pos (show (NumLib.putn n).length + l.length < 140737488355328 by omega),
    NumLib.get_f _ (NumLib.bytes_append (NumLib.putn_bytes n hn.1 hn.2) hl), Option.bind_some, NumLib.get_f l hl, Option.bind_some, NumLib.get_put n hn.1 hn.2 l]
  simp only [if_true]
  rcases hg : NumLib.get l with ⟨x, i, e⟩
  simp only
  by_cases he : e = 0
  · subst he
    obtain ⟨h1, h2, h3, h4, h5⟩ := NumLib.get_ok l hl x i hg
    rw [if_pos rfl, if_neg (by omega), if_neg (by omega), NumLib.put_f 30 x [] (by decide) h3 h4 (by decide), Option.bind_some, if_pos (by omega), if_pos h2, List.nil_append, h5]
    simp
  · obtain ⟨rfl, rfl, _⟩ := NumLib.get_bad l x i e hg he
    rw [if_neg he]
    simp
end Go.Proofs.Ytlndbodbhbcgcaa.Pure
