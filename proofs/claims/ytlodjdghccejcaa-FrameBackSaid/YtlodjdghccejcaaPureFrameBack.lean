/- What was put is got, whatever stands behind; what is got has the bytes that it stood in: for all payloads and bytes. -/
import Derived.Test.YtlodjdghccejcaaFrameGet
namespace Go.Proofs.Ytlodjdghccejcaa.Pure
open Go.RowKit Go.Proofs.Ytlodjdghccejcaa.PFb Go.Proofs.YtlodjdghccejcaaW.PrintWords Go.Proofs.YtlodjdghccejcaaW.PrintLast Go.Proofs.Ytlodjdghccejcaa.NumLib Go.Proofs.Ytlodjdghccejcaa.FrameLib

theorem back_j0 (p b : List Int) (hp : NumLib.Bytes p) (hb : NumLib.Bytes b) (h1 : p.length ≤ 20000) (h2 : b.length ≤ 20000) (k : Nat) (hk : 600000 < k) : manteletlaw03_FrameBack.j0 (k + 1) p b true false = some true := by
  have hl := rec_len p
  have hn := putn_len (p.length : Int) (by omega) (by omega)
  have hrb := rec_bytes p hp (by omega)
  have hput := FrameLib.put_f k (by omega) [] p hp (by simp) (by omega)
  have hrl : (recL p).length ≤ 20020 := by omega
  have hget := FrameLib.get_f k (by omega) (recL p ++ b) (bytes_append hrb hb) (by rw [List.length_append]; omega)
  have hget2 := FrameLib.get_f k (by omega) b hb (by omega)
  rw [getR_rec p b (by omega)] at hget
  rw [List.nil_append] at hput
  have e1 : ([] : List Int).length + (recL p).length < 140737488355328 := by rw [List.length_nil]; omega
  have e2 : (recL p).length + b.length < 140737488355328 := by omega
  rw [manteletlaw03_FrameBack.j0, if_neg (show ¬ (false = true) by simp), hput, Option.bind_some, Option.bind_some, if_pos e1, Option.bind_some, List.nil_append, if_pos e2, hget, Option.bind_some, hget2, Option.bind_some]
  rcases hg : getR b with ⟨q, m, g⟩
  simp only
  rw [if_pos trivial, if_pos trivial, if_pos trivial, if_pos trivial]
  by_cases h0 : g = 0
  · subst h0
    obtain ⟨g1, g2, g3, g4, g5, g6⟩ := getR_ok b hb q m hg
    have hput2 := FrameLib.put_f k (by omega) [] q g2 (by simp) (by omega)
    rw [List.nil_append] at hput2
    have n1 : ¬ m > (b.length : Int) := by omega
    have n2 : (0 : Int) ≤ m := by omega
    have n3 : m ≤ (b.length : Int) := g4
    rw [if_pos trivial, if_neg n1, hput2, Option.bind_some]
    simp only
    rw [if_pos trivial, if_pos trivial, if_pos n2, if_pos n3, g5]
    simp
  · obtain ⟨g1, g2⟩ := getR_bad b q m g hg h0
    subst g1
    have hput2 := FrameLib.put_f k (by omega) [] [] (by intro x hx; simp at hx) (by simp) (by simp)
    rw [if_neg h0, hput2, Option.bind_some]
    rfl
theorem FrameBack : manteletlaw03_FrameBack.Pure := by
  intro p b _ _ hp _ _ hb
  replace hb : NumLib.Bytes b := fun x hx => NumLib.wf_byte (hb x hx)
  replace hp : NumLib.Bytes p := fun x hx => NumLib.wf_byte (hp x hx)
  refine ⟨700000 + 1, ?_⟩
  unfold manteletlaw03_FrameBack.f
  rw [show manteletlaw03_shown.f = some true from rfl, Option.bind_some]
  by_cases h1 : (b.length : Int) > 20000
  · rw [if_pos h1, manteletlaw03_FrameBack.j0, if_pos rfl]
  · rw [if_neg h1]
    by_cases h2 : (p.length : Int) > 20000
    · have hd : decide ((p.length : Int) > 20000) = true := by simpa using h2
      rw [hd, manteletlaw03_FrameBack.j0, if_pos rfl]
    · have hd : decide ((p.length : Int) > 20000) = false := by simpa using h2
      rw [hd]
      exact back_j0 p b hp hb (by omega) (by omega) 700000 (by decide)
end Go.Proofs.Ytlodjdghccejcaa.Pure
