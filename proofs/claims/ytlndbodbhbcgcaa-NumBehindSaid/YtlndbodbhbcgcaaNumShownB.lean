/- The examples at the head of the statements on numbers hold. -/
import Derived.Test.YtlndbodbhbcgcaaNumLibB
namespace Go.Proofs.Ytlndbodbhbcgcaa.NumLib
open Go.RowKit Go.Proofs.Ytlndbodbhbcgcaa.PNb Go.Proofs.YtlndbodbhbcgcaaW.PrintWords Go.Proofs.YtlndbodbhbcgcaaW.PrintLast

theorem shown_f (k : Nat) (hk : 9 < k) : manteletlaw01_shown.f k = some true := by
  unfold manteletlaw01_shown.f
  rw [NumLib.get_f _ (by unfold NumLib.Bytes; decide), Option.bind_some, NumLib.put_f k 300 [] hk (by decide) (by decide) (by decide), Option.bind_some]
  have e : ([] : List Int) ++ NumLib.putn 300 = [172, 2] := by decide
  have e2 : (NumLib.get [128, 0]).2.2 = 2 := by decide
  rw [e, e2, if_pos rfl]
  rfl
theorem wrap_succ (i : Nat) (h : i < 9223372036854775807) : wrap64 ((i : Int) + 1) = ((i + 1 : Nat) : Int) := by
  unfold wrap64
  omega
theorem str_toList (l : List Int) : (strOfNums l).toList = l.map fun n => UInt8.ofNat n.toNat := by
  unfold strOfNums
  exact ByteArray.toList_mk _
theorem map_inj : ∀ a b : List Int, Bytes a → Bytes b → (a.map fun n => UInt8.ofNat n.toNat) = (b.map fun n => UInt8.ofNat n.toNat) → a = b
  | [], [], _, _, _ => rfl
  | [], y :: b, _, _, h => by simp at h
  | x :: a, [], _, _, h => by simp at h
  | x :: a, y :: b, ha, hb, h => by
    rw [List.map_cons, List.map_cons] at h
    injection h with h1 h2
    have hx := ha x List.mem_cons_self
    have hy := hb y List.mem_cons_self
    have h3 := congrArg UInt8.toNat h1
    rw [UInt8.toNat_ofNat', UInt8.toNat_ofNat'] at h3
    rw [map_inj a b (fun z hz => ha z (List.mem_cons_of_mem _ hz)) (fun z hz => hb z (List.mem_cons_of_mem _ hz)) h2]
    congr 1
    omega
theorem str_inj {a b : List Int} (ha : Bytes a) (hb : Bytes b) (h : (strOfNums a).toList = (strOfNums b).toList) : a = b := by
  rw [str_toList, str_toList] at h
  exact map_inj a b ha hb h
end Go.Proofs.Ytlndbodbhbcgcaa.NumLib
