/- FsStays: the states. -/
import Derived.Test.YtnnlmackofopeaaDoorFsFew
import Derived.Test.YtnnlmackofopeaaDoorFsSame
namespace Go.Proofs.YtnnlmackofopeaaDoor.Fs
open Go.RowKit Go.Lib Go.Maps Go.Shelf Go.Sort Go.Proofs.YtnnlmackofopeaaDoorW.PrintWords Go.Proofs.YtnnlmackofopeaaDoorW.PrintLast Go.Proofs.YtnnlmackofopeaaDoorW.PrintMore
set_option linter.unusedVariables false
set_option linter.unusedSimpArgs false
theorem One.isMap {wB w : World} {B : Nat → Prop} {g : Nat} {S : FsS} (h : One wB B w g S) : IsMap S.names := by
  obtain ⟨own, _, _, ⟨G, hG⟩, _⟩ := h
  exact hG.nm.isMap
/-- A chain begun anew: what is the file system's is named. -/
theorem One.rebase {wB w : World} {B : Nat → Prop} {g : Nat} {S : FsS} (h : One wB B w g S) : ∃ own : Nat → Prop, (∀ k, own k → B k ∨ wB.heap.size ≤ k) ∧ Under own w ∧ One w own w g S ∧ Turn B wB w := by
  obtain ⟨own, h1, h2, h3, h4⟩ := h
  exact ⟨own, h1, h2, ⟨own, fun k hk => .inl hk, h2, h3, Turn.refl _ _⟩, h4⟩
theorem Bd.small2 {x y : Nat} {S : FsS} (h : Bd x (100 * y) S) (hxy : x + y ≤ 124) : S.used ≤ 384400 ∧ S.ops ≤ 248 ∧ S.dat ≤ 12400 ∧ S.ops * S.dat ≤ 3075200 := by
  have h1 := h.used
  have h2 := h.ops
  have h3 := h.dat
  have h4 : x * y ≤ 3844 := by
    have key : ∀ x, x < 125 → x * (124 - x) ≤ 3844 := by decide
    exact Nat.le_trans (Nat.mul_le_mul_left x (show y ≤ 124 - x by omega)) (key x (by omega))
  have h5 : x * (100 * y) = 100 * (x * y) := Nat.mul_left_comm x 100 y
  exact ⟨by omega, by omega, by omega, Nat.le_trans (Nat.mul_le_mul (show S.ops ≤ 248 by omega) (show S.dat ≤ 12400 by omega)) (by decide)⟩
theorem at_put {S : FsS} {n : ByteArray} {D : Names} {i : Nat} (hS : S.names = D.put (kl n) (num i)) (hD : IsMap D) : S.at_ n = some i := by
  have hk : WideAt.IsKeyLit (kl n) := by simp [WideAt.IsKeyLit]
  unfold FsS.at_
  rw [hS, if_pos (has_put_same hD hk _), atKey_put_same hD hk]
  show some ((i : Int).toNat) = some i
  rw [Int.toNat_natCast]
abbrev nNew : ByteArray := ⟨#[110, 101, 119]⟩
abbrev more4 : List Int := [109, 111, 114, 101]
theorem may_new : mayS nNew = true := by kernel_rfl
def st2 (S : FsS) : FsS := { S with left := -1, limited := false, quota := q20 }
def st3 (S : FsS) : FsS := (st2 S).file1.chg (.link nNew S.files.length)
def st4 (S : FsS) (ys : List Int) : FsS := (st3 S).app S.files.length ys
def st5 (S : FsS) (ys : List Int) : FsS := (st4 S ys).upd S.files.length (fun f => (f.1, f.1.length))
def st6 (S : FsS) (ys : List Int) : FsS := { st5 S ys with durable := (st5 S ys).names, changes := [] }
def st7 (S : FsS) (ys : List Int) : FsS := (st6 S ys).app S.files.length more4
section
variable {S : FsS} {x y : Nat} (hm : IsMap S.names) (hB : Bd x (100 * y) S) (hxy : x + y ≤ 120) {ys : List Int} (hl : ys.length ≤ 100)
theorem st3_eq : (st2 S).create nNew = (0, st3 S) := create_ok (S := st2 S) rfl may_new
include hm in
theorem st3_at : (st3 S).at_ nNew = some S.files.length := at_put (D := S.names) rfl hm
include hB in
theorem st3_Bd : Bd (x + 1) (100 * y) (st3 S) := (hB.same (S' := st2 S) rfl rfl rfl rfl rfl rfl).file nNew S.files.length
include hm hB hxy hl in
theorem st4_eq : (st3 S).append nNew ys = (0, st4 S ys) := append_ok (S := st3 S) rfl may_new (st3_at hm) (by
  have := ((st3_Bd hB).small2 (by omega)).1
  show ((st3 S).used : Int) + (ys.length : Int) ≤ 1048576
  omega)
include hB hl in
theorem st4_Bd : Bd (x + 1) (100 * (y + 1)) (st4 S ys) := (st3_Bd hB).app _ _ hl
include hm in
theorem st5_eq : (st4 S ys).sync nNew = (0, st5 S ys) := sync_ok (S := st4 S ys) rfl may_new (st3_at hm)
theorem st6_eq : (st5 S ys).syncNames = (0, st6 S ys) := syncNames_ok (S := st5 S ys) rfl
include hB hl in
theorem st6_Bd : Bd (x + 1) (100 * (y + 1)) (st6 S ys) := by
  have h := (st4_Bd hB hl).upd S.files.length (fun f => (f.1, f.1.length)) (fun f hf => hf) (Nat.le_refl _)
  exact ⟨h.names, h.names, h.files, h.ops, h.dat⟩
include hm hB hxy hl in
theorem st7_eq : (st6 S ys).append nNew more4 = (0, st7 S ys) := append_ok (S := st6 S ys) rfl may_new (st3_at hm) (by
  have := ((st6_Bd hB hl).small2 (by omega)).1
  show ((st6 S ys).used : Int) + 4 ≤ 1048576
  omega)
include hB hl in
theorem st7_Bd : Bd (x + 1) (100 * (y + 2)) (st7 S ys) := (st6_Bd hB hl).app _ _ (by decide)
theorem st7_file : (st7 S ys).files[S.files.length]? = some (ys ++ more4, ys.length) := by
  show ((((S.files ++ [(([] : List Int), 0)]).modify S.files.length (fun f => (f.1 ++ ys, f.2))).modify S.files.length (fun f => (f.1, f.1.length))).modify S.files.length (fun f => (f.1 ++ more4, f.2)))[S.files.length]? = _
  rw [List.getElem?_modify, List.getElem?_modify, List.getElem?_modify]
  simp
theorem st_len : (st7 S ys).files.length = S.files.length + 1 := by
  show ((((S.files ++ [(([] : List Int), 0)]).modify S.files.length (fun f => (f.1 ++ ys, f.2))).modify S.files.length (fun f => (f.1, f.1.length))).modify S.files.length (fun f => (f.1 ++ more4, f.2))).length = _
  simp
theorem st_names (nm : Int) (bs : List Int) : ((st7 S ys).crash nm bs).names = (st3 S).names := by
  show foldD (st7 S ys).durable ((st7 S ys).changes.take (kept nm (st7 S ys).changes.length)) = _
  rw [show (st7 S ys).changes = [] from rfl, List.take_nil]
  rfl
include hm in
theorem st_read (nm : Int) (bs : List Int) : ∃ k, ys.length ≤ k ∧ k ≤ ys.length + 4 ∧ ((st7 S ys).crash nm bs).read nNew = (0, (ys ++ more4).take k) := by
  refine ⟨ys.length + stayS bs S.files.length (ys ++ more4, ys.length), by omega, ?_, ?_⟩
  · have := stay_le bs S.files.length (ys ++ more4, ys.length) (by show ys.length ≤ (ys ++ more4).length; rw [List.length_append]; omega)
    have h2 : (ys ++ more4).length = ys.length + 4 := by rw [List.length_append]; rfl
    simp only at this
    omega
  · have hfile : ((st7 S ys).crash nm bs).files[S.files.length]? = some (cutF bs S.files.length (ys ++ more4, ys.length)) := by
      show ((st7 S ys).cutN bs (st7 S ys).files.length).files[S.files.length]? = _
      rw [cutN_file, st_len, if_pos (by omega), st7_file]
      rfl
    have hat : ((st7 S ys).crash nm bs).at_ nNew = some S.files.length := at_put (D := S.names) (st_names nm bs) hm
    unfold FsS.read
    rw [if_pos may_new, hat]
    simp only [hfile, Option.map_some, Option.getD_some]
    rfl
end
theorem conv_run4 (w : World) (cs : Array Value) : (convert 22 22 (.slice (some ⟨w.heap.size, 0, none⟩) 4 4)).run Tryd.prog (w.alloc (.cells cs 5)) = .ok (.slice (some ⟨w.heap.size, 0, none⟩) 4 4) ((w.alloc (.cells cs 5)).freeze ⟨w.heap.size, cs.size, none⟩ 1) := by
  have hsh : (w.alloc (.cells cs 5)).shape? w.heap.size = some (5, cs.size) := by
    simp [World.shape?, World.alloc, -World.alloc_eq]
  simp [convert, run_underlying Tryd.underlying22, run_underlying Tryd.underlying5, markStringish, hsh, Result.andThen]
theorem conv_more (w : World) (x y z u : Value) : (convert 22 22 (.slice (some ⟨w.heap.size, 0, none⟩) 4 4)).run Tryd.prog (w.alloc (.cells #[x, y, z, u] 5)) = .ok (.slice (some ⟨w.heap.size, 0, none⟩) 4 4) (w.alloc (.cells #[x, y, z, u] 5 (4, 5))) := by
  have h := conv_run4 w #[x, y, z, u]
  rw [freeze_eq] at h
  exact h
abbrev oMore : Obj := .cells #[.int .u8 109, .int .u8 111, .int .u8 114, .int .u8 101] 5 (4, 5)
theorem br_more (w : World) : BR (w.alloc oMore) (some ⟨w.heap.size, 0, none⟩) more4 := by
  refine .inr ⟨_, rfl, fun j u hu => ?_⟩
  have hb := blk_new w oMore
  have hadd : (⟨w.heap.size, 0, none⟩ : Addr).add j = ⟨w.heap.size, j, none⟩ := by unfold Addr.add; split <;> simp_all
  rw [hadd, cell_of_row _ _ j _ 5 (4, 5) hb]
  have hj : j < 4 := by
    have := (List.getElem?_eq_some_iff.1 hu).1
    simpa using this
  match j, hj with
  | 0, _ => exact hu
  | 1, _ => exact hu
  | 2, _ => exact hu
  | 3, _ => exact hu
end Go.Proofs.YtnnlmackofopeaaDoor.Fs
