/- What deeds do to the state: bounds; the size of all. -/
import Derived.Test.YtnnlmackofopeaaDoorFsDeed
namespace Go.Proofs.YtnnlmackofopeaaDoor.Fs
open Go.RowKit Go.Lib Go.Maps Go.Shelf Go.Sort Go.Proofs.YtnnlmackofopeaaDoorW.PrintWords Go.Proofs.YtnnlmackofopeaaDoorW.PrintLast Go.Proofs.YtnnlmackofopeaaDoorW.PrintMore
set_option linter.unusedVariables false
set_option linter.unusedSimpArgs false
def FsS.plays (S : FsS) (ds : List Dd) : FsS := ds.foldl (fun S d => (S.doS d).2) S
theorem plays_take (S : FsS) (ds : List Dd) (i : Nat) (h : i < ds.length) : S.plays (ds.take (i + 1)) = ((S.plays (ds.take i)).doS ds[i]).2 := by
  unfold FsS.plays
  rw [List.take_add_one, List.getElem?_eq_getElem h, List.foldl_append]
  rfl
/-- A state in which all is small: a names and changes at most, files of b bytes at most. -/
structure Bd (a b : Nat) (S : FsS) : Prop where
  names : (entries S.names).length ≤ a
  durable : (entries S.durable).length + S.changes.length ≤ a
  files : ∀ f ∈ S.files, f.1.length ≤ b
  ops : S.ops ≤ 2 * a
  dat : S.dat ≤ b
theorem insert_len (x : Lit × Names) : ∀ l : List (Lit × Names), (DataW.insert x l).length = l.length + 1
  | [] => rfl
  | y :: r => by
    unfold DataW.insert
    split
    · rfl
    · rw [List.length_cons, insert_len x r, List.length_cons]
theorem put_entries (D : Names) (k : Lit) (v : Names) : (entries (D.put k v)).length ≤ (entries D).length + 1 := by
  cases D with
  | map es =>
    show (DataW.insert (k, v) (es.filter fun p => !p.1.sameKey k)).length ≤ es.length + 1
    rw [insert_len]
    exact Nat.succ_le_succ (List.length_filter_le _ _)
  | _ => exact Nat.zero_le _
theorem del_entries (D : Names) (k : Lit) : (entries (D.del k)).length ≤ (entries D).length := by
  cases D with
  | map es => exact List.length_filter_le (fun p : Lit × Names => !p.1.sameKey k) es
  | _ => exact Nat.zero_le _
theorem app_entries (D : Names) (c : Chg) : (entries (c.app D)).length ≤ (entries D).length + 1 := by
  cases c with
  | link n i => exact put_entries D _ _
  | gone n => exact Nat.le_succ_of_le (del_entries D _)
  | moved n i o => exact Nat.le_trans (del_entries _ _) (put_entries D _ _)
theorem fold_entries : ∀ (cs : List Chg) (D : Names), (entries (foldD D cs)).length ≤ (entries D).length + cs.length
  | [], D => Nat.le_refl _
  | c :: cs, D => by
    have h := fold_entries cs (c.app D)
    have h2 := app_entries D c
    show (entries (foldD (c.app D) cs)).length ≤ _
    rw [List.length_cons]
    omega
theorem Bd.used {a b : Nat} {S : FsS} (h : Bd a b S) : S.used ≤ a * b := by
  unfold FsS.used
  exact Nat.le_trans (sumL_le h.files (has S.names) (entries S.names)) (Nat.mul_le_mul_right b h.names)
theorem Bd.chg {a b : Nat} {S : FsS} (h : Bd a b S) (c : Chg) (e : Nat) (he : e ≤ S.ops + 1) (S' : FsS) (hS : S' = { S with names := c.app S.names, changes := S.changes ++ [c], ops := e }) : Bd (a + 1) b S' := by
  subst hS
  refine ⟨?_, ?_, h.files, ?_, h.dat⟩
  · have := app_entries S.names c
    have := h.names
    show (entries (c.app S.names)).length ≤ a + 1
    omega
  · have := h.durable
    show (entries S.durable).length + (S.changes ++ [c]).length ≤ a + 1
    rw [List.length_append, List.length_singleton]
    omega
  · have := h.ops
    show e ≤ 2 * (a + 1)
    omega
theorem Bd.mono {a b a' b' : Nat} {S : FsS} (h : Bd a b S) (ha : a ≤ a') (hb : b ≤ b') : Bd a' b' S :=
  ⟨Nat.le_trans h.names ha, Nat.le_trans h.durable ha, fun f hf => Nat.le_trans (h.files f hf) hb, Nat.le_trans h.ops (Nat.mul_le_mul_left 2 ha), Nat.le_trans h.dat hb⟩
theorem Bd.same {a b : Nat} {S S' : FsS} (h : Bd a b S) (h1 : S'.names = S.names) (h2 : S'.durable = S.durable) (h3 : S'.changes = S.changes) (h4 : S'.files = S.files) (h5 : S'.ops = S.ops) (h6 : S'.dat = S.dat) : Bd a b S' :=
  ⟨by rw [h1]; exact h.names, by rw [h2, h3]; exact h.durable, by rw [h4]; exact h.files, by rw [h5]; exact h.ops, by rw [h6]; exact h.dat⟩
theorem Bd.begin {a b : Nat} {S : FsS} (h : Bd a b S) : Bd a b S.beginT := by
  obtain ⟨f1, f2, f3, f4, f5, f6, f7, f8⟩ := beginT_files S
  exact h.same f3 f6 f5 f1 f2 f4
theorem Bd.file {a b : Nat} {S : FsS} (h : Bd a b S) (n : ByteArray) (i : Nat) : Bd (a + 1) b (S.file1.chg (.link n i)) := by
  refine ⟨?_, ?_, ?_, ?_, h.dat⟩
  · have := app_entries S.names (.link n i)
    have := h.names
    show (entries ((Chg.link n i).app S.names)).length ≤ a + 1
    omega
  · have := h.durable
    show (entries S.durable).length + (S.changes ++ [_]).length ≤ a + 1
    rw [List.length_append, List.length_singleton]
    omega
  · intro f hf
    have hf2 : f ∈ S.files ++ [([], 0)] := hf
    rcases List.mem_append.1 hf2 with hf | hf
    · exact h.files f hf
    · rw [List.mem_singleton.1 hf]
      exact Nat.zero_le _
  · have := h.ops
    show S.ops + 1 + 1 ≤ 2 * (a + 1)
    omega
theorem Bd.chg1 {a b : Nat} {S : FsS} (h : Bd a b S) (c : Chg) : Bd (a + 1) b (S.chg c) := h.chg c (S.ops + 1) (Nat.le_refl _) _ rfl
theorem Bd.upd {a b b' : Nat} {S : FsS} (h : Bd a b S) (i : Nat) (F : List Int × Nat → List Int × Nat) (hF : ∀ f, f.1.length ≤ b → (F f).1.length ≤ b') (hb : b ≤ b') : Bd a b' (S.upd i F) := by
  refine ⟨h.names, h.durable, fun f hf => ?_, h.ops, Nat.le_trans h.dat hb⟩
  obtain ⟨j, hj, rfl⟩ := List.getElem_of_mem hf
  have hj2 : (S.files.modify i F)[j]? = some ((S.upd i F).files[j]) := List.getElem?_eq_getElem hj
  rw [List.getElem?_modify] at hj2
  cases hs : S.files[j]? with
  | none => rw [hs] at hj2; cases hj2
  | some f0 =>
    rw [hs] at hj2
    have hm := h.files f0 (List.mem_of_getElem? hs)
    have e := Option.some.inj hj2
    rw [← e]
    split
    · exact hF f0 hm
    · exact Nat.le_trans hm hb
theorem Bd.cut {a b : Nat} {S : FsS} (h : Bd a b S) (bs : List Int) : ∀ n, Bd a b (S.cutN bs n)
  | 0 => h
  | n + 1 => (h.cut bs n).upd n _ (fun f hf => by
      show (f.1.take _).length ≤ b
      rw [List.length_take]
      omega) (Nat.le_refl _)
theorem Bd.crash {a b : Nat} {S : FsS} (h : Bd a b S) (nm : Int) (bs : List Int) : Bd a b (S.crash nm bs) := by
  have hc := h.cut bs S.files.length
  have h1 := fold_entries (S.changes.take (kept nm S.changes.length)) S.durable
  have h2 := h.durable
  have h3 : (S.changes.take (kept nm S.changes.length)).length ≤ S.changes.length := by rw [List.length_take]; omega
  exact ⟨Nat.le_trans h1 (by omega), Nat.le_trans (show (entries (foldD S.durable (S.changes.take (kept nm S.changes.length)))).length + 0 ≤ a by omega) (Nat.le_refl _), hc.files, hc.ops, hc.dat⟩
theorem Bd.app {a b : Nat} {S : FsS} (h : Bd a b S) (i : Nat) (ys : List Int) (hy : ys.length ≤ 100) : Bd a (b + 100) (S.app i ys) := by
  have hu := h.upd (b' := b + 100) i (fun f => (f.1 ++ ys, f.2)) (fun f hf => by
    show (f.1 ++ ys).length ≤ b + 100
    rw [List.length_append]
    omega) (by omega)
  exact ⟨hu.names, hu.durable, hu.files, hu.ops, by
    have := h.dat
    show S.dat + ys.length ≤ b + 100
    omega⟩
theorem doS_Bd {a b : Nat} {S : FsS} (h : Bd a b S) (d : Dd) (hd : d.data.length ≤ 100) : Bd (a + 1) b (S.doS d).2 ∨ Bd a (b + 100) (S.doS d).2 := by
  have up : ∀ {T : FsS}, Bd a b T → Bd (a + 1) b T := fun h => h.mono (Nat.le_succ a) (Nat.le_refl b)
  unfold FsS.doS
  split
  · left
    unfold FsS.create
    split
    · exact h.begin.file _ _
    · exact up h.begin
  split
  · unfold FsS.append
    split
    · split
      · split
        · exact .inl (up h.begin)
        · exact .inr (h.begin.app _ _ hd)
      · exact .inl (up h.begin)
    · exact .inl (up h.begin)
  left
  split
  · unfold FsS.sync
    split
    · split
      · exact up (h.begin.upd _ _ (fun f hf => hf) (Nat.le_refl _))
      · exact up h.begin
    · exact up h.begin
  split
  · unfold FsS.syncNames
    split
    · exact up h
    · have ht : Bd a b S.tick := by
        unfold FsS.tick
        split
        · exact h.same rfl rfl rfl rfl rfl rfl
        · exact h
      exact up ⟨ht.names, h.names, ht.files, ht.ops, ht.dat⟩
  split
  · unfold FsS.rename
    split
    · split
      · split
        · exact up h.begin
        · exact h.begin.chg1 _
      · exact up h.begin
    · exact up h.begin
  split
  · unfold FsS.remove
    split
    · split
      · exact h.begin.chg1 _
      · exact up h.begin
    · exact up h.begin
  split
  · exact up (h.same rfl rfl rfl rfl rfl rfl)
  split
  · exact up (h.same rfl rfl rfl rfl rfl rfl)
  split
  · exact up (h.crash _ _)
  · exact up h
theorem fs0_Bd (q : Int) : Bd 0 0 (fs0 q) := ⟨Nat.le_refl _, Nat.le_refl _, fun f hf => absurd hf (by simp [fs0]), Nat.le_refl _, Nat.le_refl _⟩
theorem plays_Bd (q : Int) : ∀ (n : Nat) (ds : List Dd), ds.length = n → (∀ d ∈ ds, d.data.length ≤ 100) → ∃ x y, x + y = n ∧ Bd x (100 * y) ((fs0 q).plays ds)
  | 0, ds, h, _ => by
    rw [List.eq_nil_of_length_eq_zero h]
    exact ⟨0, 0, rfl, fs0_Bd q⟩
  | n + 1, ds, h, hd => by
    have hn : n < ds.length := by omega
    obtain ⟨x, y, hxy, hB⟩ := plays_Bd q n (ds.take n) (by rw [List.length_take]; omega) (fun d hm => hd d (List.mem_of_mem_take hm))
    have hp := plays_take (fs0 q) ds n hn
    rw [List.take_of_length_le (by omega)] at hp
    rw [hp]
    rcases doS_Bd hB ds[n] (hd _ (List.getElem_mem hn)) with h1 | h1
    · exact ⟨x + 1, y, by omega, h1⟩
    · exact ⟨x, y + 1, by omega, h1⟩
/-- Of at most 120 deeds. -/
theorem Bd.small {x y : Nat} {S : FsS} (h : Bd x (100 * y) S) (hxy : x + y ≤ 120) : S.used ≤ 360000 ∧ S.ops ≤ 240 ∧ S.dat ≤ 12000 ∧ S.ops * S.dat ≤ 2880000 := by
  have h1 := h.used
  have h2 := h.ops
  have h3 := h.dat
  have h4 : x * y ≤ 3600 := by
    have key : ∀ x, x < 121 → x * (120 - x) ≤ 3600 := by decide
    exact Nat.le_trans (Nat.mul_le_mul_left x (show y ≤ 120 - x by omega)) (key x (by omega))
  have h5 : x * (100 * y) = 100 * (x * y) := Nat.mul_left_comm x 100 y
  exact ⟨by omega, by omega, by omega, Nat.le_trans (Nat.mul_le_mul (show S.ops ≤ 240 by omega) (show S.dat ≤ 12000 by omega)) (by decide)⟩
end Go.Proofs.YtnnlmackofopeaaDoor.Fs
