/- Mani: what a crash leaves of a saving. -/
import Derived.Test.YtnnlmackofopeaaDoorMaLaw
namespace Go.Proofs.YtnnlmackofopeaaDoor.Fs
open Go.RowKit Go.Lib Go.Maps Go.Shelf Go.Sort Go.Proofs.YtnnlmackofopeaaDoorW.PrintWords Go.Proofs.YtnnlmackofopeaaDoorW.PrintLast Go.Proofs.YtnnlmackofopeaaDoorW.PrintMore
set_option linter.unusedVariables false
set_option linter.unusedSimpArgs false
/-- A name's file holds x, whole and synced; no name, no file. -/
def Holds (S : FsS) (p : Option Nat) (x : Option (List Int)) : Prop := (p = none ∧ x = none) ∨ ∃ i c, p = some i ∧ x = some c ∧ S.files[i]? = some (c, c.length)
/-- A state behind a crash, or behind a saving: the record is x. -/
structure St (S : FsS) (x : Option (List Int)) : Prop where
  lim : S.limited = false
  quo : S.quota = q20
  chg : S.changes = []
  nam : ∃ p y, S.names = nmS p y ∧ S.durable = nmS p y ∧ Holds S p x
  small : ∀ f ∈ S.files, f.1.length ≤ 1020
theorem small_used {S : FsS} {m : Nat} (h : ∀ f ∈ S.files, f.1.length ≤ m) {p y : Option Nat} (hn : S.names = nmS p y) : S.used ≤ 2 * m := by
  unfold FsS.used
  refine Nat.le_trans (sumL_le h (has S.names) (entries S.names)) (Nat.mul_le_mul_right m ?_)
  rw [hn]
  exact nm_len p y
theorem small_cut {S : FsS} {m : Nat} (h : ∀ f ∈ S.files, f.1.length ≤ m) (bs : List Int) (n : Nat) : ∀ f ∈ (S.cutN bs n).files, f.1.length ≤ m := fun f hf => by
  obtain ⟨j, hj, rfl⟩ := List.getElem_of_mem hf
  have h1 : (S.cutN bs n).files[j]? = some (S.cutN bs n).files[j] := List.getElem?_eq_getElem hj
  rw [cutN_file] at h1
  cases hs : S.files[j]? with
  | none => rw [hs] at h1; split at h1 <;> cases h1
  | some f0 =>
    have hm := h f0 (List.mem_of_getElem? hs)
    rw [hs] at h1
    split at h1
    · rw [← Option.some.inj h1]
      show (f0.1.take _).length ≤ m
      rw [List.length_take]
      omega
    · rw [← Option.some.inj h1]
      exact hm
theorem crash_file {S : FsS} {i : Nat} {c : List Int} (nm : Int) (bs : List Int) (h : S.files[i]? = some (c, c.length)) : (S.crash nm bs).files[i]? = some (c, c.length) := by
  have hil : i < S.files.length := (List.getElem?_eq_some_iff.1 h).1
  show (S.cutN bs S.files.length).files[i]? = _
  rw [cutN_file, if_pos hil, h]
  have hst : stayS bs i (c, c.length) = 0 := by
    unfold stayS
    split
    · simp only; omega
    · rfl
  show some (cutF bs i (c, c.length)) = _
  unfold cutF
  rw [hst, Nat.add_zero, List.take_length]
theorem Holds.crash {S : FsS} {p : Option Nat} {x : Option (List Int)} (h : Holds S p x) (nm : Int) (bs : List Int) : Holds (S.crash nm bs) p x := by
  rcases h with h | ⟨i, c, h1, h2, h3⟩
  · exact .inl h
  · exact .inr ⟨i, c, h1, h2, crash_file nm bs h3⟩
/-- A crash, of which the names that stay are known. -/
theorem crash_st {S : FsS} {p y : Option Nat} {x : Option (List Int)} (nm : Int) (bs : List Int) (hq : S.quota = q20) (hs : ∀ f ∈ S.files, f.1.length ≤ 1020) (hn : foldD S.durable (S.changes.take (kept nm S.changes.length)) = nmS p y) (hh : Holds S p x) : St (S.crash nm bs) x :=
  ⟨rfl, (cutN_rest S bs S.files.length).1.trans hq, rfl, ⟨p, y, hn, hn, hh.crash nm bs⟩, small_cut hs bs _⟩
theorem read_some {S : FsS} {c : List Int} (h : St S (some c)) : S.read na = (0, c) := by
  obtain ⟨p, y, h1, _, hh⟩ := h.nam
  rcases hh with ⟨_, hh⟩ | ⟨i, c', rfl, e, hf⟩
  · cases hh
  · have e2 := Option.some.inj e
    subst e2
    unfold FsS.read
    rw [if_pos may_a, nm_atA h1]
    simp only [hf, Option.map_some, Option.getD_some]
theorem read_nothing {S : FsS} (h : St S none) : S.read na = (7, []) := by
  obtain ⟨p, y, h1, _, hh⟩ := h.nam
  rcases hh with ⟨rfl, _⟩ | ⟨i, c', _, e, _⟩
  · exact read_none may_a (nm_noA h1)
  · cases e
theorem st_start : St (fs0 q20) none := ⟨rfl, rfl, rfl, ⟨none, none, rfl, rfl, .inl ⟨rfl, rfl⟩⟩, fun f hf => by cases hf⟩
section
variable {S : FsS} {zs : List Int} {x : Option (List Int)}
theorem sv_small (hs : ∀ f ∈ S.files, f.1.length ≤ 1020) (hz : zs.length ≤ 1020) (k : Nat) (l : Int) : ∀ f ∈ (sv S zs k l).files, f.1.length ≤ 1020 := by
  have key : ∀ g : List Int × Nat, g.1.length ≤ 1020 → ∀ f ∈ S.files ++ [g], f.1.length ≤ 1020 := fun g hg f hf => by
    rcases List.mem_append.1 hf with hf | hf
    · exact hs f hf
    · rw [List.mem_singleton.1 hf]
      exact hg
  unfold sv
  split
  · exact hs
  · exact key _ (Nat.zero_le _)
  · exact key _ hz
  · exact key _ hz
  · exact key _ hz
  · exact key _ hz
theorem sv_quota (k : Nat) (l : Int) : (sv S zs k l).quota = S.quota := by
  unfold sv
  split <;> rfl
theorem sv1_names {p y : Option Nat} (hn : S.names = nmS p y) (l : Int) : (sv S zs 1 l).names = nmS p (some S.files.length) := by
  show S.names.put (kl nT) (num S.files.length) = _
  rw [hn, nm_put]
theorem sv5_names {p y : Option Nat} (hn : S.names = nmS p y) (l : Int) : (sv S zs 5 l).names = nmS (some S.files.length) none := by
  show ((S.names.put (kl nT) (num S.files.length)).put (kl na) (num S.files.length)).del (kl nT) = _
  rw [hn, nm_put, nm_moved]
theorem sv5_file (l : Int) : (sv S zs 5 l).files[S.files.length]? = some (zs, zs.length) := by
  show (S.files ++ [(zs, zs.length)])[S.files.length]? = _
  simp
theorem sv5_read {p y : Option Nat} (hn : S.names = nmS p y) (l : Int) : (sv S zs 5 l).read na = (0, zs) := by
  unfold FsS.read
  rw [if_pos may_a, nm_atA (sv5_names hn l)]
  simp only [sv5_file, Option.map_some, Option.getD_some]
theorem sv_hq (hS : ∀ f ∈ S.files, f.1.length ≤ 1020) (hq : S.quota = q20) (hz : zs.length ≤ 1020) {p y : Option Nat} (hn : S.names = nmS p y) (l : Int) : ((sv S zs 1 l).used : Int) + (zs.length : Int) ≤ S.quota := by
  have h := small_used (sv_small (zs := zs) hS hz 1 l) (sv1_names hn l)
  rw [hq]
  show _ ≤ (1048576 : Int)
  omega
/-- A saving that nothing stops. -/
theorem save_free (hl : S.limited = false) (hq : S.quota = q20) (hs : ∀ f ∈ S.files, f.1.length ≤ 1020) (hz : zs.length ≤ 1020) {p y : Option Nat} (hn : S.names = nmS p y) : turnS nT na zs 5 S = (0, sv S zs 5 S.left) := by
  have h := turn_free (zs := zs) (l := S.left) hl hn (sv_hq hs hq hz hn _) 5 (Nat.le_refl 5)
  rw [Nat.sub_self] at h
  exact h
theorem sv5_st (hl : S.limited = false) (hq : S.quota = q20) (hs : ∀ f ∈ S.files, f.1.length ≤ 1020) (hz : zs.length ≤ 1020) {p y : Option Nat} (hn : S.names = nmS p y) (l : Int) : St (sv S zs 5 l) (some zs) :=
  ⟨hl, hq, rfl, ⟨some S.files.length, none, sv5_names (zs := zs) hn l, sv5_names (zs := zs) hn l, .inr ⟨_, zs, rfl, rfl, sv5_file l⟩⟩, sv_small hs hz 5 l⟩
theorem Holds.more {S' : FsS} {p : Option Nat} (h : Holds S p x) (g : List Int × Nat) (hf : S'.files = S.files ++ [g]) : Holds S' p x := by
  rcases h with h | ⟨i, c, h1, h2, h3⟩
  · exact .inl h
  · refine .inr ⟨i, c, h1, h2, ?_⟩
    rw [hf, List.getElem?_append_left (List.getElem?_eq_some_iff.1 h3).1]
    exact h3
/-- Behind k operations of a saving, a crash: the record is as it was, or it is the new one. -/
theorem crash_sv (hc : S.changes = []) (hq : S.quota = q20) (hs : ∀ f ∈ S.files, f.1.length ≤ 1020) (hz : zs.length ≤ 1020) {p y : Option Nat} (hn : S.names = nmS p y) (hd : S.durable = nmS p y) (hh : Holds S p x) (k : Nat) (hk : k ≤ 5) (l : Int) (nm : Int) (bs : List Int) :
    ∃ x', St ((sv S zs k l).crash nm bs) x' ∧ (x' = x ∨ x' = some zs) ∧ (k = 5 → x' = some zs) := by
  have hq' : ∀ k, (sv S zs k l).quota = q20 := fun k => (sv_quota (zs := zs) k l).trans hq
  have hs' := fun k => sv_small (zs := zs) hs hz k l
  have mid : ∀ k (g : List Int × Nat), (sv S zs k l).files = S.files ++ [g] → (sv S zs k l).durable = S.durable → (sv S zs k l).changes = S.changes ++ [.link nT S.files.length] → ∃ x', St ((sv S zs k l).crash nm bs) x' ∧ (x' = x ∨ x' = some zs) := fun k g h1 h2 h3 => by
    have hm : ∃ y', foldD (sv S zs k l).durable ((sv S zs k l).changes.take (kept nm (sv S zs k l).changes.length)) = nmS p y' := by
      rw [h2, h3, hc, hd]
      rcases Nat.lt_or_ge 0 (kept nm ([] ++ [Chg.link nT S.files.length]).length) with h0 | h0
      · rw [List.take_of_length_le (show ([] ++ [Chg.link nT S.files.length]).length ≤ _ from h0)]
        exact ⟨some S.files.length, nm_put p y _⟩
      · rw [Nat.le_zero.1 h0]
        exact ⟨y, rfl⟩
    obtain ⟨y', hy⟩ := hm
    exact ⟨x, crash_st nm bs (hq' k) (hs' k) hy (hh.more g h1), .inl rfl⟩
  have h6 : k = 0 ∨ k = 1 ∨ k = 2 ∨ k = 3 ∨ k = 4 ∨ k = 5 := by omega
  rcases h6 with rfl | rfl | rfl | rfl | rfl | rfl
  · refine ⟨x, crash_st (p := p) (y := y) nm bs (hq' 0) (hs' 0) ?_ hh, .inl rfl, fun h => by cases h⟩
    show foldD S.durable (S.changes.take (kept nm S.changes.length)) = _
    rw [hc, List.take_nil]
    exact hd
  · obtain ⟨x', h1, h2⟩ := mid 1 _ rfl rfl rfl
    exact ⟨x', h1, h2, fun h => by cases h⟩
  · obtain ⟨x', h1, h2⟩ := mid 2 _ rfl rfl rfl
    exact ⟨x', h1, h2, fun h => by cases h⟩
  · obtain ⟨x', h1, h2⟩ := mid 3 _ rfl rfl rfl
    exact ⟨x', h1, h2, fun h => by cases h⟩
  · have hfold : foldD (sv S zs 4 l).durable ((sv S zs 4 l).changes.take (kept nm (sv S zs 4 l).changes.length)) = foldD (nmS p y) (([.link nT S.files.length, .moved na S.files.length nT] : List Chg).take (kept nm 2)) := by
      show foldD S.durable ((S.changes ++ [Chg.link nT S.files.length] ++ [Chg.moved na S.files.length nT]).take (kept nm (S.changes ++ [Chg.link nT S.files.length] ++ [Chg.moved na S.files.length nT]).length)) = _
      rw [hc, hd]
      rfl
    have hkk : kept nm 2 = 0 ∨ kept nm 2 = 1 ∨ kept nm 2 = 2 := by have := kept_le nm 2; omega
    rcases hkk with e | e | e
    · rw [e] at hfold
      exact ⟨x, crash_st (p := p) (y := y) nm bs (hq' 4) (hs' 4) hfold (hh.more _ rfl), .inl rfl, fun h => by cases h⟩
    · rw [e] at hfold
      exact ⟨x, crash_st (p := p) (y := some S.files.length) nm bs (hq' 4) (hs' 4) (hfold.trans (nm_put p y _)) (hh.more _ rfl), .inl rfl, fun h => by cases h⟩
    · rw [e] at hfold
      refine ⟨some zs, crash_st (p := some S.files.length) (y := none) nm bs (hq' 4) (hs' 4) (hfold.trans ?_) (.inr ⟨_, zs, rfl, rfl, sv5_file l⟩), .inr rfl, fun h => by cases h⟩
      show (((nmS p y).put (kl nT) (num S.files.length)).put (kl na) (num S.files.length)).del (kl nT) = _
      rw [nm_put, nm_moved]
  · refine ⟨some zs, crash_st (p := some S.files.length) (y := none) nm bs (hq' 5) (hs' 5) ?_ (.inr ⟨_, zs, rfl, rfl, sv5_file l⟩), .inr rfl, fun _ => rfl⟩
    show foldD (sv S zs 5 l).names (([] : List Chg).take _) = _
    rw [List.take_nil]
    exact sv5_names hn l
/-- A saving with a limit, then a crash. -/
theorem save_crash (hS : St S x) (hz : zs.length ≤ 1020) (l : Nat) (hl : l ≤ 1000) (nm : Int) (bs : List Int) :
    (turnS nT na zs 5 { S with left := (l : Int), limited := true }).1 = (if 5 ≤ l then 0 else 11) ∧
    ∃ x', St ((turnS nT na zs 5 { S with left := (l : Int), limited := true }).2.crash nm bs) x' ∧ (x' = x ∨ x' = some zs) ∧ (5 ≤ l → x' = some zs) := by
  obtain ⟨T, hT⟩ : ∃ T : FsS, T = { S with left := (l : Int), limited := true } := ⟨_, rfl⟩
  obtain ⟨p, y, hn, hd, hh⟩ := hS.nam
  have hn2 : T.names = nmS p y := by rw [hT]; exact hn
  have hs2 : ∀ f ∈ T.files, f.1.length ≤ 1020 := by rw [hT]; exact hS.small
  have hq2 : T.quota = q20 := by rw [hT]; exact hS.quo
  have hc2 : T.changes = [] := by rw [hT]; exact hS.chg
  have hd2 : T.durable = nmS p y := by rw [hT]; exact hd
  have hh2 : Holds T p x := by rw [hT]; exact hh
  have h := turn_limit (S := T) (zs := zs) (by rw [hT]) hn2 (fun l => sv_hq hs2 hq2 hz hn2 l) 5 (Nat.le_refl 5) l hl
  rw [Nat.sub_self] at h
  have e0 : sv T zs 0 (l : Int) = T := by rw [hT]; rfl
  rw [e0] at h
  rw [← hT, h]
  by_cases h5 : 5 ≤ l
  · rw [if_pos h5, if_pos h5]
    obtain ⟨x', h1, h2, h3⟩ := crash_sv hc2 hq2 hs2 hz hn2 hd2 hh2 5 (Nat.le_refl 5) ((l - 5 : Nat) : Int) nm bs
    exact ⟨rfl, x', h1, h2, fun _ => h3 rfl⟩
  · rw [if_neg h5, if_neg h5, Nat.zero_add]
    obtain ⟨x', h1, h2, h3⟩ := crash_sv hc2 hq2 hs2 hz hn2 hd2 hh2 l (by omega) 0 nm bs
    exact ⟨rfl, x', h1, h2, fun h => absurd h h5⟩
/-- The bounds of a saving. -/
theorem turn_lim (t n : ByteArray) (ys : List Int) : ∀ d S, (turnS t n ys d S).2.ops ≤ S.ops + 2 * d ∧ (turnS t n ys d S).2.dat ≤ S.dat + d * ys.length
  | 0, S => by
    show S.ops ≤ _ ∧ S.dat ≤ _
    omega
  | d + 1, S => by
    have h1 := op_lim t n ys (4 - d) S
    have e : (d + 1) * ys.length = d * ys.length + ys.length := Nat.succ_mul d _
    show (if (opAt t n ys (4 - d) S).1 = 0 then turnS t n ys d (opAt t n ys (4 - d) S).2 else opAt t n ys (4 - d) S).2.ops ≤ _ ∧ (if (opAt t n ys (4 - d) S).1 = 0 then turnS t n ys d (opAt t n ys (4 - d) S).2 else opAt t n ys (4 - d) S).2.dat ≤ _
    split
    · have h2 := turn_lim t n ys d (opAt t n ys (4 - d) S).2
      omega
    · omega
end
end Go.Proofs.YtnnlmackofopeaaDoor.Fs
