/- Parts of the proof, merged by a program of this session. -/
import Derived.Deep.Slices
import Derived.OpenShut
import Derived.Test.YtnabhfegbnfabaaPkReaderAlla
import Derived.Test.YtnabhfegbnfabaaPkReaderAllb
section
namespace Go.Proofs.Ytnabhfegbnfabaa.RunLib
open Go.RowKit Go.Proofs.Ytnabhfegbnfabaa.PRd Go.Proofs.YtnabhfegbnfabaaW.PrintWords Go.Proofs.YtnabhfegbnfabaaW.PrintLast Go.Proofs.YtnabhfegbnfabaaW.PrintMore Go.Proofs.Ytnabhfegbnfabaa.NumLib Go.Proofs.Ytnabhfegbnfabaa.FrameLib
set_option linter.unusedVariables false
set_option linter.unusedSimpArgs false
def wd (x : S36) : List Int := bytesOf x.f0
def entB (was : List Int) (x : S36) : List Int := putn (sh was (wd x) : Nat) ++ putn (((wd x).length - sh was (wd x) : Nat) : Int) ++ (wd x).drop (sh was (wd x)) ++ putn x.f1
def entsB : List Int → List S36 → List Int
 | _, [] => []
 | was, x :: l => entB was x ++ entsB (wd x) l
def blockB (l : List S36) : List Int := putn (l.length : Int) ++ entsB [] l
theorem wd_len {x : S36} (h : fineS x) : 1 ≤ (wd x).length ∧ (wd x).length ≤ 255 := by
 unfold wd
 rw [bytesOf_len]
 exact ⟨h.1, h.2.1⟩
theorem entB_len (was : List Int) {x : S36} (h : fineS x) : (entB was x).length ≤ 285 := by
 have h1 := wd_len h
 have h2 := (sh_le was (wd x)).2
 have h3 := putn_len ((sh was (wd x) : Nat) : Int) (by omega) (by omega)
 have h4 := putn_len (((wd x).length - sh was (wd x) : Nat) : Int) (by omega) (by omega)
 have h5 := putn_len x.f1 (by have := h.2.2.1; omega) (by have := h.2.2.2; omega)
 unfold entB
 rw [List.length_append, List.length_append, List.length_append, List.length_drop]
 omega
theorem entB_bytes (was : List Int) {x : S36} (h : fineS x) : Bytes (entB was x) := by
 have h1 := wd_len h
 have h2 := (sh_le was (wd x)).2
 unfold entB
 exact bytes_append (bytes_append (bytes_append (putn_bytes _ (by omega) (by omega)) (putn_bytes _ (by omega) (by omega))) (bytes_drop (bytesOf_bytes _) _)) (putn_bytes _ (by have := h.2.2.1; omega) (by have := h.2.2.2; omega))
theorem entsB_len : ∀ (l : List S36) (was : List Int), (∀ x ∈ l, fineS x) → (entsB was l).length ≤ 285 * l.length
 | [], _, _ => by simp [entsB]
 | x :: l, was, h => by
  have h1 := entB_len was (h x List.mem_cons_self)
  have h2 := entsB_len l (wd x) (fun y hy => h y (List.mem_cons_of_mem _ hy))
  rw [entsB, List.length_append, List.length_cons]
  omega
theorem entsB_bytes : ∀ (l : List S36) (was : List Int), (∀ x ∈ l, fineS x) → Bytes (entsB was l)
 | [], _, _ => by intro x hx; simp [entsB] at hx
 | x :: l, was, h => by
  rw [entsB]
  exact bytes_append (entB_bytes was (h x List.mem_cons_self)) (entsB_bytes l (wd x) (fun y hy => h y (List.mem_cons_of_mem _ hy)))
theorem blockB_len {l : List S36} (h : ∀ x ∈ l, fineS x) (hl : l.length ≤ 100000) : (blockB l).length ≤ 10 + 285 * l.length := by
 have h1 := entsB_len l [] h
 have h2 := putn_len (l.length : Int) (by omega) (by omega)
 unfold blockB
 rw [List.length_append]
 omega
theorem blockB_bytes {l : List S36} (h : ∀ x ∈ l, fineS x) (hl : l.length ≤ 100000) : Bytes (blockB l) :=
 bytes_append (putn_bytes _ (by omega) (by omega)) (entsB_bytes l [] h)
theorem u64_small (n : Nat) (h : n < 1000000000) : IntKind.u64.wrap (n : Int) = n := by rw [u64_wrap]; omega
theorem tail_size (s : ByteArray) (n : Nat) : (s.extract n s.size).size = s.size - n := by
 rw [← bytesOf_len, bytesOf_tail, List.length_drop, bytesOf_len]
theorem block_l0 (l : List S36) (h : ∀ x ∈ l, fineS x) (hl : l.length ≤ 100000) (d : Nat) : ∀ (k i : Nat) (was : ByteArray) (acc : List Int), d + 300 < k → i + d = l.length → was.size ≤ 255 → acc.length + 300 * d ≤ 100000000 →
  run_block.l0 k acc was l (l.length : Int) i = some (acc ++ entsB (bytesOf was) (l.drop i)) := by
 induction d with
 | zero =>
  intro k i was acc hk hi _ _
  obtain ⟨k, rfl⟩ : ∃ m, k = m + 1 := ⟨k - 1, by omega⟩
  rw [run_block.l0, if_neg (by omega), List.drop_of_length_le (by omega), entsB, List.append_nil]
 | succ d ih =>
  intro k i was acc hk hi hw hacc
  obtain ⟨k, rfl⟩ : ∃ m, k = m + 1 := ⟨k - 1, by omega⟩
  have hwr : wrap64 ((i : Int) + 1) = ((i + 1 : Nat) : Int) := by unfold wrap64; omega
  have hlt : i < l.length := by omega
  have hx := h l[i] (List.getElem_mem hlt)
  rw [run_block.l0, if_pos (by omega), if_pos (by omega), if_pos (by omega), rdT_eq l i hlt, hwr, List.drop_eq_getElem_cons hlt, entsB]
  generalize l[i] = x at hx ⊢
  have hwl := wd_len hx
  have hs := (sh_le (bytesOf was) (wd x)).2
  have hxs : x.f0.size = (wd x).length := (bytesOf_len _).symm
  rw [shared_f was x.f0 (by omega) k (by omega), Option.bind_some, show bytesOf x.f0 = wd x from rfl]
  generalize hn : sh (bytesOf was) (wd x) = n at hs ⊢
  have p1 := putn_len (n : Int) (by omega) (by omega)
  have p2 := putn_len (((wd x).length - n : Nat) : Int) (by omega) (by omega)
  have p3 := putn_len x.f1 (by have := hx.2.2.1; omega) (by have := hx.2.2.2; omega)
  have e2 : IntKind.u64.wrap (wrap64 ((x.f0.size : Int) - (n : Int))) = (((wd x).length - n : Nat) : Int) := by
   rw [hxs, show ((wd x).length : Int) - (n : Int) = (((wd x).length - n : Nat) : Int) by omega, show wrap64 (((wd x).length - n : Nat) : Int) = (((wd x).length - n : Nat) : Int) by unfold wrap64; omega, u64_small _ (by omega)]
  rw [u64_small n (by omega), NumLib.put_f k n acc (by omega) (by omega) (by omega) (by omega), Option.bind_some, e2, NumLib.put_f k _ (acc ++ putn n) (by omega) (by omega) (by omega) (by rw [List.length_append]; omega), Option.bind_some]
  have hlen2 : (acc ++ putn (n : Int) ++ putn (((wd x).length - n : Nat) : Int)).length ≤ acc.length + 20 := by rw [List.length_append, List.length_append]; omega
  rw [if_pos (by omega), if_pos (by omega), Int.toNat_natCast, if_pos (by rw [tail_size]; omega), bytesOf_tail]
  have hlen3 : (acc ++ putn (n : Int) ++ putn (((wd x).length - n : Nat) : Int) ++ (wd x).drop n).length ≤ acc.length + 275 := by rw [List.length_append, List.length_drop]; omega
  rw [show bytesOf x.f0 = wd x from rfl, NumLib.put_f k x.f1 _ (by omega) (by have := hx.2.2.1; omega) (by have := hx.2.2.2; omega) (by omega), Option.bind_some, ih k (i + 1) x.f0 _ (by omega) (by omega) (by omega) (by rw [List.length_append]; omega)]
  unfold entB
  rw [hn]
  simp only [List.append_assoc]
  rfl
theorem block_f (k : Nat) (l : List S36) (h : ∀ x ∈ l, fineS x) (hl : l.length ≤ 100000) (hk : l.length + 300 < k) : run_block.f k l = some (blockB l) := by
 unfold run_block.f
 have p1 := putn_len (l.length : Int) (by omega) (by omega)
 rw [u64_small _ (by omega), NumLib.put_f k _ [] (by omega) (by omega) (by omega) (by simp), Option.bind_some]
 have := block_l0 l h hl l.length k 0 ⟨#[]⟩ ([] ++ putn (l.length : Int)) hk (by omega) (by decide) (by rw [List.nil_append]; omega)
 rw [List.drop_zero] at this
 exact this
def chunks (size : Nat) : Nat → List S36 → List (List S36)
 | 0, _ => []
 | d + 1, l => if l = [] then [] else l.take size :: chunks size d (l.drop size)
theorem chunks_nil (size : Nat) : ∀ d, chunks size d [] = []
 | 0 => rfl
 | d + 1 => by rw [chunks, if_pos rfl]
theorem chunks_join (size : Nat) (hs : 1 ≤ size) : ∀ (d : Nat) (l : List S36), l.length ≤ d → (chunks size d l).flatten = l
 | 0, l, h => by
  have : l = [] := List.eq_nil_of_length_eq_zero (by omega)
  subst this
  rfl
 | d + 1, l, h => by
  rw [chunks]
  by_cases hl : l = []
  ·rw [if_pos hl, hl]; rfl
  ·rw [if_neg hl, List.flatten_cons, chunks_join size hs d _ (by rw [List.length_drop]; omega), List.take_append_drop]
theorem chunks_mem (size : Nat) : ∀ (d : Nat) (l : List S36), ∀ c ∈ chunks size d l, c.length ≤ size ∧ c ≠ [] ∨ size = 0
 | 0, _, c, h => by simp [chunks] at h
 | d + 1, l, c, h => by
  rw [chunks] at h
  by_cases hl : l = []
  ·rw [if_pos hl] at h; simp at h
  ·rw [if_neg hl] at h
   rcases List.mem_cons.1 h with rfl | h
   ·by_cases hs : size = 0
    ·exact .inr hs
    ·refine .inl ⟨by rw [List.length_take]; omega, fun e => ?_⟩
     rcases List.take_eq_nil_iff.1 e with e | e
     ·exact hs e
     ·exact hl e
   ·exact chunks_mem size d _ c h
theorem chunks_fine (size : Nat) {P : S36 → Prop} : ∀ (d : Nat) (l : List S36), (∀ x ∈ l, P x) → ∀ c ∈ chunks size d l, ∀ x ∈ c, P x
 | 0, _, _, c, h => by simp [chunks] at h
 | d + 1, l, hP, c, h => by
  rw [chunks] at h
  by_cases hl : l = []
  ·rw [if_pos hl] at h; simp at h
  ·rw [if_neg hl] at h
   rcases List.mem_cons.1 h with rfl | h
   ·exact fun x hx => hP x (List.mem_of_mem_take hx)
   ·exact chunks_fine size d _ (fun x hx => hP x (List.mem_of_mem_drop hx)) c h
theorem chunks_count (size : Nat) (hs : 1 ≤ size) : ∀ (d : Nat) (l : List S36), l.length ≤ d → (chunks size d l).length = (l.length + size - 1) / size
 | 0, l, h => by
  have : l = [] := List.eq_nil_of_length_eq_zero (by omega)
  subst this
  rw [chunks, List.length_nil, List.length_nil, Nat.div_eq_of_lt (by omega)]
 | d + 1, l, h => by
  rw [chunks]
  by_cases hl : l = []
  ·subst hl
   rw [if_pos rfl, List.length_nil, List.length_nil, Nat.div_eq_of_lt (by omega)]
  ·have hpos : 1 ≤ l.length := by
    cases l with
    | nil => exact absurd rfl hl
    | cons x l => simp
   rw [if_neg hl, List.length_cons, chunks_count size hs d _ (by rw [List.length_drop]; omega), List.length_drop]
   by_cases hle : size ≤ l.length
   ·rw [show l.length + size - 1 = (l.length - size + size - 1) + size by omega, Nat.add_div_right _ (by omega)]
   ·rw [show l.length - size + size - 1 = size - 1 by omega, Nat.div_eq_of_lt (by omega), show l.length + size - 1 = (l.length - 1) + size by omega, Nat.add_div_right _ (by omega), Nat.div_eq_of_lt (by omega)]
def allB (l : List S36) (size : Nat) : Nat → List (List Int)
 | 0 => []
 | c + 1 => if c * size < l.length then allB l size c ++ [blockB ((l.drop (c * size)).take size)] else allB l size c
theorem piece_eq (l : List S36) (size j : Nat) (h : j * size < l.length) : run_Encode.piece l size j = (l.drop (j * size)).take size := by
 unfold run_Encode.piece
 rw [List.drop_take, Nat.add_sub_cancel_left]
 by_cases hs : size ≤ l.length - j * size
 ·rw [Nat.min_eq_left hs]
 ·rw [Nat.min_eq_right (by omega), List.take_of_length_le (by rw [List.length_drop]; exact Nat.le_refl _), List.take_of_length_le (by rw [List.length_drop]; omega)]
theorem all_f (k : Nat) (l : List S36) (hl : ∀ x ∈ l, fineS x) (size : Nat) (hs : size ≤ 255) (hk : 1000 < k) : ∀ c, run_Encode.all k l size c = some (allB l size c)
 | 0 => rfl
 | c + 1 => by
  rw [run_Encode.all, all_f k l hl size hs hk c, Option.bind_some, allB]
  by_cases h : c * size < l.length
  ·have hp : ((l.drop (c * size)).take size).length ≤ size := by rw [List.length_take]; omega
   rw [if_pos h, if_pos h, piece_eq l size c h, block_f k _ (fun x hx => hl x (List.mem_of_mem_drop (List.mem_of_mem_take hx))) (by omega) (by omega), Option.bind_some]
  ·rw [if_neg h, if_neg h]
theorem allB_chunks (l : List S36) (size : Nat) : ∀ (c d : Nat), allB l size c ++ (chunks size d (l.drop (c * size))).map blockB = (chunks size (c + d) l).map blockB
 | 0, d => by simp [allB]
 | c + 1, d => by
  have ih := allB_chunks l size c (d + 1)
  rw [show c + 1 + d = c + (d + 1) by omega, ← ih, allB]
  by_cases h : c * size < l.length
  ·have hne : l.drop (c * size) ≠ [] := fun e => by
    have := congrArg List.length e
    rw [List.length_drop, List.length_nil] at this
    omega
   rw [if_pos h, chunks, if_neg hne, List.map_cons, List.drop_drop, show (c + 1) * size = c * size + size by rw [Nat.succ_mul]]
   simp
  ·have e : l.drop (c * size) = [] := List.drop_of_length_le (by omega)
   have e2 : l.drop ((c + 1) * size) = [] := List.drop_of_length_le (by rw [Nat.succ_mul]; omega)
   rw [if_neg h, e, e2, chunks_nil, chunks_nil]
theorem allB_eq (l : List S36) (size : Nat) : allB l size l.length = (chunks size l.length l).map blockB := by
 have := allB_chunks l size l.length 0
 rw [chunks, List.map_nil, List.append_nil, Nat.add_zero] at this
 exact this
def recs : List (List Int) → List Int
 | [] => []
 | p :: r => recL p ++ recs r
theorem recs_append : ∀ a b : List (List Int), recs (a ++ b) = recs a ++ recs b
 | [], b => rfl
 | p :: r, b => by rw [List.cons_append, recs, recs_append r b, recs, List.append_assoc]
def Okay (R : List (List Int)) : Prop := ∀ p ∈ R, p.length ≤ 1000000 ∧ Bytes p
theorem recL_le {p : List Int} (h : p.length ≤ 1000000) : (recL p).length ≤ 14 + p.length ∧ 5 ≤ (recL p).length := by
 have hl := putn_len p.length (by omega) (by omega)
 rw [rec_len]
 omega
theorem recs_bytes : ∀ R : List (List Int), Okay R → Bytes (recs R)
 | [], _ => by intro x hx; simp [recs] at hx
 | p :: r, h => by
  have h1 := h p List.mem_cons_self
  rw [recs]
  exact bytes_append (rec_bytes p h1.2 (by omega)) (recs_bytes r (fun q hq => h q (List.mem_cons_of_mem _ hq)))
theorem getR_nil : (getR []).2.2 ≠ 0 := by
 have := getR_cut [] (by decide) 0 (by rw [rec_len]; simp)
 rw [List.take_zero] at this
 exact this
theorem scan_tail : ∀ (R : List (List Int)) (d : Nat) (z : List Int), Okay R → R.length < d → (getR z).2.2 ≠ 0 → scanN d (recs R ++ z) = (R, (recs R).length)
 | [], d + 1, z, _, _, hz => by
  rw [scanN, recs, List.nil_append, if_neg hz]
  rfl
 | p :: r, d + 1, z, h, hd, hz => by
  rw [List.length_cons] at hd
  have h1 := h p List.mem_cons_self
  rw [scanN, recs, List.append_assoc, getR_rec p _ (by omega)]
  simp only [if_true, Int.toNat_natCast]
  rw [List.drop_left, scan_tail r d z (fun q hq => h q (List.mem_cons_of_mem _ hq)) (by omega) hz, List.length_append]
theorem recs_len_ge : ∀ R : List (List Int), Okay R → R.length ≤ (recs R).length
 | [], _ => by simp
 | p :: r, h => by
  have h1 := recL_le (h p List.mem_cons_self).1
  have h2 := recs_len_ge r (fun q hq => h q (List.mem_cons_of_mem _ hq))
  rw [recs, List.length_append, List.length_cons]
  omega
theorem scan_recs (R : List (List Int)) (h : Okay R) : scanN ((recs R).length + 1) (recs R) = (R, (recs R).length) := by
 have := scan_tail R ((recs R).length + 1) [] h (by have := recs_len_ge R h; omega) getR_nil
 rwa [List.append_nil] at this
def encR (l : List S36) (size : Nat) : List (List Int) := (putn (size : Int) :: (chunks size l.length l).map blockB) ++ [putn 0 ++ putn (l.length : Int)]
def encB (l : List S36) (size : Nat) : List Int := recs (encR l size)
theorem chunks_recs (size : Nat) : ∀ (d : Nat) (l : List S36), (∀ x ∈ l, fineS x) → size ≤ 255 → 1 ≤ size → (recs ((chunks size d l).map blockB)).length ≤ 309 * l.length
 | 0, l, _, _, _ => by simp [chunks, recs]
 | d + 1, l, h, hs, h1 => by
  rw [chunks]
  by_cases hl : l = []
  ·rw [if_pos hl]; simp [recs]
  ·have hpos : 1 ≤ l.length := by
    cases l with
    | nil => exact absurd rfl hl
    | cons x l => simp
   have ih := chunks_recs size d (l.drop size) (fun x hx => h x (List.mem_of_mem_drop hx)) hs h1
   have hb := blockB_len (l := l.take size) (fun x hx => h x (List.mem_of_mem_take hx)) (by rw [List.length_take]; omega)
   have hr := recL_le (p := blockB (l.take size)) (by rw [List.length_take] at hb; omega)
   rw [if_neg hl, List.map_cons, recs, List.length_append]
   rw [List.length_drop] at ih
   rw [List.length_take] at hb
   omega
theorem encR_ok (l : List S36) (h : ∀ x ∈ l, fineS x) (hl : l.length ≤ 100000) (size : Nat) (hs : size ≤ 255) (h1 : 1 ≤ size) : Okay (encR l size) := by
 intro p hp
 unfold encR at hp
 rcases List.mem_append.1 hp with hp | hp
 ·rcases List.mem_cons.1 hp with rfl | hp
  ·have := putn_len (size : Int) (by omega) (by omega)
   exact ⟨by omega, putn_bytes _ (by omega) (by omega)⟩
  ·obtain ⟨c, hc, rfl⟩ := List.mem_map.1 hp
   have hf := chunks_fine size _ l h c hc
   rcases chunks_mem size _ l c hc with hm | hm
   ·have := blockB_len hf (by omega)
    exact ⟨by omega, blockB_bytes hf (by omega)⟩
   ·omega
 ·rw [List.mem_singleton.1 hp]
  have p1 := putn_len 0 (by omega) (by omega)
  have p2 := putn_len (l.length : Int) (by omega) (by omega)
  exact ⟨by rw [List.length_append]; omega, bytes_append (putn_bytes _ (by omega) (by omega)) (putn_bytes _ (by omega) (by omega))⟩
theorem encB_len (l : List S36) (h : ∀ x ∈ l, fineS x) (hl : l.length ≤ 100000) (size : Nat) (hs : size ≤ 255) (h1 : 1 ≤ size) : (encB l size).length ≤ 309 * l.length + 100 := by
 have hr := chunks_recs size l.length l h hs h1
 have p0 := putn_len (size : Int) (by omega) (by omega)
 have p1 := putn_len 0 (by omega) (by omega)
 have p2 := putn_len (l.length : Int) (by omega) (by omega)
 have r1 := recL_le (p := putn (size : Int)) (by omega)
 have r2 := recL_le (p := putn 0 ++ putn (l.length : Int)) (by rw [List.length_append]; omega)
 rw [List.length_append] at r2
 unfold encB encR
 rw [recs_append, List.length_append, recs, List.length_append, recs, recs, List.append_nil]
 omega
theorem out_f (k : Nat) (hk : 20 < k) : ∀ (R : List (List Int)) (b : List Int), Okay R → b.length + (recs R).length ≤ 100000000 → run_Encode.out k R b = some (b ++ recs R, 0)
 | [], b, _, _ => by rw [run_Encode.out, recs, List.append_nil]
 | p :: r, b, h, hb => by
  have h1 := h p List.mem_cons_self
  rw [recs, List.length_append] at hb
  rw [run_Encode.out, FrameLib.put_f k hk b p h1.2 (by omega) (by omega), Option.bind_some]
  simp only [if_true]
  rw [out_f k hk r _ (fun q hq => h q (List.mem_cons_of_mem _ hq)) (by rw [List.length_append]; omega), recs, List.append_assoc]
def encS (l : List S36) (a : Int) : List Int × Int := if a < 1 ∨ a > 255 then ([], 1) else if mayS l = 0 then (encB l a.toNat, 0) else ([], mayS l)
theorem enc_f (k : Nat) (l : List S36) (a : Int) (hl : l.length ≤ 100000) (hk : l.length + 2000 < k) : run_Encode.f k l a = some (encS l a) := by
 unfold run_Encode.f encS
 by_cases h1 : a < 1
 ·rw [if_pos h1, if_pos (.inl h1)]
 ·rw [if_neg h1]
  by_cases h2 : a > 255
  ·rw [if_pos h2, if_pos (.inr h2)]
  ·rw [if_neg h2, if_neg (show ¬ (a < 1 ∨ a > 255) by omega), may_f k l (by omega) (by omega), Option.bind_some]
   by_cases h3 : mayS l = 0
   ·obtain ⟨hf, _⟩ := mayS_zero h3
    obtain ⟨size, rfl⟩ := Int.eq_ofNat_of_zero_le (show 0 ≤ a by omega)
    have hsz : 1 ≤ size ∧ size ≤ 255 := by omega
    have hok := encR_ok l hf hl size hsz.2 hsz.1
    have hle := encB_len l hf hl size hsz.2 hsz.1
    unfold encB at hle
    have p1 := putn_len 0 (by omega) (by omega)
    rw [if_pos h3, if_pos h3, if_pos (show l.length < 5000000000000 by omega), u64_small size (by omega), NumLib.put_f k _ [] (by omega) (by omega) (by omega) (by simp), Option.bind_some, Int.toNat_natCast, all_f k l hf size hsz.2 (by omega), Option.bind_some, NumLib.put_f k 0 [] (by omega) (by omega) (by omega) (by simp), Option.bind_some, u64_small _ (by omega), NumLib.put_f k _ _ (by omega) (by omega) (by omega) (by rw [List.nil_append]; omega), Option.bind_some, allB_eq, List.nil_append, List.nil_append]
    have := out_f k (by omega) (encR l size) [] hok (by rw [List.length_nil]; omega)
    rw [List.nil_append] at this
    exact this
   ·rw [if_neg h3, if_neg h3]
end Go.Proofs.Ytnabhfegbnfabaa.RunLib
end
section
namespace Go.Proofs.Ytnabhfegbnfabaa.RunLib
open Go.RowKit Go.Proofs.Ytnabhfegbnfabaa.PRd Go.Proofs.YtnabhfegbnfabaaW.PrintWords Go.Proofs.YtnabhfegbnfabaaW.PrintLast Go.Proofs.YtnabhfegbnfabaaW.PrintMore Go.Proofs.Ytnabhfegbnfabaa.NumLib Go.Proofs.Ytnabhfegbnfabaa.FrameLib
set_option linter.unusedVariables false
set_option linter.unusedSimpArgs false
theorem entry_f (was : ByteArray) (x : S36) (hx : fineS x) (rest : List Int) (hr : Bytes rest) (hrl : rest.length ≤ 100000000) (hw : was.size ≤ 255) : run_entry.f was (entB (bytesOf was) x ++ rest) = some (x.f0, x.f1, rest, true) := by
 have hwl := wd_len hx
 have hs := sh_le (bytesOf was) (wd x)
 have ht := sh_take (bytesOf was) (wd x)
 rw [bytesOf_len] at hs
 unfold entB
 generalize sh (bytesOf was) (wd x) = n at hs ht ⊢
 have hc := hx.2.2
 have e : putn (n : Int) ++ putn (((wd x).length - n : Nat) : Int) ++ (wd x).drop n ++ putn x.f1 ++ rest = putn (n : Int) ++ (putn (((wd x).length - n : Nat) : Int) ++ ((wd x).drop n ++ (putn x.f1 ++ rest))) := by simp only [List.append_assoc]
 rw [e]
 have b1 : Bytes (putn x.f1 ++ rest) := bytes_append (putn_bytes _ (by omega) (by omega)) hr
 have b2 : Bytes ((wd x).drop n ++ (putn x.f1 ++ rest)) := bytes_append (bytes_drop (bytesOf_bytes _) _) b1
 have b3 : Bytes (putn (((wd x).length - n : Nat) : Int) ++ ((wd x).drop n ++ (putn x.f1 ++ rest))) := bytes_append (putn_bytes _ (by omega) (by omega)) b2
 have b4 : Bytes (putn (n : Int) ++ (putn (((wd x).length - n : Nat) : Int) ++ ((wd x).drop n ++ (putn x.f1 ++ rest)))) := bytes_append (putn_bytes _ (by omega) (by omega)) b3
 unfold run_entry.f
 rw [NumLib.get_f _ b4, get_put n (by omega) (by omega), Option.bind_some]
 simp only [Int.toNat_natCast, List.drop_left]
 rw [NumLib.get_f _ b3, get_put _ (by omega) (by omega), Option.bind_some]
 simp only [Int.toNat_natCast, List.drop_left]
 have hd : ((wd x).drop n).length = (wd x).length - n := List.length_drop
 have hlen : ((wd x).drop n ++ (putn x.f1 ++ rest)).length = (wd x).length - n + (putn x.f1 ++ rest).length := by rw [List.length_append, hd]
 have htk : ((wd x).drop n ++ (putn x.f1 ++ rest)).take ((wd x).length - n) = (wd x).drop n := by rw [← hd, List.take_left]
 have hdp : ((wd x).drop n ++ (putn x.f1 ++ rest)).drop ((wd x).length - n) = putn x.f1 ++ rest := by rw [← hd, List.drop_left]
 rw [if_neg (by simp), if_neg (by rw [u64_small _ (by omega)]; omega), if_neg (by
  have hp := putn_len x.f1 (by omega) (by omega)
  rw [hlen, List.length_append, u64_small _ (by omega)]
  omega), htk, hdp]
 rw [if_pos (by
  refine ⟨by omega, by omega, by omega, by rw [hlen]; omega, ?_⟩
  have h1 : (was.extract 0 n).size ≤ 255 := by rw [← bytesOf_len, bytesOf_head, List.length_take, bytesOf_len]; omega
  have h2 : (strOfNums ((wd x).drop n)).size ≤ 255 := by
   rw [← bytesOf_len, bytesOf_str _ (show Bytes ((wd x).drop n) from bytes_drop (bytesOf_bytes _) _), hd]
   omega
  omega), NumLib.get_f _ b1, get_put x.f1 (by omega) (by omega), Option.bind_some]
 simp only [Int.toNat_natCast, List.drop_left]
 have hword : was.extract 0 n ++ strOfNums ((wd x).drop n) = x.f0 := by
  apply bytesOf_inj
  rw [bytesOf_append, bytesOf_head, bytesOf_str _ (show Bytes ((wd x).drop n) from bytes_drop (bytesOf_bytes _) _), ht]
  exact List.take_append_drop n (wd x)
 rw [hword]
 simp
theorem unblock_go : ∀ (l : List S36) (was : ByteArray) (rest : List Int) (acc : List S36), (∀ x ∈ l, fineS x) → Bytes rest → was.size ≤ 255 → acc.length + l.length < 5864062014805 → l.length ≤ 100000 → rest.length ≤ 1000000 →
  run_unblock.go l.length was (entsB (bytesOf was) l ++ rest) acc = some (acc ++ l, rest.length == 0)
 | [], was, rest, acc, _, _, _, _, _, _ => by rw [List.length_nil, run_unblock.go, entsB, List.nil_append, List.append_nil]
 | x :: l, was, rest, acc, h, hr, hw, hacc, hl1, hrl => by
  have hx := h x List.mem_cons_self
  have hl : ∀ y ∈ l, fineS y := fun y hy => h y (List.mem_cons_of_mem _ hy)
  rw [List.length_cons] at hacc hl1
  have hel := entsB_len l (wd x) hl
  rw [List.length_cons, run_unblock.go, entsB, List.append_assoc, entry_f was x hx _ (bytes_append (entsB_bytes l (wd x) hl) hr) (by rw [List.length_append]; omega) hw, Option.bind_some]
  simp only
  rw [if_neg (by simp), if_pos (by omega)]
  have := unblock_go l x.f0 rest (acc ++ [x]) hl hr hx.2.1 (by rw [List.length_append, List.length_singleton]; omega) (by omega) hrl
  rw [show wd x = bytesOf x.f0 from rfl]
  rw [show ({ f0 := x.f0, f1 := x.f1 } : S36) = x from rfl, this, List.append_assoc, List.singleton_append]
theorem unblock_f (l : List S36) (h : ∀ x ∈ l, fineS x) (hl : l.length ≤ 255) : run_unblock.f (blockB l) = some (l, true) := by
 have hb := blockB_bytes h (by omega)
 unfold run_unblock.f
 rw [NumLib.get_f _ hb]
 unfold blockB
 rw [get_put _ (by omega) (by omega), Option.bind_some]
 simp only [Int.toNat_natCast, List.drop_left]
 rw [if_neg (by simp), if_neg (by omega), if_pos (by omega)]
 have := unblock_go l ⟨#[]⟩ [] [] h (by intro x hx; simp at hx) (by decide) (by simp; omega) (by omega) (by simp)
 rw [List.append_nil, List.nil_append] at this
 exact this
theorem rdL_eq (y : List (List Int)) (i : Nat) (h : i < y.length) : rd_L4 y i = y[i] := by
 unfold rd_L4
 rw [Int.toNat_natCast, List.getD_eq_getElem?_getD, List.getElem?_eq_getElem h, Option.getD_some]
def sumLen (y : List (List Int)) : Nat := (y.map List.length).sum
theorem equal_f (a b : List Int) (ha : Bytes a) (hb : Bytes b) : bytes_Equal.f a b = some (decide (a = b)) := by
 unfold bytes_Equal.f
 congr 1
 by_cases h : a = b
 ·rw [decide_eq_true h, h, beq_self_eq_true]
 ·rw [decide_eq_false h]
  exact beq_eq_false_iff_ne.2 (fun e => h ((str_inj ha hb).1 e))
theorem encS_bytes (l : List S36) (a : Int) (hl : l.length ≤ 100000) : Bytes (encS l a).1 := by
 unfold encS
 by_cases h1 : a < 1 ∨ a > 255
 ·rw [if_pos h1]; intro x hx; simp at hx
 ·rw [if_neg h1]
  by_cases h2 : mayS l = 0
  ·rw [if_pos h2]
   exact recs_bytes _ (encR_ok l (mayS_zero h2).1 hl _ (by omega) (by omega))
  ·rw [if_neg h2]; intro x hx; simp at hx
def endS (x : List S36) (a : Int) (b : List Int) : List S36 × Int := if (encS x a).2 = 0 then (if (encS x a).1 = b then (x, 0) else ([], 2)) else ([], 2)
theorem dec_end (k : Nat) (b : List Int) (hb : Bytes b) (n : Int) (acc : List S36) (y : List (List Int)) (hk : acc.length + 2000 < k) (hacc : acc.length ≤ 100000) (i : Int) (hi : ¬ i < (y.length : Int)) :
  run_Decode.l0 (k + 1) b n acc y (y.length : Int) i = some (endS acc (wrap64 n) b) := by
 rw [run_Decode.l0, if_neg hi, enc_f k acc _ hacc hk, Option.bind_some]
 unfold endS
 by_cases h : (encS acc (wrap64 n)).2 = 0
 ·rw [if_pos h, if_pos h, equal_f _ _ (encS_bytes acc _ hacc) hb, Option.bind_some]
  by_cases h2 : (encS acc (wrap64 n)).1 = b
  ·rw [decide_eq_true h2, if_pos rfl, if_pos h2]
  ·rw [decide_eq_false h2, if_neg (by simp), if_neg h2]
 ·rw [if_neg h, if_neg h]
theorem dec_l0_chunks (b : List Int) (hb : Bytes b) (n : Int) (y : List (List Int)) (hyl : y.length ≤ 1000000) : ∀ (cs : List (List S36)) (k i : Nat) (acc : List S36), (∀ c ∈ cs, (∀ x ∈ c, fineS x) ∧ c.length ≤ 255) → cs.length + 200000 < k → i ≤ y.length → y.drop i = cs.map blockB → acc.length + cs.flatten.length ≤ 100000 →
  run_Decode.l0 k b n acc y (y.length : Int) i = some (endS (acc ++ cs.flatten) (wrap64 n) b)
 | [], k, i, acc, _, hk, hi, hy, ha => by
  obtain ⟨k, rfl⟩ : ∃ m, k = m + 1 := ⟨k - 1, by omega⟩
  have hlen := congrArg List.length hy
  rw [List.length_drop, List.map_nil, List.length_nil] at hlen
  rw [List.flatten_nil] at ha ⊢
  rw [List.append_nil]
  exact dec_end k b hb n acc y (by omega) (by omega) i (by omega)
 | c :: cs, k, i, acc, hc, hk, hi, hy, ha => by
  obtain ⟨k, rfl⟩ : ∃ m, k = m + 1 := ⟨k - 1, by omega⟩
  have hlen := congrArg List.length hy
  rw [List.length_drop, List.map_cons, List.length_cons] at hlen
  have hlt : i < y.length := by omega
  have hw : wrap64 ((i : Int) + 1) = ((i + 1 : Nat) : Int) := by unfold wrap64; omega
  rw [List.drop_eq_getElem_cons hlt, List.map_cons] at hy
  injection hy with hy1 hy2
  rw [List.length_cons] at hk
  rw [List.flatten_cons, List.length_append] at ha
  have hc0 := hc c List.mem_cons_self
  rw [run_Decode.l0, if_pos (by omega), if_pos (by omega), if_pos (by omega), rdL_eq y i hlt, hy1, unblock_f c hc0.1 hc0.2, Option.bind_some]
  simp only
  rw [if_pos trivial, if_pos (by omega), hw, dec_l0_chunks b hb n y hyl cs k (i + 1) (acc ++ c) (fun c' h' => hc c' (List.mem_cons_of_mem _ h')) (by omega) (by omega) hy2 (by rw [List.length_append]; omega), List.flatten_cons, List.append_assoc]
def Read (b : List Int) (r : List S36 × Int) : Prop := r = ([], 2) ∨ ∃ (x : List S36) (size : Nat), r = (x, 0) ∧ 1 ≤ size ∧ size ≤ 255 ∧ mayS x = 0 ∧ x.length ≤ b.length ∧ encB x size = b
end Go.Proofs.Ytnabhfegbnfabaa.RunLib
end
section
namespace Go.Proofs.Ytnabhfegbnfabaa.RunLib
open Go.RowKit Go.Proofs.Ytnabhfegbnfabaa.PRd Go.Proofs.YtnabhfegbnfabaaW.PrintWords Go.Proofs.YtnabhfegbnfabaaW.PrintLast Go.Proofs.YtnabhfegbnfabaaW.PrintMore Go.Proofs.Ytnabhfegbnfabaa.NumLib Go.Proofs.Ytnabhfegbnfabaa.FrameLib
set_option linter.unusedVariables false
set_option linter.unusedSimpArgs false
end Go.Proofs.Ytnabhfegbnfabaa.RunLib
end
section
namespace Go.Proofs.Ytnabhfegbnfabaa.RunLib
open Go.RowKit Go.Proofs.Ytnabhfegbnfabaa.PRd Go.Proofs.YtnabhfegbnfabaaW.PrintWords Go.Proofs.YtnabhfegbnfabaaW.PrintLast Go.Proofs.YtnabhfegbnfabaaW.PrintMore Go.Proofs.Ytnabhfegbnfabaa.NumLib Go.Proofs.Ytnabhfegbnfabaa.FrameLib
set_option linter.unusedVariables false
set_option linter.unusedSimpArgs false
theorem mid_rows {α : Type} (a : α) (bs : List α) (z : α) : (((a :: bs) ++ [z]).take (bs.length + 1)).drop 1 = bs := by
 rw [show bs.length + 1 = (a :: bs).length from rfl, List.take_left, List.drop_succ_cons, List.drop_zero]
theorem dec_fin (l : List S36) (hm : mayS l = 0) (hl : l.length ≤ 90000) (size : Nat) (h1 : 1 ≤ size) (hs : size ≤ 255) (hb : Bytes (encB l size)) (hf : ∀ x ∈ l, fineS x) (k : Nat) (hk : 350000 < k) (hw2 : wrap64 (size : Int) = size) (hcl : (chunks size l.length l).length ≤ 100000) (y : List (List Int)) (hy : y = (chunks size l.length l).map blockB) :
  run_Decode.l0 k (encB l size) (size : Int) [] y (y.length : Int) 0 = some (l, 0) := by
 have hcs : ∀ c ∈ chunks size l.length l, (∀ x ∈ c, fineS x) ∧ c.length ≤ 255 := by
  intro c hc
  refine ⟨chunks_fine size _ l hf c hc, ?_⟩
  rcases chunks_mem size _ l c hc with h | h
  ·exact Nat.le_trans h.1 hs
  ·omega
 have hj := chunks_join size h1 l.length l (Nat.le_refl _)
 have hyl : y.length ≤ 1000000 := by rw [hy, List.length_map]; omega
 have := dec_l0_chunks (encB l size) hb (size : Int) y hyl (chunks size l.length l) k 0 [] hcs (by omega) (Nat.zero_le _) (by rw [List.drop_zero]; exact hy) (by rw [hj, List.length_nil]; omega)
 rw [hj, List.nil_append, hw2] at this
 have e : endS l (size : Int) (encB l size) = (l, 0) := by
  have hn : ¬ ((size : Int) < 1 ∨ (size : Int) > 255) := by omega
  have hE : encS l (size : Int) = (encB l size, 0) := by
   unfold encS
   rw [if_neg hn, if_pos hm, Int.toNat_natCast]
  unfold endS
  rw [hE, if_pos rfl, if_pos rfl]
 rw [e] at this
 exact this
theorem dec_enc (l : List S36) (hm : mayS l = 0) (hl : l.length ≤ 90000) (size : Nat) (h1 : 1 ≤ size) (hs : size ≤ 255) (k : Nat) (hk : (encB l size).length + 400000 < k) : run_Decode.f k (encB l size) = some (l, 0) := by
 have hn255 : ¬ (size : Int) > 255 := by omega
 have hde : decide ((size : Int) > 255) = false := decide_eq_false hn255
 have hf := (mayS_zero hm).1
 have hok := encR_ok l hf (by omega) size hs h1
 have hle := encB_len l hf (by omega) size hs h1
 have hb : Bytes (encB l size) := recs_bytes _ hok
 have hsc := scan_recs _ hok
 have hcn := chunks_count size h1 l.length l (Nat.le_refl _)
 unfold run_Decode.f
 rw [scan_f _ hb (by omega) k (by omega), Option.bind_some, show scanN ((encB l size).length + 1) (encB l size) = (encR l size, (encB l size).length) from hsc]
 simp only
 have hRl : (encR l size).length = (chunks size l.length l).length + 2 := by
  unfold encR
  rw [List.length_append, List.length_cons, List.length_map, List.length_singleton]
 have hcl : (chunks size l.length l).length ≤ 100000 := by
  rw [hcn]
  exact Nat.le_trans (Nat.div_le_self _ _) (by omega)
 have e0 : rd_L4 (encR l size) 0 = putn (size : Int) := rfl
 rw [if_neg (by omega), if_pos (by omega), e0, NumLib.get_f _ (putn_bytes _ (by omega) (by omega))]
 have hgp := get_put (size : Int) (by omega) (by omega) []
 rw [List.append_nil] at hgp
 rw [hgp, Option.bind_some]
 simp only
 obtain ⟨k, rfl⟩ : ∃ m, k = m + 1 := ⟨k - 1, by omega⟩
 have hkk : 350000 < k := by omega
 have hw : wrap64 (((encR l size).length : Int) - 1) = (((encR l size).length - 1 : Nat) : Int) := by unfold wrap64; omega
 have hw2 : wrap64 (size : Int) = size := by unfold wrap64; omega
 rw [if_pos trivial]
 rw [hde]
 rw [run_Decode.j0]
 rw [if_neg (show ¬ (false = true) by simp)]
 rw [hw]
 have q1 : (1 : Int) ≤ (((encR l size).length - 1 : Nat) : Int) := by omega
 have q2 : (((encR l size).length - 1 : Nat) : Int) ≤ ((encR l size).length : Int) := by omega
 rw [if_pos q1, if_pos q2, Option.bind_some, Int.toNat_natCast]
 have hy : ((encR l size).take ((encR l size).length - 1)).drop 1 = (chunks size l.length l).map blockB := by
  have hq : (encR l size).length - 1 = ((chunks size l.length l).map blockB).length + 1 := by rw [hRl, List.length_map]; omega
  rw [hq]
  exact mid_rows _ _ _
 refine dec_fin l hm (by omega) size h1 hs hb hf k hkk ?_ hcl _ hy
 exact hw2
end Go.Proofs.Ytnabhfegbnfabaa.RunLib
end
section
namespace Go.Proofs.Ytnabhfegbnfabaa.NumLib
open Go.RowKit Go.Proofs.Ytnabhfegbnfabaa.PRd Go.Proofs.YtnabhfegbnfabaaW.PrintWords Go.Proofs.YtnabhfegbnfabaaW.PrintLast
structure Pw (s : Nat) (p : Int) : Prop where
 eq : p = 128 ^ s
def fin (l : List Int) (s : Nat) (n p : Int) (t : List Int) : Option Nat → Int × Int × Int
 | none => (0, 0, 3)
 | some c => if s + c = 10 ∨ (s + c = 9 ∧ rd l (s + c : Nat) > 1) ∨ (0 < s + c ∧ rd l (s + c : Nat) = 0) then (0, 0, 2) else (n + p * valL (c + 1) t, ((s + c : Nat) : Int) + 1, 0)
end Go.Proofs.Ytnabhfegbnfabaa.NumLib
end
section
namespace Go.Proofs.Ytnabhfegbnfabaa.CrcLib
open Go.RowKit Go.Proofs.Ytnabhfegbnfabaa.PRd Go.Proofs.YtnabhfegbnfabaaW.PrintWords Go.Proofs.YtnabhfegbnfabaaW.PrintLast
end Go.Proofs.Ytnabhfegbnfabaa.CrcLib
end
section
namespace Go.Proofs.Ytnabhfegbnfabaa.FrameLib
open Go.RowKit Go.Proofs.Ytnabhfegbnfabaa.PRd Go.Proofs.YtnabhfegbnfabaaW.PrintWords Go.Proofs.YtnabhfegbnfabaaW.PrintLast Go.Proofs.Ytnabhfegbnfabaa.NumLib
end Go.Proofs.Ytnabhfegbnfabaa.FrameLib
end
section
namespace Go.Proofs.Ytnabhfegbnfabaa.RunLib
open Go.RowKit Go.Proofs.Ytnabhfegbnfabaa.PRd Go.Proofs.YtnabhfegbnfabaaW.PrintWords Go.Proofs.YtnabhfegbnfabaaW.PrintLast Go.Proofs.YtnabhfegbnfabaaW.PrintMore Go.Proofs.Ytnabhfegbnfabaa.NumLib Go.Proofs.Ytnabhfegbnfabaa.FrameLib
set_option linter.unusedVariables false
set_option linter.unusedSimpArgs false
def prevW (l : List S36) : Nat → List Int
 | 0 => []
 | j + 1 => wd (l.getD j z36)
def endR (l : List S36) : List Int := putn 0 ++ putn (l.length : Int)
def takeS (l : List Int) (r : ByteArray × Int × List Int × Bool) : ByteArray × Int × Int := if r.2.2.2 = true then (r.1, r.2.1, ((l.length - r.2.2.1.length : Nat) : Int)) else (⟨#[]⟩, 0, 0)
end Go.Proofs.Ytnabhfegbnfabaa.RunLib
end
section
namespace Go.Proofs.Ytnabhfegbnfabaa.RowKd
open Go.RowKit Go.ChangeShapes Go.WideShapes Go.Proofs.YtnabhfegbnfabaaW.PrintWords
structure Tells {α : Type} (P : Program) (t : TypeId) (d : Kd α) (wf : α → Prop) : Prop where
 cells : P.cellsOf t = d.sz
 down : ∀ {H : Type} {enc : TypeId × Value → H} {w : World} {base : Nat} {held : Bool} {fuel : Nat} {cs : List Value} {x : DataW H × List MemPlace},
  DataW.trod enc P w base (fun _ => true) held fuel t cs = some x → ∃ y, d.K w y cs ∧ wf y
theorem tells_int {P : Program} {t : TypeId} {k : IntKind} (ht : P.underlying t = some (.int k)) (hc : P.cellsOf t = 1) : Tells P t (Kd.int k) (fun n => (Lit.int k n).wf = true) := by
 refine ⟨hc, fun h => ?_⟩
 obtain ⟨n, rfl, _, hw⟩ := DataW.trod_int ht h
 exact ⟨n, rfl, hw⟩
theorem tells_string {P : Program} {t : TypeId} (ht : P.underlying t = some .string) (hc : P.cellsOf t = 1) : Tells P t Kd.string (fun s => s.size ≤ maxLen) := by
 refine ⟨hc, fun h => ?_⟩
 obtain ⟨n, rfl, _, hw⟩ := DataW.trod_string ht h
 exact ⟨n, rfl, hw⟩
theorem tells_slice {α : Type} {P : Program} {t e : TypeId} {d : Kd α} {wf : α → Prop} (ht : P.underlying t = some (.slice e)) (hc : P.cellsOf t = 1) (he : Tells P e d wf) :
  Tells P t (Kd.slice e d) (fun xs => xs.length ≤ maxLen ∧ ∀ x ∈ xs, wf x) := by
 refine ⟨hc, @fun H enc w base held fuel cs x h => ?_⟩
 rcases Go.Deep.open_slice ht h with ⟨rfl, _⟩ | ⟨a, len, cap, m, n, D, Pl, rfl, hb, hl, hm, hmm, _, hx⟩
 ·exact ⟨[], ⟨none, 0, rfl, Nat.le_refl _, rfl, by simp, fun h => absurd h (Nat.lt_irrefl _)⟩, by simp, by simp⟩
 ·have hlm : len ≤ m := by rw [hmm]; simp only [if_true]; exact hl
  have one : ∀ i, i < len → ∃ y : Option α, ∃ z, y = some z ∧ (∃ c, c.length = d.sz ∧ d.K w z c ∧ ∀ j u, c[j]? = some u → w.cell? (a.add (i * d.sz + j)) = some u) ∧ wf z := by
   intro i hi
   obtain ⟨cs', h1, h2⟩ := hx i (Nat.lt_of_lt_of_le hi hlm)
   obtain ⟨z, hK, hw⟩ := he.down h2
   obtain ⟨_, hlen, hcell⟩ := World.cells?_some h1
   rw [he.cells] at hlen hcell
   refine ⟨some z, z, rfl, ⟨cs', hlen, hK, fun j u hj => ?_⟩, hw⟩
   have hj' : j < d.sz := by rw [← hlen]; exact (List.getElem?_eq_some_iff.1 hj).1
   rw [← Go.Deep.add_add, ← hj]
   exact hcell j hj'
  obtain ⟨f, hf⟩ := Go.Deep.choose_lt (α := Option α) one
  have key : ∃ xs : List α, xs.length = len ∧ ∀ i z, xs[i]? = some z → (∃ c, c.length = d.sz ∧ d.K w z c ∧ ∀ j u, c[j]? = some u → w.cell? (a.add (i * d.sz + j)) = some u) ∧ wf z := by
   refine ⟨(List.range len).pmap (fun i (hi : i < len) => (f i).get (by obtain ⟨z, hz, _⟩ := hf i hi; rw [hz]; rfl)) (fun i hi => List.mem_range.1 hi), by simp, fun i z hz => ?_⟩
   obtain ⟨hi, hz⟩ := List.getElem?_eq_some_iff.1 hz
   simp only [List.length_pmap, List.length_range] at hi
   obtain ⟨z', hz', h1, h2⟩ := hf i hi
   simp only [List.getElem_pmap, List.getElem_range, hz', Option.get_some] at hz
   subst hz
   exact ⟨h1, h2⟩
  obtain ⟨xs, hxl, hxs⟩ := key
  refine ⟨xs, ⟨some a, cap, by rw [hxl], by rw [hxl]; exact hl, rfl, ?_, fun _ => ⟨a, rfl, fun j p hj => (hxs j p hj).1⟩⟩, ?_, fun x hx => ?_⟩
  ·rw [hxl]; simp only [maxLen] at hm; omega
  ·rw [hxl]; exact Nat.le_trans hl hm
  ·obtain ⟨i, hi, rfl⟩ := List.getElem_of_mem hx
   exact (hxs i _ (List.getElem?_eq_getElem hi)).2
theorem tells_iso {α β : Type} {P : Program} {t : TypeId} {d : Kd α} {wf : α → Prop} (f : β → α) (g : α → β) (hfg : ∀ a, f (g a) = a) (h : Tells P t d wf) : Tells P t (Kd.iso d f) (fun y => wf (f y)) := by
 refine ⟨h.cells, fun hd => ?_⟩
 obtain ⟨y, hK, hw⟩ := h.down hd
 exact ⟨g y, by show d.K _ (f (g y)) _; rw [hfg]; exact hK, by rw [hfg]; exact hw⟩
theorem tells_struct2 {α β : Type} {P : Program} {t : TypeId} {f0 f1 : Field} {da : Kd α} {db : Kd β} {wa : α → Prop} {wb : β → Prop} (ht : P.underlying t = some (.struct #[f0, f1])) (h0 : f0.offset = 0) (h1 : f1.offset = P.cellsOf f0.type)
  (hc : P.cellsOf t = P.cellsOf f0.type + P.cellsOf f1.type) (ha : Tells P f0.type da wa) (hb : Tells P f1.type db wb) : Tells P t (Kd.pair da db) (fun y => wa y.1 ∧ wb y.2) := by
 refine ⟨by rw [hc, ha.cells, hb.cells]; rfl, fun h => ?_⟩
 obtain ⟨xs, n, _, _, hlen, hl, hx⟩ := DataW.trod_struct ht h
 have e0 := hx 0 f0 rfl
 have e1 := hx 1 f1 rfl
 rw [List.getElem?_eq_getElem (by rw [hl]; simp)] at e0 e1
 obtain ⟨y0, hK0, hw0⟩ := ha.down e0
 obtain ⟨y1, hK1, hw1⟩ := hb.down e1
 refine ⟨(y0, y1), ⟨_, _, ?_, hK0, hK1⟩, hw0, hw1⟩
 rw [h0, h1, List.drop_zero, List.take_of_length_le (l := List.drop _ _) (by rw [List.length_drop, hlen, hc]; omega), List.take_append_drop]
theorem tells_arg {α : Type} {H : Type} {enc : TypeId × Value → H} {P : Program} {t e : TypeId} {d : Kd α} {wf : List α → Prop} {w : World} {base : Nat} {held : Bool} {a : Option Addr} {len cap : Nat} {x : DataW H} {ps : List MemPlace}
  (h : Tells P t (Kd.slice e d) wf) (hd : DataW.Trod enc P w base (fun _ => true) held t (.slice a len cap) x ps) :
  ∃ xs : List α, len = xs.length ∧ xs.length ≤ cap ∧ d.C w a xs.length xs ∧ wf xs := by
 obtain ⟨fuel, hf⟩ := hd
 obtain ⟨xs, ⟨A, c, hcs, hl, hC⟩, hw⟩ := h.down hf
 simp [Value.cells] at hcs
 obtain ⟨rfl, rfl, rfl⟩ := hcs
 exact ⟨xs, rfl, hl, hC, hw⟩
end Go.Proofs.Ytnabhfegbnfabaa.RowKd
end
section
namespace Go.Proofs.Ytnabhfegbnfabaa.RowKd
open Go.RowKit Go.ChangeShapes Go.WideShapes Go.Proofs.YtnabhfegbnfabaaW.PrintWords Go.Proofs.Ytnabhfegbnfabaa.PRd
theorem tells36 : Tells Try.prog 36 k36 (fun y : S36 => y.f0.size ≤ maxLen ∧ (Lit.int .u64 y.f1).wf = true) :=
 tells_iso (fun x : S36 => (x.f0, x.f1)) (fun p => ⟨p.1, p.2⟩) (fun _ => rfl)
  (tells_struct2 Try.underlying36 rfl (by kernel_rfl) (by kernel_rfl) (tells_string (by kernel_rfl) (by kernel_rfl)) (tells_int (by kernel_rfl) (by kernel_rfl)))
end Go.Proofs.Ytnabhfegbnfabaa.RowKd
end
section
namespace Go.Proofs.Ytnabhfegbnfabaa.RunLib
open Go.RowKit Go.Proofs.Ytnabhfegbnfabaa.PRd Go.Proofs.YtnabhfegbnfabaaW.PrintWords Go.Proofs.YtnabhfegbnfabaaW.PrintLast Go.Proofs.YtnabhfegbnfabaaW.PrintMore Go.Proofs.Ytnabhfegbnfabaa.NumLib Go.Proofs.Ytnabhfegbnfabaa.FrameLib
set_option linter.unusedVariables false
set_option linter.unusedSimpArgs false
theorem size_of (a : Int) (h : (Lit.int .u8 a).wf = true) : ∃ n : Nat, 1 ≤ n ∧ n ≤ 255 ∧ wrap64 (1 + wrap64 (Int.tmod a 255)) = (n : Int) ∧ (n : Int) = 1 + a % 255 := by
 have hb := wf_byte h
 rw [Int.tmod_eq_emod_of_nonneg hb.1]
 refine ⟨(1 + a % 255).toNat, by omega, by omega, ?_, by omega⟩
 unfold wrap64
 omega
theorem encS_ok (l : List S36) (hm : mayS l = 0) (n : Nat) (h1 : 1 ≤ n) (h2 : n ≤ 255) : encS l (n : Int) = (encB l n, 0) := by
 have hn : ¬ ((n : Int) < 1 ∨ (n : Int) > 255) := by omega
 unfold encS
 rw [if_neg hn, if_pos hm, Int.toNat_natCast]
theorem encS_bad (l : List S36) (hm : mayS l ≠ 0) (n : Nat) (h1 : 1 ≤ n) (h2 : n ≤ 255) : encS l (n : Int) = ([], mayS l) := by
 have hn : ¬ ((n : Int) < 1 ∨ (n : Int) > 255) := by omega
 unfold encS
 rw [if_neg hn, if_neg hm]
theorem dec_nil (k : Nat) (hk : 500000 < k) : run_Decode.f k [] = some ([], 2) := by
 have hs : scanN 1 ([] : List Int) = ([], 0) := by rw [scanN, if_neg getR_nil]
 unfold run_Decode.f
 rw [scan_f [] (by intro x hx; simp at hx) (by simp) k (by simp; omega), Option.bind_some, show scanN (([] : List Int).length + 1) ([] : List Int) = ([], 0) from hs]
 rfl
theorem one_may : mayS [exOne] = 0 := by decide +kernel
theorem shown_f (k : Nat) (hk : 10000000 < k) : l10_shown.f k = some true := by
 have he : encS [exOne] 1 = (encB [exOne] 1, 0) := encS_ok [exOne] one_may 1 (by omega) (by omega)
 have hbl := encB_len [exOne] (mayS_zero one_may).1 (by simp) 1 (by omega) (by omega)
 rw [List.length_singleton] at hbl
 have hd := dec_enc [exOne] one_may (by simp) 1 (by omega) (by omega) k (by omega)
 unfold l10_shown.f
 rw [enc_f k [exOne] 1 (by simp) (by simp; omega), he, Option.bind_some]
 simp only
 rw [hd, Option.bind_some, if_pos]
 exact ⟨trivial, rfl, rfl, (by decide +kernel : (rhd [exOne]).f0.toList = [97]), rfl⟩
end Go.Proofs.Ytnabhfegbnfabaa.RunLib
end
section
namespace Go.Proofs.Ytnabhfegbnfabaa.Pure
open Go.RowKit Go.Proofs.Ytnabhfegbnfabaa.PRd Go.Proofs.YtnabhfegbnfabaaW.PrintWords Go.Proofs.YtnabhfegbnfabaaW.PrintLast Go.Proofs.YtnabhfegbnfabaaW.PrintMore Go.Proofs.Ytnabhfegbnfabaa.NumLib Go.Proofs.Ytnabhfegbnfabaa.FrameLib Go.Proofs.Ytnabhfegbnfabaa.RunLib
set_option linter.unusedVariables false
set_option linter.unusedSimpArgs false
theorem ReaderAll (l0 : List S36) (a1 : Int) (w0 : l0.length ≤ maxLen ∧ ∀ x ∈ l0, x.f0.size ≤ maxLen ∧ (Lit.int .u64 x.f1).wf = true) (w1 : (Lit.int .u8 a1).wf = true) : ∃ k, l10_ReaderAll.f k l0 a1 = some true := by
 refine ⟨20000000, ?_⟩
 unfold l10_ReaderAll.f
 rw [shown_f 20000000 (by omega), Option.bind_some]
 by_cases h : (l0.length : Int) > 200
 ·rw [if_pos h]
 ·rw [if_neg h]
  obtain ⟨n, n1, n2, en, _⟩ := size_of a1 w1
  rw [en, enc_f 20000000 l0 (n : Int) (by omega) (by omega), Option.bind_some]
  by_cases hm : mayS l0 = 0
  ·have hbl := encB_len l0 (mayS_zero hm).1 (by omega) n n2 n1
   have hd := dec_enc l0 hm (by omega) n n1 n2 20000000 (by omega)
   rw [encS_ok l0 hm n n1 n2]
   simp only
   rw [hd, Option.bind_some, if_pos trivial, if_pos ⟨rfl, eqS_refl _, trivial⟩]
   exact same_f l0 (by omega) 20000000 (by omega)
  ·rw [encS_bad l0 hm n n1 n2]
   simp only
   rw [dec_nil 20000000 (by omega), Option.bind_some, if_neg hm, if_pos ⟨rfl, trivial⟩]
end Go.Proofs.Ytnabhfegbnfabaa.Pure
end
