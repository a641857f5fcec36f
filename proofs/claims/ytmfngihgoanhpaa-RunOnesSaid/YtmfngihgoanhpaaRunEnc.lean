/- Plain laws of runs, on: what entries are encoded as, by the program and by the reference. -/
import Derived.Test.YtmfngihgoanhpaaRunLib
namespace Go.Proofs.Ytmfngihgoanhpaa.RunLib
open Go.RowKit Go.Proofs.Ytmfngihgoanhpaa.PRun Go.Proofs.YtmfngihgoanhpaaW.PrintWords Go.Proofs.YtmfngihgoanhpaaW.PrintLast Go.Proofs.YtmfngihgoanhpaaW.PrintMore Go.Proofs.Ytmfngihgoanhpaa.NumLib Go.Proofs.Ytmfngihgoanhpaa.FrameLib
set_option linter.unusedVariables false
set_option linter.unusedSimpArgs false

def wd (x : S44) : List Int := bytesOf x.f0
def entB (was : List Int) (x : S44) : List Int := putn (sh was (wd x) : Nat) ++ putn (((wd x).length - sh was (wd x) : Nat) : Int) ++ (wd x).drop (sh was (wd x)) ++ putn x.f1
def entsB : List Int → List S44 → List Int
  | _, [] => []
  | was, x :: l => entB was x ++ entsB (wd x) l
def blockB (l : List S44) : List Int := putn (l.length : Int) ++ entsB [] l
theorem wd_len {x : S44} (h : fineS x) : 1 ≤ (wd x).length ∧ (wd x).length ≤ 255 := by
  unfold wd
  rw [bytesOf_len]
  exact ⟨h.1, h.2.1⟩
theorem entB_len (was : List Int) {x : S44} (h : fineS x) : (entB was x).length ≤ 285 := by
  have h1 := wd_len h
  have h2 := (sh_le was (wd x)).2
  have h3 := putn_len ((sh was (wd x) : Nat) : Int) (by omega) (by omega)
  have h4 := putn_len (((wd x).length - sh was (wd x) : Nat) : Int) (by omega) (by omega)
  have h5 := putn_len x.f1 (by have := h.2.2.1; omega) (by have := h.2.2.2; omega)
  unfold entB
  rw [List.length_append, List.length_append, List.length_append, List.length_drop]
  omega
theorem entB_bytes (was : List Int) {x : S44} (h : fineS x) : Bytes (entB was x) := by
  have h1 := wd_len h
  have h2 := (sh_le was (wd x)).2
  unfold entB
  exact bytes_append (bytes_append (bytes_append (putn_bytes _ (by omega) (by omega)) (putn_bytes _ (by omega) (by omega))) (bytes_drop (bytesOf_bytes _) _)) (putn_bytes _ (by have := h.2.2.1; omega) (by have := h.2.2.2; omega))
theorem entsB_len : ∀ (l : List S44) (was : List Int), (∀ x ∈ l, fineS x) → (entsB was l).length ≤ 285 * l.length
  | [], _, _ => by simp [entsB]
  | x :: l, was, h => by
    have h1 := entB_len was (h x List.mem_cons_self)
    have h2 := entsB_len l (wd x) (fun y hy => h y (List.mem_cons_of_mem _ hy))
    rw [entsB, List.length_append, List.length_cons]
    omega
theorem entsB_bytes : ∀ (l : List S44) (was : List Int), (∀ x ∈ l, fineS x) → Bytes (entsB was l)
  | [], _, _ => by intro x hx; simp [entsB] at hx
  | x :: l, was, h => by
    rw [entsB]
    exact bytes_append (entB_bytes was (h x List.mem_cons_self)) (entsB_bytes l (wd x) (fun y hy => h y (List.mem_cons_of_mem _ hy)))
theorem blockB_len {l : List S44} (h : ∀ x ∈ l, fineS x) (hl : l.length ≤ 100000) : (blockB l).length ≤ 10 + 285 * l.length := by
  have h1 := entsB_len l [] h
  have h2 := putn_len (l.length : Int) (by omega) (by omega)
  unfold blockB
  rw [List.length_append]
  omega
theorem blockB_bytes {l : List S44} (h : ∀ x ∈ l, fineS x) (hl : l.length ≤ 100000) : Bytes (blockB l) :=
  bytes_append (putn_bytes _ (by omega) (by omega)) (entsB_bytes l [] h)

theorem u64_small (n : Nat) (h : n < 1000000000) : IntKind.u64.wrap (n : Int) = n := by rw [u64_wrap]; omega
theorem tail_size (s : ByteArray) (n : Nat) : (s.extract n s.size).size = s.size - n := by
  rw [← bytesOf_len, bytesOf_tail, List.length_drop, bytesOf_len]

theorem block_l0 (l : List S44) (h : ∀ x ∈ l, fineS x) (hl : l.length ≤ 100000) (d : Nat) : ∀ (k i : Nat) (was : ByteArray) (acc : List Int), d + 300 < k → i + d = l.length → was.size ≤ 255 → acc.length + 300 * d ≤ 100000000 →
    run_block.l0 k acc was l (l.length : Int) i = some (acc ++ entsB (bytesOf was) (l.drop i)) := by
  induction d with
  | zero =>
    intro k i was acc hk hi _ _
    obtain ⟨k, rfl⟩ : ∃ m, k = m + 1 := ⟨k - 1, by omega⟩
    rw [run_block.l0, if_neg (by omega), List.drop_of_length_le (by omega), entsB, List.append_nil]
  | succ d ih =>
    intro k i was acc hk hi hw hacc
    obtain ⟨k, rfl⟩ : ∃ m, k = m + 1 := ⟨k - 1, by omega⟩
    have hwr : wrap64 ((i : Int) + 1) = ((i + 1 : Nat) : Int) := by unfold wrap64; omega
    have hlt : i < l.length := by omega
    have hx := h l[i] (List.getElem_mem hlt)
    rw [run_block.l0, if_pos (by omega), if_pos (by omega), if_pos (by omega), rdT_eq l i hlt, hwr, List.drop_eq_getElem_cons hlt, entsB]
    generalize l[i] = x at hx ⊢
    have hwl := wd_len hx
    have hs := (sh_le (bytesOf was) (wd x)).2
    have hxs : x.f0.size = (wd x).length := (bytesOf_len _).symm
    rw [shared_f was x.f0 (by omega) k (by omega), Option.bind_some, show bytesOf x.f0 = wd x from rfl]
    generalize hn : sh (bytesOf was) (wd x) = n at hs ⊢
    have p1 := putn_len (n : Int) (by omega) (by omega)
    have p2 := putn_len (((wd x).length - n : Nat) : Int) (by omega) (by omega)
    have p3 := putn_len x.f1 (by have := hx.2.2.1; omega) (by have := hx.2.2.2; omega)
    have e2 : IntKind.u64.wrap (wrap64 ((x.f0.size : Int) - (n : Int))) = (((wd x).length - n : Nat) : Int) := by
      rw [hxs, show ((wd x).length : Int) - (n : Int) = (((wd x).length - n : Nat) : Int) by omega, show wrap64 (((wd x).length - n : Nat) : Int) = (((wd x).length - n : Nat) : Int) by unfold wrap64; omega, u64_small _ (by omega)]
    rw [u64_small n (by omega), NumLib.put_f k n acc (by omega) (by omega) (by omega) (by omega), Option.bind_some, e2, NumLib.put_f k _ (acc ++ putn n) (by omega) (by omega) (by omega) (by rw [List.length_append]; omega), Option.bind_some]
    have hlen2 : (acc ++ putn (n : Int) ++ putn (((wd x).length - n : Nat) : Int)).length ≤ acc.length + 20 := by rw [List.length_append, List.length_append]; omega
    rw [if_pos (by omega), if_pos (by omega), Int.toNat_natCast, if_pos (by rw [tail_size]; omega), bytesOf_tail]
    have hlen3 : (acc ++ putn (n : Int) ++ putn (((wd x).length - n : Nat) : Int) ++ (wd x).drop n).length ≤ acc.length + 275 := by rw [List.length_append, List.length_drop]; omega
    rw [show bytesOf x.f0 = wd x from rfl, NumLib.put_f k x.f1 _ (by omega) (by have := hx.2.2.1; omega) (by have := hx.2.2.2; omega) (by omega), Option.bind_some, ih k (i + 1) x.f0 _ (by omega) (by omega) (by omega) (by rw [List.length_append]; omega)]
    unfold entB
    rw [hn]
    simp only [List.append_assoc]
    rfl
theorem block_f (k : Nat) (l : List S44) (h : ∀ x ∈ l, fineS x) (hl : l.length ≤ 100000) (hk : l.length + 300 < k) : run_block.f k l = some (blockB l) := by
  unfold run_block.f
  have p1 := putn_len (l.length : Int) (by omega) (by omega)
  rw [u64_small _ (by omega), NumLib.put_f k _ [] (by omega) (by omega) (by omega) (by simp), Option.bind_some]
  have := block_l0 l h hl l.length k 0 ⟨#[]⟩ ([] ++ putn (l.length : Int)) hk (by omega) (by decide) (by rw [List.nil_append]; omega)
  rw [List.drop_zero] at this
  exact this

/-! ### The blocks -/
def chunks (size : Nat) : Nat → List S44 → List (List S44)
  | 0, _ => []
  | d + 1, l => if l = [] then [] else l.take size :: chunks size d (l.drop size)
theorem chunks_nil (size : Nat) : ∀ d, chunks size d [] = []
  | 0 => rfl
  | d + 1 => by rw [chunks, if_pos rfl]
theorem chunks_join (size : Nat) (hs : 1 ≤ size) : ∀ (d : Nat) (l : List S44), l.length ≤ d → (chunks size d l).flatten = l
  | 0, l, h => by
    have : l = [] := List.eq_nil_of_length_eq_zero (by omega)
    subst this
    rfl
  | d + 1, l, h => by
    rw [chunks]
    by_cases hl : l = []
    · rw [if_pos hl, hl]; rfl
    · rw [if_neg hl, List.flatten_cons, chunks_join size hs d _ (by rw [List.length_drop]; omega), List.take_append_drop]
theorem chunks_mem (size : Nat) : ∀ (d : Nat) (l : List S44), ∀ c ∈ chunks size d l, c.length ≤ size ∧ c ≠ [] ∨ size = 0
  | 0, _, c, h => by simp [chunks] at h
  | d + 1, l, c, h => by
    rw [chunks] at h
    by_cases hl : l = []
    · rw [if_pos hl] at h; simp at h
    · rw [if_neg hl] at h
      rcases List.mem_cons.1 h with rfl | h
      · by_cases hs : size = 0
        · exact .inr hs
        · refine .inl ⟨by rw [List.length_take]; omega, fun e => ?_⟩
          rcases List.take_eq_nil_iff.1 e with e | e
          · exact hs e
          · exact hl e
      · exact chunks_mem size d _ c h
theorem chunks_fine (size : Nat) {P : S44 → Prop} : ∀ (d : Nat) (l : List S44), (∀ x ∈ l, P x) → ∀ c ∈ chunks size d l, ∀ x ∈ c, P x
  | 0, _, _, c, h => by simp [chunks] at h
  | d + 1, l, hP, c, h => by
    rw [chunks] at h
    by_cases hl : l = []
    · rw [if_pos hl] at h; simp at h
    · rw [if_neg hl] at h
      rcases List.mem_cons.1 h with rfl | h
      · exact fun x hx => hP x (List.mem_of_mem_take hx)
      · exact chunks_fine size d _ (fun x hx => hP x (List.mem_of_mem_drop hx)) c h
theorem chunks_count (size : Nat) (hs : 1 ≤ size) : ∀ (d : Nat) (l : List S44), l.length ≤ d → (chunks size d l).length = (l.length + size - 1) / size
  | 0, l, h => by
    have : l = [] := List.eq_nil_of_length_eq_zero (by omega)
    subst this
    rw [chunks, List.length_nil, List.length_nil, Nat.div_eq_of_lt (by omega)]
  | d + 1, l, h => by
    rw [chunks]
    by_cases hl : l = []
    · subst hl
      rw [if_pos rfl, List.length_nil, List.length_nil, Nat.div_eq_of_lt (by omega)]
    · have hpos : 1 ≤ l.length := by
        cases l with
        | nil => exact absurd rfl hl
        | cons x l => simp
      rw [if_neg hl, List.length_cons, chunks_count size hs d _ (by rw [List.length_drop]; omega), List.length_drop]
      by_cases hle : size ≤ l.length
      · rw [show l.length + size - 1 = (l.length - size + size - 1) + size by omega, Nat.add_div_right _ (by omega)]
      · rw [show l.length - size + size - 1 = size - 1 by omega, Nat.div_eq_of_lt (by omega), show l.length + size - 1 = (l.length - 1) + size by omega, Nat.add_div_right _ (by omega), Nat.div_eq_of_lt (by omega)]
def allB (l : List S44) (size : Nat) : Nat → List (List Int)
  | 0 => []
  | c + 1 => if c * size < l.length then allB l size c ++ [blockB ((l.drop (c * size)).take size)] else allB l size c
theorem piece_eq (l : List S44) (size j : Nat) (h : j * size < l.length) : run_Encode.piece l size j = (l.drop (j * size)).take size := by
  unfold run_Encode.piece
  rw [List.drop_take, Nat.add_sub_cancel_left]
  by_cases hs : size ≤ l.length - j * size
  · rw [Nat.min_eq_left hs]
  · rw [Nat.min_eq_right (by omega), List.take_of_length_le (by rw [List.length_drop]; exact Nat.le_refl _), List.take_of_length_le (by rw [List.length_drop]; omega)]
theorem all_f (k : Nat) (l : List S44) (hl : ∀ x ∈ l, fineS x) (size : Nat) (hs : size ≤ 255) (hk : 1000 < k) : ∀ c, run_Encode.all k l size c = some (allB l size c)
  | 0 => rfl
  | c + 1 => by
    rw [run_Encode.all, all_f k l hl size hs hk c, Option.bind_some, allB]
    by_cases h : c * size < l.length
    · have hp : ((l.drop (c * size)).take size).length ≤ size := by rw [List.length_take]; omega
      rw [if_pos h, if_pos h, piece_eq l size c h, block_f k _ (fun x hx => hl x (List.mem_of_mem_drop (List.mem_of_mem_take hx))) (by omega) (by omega), Option.bind_some]
    · rw [if_neg h, if_neg h]
theorem allB_chunks (l : List S44) (size : Nat) : ∀ (c d : Nat), allB l size c ++ (chunks size d (l.drop (c * size))).map blockB = (chunks size (c + d) l).map blockB
  | 0, d => by simp [allB]
  | c + 1, d => by
    have ih := allB_chunks l size c (d + 1)
    rw [show c + 1 + d = c + (d + 1) by omega, ← ih, allB]
    by_cases h : c * size < l.length
    · have hne : l.drop (c * size) ≠ [] := fun e => by
        have := congrArg List.length e
        rw [List.length_drop, List.length_nil] at this
        omega
      rw [if_pos h, chunks, if_neg hne, List.map_cons, List.drop_drop, show (c + 1) * size = c * size + size by rw [Nat.succ_mul]]
      simp
    · have e : l.drop (c * size) = [] := List.drop_of_length_le (by omega)
      have e2 : l.drop ((c + 1) * size) = [] := List.drop_of_length_le (by rw [Nat.succ_mul]; omega)
      rw [if_neg h, e, e2, chunks_nil, chunks_nil]
theorem allB_eq (l : List S44) (size : Nat) : allB l size l.length = (chunks size l.length l).map blockB := by
  have := allB_chunks l size l.length 0
  rw [chunks, List.map_nil, List.append_nil, Nat.add_zero] at this
  exact this

/-! ### Records -/
def recs : List (List Int) → List Int
  | [] => []
  | p :: r => recL p ++ recs r
theorem recs_append : ∀ a b : List (List Int), recs (a ++ b) = recs a ++ recs b
  | [], b => rfl
  | p :: r, b => by rw [List.cons_append, recs, recs_append r b, recs, List.append_assoc]
def Okay (R : List (List Int)) : Prop := ∀ p ∈ R, p.length ≤ 1000000 ∧ Bytes p
theorem recL_le {p : List Int} (h : p.length ≤ 1000000) : (recL p).length ≤ 14 + p.length ∧ 5 ≤ (recL p).length := by
  have hl := putn_len p.length (by omega) (by omega)
  rw [rec_len]
  omega
theorem recs_bytes : ∀ R : List (List Int), Okay R → Bytes (recs R)
  | [], _ => by intro x hx; simp [recs] at hx
  | p :: r, h => by
    have h1 := h p List.mem_cons_self
    rw [recs]
    exact bytes_append (rec_bytes p h1.2 (by omega)) (recs_bytes r (fun q hq => h q (List.mem_cons_of_mem _ hq)))
theorem getR_nil : (getR []).2.2 ≠ 0 := by
  have := getR_cut [] (by decide) 0 (by rw [rec_len]; simp)
  rw [List.take_zero] at this
  exact this
theorem scan_tail : ∀ (R : List (List Int)) (d : Nat) (z : List Int), Okay R → R.length < d → (getR z).2.2 ≠ 0 → scanN d (recs R ++ z) = (R, (recs R).length)
  | [], d + 1, z, _, _, hz => by
    rw [scanN, recs, List.nil_append, if_neg hz]
    rfl
  | p :: r, d + 1, z, h, hd, hz => by
    rw [List.length_cons] at hd
    have h1 := h p List.mem_cons_self
    rw [scanN, recs, List.append_assoc, getR_rec p _ (by omega)]
    simp only [if_true, Int.toNat_natCast]
    rw [List.drop_left, scan_tail r d z (fun q hq => h q (List.mem_cons_of_mem _ hq)) (by omega) hz, List.length_append]
theorem recs_len_ge : ∀ R : List (List Int), Okay R → R.length ≤ (recs R).length
  | [], _ => by simp
  | p :: r, h => by
    have h1 := recL_le (h p List.mem_cons_self).1
    have h2 := recs_len_ge r (fun q hq => h q (List.mem_cons_of_mem _ hq))
    rw [recs, List.length_append, List.length_cons]
    omega
theorem scan_recs (R : List (List Int)) (h : Okay R) : scanN ((recs R).length + 1) (recs R) = (R, (recs R).length) := by
  have := scan_tail R ((recs R).length + 1) [] h (by have := recs_len_ge R h; omega) getR_nil
  rwa [List.append_nil] at this

def encR (l : List S44) (size : Nat) : List (List Int) := (putn (size : Int) :: (chunks size l.length l).map blockB) ++ [putn 0 ++ putn (l.length : Int)]
def encB (l : List S44) (size : Nat) : List Int := recs (encR l size)
theorem chunks_recs (size : Nat) : ∀ (d : Nat) (l : List S44), (∀ x ∈ l, fineS x) → size ≤ 255 → 1 ≤ size → (recs ((chunks size d l).map blockB)).length ≤ 309 * l.length
  | 0, l, _, _, _ => by simp [chunks, recs]
  | d + 1, l, h, hs, h1 => by
    rw [chunks]
    by_cases hl : l = []
    · rw [if_pos hl]; simp [recs]
    · have hpos : 1 ≤ l.length := by
        cases l with
        | nil => exact absurd rfl hl
        | cons x l => simp
      have ih := chunks_recs size d (l.drop size) (fun x hx => h x (List.mem_of_mem_drop hx)) hs h1
      have hb := blockB_len (l := l.take size) (fun x hx => h x (List.mem_of_mem_take hx)) (by rw [List.length_take]; omega)
      have hr := recL_le (p := blockB (l.take size)) (by rw [List.length_take] at hb; omega)
      rw [if_neg hl, List.map_cons, recs, List.length_append]
      rw [List.length_drop] at ih
      rw [List.length_take] at hb
      omega
theorem encR_ok (l : List S44) (h : ∀ x ∈ l, fineS x) (hl : l.length ≤ 100000) (size : Nat) (hs : size ≤ 255) (h1 : 1 ≤ size) : Okay (encR l size) := by
  intro p hp
  unfold encR at hp
  rcases List.mem_append.1 hp with hp | hp
  · rcases List.mem_cons.1 hp with rfl | hp
    · have := putn_len (size : Int) (by omega) (by omega)
      exact ⟨by omega, putn_bytes _ (by omega) (by omega)⟩
    · obtain ⟨c, hc, rfl⟩ := List.mem_map.1 hp
      have hf := chunks_fine size _ l h c hc
      rcases chunks_mem size _ l c hc with hm | hm
      · have := blockB_len hf (by omega)
        exact ⟨by omega, blockB_bytes hf (by omega)⟩
      · omega
  · rw [List.mem_singleton.1 hp]
    have p1 := putn_len 0 (by omega) (by omega)
    have p2 := putn_len (l.length : Int) (by omega) (by omega)
    exact ⟨by rw [List.length_append]; omega, bytes_append (putn_bytes _ (by omega) (by omega)) (putn_bytes _ (by omega) (by omega))⟩
theorem encB_len (l : List S44) (h : ∀ x ∈ l, fineS x) (hl : l.length ≤ 100000) (size : Nat) (hs : size ≤ 255) (h1 : 1 ≤ size) : (encB l size).length ≤ 309 * l.length + 100 := by
  have hr := chunks_recs size l.length l h hs h1
  have p0 := putn_len (size : Int) (by omega) (by omega)
  have p1 := putn_len 0 (by omega) (by omega)
  have p2 := putn_len (l.length : Int) (by omega) (by omega)
  have r1 := recL_le (p := putn (size : Int)) (by omega)
  have r2 := recL_le (p := putn 0 ++ putn (l.length : Int)) (by rw [List.length_append]; omega)
  rw [List.length_append] at r2
  unfold encB encR
  rw [recs_append, List.length_append, recs, List.length_append, recs, recs, List.append_nil]
  omega
theorem out_f (k : Nat) (hk : 20 < k) : ∀ (R : List (List Int)) (b : List Int), Okay R → b.length + (recs R).length ≤ 100000000 → run_Encode.out k R b = some (b ++ recs R, 0)
  | [], b, _, _ => by rw [run_Encode.out, recs, List.append_nil]
  | p :: r, b, h, hb => by
    have h1 := h p List.mem_cons_self
    rw [recs, List.length_append] at hb
    rw [run_Encode.out, FrameLib.put_f k hk b p h1.2 (by omega) (by omega), Option.bind_some]
    simp only [if_true]
    rw [out_f k hk r _ (fun q hq => h q (List.mem_cons_of_mem _ hq)) (by rw [List.length_append]; omega), recs, List.append_assoc]
def encS (l : List S44) (a : Int) : List Int × Int := if a < 1 ∨ a > 255 then ([], 1) else if mayS l = 0 then (encB l a.toNat, 0) else ([], mayS l)
theorem enc_f (k : Nat) (l : List S44) (a : Int) (hl : l.length ≤ 100000) (hk : l.length + 2000 < k) : run_Encode.f k l a = some (encS l a) := by
  unfold run_Encode.f encS
  by_cases h1 : a < 1
  · rw [if_pos h1, if_pos (.inl h1)]
  · rw [if_neg h1]
    by_cases h2 : a > 255
    · rw [if_pos h2, if_pos (.inr h2)]
    · rw [if_neg h2, if_neg (show ¬ (a < 1 ∨ a > 255) by omega), may_f k l (by omega) (by omega), Option.bind_some]
      by_cases h3 : mayS l = 0
      · obtain ⟨hf, _⟩ := mayS_zero h3
        obtain ⟨size, rfl⟩ := Int.eq_ofNat_of_zero_le (show 0 ≤ a by omega)
        have hsz : 1 ≤ size ∧ size ≤ 255 := by omega
        have hok := encR_ok l hf hl size hsz.2 hsz.1
        have hle := encB_len l hf hl size hsz.2 hsz.1
        unfold encB at hle
        have p1 := putn_len 0 (by omega) (by omega)
        rw [if_pos h3, if_pos h3, if_pos (show l.length < 5000000000000 by omega), u64_small size (by omega), NumLib.put_f k _ [] (by omega) (by omega) (by omega) (by simp), Option.bind_some, Int.toNat_natCast, all_f k l hf size hsz.2 (by omega), Option.bind_some, NumLib.put_f k 0 [] (by omega) (by omega) (by omega) (by simp), Option.bind_some, u64_small _ (by omega), NumLib.put_f k _ _ (by omega) (by omega) (by omega) (by rw [List.nil_append]; omega), Option.bind_some, allB_eq, List.nil_append, List.nil_append]
        have := out_f k (by omega) (encR l size) [] hok (by rw [List.length_nil]; omega)
        rw [List.nil_append] at this
        exact this
      · rw [if_neg h3, if_neg h3]
end Go.Proofs.Ytmfngihgoanhpaa.RunLib
