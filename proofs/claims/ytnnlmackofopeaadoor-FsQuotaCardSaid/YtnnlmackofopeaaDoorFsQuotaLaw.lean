/- FsQuota: what a deed does to the bytes used, and to the quota. -/
import Derived.Test.YtnnlmackofopeaaDoorFsFew
namespace Go.Proofs.YtnnlmackofopeaaDoor.Fs
open Go.RowKit Go.Lib Go.Maps Go.Shelf Go.Sort Go.Proofs.YtnnlmackofopeaaDoorW.PrintWords Go.Proofs.YtnnlmackofopeaaDoorW.PrintLast Go.Proofs.YtnnlmackofopeaaDoorW.PrintMore
set_option linter.unusedVariables false
set_option linter.unusedSimpArgs false
theorem sumL_mono {fs fs' : List (List Int × Nat)} (h : ∀ p, fileLen fs p ≤ fileLen fs' p) (left : Lit → Bool) : ∀ es : List (Lit × Names), sumL fs left es ≤ sumL fs' left es
  | [] => Nat.le_refl _
  | p :: r => by
    have ih := sumL_mono h left r
    have hp := h p.2
    unfold sumL at ih ⊢
    cases hl : left p.1 with
    | true =>
      rw [List.filter_cons_of_pos (p := fun p : Lit × Names => left p.1) hl, List.map_cons, List.sum_cons, List.map_cons, List.sum_cons]
      omega
    | false =>
      rw [List.filter_cons_of_neg (p := fun p : Lit × Names => left p.1) (by rw [hl]; decide)]
      exact ih
theorem app_used (S : FsS) (i : Nat) (ys : List Int) : S.used ≤ (S.app i ys).used := by
  unfold FsS.used
  refine sumL_mono (fun p => ?_) _ _
  unfold fileLen
  split
  · rename_i j
    show _ ≤ Option.getD (((S.files.modify i (fun f => (f.1 ++ ys, f.2)))[j.toNat]?).map (fun f => f.1.length)) 0
    rw [List.getElem?_modify]
    cases h : S.files[j.toNat]? with
    | none => exact Nat.zero_le _
    | some f =>
      by_cases e : i = j.toNat
      · simp [e]
      · simp [e]
  · exact Nat.le_refl _
theorem begin_codes (S : FsS) (ns : List ByteArray) : S.beginC ns = 11 ∨ S.beginC ns = 0 ∨ S.beginC ns = 1 := by
  unfold FsS.beginC
  split
  · exact .inl rfl
  · split
    · exact .inr (.inl rfl)
    · exact .inr (.inr rfl)
theorem append_law (S : FsS) (n : ByteArray) (ys : List Int) : ((S.append n ys).1 = 0 → S.used ≤ (S.append n ys).2.used) ∧ ((S.append n ys).1 = 10 → (S.append n ys).2.used = S.used ∧ S.quota < (S.used : Int) + (ys.length : Int)) := by
  have hc := begin_codes S [n]
  unfold FsS.append
  split
  · split
    · split
      · rename_i hq
        exact ⟨fun h => absurd (show (10 : Int) = 0 from h) (by decide), fun _ => ⟨used_begin S, hq⟩⟩
      · refine ⟨fun _ => ?_, fun h => absurd (show (0 : Int) = 10 from h) (by decide)⟩
        have := app_used S.beginT ‹Nat› ys
        rw [used_begin] at this
        exact this
    · exact ⟨fun h => absurd (show (7 : Int) = 0 from h) (by decide), fun h => absurd (show (7 : Int) = 10 from h) (by decide)⟩
  · rename_i hne
    refine ⟨fun h => absurd h hne, fun h => ?_⟩
    have h' : S.beginC [n] = 10 := h
    rw [h'] at hc
    omega
/-- No other deed is refused for the quota. -/
theorem doS_ten (S : FsS) (d : Dd) (h1 : d.kind ≠ 1) : (S.doS d).1 ≠ 10 := by
  have hb : ∀ ns, S.beginC ns ≠ 10 := fun ns h => by
    have hc := begin_codes S ns
    rw [h] at hc
    omega
  have c0 : (0 : Int) ≠ 10 := by decide
  have c7 : (7 : Int) ≠ 10 := by decide
  have c11 : (11 : Int) ≠ 10 := by decide
  unfold FsS.doS
  split
  · unfold FsS.create
    split
    · exact c0
    · exact hb _
  split
  · unfold FsS.sync
    split
    · split
      · exact c0
      · exact c7
    · exact hb _
  split
  · unfold FsS.syncNames
    split
    · exact c11
    · exact c0
  split
  · unfold FsS.rename
    split
    · split
      · split
        · exact c0
        · exact c0
      · exact c7
    · exact hb _
  split
  · unfold FsS.remove
    split
    · split
      · exact c0
      · exact c7
    · exact hb _
  split
  · exact c0
  split
  · exact c0
  split
  · exact c0
  · exact c0
theorem doS_quota (S : FsS) (d : Dd) (h7 : d.kind ≠ 7) : (S.doS d).2.quota = S.quota := by
  have hb : S.beginT.quota = S.quota := (beginT_files S).2.2.2.2.2.2.1
  have ht : S.tick.quota = S.quota := by unfold FsS.tick; split <;> rfl
  unfold FsS.doS
  split
  · unfold FsS.create
    split
    · exact hb
    · exact hb
  split
  · unfold FsS.append
    split
    · split
      · split
        · exact hb
        · exact hb
      · exact hb
    · exact hb
  split
  · unfold FsS.sync
    split
    · split
      · exact hb
      · exact hb
    · exact hb
  split
  · unfold FsS.syncNames
    split
    · rfl
    · exact ht
  split
  · unfold FsS.rename
    split
    · split
      · split
        · exact hb
        · exact hb
      · exact hb
    · exact hb
  split
  · unfold FsS.remove
    split
    · split
      · exact hb
      · exact hb
    · exact hb
  split
  · rfl
  split
  · exact (cutN_rest S d.bs S.files.length).1
  · rfl
/-- What the law asks of one deed. -/
theorem deed_law (S : FsS) (d : Dd) : (d.kind = 1 → (S.doS d).1 = 0 → S.used ≤ (S.doS d).2.used) ∧ ((S.doS d).1 = 10 → d.kind = 1 ∧ (S.doS d).2.used = S.used ∧ S.quota < (S.used : Int) + (d.data.length : Int)) := by
  by_cases h1 : d.kind = 1
  · have e : S.doS d = S.append d.a d.data := by
      unfold FsS.doS
      rw [if_neg (by omega), if_pos h1]
    rw [e]
    have h := append_law S d.a d.data
    exact ⟨fun _ => h.1, fun h2 => ⟨h1, h.2 h2⟩⟩
  · exact ⟨fun h => absurd h h1, fun h => absurd h (doS_ten S d h1)⟩
set_option maxHeartbeats 4000000 in
set_option maxRecDepth 100000 in
theorem create_nil (n : ByteArray) (w : World) : Calls Tryd.prog 22 #[.pointer none, .string n] w fun e w' => e = .returned (.int .i64 1) ∧ Below w.heap.size w w' := by
  have HB := Aside0.mk (below_alloc (Below.refl w.heap.size w) (.cells #[.string n] 9))
  go_enter Tryd.func22, Tryd.ntmps22
  go_wp2_with (go_at_call 41; refine (begin_nil _ _ _ _).mono ?_; rintro e w1 ⟨rfl, rfl⟩)
  go_ret
  exact ⟨rfl, HB.out⟩
end Go.Proofs.YtnnlmackofopeaaDoor.Fs
