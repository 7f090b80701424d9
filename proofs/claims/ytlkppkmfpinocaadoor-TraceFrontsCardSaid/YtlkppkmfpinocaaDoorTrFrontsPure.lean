/- TraceFronts: what the law's own reckoning comes to on a sound row. No program in sight. -/
import Derived.Test.YtlkppkmfpinocaaDoorTrEv
import Derived.Test.YtlkppkmfpinocaaDoorTrLive
import Derived.Test.YtlkppkmfpinocaaDoorTrSound
namespace Go.Proofs.YtlkppkmfpinocaaDoor.PT
open Go.RowKit Go.Proofs.YtlkppkmfpinocaaDoorW.PrintWords Go.Proofs.YtlkppkmfpinocaaDoorW.PrintLast Go.Proofs.YtlkppkmfpinocaaDoorW.PrintMore
set_option linter.unusedVariables false
set_option linter.unusedSimpArgs false

/-- freed numbers, how many of them, allocations -/
abbrev FrS := (Int → Option Int) × Nat × Int
def stepF (s : FrS) (e : S26) : FrS :=
  if e.f0 = 2 then (setI s.1 e.f1 ((s.1 e.f1).getD 0 + 1), if (s.1 e.f1).isSome then s.2.1 else s.2.1 + 1, s.2.2)
  else if e.f0 = 1 then (s.1, s.2.1, s.2.2 + 1) else s
theorem nodup_filter_len (n : Int) : ∀ (zs : List Int), zs.Nodup → n ∈ zs → (delL n zs).length + 1 = zs.length
  | [], _, h => by cases h
  | z :: zs, hd, h => by
    obtain ⟨h1, h2⟩ := List.nodup_cons.1 hd
    unfold delL
    by_cases hz : z = n
    · subst hz
      have : (zs.filter fun x => !(x == z)) = zs := by
        rw [List.filter_eq_self]
        intro x hx
        have : x ≠ z := fun e => h1 (e ▸ hx)
        simpa using this
      rw [List.filter_cons_of_neg (by simp), this]
      rfl
    · have hm : n ∈ zs := by
        rcases List.mem_cons.1 h with e | e
        · exact absurd e.symm hz
        · exact e
      have ih := nodup_filter_len n zs h2 hm
      unfold delL at ih
      rw [List.filter_cons_of_pos (by simp [hz])]
      simp only [List.length_cons]
      omega
theorem mem_delF (x n : Int) (zs : List Int) : x ∈ delL n zs ↔ x ∈ zs ∧ x ≠ n := by
  unfold delL
  rw [List.mem_filter]
  simp
theorem del_nodup (n : Int) {zs : List Int} (h : zs.Nodup) : (delL n zs).Nodup := h.filter _
theorem del_not (n : Int) {zs : List Int} (h : n ∉ zs) : delL n zs = zs := by
  unfold delL
  rw [List.filter_eq_self]
  intro x hx
  have : x ≠ n := fun e => h (e ▸ hx)
  simpa using this
/-- the invariant of a sound row's walk -/
structure SI (zs : List Int) (fr : Int → Bool) (al : Int) (s : FrS) : Prop where
  al0 : 0 ≤ al
  ale : s.2.2 = al
  f : ∀ n, s.1 n = if fr n then some 1 else none
  live : ∀ n, n ∈ zs ↔ (1 ≤ n ∧ n ≤ al ∧ fr n = false)
  le : ∀ n, fr n = true → n ≤ al
  nd : zs.Nodup
  cnt : (zs.length : Int) + s.2.1 = al
theorem SI.go : ∀ (l : List S26) (zs : List Int) (fr : Int → Bool) (al : Int) (pa : Bool) (s : FrS), SI zs fr al s → soundL l fr al pa = true → ∃ fr' al', SI (l.foldl liveStep zs) fr' al' (l.foldl stepF s)
  | [], zs, fr, al, pa, s, h, _ => ⟨fr, al, h⟩
  | e :: l, zs, fr, al, pa, s, h, hs => by
    simp only [soundL, Bool.and_eq_true] at hs
    obtain ⟨he, hs⟩ := hs
    have hc := evB_cases he
    simp only [List.foldl_cons]
    by_cases k1 : e.f0 = 1
    · rw [if_pos k1] at hs
      simp only [Bool.and_eq_true, decide_eq_true_eq] at hs
      obtain ⟨hn, hs⟩ := hs
      refine SI.go l _ fr (al + 1) pa _ ?_ hs
      have hnz : al + 1 ∉ zs := by
        intro hm
        have := ((h.live _).1 hm).2.1
        omega
      have hz : liveStep zs e = zs ++ [al + 1] := by
        unfold liveStep
        rw [if_pos k1, hn, del_not _ hnz]
      have hst : stepF s e = (s.1, s.2.1, s.2.2 + 1) := by
        unfold stepF
        rw [if_neg (by omega), if_pos k1]
      rw [hz, hst]
      refine ⟨by have := h.al0; omega, by have := h.ale; simp only; omega, h.f, fun n => ?_, fun n hf => by have := h.le n hf; omega, ?_, ?_⟩
      · rw [List.mem_append, List.mem_singleton, h.live n]
        have := h.al0
        constructor
        · rintro (⟨h1, h2, h3⟩ | h1)
          · exact ⟨h1, by omega, h3⟩
          · refine ⟨by omega, by omega, ?_⟩
            rw [Bool.eq_false_iff]
            intro ht
            have := h.le n ht
            omega
        · rintro ⟨h1, h2, h3⟩
          by_cases hq : n = al + 1
          · exact Or.inr hq
          · exact Or.inl ⟨h1, by omega, h3⟩
      · rw [List.nodup_append]
        refine ⟨h.nd, by simp, fun a ha b hb => ?_⟩
        rw [List.mem_singleton] at hb
        subst hb
        intro e2
        exact hnz (e2 ▸ ha)
      · have := h.cnt
        simp only [List.length_append, List.length_cons, List.length_nil]
        omega
    · rw [if_neg k1] at hs
      by_cases k2 : e.f0 = 2
      · rw [if_pos k2] at hs
        simp only [Bool.and_eq_true, decide_eq_true_eq, Bool.not_eq_true'] at hs
        obtain ⟨hn, hfr, hs⟩ := hs
        have h1n : 1 ≤ e.f1 := by omega
        have hm : e.f1 ∈ zs := (h.live _).2 ⟨h1n, hn, hfr⟩
        refine SI.go l _ (setB fr e.f1) al pa _ ?_ hs
        have hz : liveStep zs e = delL e.f1 zs := by
          unfold liveStep
          rw [if_neg k1, if_pos k2]
        have hfn : s.1 e.f1 = none := by rw [h.f, hfr]; rfl
        have hst : stepF s e = (setI s.1 e.f1 1, s.2.1 + 1, s.2.2) := by
          unfold stepF
          rw [if_pos k2, hfn]
          rfl
        rw [hz, hst]
        refine ⟨h.al0, h.ale, fun n => ?_, fun n => ?_, fun n hf => ?_, del_nodup _ h.nd, ?_⟩
        · unfold setI setB
          by_cases hq : n = e.f1
          · simp [hq]
          · simp only [hq, if_false]
            exact h.f n
        · rw [mem_delF, h.live n]
          unfold setB
          by_cases hq : n = e.f1
          · simp [hq]
          · simp [hq]
        · unfold setB at hf
          split at hf
          · omega
          · exact h.le n hf
        · have h1 := nodup_filter_len _ _ h.nd hm
          have h2 := h.cnt
          simp only
          omega
      · rw [if_neg k2] at hs
        have hz : liveStep zs e = zs := by
          unfold liveStep
          rw [if_neg k1, if_neg k2]
        have hst : stepF s e = s := by
          unfold stepF
          rw [if_neg k2, if_neg k1]
        rw [hz, hst]
        split at hs
        · exact SI.go l zs fr al _ s h hs
        · split at hs
          · simp only [Bool.and_eq_true] at hs
            exact SI.go l zs fr al _ s h hs.2
          · split at hs
            · simp only [Bool.and_eq_true] at hs
              exact SI.go l zs fr al _ s h hs.2
            · exact SI.go l zs fr al _ s h hs
def frEnd (l : List S26) : FrS := l.foldl stepF (fun _ => none, 0, 0)
theorem frEnd_ok (l : List S26) (h : soundL l (fun _ => false) 0 false = true) :
    (∀ x ∈ liveF l, ((frEnd l).1 x).getD 0 = 0) ∧ (∀ x, ((frEnd l).1 x).getD 0 ≤ 1) ∧ ((liveF l).length : Int) + (frEnd l).2.1 = (frEnd l).2.2 := by
  obtain ⟨fr, al, hs⟩ := SI.go l [] (fun _ => false) 0 false (fun _ => none, 0, 0) ⟨Int.le_refl _, rfl, fun n => rfl, fun n => (by simp; omega), fun n h => (by cases h), List.nodup_nil, rfl⟩ h
  refine ⟨fun x hx => ?_, fun x => ?_, ?_⟩
  · have := ((hs.live x).1 hx).2.2
    unfold frEnd
    rw [hs.f x, this]
    rfl
  · unfold frEnd
    rw [hs.f x]
    split <;> simp
  · rw [show (frEnd l).2.2 = al from hs.ale]
    exact hs.cnt
theorem sound_take : ∀ (l : List S26) (j : Nat) (fr : Int → Bool) (al : Int) (pa : Bool), soundL l fr al pa = true → soundL (l.take j) fr al pa = true
  | [], j, fr, al, pa, h => by simp [soundL]
  | e :: l, 0, fr, al, pa, h => by simp [soundL]
  | e :: l, j + 1, fr, al, pa, h => by
    rw [List.take_succ_cons]
    simp only [soundL, Bool.and_eq_true] at h ⊢
    obtain ⟨he, h⟩ := h
    refine ⟨he, ?_⟩
    split at h
    · rename_i k
      rw [if_pos k]
      simp only [Bool.and_eq_true] at h ⊢
      exact ⟨h.1, sound_take l j _ _ _ h.2⟩
    · rename_i k
      rw [if_neg k]
      split at h
      · rename_i k
        rw [if_pos k]
        simp only [Bool.and_eq_true] at h ⊢
        exact ⟨h.1, h.2.1, sound_take l j _ _ _ h.2.2⟩
      · rename_i k
        rw [if_neg k]
        split at h
        · rename_i k
          rw [if_pos k]
          exact sound_take l j _ _ _ h
        · rename_i k
          rw [if_neg k]
          split at h
          · rename_i k
            rw [if_pos k]
            simp only [Bool.and_eq_true] at h ⊢
            exact ⟨h.1, sound_take l j _ _ _ h.2⟩
          · rename_i k
            rw [if_neg k]
            split at h
            · rename_i k
              rw [if_pos k]
              simp only [Bool.and_eq_true] at h ⊢
              refine ⟨?_, sound_take l j _ _ _ h.2⟩
              have := List.isEmpty_iff.1 h.1
              rw [this]
              simp
            · rename_i k
              rw [if_neg k]
              exact sound_take l j _ _ _ h
theorem i64s_take {l : List S26} (j : Nat) (h : i64s l = true) : i64s (l.take j) = true := by
  unfold i64s at *
  rw [List.all_eq_true] at *
  intro e he
  exact h e (List.mem_of_mem_take he)
theorem live_i64 : ∀ (l : List S26) (zs : List Int), i64s l = true → (∀ x ∈ zs, i64B x = true) → ∀ x ∈ l.foldl liveStep zs, i64B x = true
  | [], zs, _, h => h
  | e :: l, zs, hi, h => by
    have hi2 : i64B e.f1 = true ∧ i64s l = true := by simpa [i64s] using hi
    rw [List.foldl_cons]
    refine live_i64 l _ hi2.2 fun x hx => ?_
    unfold liveStep at hx
    split at hx
    · rcases List.mem_append.1 hx with hx | hx
      · exact h x ((mem_delF _ _ _).1 hx).1
      · rw [List.mem_singleton] at hx
        rw [hx]
        exact hi2.1
    · split at hx
      · exact h x ((mem_delF _ _ _).1 hx).1
      · exact h x hx
theorem frontB_take (l : List S26) (j : Nat) : frontB (l.take j) l = true := by
  unfold frontB
  rw [Bool.and_eq_true]
  refine ⟨by simp; omega, ?_⟩
  rw [List.length_take, eqL_iff]
  rcases Nat.le_total j l.length with h | h
  · rw [Nat.min_eq_left h]
  · rw [Nat.min_eq_right h, List.take_of_length_le h, List.take_of_length_le (Nat.le_refl _)]
theorem frontB_back (l : List S26) (j : Nat) (hj : j ≤ l.length) : frontB l (l.take j) = decide (j = l.length) := by
  by_cases h : j = l.length
  · rw [decide_eq_true h, h, List.take_of_length_le (Nat.le_refl _)]
    unfold frontB
    rw [List.take_of_length_le (Nat.le_refl _), eqL_rfl]
    simp
  · rw [decide_eq_false h]
    unfold frontB
    rw [decide_eq_false (by rw [List.length_take]; omega)]
    rfl
end Go.Proofs.YtlkppkmfpinocaaDoor.PT
