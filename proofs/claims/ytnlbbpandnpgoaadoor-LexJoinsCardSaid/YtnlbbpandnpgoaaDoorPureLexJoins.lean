import Derived.Test.YtnlbbpandnpgoaaDoorPLx10
import Derived.Test.YtnlbbpandnpgoaaDoorLexPure5
namespace Go.Proofs.YtnlbbpandnpgoaaDoor.Pure
open Go.RowKit Go.Proofs.YtnlbbpandnpgoaaDoor.PL
set_option linter.unusedVariables false

/-- behind a name or a number it stands for an end -/
def Stops (r : List UInt8) : Prop := spanN innerB r = 0 ∧ spanN isDigB r = 0
theorem stops_nil : Stops [] := ⟨rfl, rfl⟩
theorem stops_blank (r : List UInt8) : Stops (32 :: r) := by
  refine ⟨?_, ?_⟩
  · rw [spanN_cons, if_neg (by decide)]
  · rw [spanN_cons, if_neg (by decide)]
theorem span_app (p : Int → Bool) : ∀ (l r : List UInt8), (∀ x ∈ l, p (x.toNat : Int) = true) → spanN p (l ++ r) = l.length + spanN p r
  | [], r, _ => by simp
  | c :: l, r, h => by
    rw [List.cons_append, spanN_cons, if_pos (h c (List.mem_cons_self ..)), span_app p l r (fun x hx => h x (List.mem_cons_of_mem _ hx)), List.length_cons]
    omega
theorem take_len_le {l : List UInt8} {n : Nat} (h : n ≤ l.length) : (l.take n).length = n := by rw [List.length_take]; omega
/-- a token's text by itself, with a stop behind it, is that token -/
theorem tokB_alone {c : UInt8} {l : List UInt8} {k v : Int} {m : Nat} (h : tokB (c :: l) = some (k, m + 1, v)) (r : List UInt8) (hr : Stops r) : tokB (c :: (l.take m ++ r)) = some (k, m + 1, v) := by
  obtain ⟨hr1, hr2⟩ := hr
  by_cases hc : isLetB (c.toNat : Int) = true
  · rw [tokB_let hc] at h
    split at h
    · rename_i h16
      simp only [Option.some.injEq, Prod.mk.injEq] at h
      obtain ⟨hk, hm, hv⟩ := h
      have hle := spanN_le innerB (c :: l)
      rw [hm] at hle
      have ha := span_all innerB (c :: l)
      rw [hm] at ha
      have hs := span_app innerB ((c :: l).take (m + 1)) r ha
      rw [hr1, take_len_le hle, Nat.add_zero, List.take_succ_cons, List.cons_append] at hs
      have ht : (c :: (l.take m ++ r)).take (m + 1) = (c :: l).take (m + 1) := by
        rw [List.take_succ_cons, List.take_succ_cons, List.take_append_of_le_length (by rw [take_len_le (by simpa using hle)]; exact Nat.le_refl _), List.take_take, Nat.min_self]
      rw [tokB_let hc, hs, ht, if_pos (by omega)]
      rw [hm] at hk
      rw [hk, hv]
    · cases h
  · by_cases h2 : c = 45 ∨ isDig c = true
    · rw [tokB_num hc h2] at h
      split at h
      · cases h
      · rename_i hb
        simp only [Option.some.injEq, Prod.mk.injEq] at h
        obtain ⟨hk, hm, hv⟩ := h
        have hmm : spanN isDigB l = m := by omega
        have hle := spanN_le isDigB l
        rw [hmm] at hle
        have ha := span_all isDigB l
        rw [hmm] at ha
        have hs := span_app isDigB (l.take m) r ha
        rw [hr2, take_len_le hle, Nat.add_zero] at hs
        have ht : (l.take m ++ r).take m = l.take m := by
          rw [List.take_append_of_le_length (by rw [take_len_le hle]; exact Nat.le_refl _), List.take_take, Nat.min_self]
        have hd : digsOf c (l.take m ++ r) = digsOf c l := by
          unfold digsOf
          rw [hs, hmm, ht]
          split
          · rfl
          · rw [Nat.add_comm 1 m, List.take_succ_cons, List.take_succ_cons, ht]
        rw [tokB_num hc h2, hd, hs, if_neg hb, hv, hk, Nat.add_comm 1 m]
    · rw [tokB_sign hc h2] at h ⊢
      split at h
      · rename_i hg
        simp only [Option.some.injEq, Prod.mk.injEq] at h
        obtain ⟨hk, hm, hv⟩ := h
        have hm0 : m = 0 := by omega
        subst hm0
        rw [if_pos hg, hk, hv]
      · cases h
/-- what a token's text is -/
def Vt (t : S35) : Prop := ∃ c l, t.f2.data.toList = c :: l ∧ ¬ Blank c ∧ c ≠ 35 ∧ ∀ r, Stops r → tokB (c :: (l ++ r)) = some (t.f0, l.length + 1, t.f3)
theorem Lexes.valid {i : Nat} {l : List UInt8} {R : Except Nat (List S35)} (h : Lexes i l R) : ∀ ts, R = .ok ts → (∀ t ∈ ts, Vt t) ∧ (ts.map fun t => t.f2.size).sum ≤ l.length := by
  induction h with
  | nil i =>
    intro ts hp
    injection hp with hp
    subst hp
    exact ⟨by simp, by simp⟩
  | @blank i c l R hb _ ih =>
    intro ts hp
    obtain ⟨h1, h2⟩ := ih ts hp
    exact ⟨h1, by simp only [List.length_cons]; omega⟩
  | @remark i l R _ ih =>
    intro ts hp
    obtain ⟨h1, h2⟩ := ih ts hp
    exact ⟨h1, by simp only [List.length_cons, List.length_drop] at *; omega⟩
  | @bad i c l hb h35 ht => intro ts hp; cases hp
  | @tok i c l R k2 v m hb h35 ht hR2 ih =>
    intro ts hp
    cases R with
    | error q => cases hp
    | ok l2 =>
      unfold consR at hp
      injection hp with hp
      subst hp
      obtain ⟨h1, h2⟩ := ih l2 rfl
      have hm := (tokB_pos ht).2
      simp only [List.length_cons] at hm
      refine ⟨?_, ?_⟩
      · intro t hmem
        rw [List.mem_cons] at hmem
        rcases hmem with rfl | hmem
        · refine ⟨c, l.take m, by rw [List.take_succ_cons], hb, h35, fun r hr => ?_⟩
          rw [take_len_le (by omega)]
          exact tokB_alone ht r hr
        · exact h1 t hmem
      · have hz : (⟨((c :: l).take (m + 1)).toArray⟩ : ByteArray).size = m + 1 := by
          show ((c :: l).take (m + 1)).toArray.size = _
          simp
          omega
        simp only [List.map_cons, List.sum_cons, hz, List.length_cons, List.length_drop] at *
        omega
/-- the same tokens, one blank between -/
def retok : Nat → List S35 → List S35
  | _, [] => []
  | i, t :: ts => ⟨t.f0, (i : Int), t.f2, t.f3⟩ :: retok (i + t.f2.size + 1) ts
abbrev textsL (ts : List S35) : List (List UInt8) := ts.map fun t => t.f2.data.toList
theorem joinTail_cons (x : List UInt8) (r : List (List UInt8)) : Lib.joinTail [32] (x :: r) = 32 :: (x ++ Lib.joinTail [32] r) := by simp [Lib.joinTail]
theorem stops_tail (xs : List (List UInt8)) : Stops (Lib.joinTail [32] xs) := by
  cases xs with
  | nil => exact stops_nil
  | cons x r => rw [joinTail_cons]; exact stops_blank _
theorem lexes_join : ∀ (ts : List S35) (t : S35) (i : Nat), (∀ x ∈ t :: ts, Vt x) → Lexes i (t.f2.data.toList ++ Lib.joinTail [32] (textsL ts)) (.ok (retok i (t :: ts)))
  | ts, t, i, h => by
    obtain ⟨c, l, hl, hb, h35, hk⟩ := h t (List.mem_cons_self ..)
    have hz : t.f2.size = l.length + 1 := by rw [← size_l, hl]; rfl
    have ht := hk _ (stops_tail (textsL ts))
    have hrest : Lexes (i + (l.length + 1)) (Lib.joinTail [32] (textsL ts)) (.ok (retok (i + t.f2.size + 1) ts)) := by
      cases ts with
      | nil => exact .nil _
      | cons t2 ts2 =>
        show Lexes _ (Lib.joinTail [32] (t2.f2.data.toList :: textsL ts2)) _
        rw [joinTail_cons]
        refine .blank (Or.inl rfl) ?_
        rw [show i + t.f2.size + 1 = i + (l.length + 1) + 1 by omega]
        exact lexes_join ts2 t2 _ (fun x hx => h x (List.mem_cons_of_mem _ hx))
    have hT : (⟨((c :: (l ++ Lib.joinTail [32] (textsL ts))).take (l.length + 1)).toArray⟩ : ByteArray) = t.f2 := by
      apply bytes_ext
      rw [hl]
      show (c :: (l ++ Lib.joinTail [32] (textsL ts))).take (l.length + 1) = c :: l
      rw [List.take_succ_cons, List.take_left]
    rw [hl, List.cons_append]
    have := Lexes.tok (i := i) hb h35 ht (by rw [List.drop_left]; exact hrest)
    rw [hT] at this
    exact this
theorem retok_len : ∀ (ts : List S35) (i : Nat), (retok i ts).length = ts.length
  | [], _ => rfl
  | t :: ts, i => by rw [retok, List.length_cons, List.length_cons, retok_len ts]
theorem retok_get : ∀ (ts : List S35) (i j : Nat) (h : j < ts.length), ∃ p, (retok i ts)[j]'(by rw [retok_len]; exact h) = ⟨ts[j].f0, p, ts[j].f2, ts[j].f3⟩
  | [], _, _, h => by simp at h
  | t :: ts, i, 0, h => ⟨_, rfl⟩
  | t :: ts, i, j + 1, h => by
    simp only [List.length_cons] at h
    obtain ⟨p, hp⟩ := retok_get ts (i + t.f2.size + 1) j (by omega)
    exact ⟨p, hp⟩
/-- the joined text -/
def joined (ts : List S35) : ByteArray := joinB (ts.map fun t => t.f2) ⟨#[32]⟩
theorem joined_list (ts : List S35) : (joined ts).data.toList = Lib.join (textsL ts) [32] := by
  unfold joined joinB textsL
  rw [List.map_map]
  rfl
theorem joinTail_len : ∀ (ts : List S35), (Lib.joinTail [32] (textsL ts)).length = (ts.map fun t => t.f2.size).sum + ts.length
  | [] => rfl
  | t :: ts => by
    show (Lib.joinTail [32] (t.f2.data.toList :: textsL ts)).length = _
    rw [joinTail_cons, List.length_cons, List.length_append, joinTail_len ts, size_l, List.map_cons, List.sum_cons, List.length_cons]
    omega
theorem joined_size (ts : List S35) : (joined ts).size ≤ (ts.map fun t => t.f2.size).sum + ts.length := by
  rw [← size_l, joined_list]
  cases ts with
  | nil => simp [Lib.join_nil]
  | cons t ts =>
    show (Lib.join (t.f2.data.toList :: textsL ts) [32]).length ≤ _
    rw [Lib.join_cons, List.length_append, joinTail_len, size_l, List.map_cons, List.sum_cons, List.length_cons]
    omega
theorem lexes_joined (ts : List S35) (h : ∀ x ∈ ts, Vt x) : Lexes 0 (joined ts).data.toList (.ok (retok 0 ts)) := by
  rw [joined_list]
  cases ts with
  | nil => exact .nil 0
  | cons t ts =>
    show Lexes 0 (Lib.join (t.f2.data.toList :: textsL ts) [32]) _
    rw [Lib.join_cons]
    exact lexes_join ts t 0 h
/-! ### the loops -/
theorem lexjoin_ev (ts : List S35) (n : Nat) (hn : ts.length = n) (hb : n ≤ 8000) (hsz : (joined ts).size ≤ 20000) : ∀ (m i : Nat), i + m = n → Ev (fun k => lex_Join.l0 k ((ts.take i).map fun t => t.f2) ts (n : Int) (i : Int)) (joined ts)
  | 0, i, hi => by
    refine Ev.step ?_
    simp only [lex_Join.l0]
    refine Ev.neg (by omega) ?_
    rw [List.take_of_length_le (by omega)]
    have hf : strings_Join.f (ts.map fun t => t.f2) (⟨#[32]⟩ : ByteArray) = some (joined ts) := by
      unfold strings_Join.f
      have h2 : (Lib.join ((ts.map fun t => t.f2).map fun x => x.data.toList) (⟨#[32]⟩ : ByteArray).data.toList).length = (joined ts).size := by
        rw [← size_l, joined_list, List.map_map]
        rfl
      rw [if_pos ⟨by rw [List.length_map]; omega, by rw [h2]; omega⟩]
      rfl
    rw [hf]
    exact Ev.bind (Ev.pure _) (Ev.pure _)
  | m + 1, i, hi => by
    have hlt : i < ts.length := by omega
    have hr : rd_T35 ts (i : Int) = ts[i] := by
      unfold rd_T35
      simp [List.getD, hlt]
    have ih := lexjoin_ev ts n hn hb hsz m (i + 1) (by omega)
    have e : (ts.take (i + 1)).map (fun t => t.f2) = (ts.take i).map (fun t => t.f2) ++ [ts[i].f2] := by
      rw [List.take_succ_eq_append_getElem hlt, List.map_append]
      rfl
    rw [e] at ih
    refine Ev.step ?_
    simp only [lex_Join.l0]
    rw [hr, w64s i (by omega)]
    exact Ev.pos (by omega) (Ev.pos (by omega) (Ev.pos (by omega) (Ev.pos (by rw [List.length_map, List.length_take]; omega) ih)))
theorem lexjoin_of (ts : List S35) (hb : ts.length ≤ 8000) (hsz : (joined ts).size ≤ 20000) : Ev (fun k => lex_Join.f k ts) (joined ts) :=
  lexjoin_ev ts ts.length rfl hb hsz ts.length 0 (by omega)
def ownT (t : S35) : S36 := ⟨0, 0, t.f2, 0⟩
theorem refjoin_ev (ts : List S35) (hb : ts.length ≤ 8000) : ∀ (r : List S35) (i : Nat) (acc : ByteArray), 0 < i → ts.drop i = r → acc.size + (r.map fun t => t.f2.size).sum + r.length ≤ 20000 →
    Ev (fun k => drogueref03_Join.l0 k (ts.map ownT) acc (i : Int)) ⟨(acc.data.toList ++ Lib.joinTail [32] (textsL r)).toArray⟩
  | [], i, acc, h0, hd, hz => by
    have hle : ts.length ≤ i := List.drop_eq_nil_iff.1 hd
    refine Ev.step ?_
    simp only [drogueref03_Join.l0]
    refine Ev.neg (by rw [List.length_map]; omega) ?_
    have e : (⟨(acc.data.toList ++ Lib.joinTail [32] (textsL [])).toArray⟩ : ByteArray) = acc := by
      apply bytes_ext
      show acc.data.toList ++ [] = acc.data.toList
      rw [List.append_nil]
    rw [e]
    exact Ev.pure _
  | t :: r, i, acc, h0, hd, hz => by
    have hlt : i < ts.length := by
      rcases Nat.lt_or_ge i ts.length with h | h
      · exact h
      · rw [List.drop_eq_nil_of_le h] at hd
        cases hd
    have hcons := List.drop_eq_getElem_cons hlt
    rw [hd] at hcons
    injection hcons with ht hr
    have hrd : rd_T36 (ts.map ownT) (i : Int) = ownT t := by
      unfold rd_T36
      rw [ht]
      simp [List.getD, hlt]
    simp only [List.map_cons, List.sum_cons, List.length_cons] at hz
    have e1 : (acc ++ (⟨#[32]⟩ : ByteArray)).size = acc.size + 1 := by rw [ByteArray.size_append]; rfl
    have e2 : ((acc ++ (⟨#[32]⟩ : ByteArray)) ++ t.f2).size = acc.size + 1 + t.f2.size := by rw [ByteArray.size_append, e1]
    have ih := refjoin_ev ts hb r (i + 1) ((acc ++ (⟨#[32]⟩ : ByteArray)) ++ t.f2) (by omega) hr.symm (by rw [e2]; omega)
    have e3 : (((acc ++ (⟨#[32]⟩ : ByteArray)) ++ t.f2).data.toList ++ Lib.joinTail [32] (textsL r)) = acc.data.toList ++ Lib.joinTail [32] (textsL (t :: r)) := by
      show _ = acc.data.toList ++ Lib.joinTail [32] (t.f2.data.toList :: textsL r)
      rw [joinTail_cons]
      simp [ByteArray.data_append]
    rw [e3] at ih
    refine Ev.step ?_
    simp only [drogueref03_Join.l0]
    rw [hrd, w64s i (by omega)]
    exact Ev.pos (by rw [List.length_map]; omega) (Ev.pos (by omega) (Ev.pos (by omega) (Ev.pos (by omega) (Ev.pos (by show (acc ++ (⟨#[32]⟩ : ByteArray)).size + t.f2.size ≤ _; omega) ih))))
theorem refjoin_of (ts : List S35) (hb : ts.length ≤ 8000) (hz : (ts.map fun t => t.f2.size).sum + ts.length ≤ 20000) : Ev (fun k => drogueref03_Join.f k (ts.map ownT)) (joined ts) := by
  unfold drogueref03_Join.f
  refine Ev.step ?_
  simp only [drogueref03_Join.l0]
  cases ts with
  | nil =>
    refine Ev.neg (by decide) ?_
    exact Ev.pure _
  | cons t r =>
    simp only [List.map_cons, List.sum_cons, List.length_cons] at hz hb
    have e2 : ((⟨#[]⟩ : ByteArray) ++ t.f2).size = t.f2.size := by rw [ByteArray.size_append]; show 0 + _ = _; omega
    have h := refjoin_ev (t :: r) (by simp only [List.length_cons]; omega) r 1 ((⟨#[]⟩ : ByteArray) ++ t.f2) (by omega) rfl (by rw [e2]; omega)
    have e3 : (⟨(((⟨#[]⟩ : ByteArray) ++ t.f2).data.toList ++ Lib.joinTail [32] (textsL r)).toArray⟩ : ByteArray) = joined (t :: r) := by
      apply bytes_ext
      rw [joined_list]
      show _ = Lib.join (t.f2.data.toList :: textsL r) [32]
      rw [Lib.join_cons]
      simp [ByteArray.data_append]
    rw [e3] at h
    have hrd : rd_T36 ((t :: r).map ownT) 0 = ownT t := rfl
    have hw : wrap64 (0 + 1) = ((1 : Nat) : Int) := w64s 0 (by omega)
    rw [hrd, hw]
    exact Ev.pos (by simp only [List.map_cons, List.length_cons]; omega) (Ev.neg (by omega) (Ev.pos (by omega) (Ev.pos (by show (0 : Nat) + t.f2.size ≤ _; omega) h)))
theorem cmp_ev (ts : List S35) (hb : ts.length ≤ 8000) : ∀ (m i : Nat), i + m = ts.length → Ev (fun k => droguelaw03_LexJoins.l1 k ts (retok 0 ts) (i : Int)) true
  | 0, i, hi => by
    refine Ev.step ?_
    simp only [droguelaw03_LexJoins.l1]
    exact Ev.neg (by rw [retok_len]; omega) (Ev.pure _)
  | m + 1, i, hi => by
    have hlt : i < ts.length := by omega
    have hr : rd_T35 ts (i : Int) = ts[i] := by
      unfold rd_T35
      simp [List.getD, hlt]
    obtain ⟨p, hp⟩ := retok_get ts 0 i hlt
    have hr2 : rd_T35 (retok 0 ts) (i : Int) = ⟨ts[i].f0, p, ts[i].f2, ts[i].f3⟩ := by
      have hlt2 : i < (retok 0 ts).length := by rw [retok_len]; exact hlt
      unfold rd_T35
      simp only [Int.toNat_natCast, List.getD, hlt2, List.getElem?_eq_getElem, Option.getD_some]
      exact hp
    refine Ev.step ?_
    simp only [droguelaw03_LexJoins.l1]
    rw [hr, hr2, w64s i (by omega)]
    exact Ev.pos (by rw [retok_len]; omega) (Ev.pos (by omega) (Ev.pos (by omega) (Ev.pos rfl (Ev.pos rfl (Ev.pos rfl (cmp_ev ts hb m (i + 1) (by omega)))))))
theorem own_ev (ts : List S35) (hb : ts.length ≤ 8000) (hz : (ts.map fun t => t.f2.size).sum + ts.length ≤ 16000) (hv : ∀ t ∈ ts, Vt t) : ∀ (m i : Nat), i + m = ts.length → Ev (fun k => droguelaw03_LexJoins.l0 k ts ((ts.take i).map ownT) (i : Int)) true
  | 0, i, hi => by
    have hjz := joined_size ts
    refine Ev.step ?_
    simp only [droguelaw03_LexJoins.l0]
    refine Ev.neg (by omega) ?_
    rw [List.take_of_length_le (by omega)]
    refine Ev.bind (lexjoin_of ts hb (by omega)) (Ev.bind (refjoin_of ts hb (by omega)) (Ev.pos rfl ?_))
    refine Ev.bind (Ev.const (lex_of (by omega) (lexes_joined ts hv))) (Ev.neg (by simp [progR]) ?_)
    refine Ev.step ?_
    simp only [droguelaw03_LexJoins.j1]
    refine Ev.neg ?_ ?_
    · show ¬ (((([] ++ retok 0 ts : List S35).length : Int) != (ts.length : Int)) = true)
      rw [List.nil_append, retok_len]
      simp
    · exact cmp_ev ts hb ts.length 0 (by omega)
  | m + 1, i, hi => by
    have hlt : i < ts.length := by omega
    have hr : rd_T35 ts (i : Int) = ts[i] := by
      unfold rd_T35
      simp [List.getD, hlt]
    have ih := own_ev ts hb hz hv m (i + 1) (by omega)
    have e : (ts.take (i + 1)).map ownT = (ts.take i).map ownT ++ [ownT ts[i]] := by
      rw [List.take_succ_eq_append_getElem hlt, List.map_append]
      rfl
    rw [e] at ih
    refine Ev.step ?_
    simp only [droguelaw03_LexJoins.l0]
    rw [hr, w64s i (by omega)]
    exact Ev.pos (by omega) (Ev.pos (by omega) (Ev.pos (by rw [List.length_map, List.length_take]; omega) ih))
theorem LexJoins : droguelaw03_LexJoins.Pure := by
  intro a0 h0
  refine Ev.some_of ?_
  unfold droguelaw03_LexJoins.f
  refine Ev.bind (Ev.const (show droguelaw03_alive.f = some true from rfl)) (Ev.pos rfl ?_)
  by_cases hs : (a0.size : Int) > 8000
  · exact Ev.pos hs (Ev.pure _)
  · refine Ev.neg hs ?_
    have hz := size_l a0
    obtain ⟨R, hR⟩ := Lexes.total a0.data.toList.length a0.data.toList 0 (Nat.le_refl _)
    refine Ev.bind (Ev.const (lex_of (by omega) hR)) ?_
    cases R with
    | error p => exact Ev.pos (by simp [progR]) (Ev.pure _)
    | ok ts =>
      refine Ev.neg (by simp [progR]) ?_
      obtain ⟨hv, hsum⟩ := Lexes.valid hR ts rfl
      have hc := hR.count
      exact own_ev ts (by omega) (by omega) hv ts.length 0 (by omega)
end Go.Proofs.YtnlbbpandnpgoaaDoor.Pure
