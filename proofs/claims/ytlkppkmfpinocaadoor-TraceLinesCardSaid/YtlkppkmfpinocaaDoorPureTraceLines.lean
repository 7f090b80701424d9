/- Package trace: what the document's read, Parse and Text tell. No program in sight. -/
import Derived.Test.YtlkppkmfpinocaaDoorPTx12
import Derived.Test.YtlkppkmfpinocaaDoorPTx9
import Derived.Test.YtlkppkmfpinocaaDoorPTx8
import Derived.Test.YtlkppkmfpinocaaDoorTrEv
import Derived.Test.YtlkppkmfpinocaaDoorTrRefRead
namespace Go.Proofs.YtlkppkmfpinocaaDoor.PT
open Go.RowKit Go.Proofs.YtlkppkmfpinocaaDoorW.PrintWords Go.Proofs.YtlkppkmfpinocaaDoorW.PrintLast Go.Proofs.YtlkppkmfpinocaaDoorW.PrintMore
set_option linter.unusedVariables false
set_option linter.unusedSimpArgs false

/-! ### the document's number -/
theorem numL_app : ∀ (a b : List UInt8) (n : Int), numL (a ++ b) n = numL b (numL a n)
  | [], b, n => rfl
  | c :: a, b, n => by
    simp only [List.cons_append, numL]
    split
    · exact numL_app a b _
    · exact numL_app a b _
theorem numL_dec : ∀ (u : Nat), u ≤ 9223372036854775808 → numL (Lib.decDigits u) 0 = -(u : Int) := by
  intro u
  induction u using Nat.strongRecOn with
  | _ u ih =>
    intro hu
    rw [Lib.decDigits]
    split
    · rename_i h
      have hv := dg_val u h
      simp only [numL, hv]
      rw [if_neg (by omega)]
      unfold wrap64
      omega
    · rename_i h
      rw [numL_app, ih (u / 10) (by omega) (by omega)]
      have hv := dg_val (u % 10) (by omega)
      simp only [numL, hv]
      rw [if_neg (by omega)]
      unfold wrap64
      omega
theorem numG_itoa (s : ByteArray) (n : Int) (h : i64B n = true) (hs : s.data.toList = Lib.itoa n) : numG s = n := by
  obtain ⟨h0, h1⟩ := i64B_of h
  unfold numG
  rw [hs]
  unfold Lib.itoa
  by_cases hn : n < 0
  · rw [if_pos hn]
    simp only
    rw [if_pos (by rfl)]
    simp only [numL]
    rw [if_pos (by rfl), numL_dec _ (by omega)]
    omega
  · rw [if_neg hn]
    have hd := numL_dec n.toNat (by omega)
    have hm := dec_mem n.toNat
    cases hc : Lib.decDigits n.toNat with
    | nil => exact absurd hc (dec_ne _)
    | cons c r =>
      have hcd : IsDg c := hm c (by rw [hc]; simp)
      unfold IsDg at hcd
      simp only
      rw [if_neg (by omega), ← hc, hd]
      unfold wrap64
      omega
/-- of a right line the guess is its number -/
theorem guess_line (k n : Int) (he : evB k n = true) (hi : i64B n = true) : guess k (lineF k n) = n := by
  obtain ⟨h1, h7, h0⟩ := evB_range he
  unfold guess
  by_cases hk : 4 < k
  · have hg : guessC k (lineF k n) = false := by
      unfold guessC
      rw [decide_eq_false (by omega)]
      rfl
    rw [hg, h0 hk]
    rfl
  · have hl := line_num_l k n he hk
    have hs : (lineF k n).size = (lineL k n).length := (ba_len _).symm
    have hw : (wordK k).size = (wordK k).data.toList.length := (ba_len _).symm
    have hg : guessC k (lineF k n) = true := by
      unfold guessC
      rw [decide_eq_true (by omega), hs, hl, decide_eq_true (by rw [hw]; simp)]
      simp only [Bool.true_and]
      rw [beq_iff_eq]
      congr 1
      apply bytes_ext
      rw [extract_l]
      show ((lineL k n).take _).drop 0 = _
      rw [hl, hw]
      simp
    rw [if_pos hg]
    refine numG_itoa _ _ hi ?_
    rw [extract_l]
    show ((lineL k n).take _).drop _ = _
    rw [hs, List.take_length, hl, hw]
    rw [show (wordK k).data.toList ++ 32 :: Lib.itoa n = ((wordK k).data.toList ++ [32]) ++ Lib.itoa n by simp]
    exact List.drop_left' (by simp)
theorem tryOk_iff (k : Int) (s : ByteArray) : tryOk k s = true ↔ evB k (guess k s) = true ∧ lineF k (guess k s) = s := by
  unfold tryOk
  rw [Bool.and_eq_true, beq_iff_eq]
  constructor
  · rintro ⟨h1, h2⟩
    exact ⟨h1, bytes_inj h2⟩
  · rintro ⟨h1, h2⟩
    exact ⟨h1, by rw [h2]⟩
theorem tryOk_reads {k : Int} {s : ByteArray} (h : tryOk k s = true) : readF s = (k, guess k s, true) := by
  obtain ⟨h1, h2⟩ := (tryOk_iff k s).1 h
  have := readF_line k (guess k s) h1 (guess_i64 k s)
  rwa [h2] at this
theorem readG_no (s : ByteArray) : ∀ (m : Nat) (k : Int), (∀ j : Int, tryOk j s = false) → readG s m k = (0, 0, false)
  | 0, k, h => rfl
  | m + 1, k, h => by
    unfold readG
    rw [h k]
    exact readG_no s m (k + 1) h
theorem readG_yes (s : ByteArray) (k n : Int) (hr : readF s = (k, n, true)) (hk : tryOk k s = true) (hg : guess k s = n) : ∀ (m : Nat) (j : Int), j ≤ k → k < j + m → readG s m j = (k, n, true)
  | 0, j, h1, h2 => by omega
  | m + 1, j, h1, h2 => by
    unfold readG
    by_cases hj : j = k
    · subst hj
      rw [if_pos hk, hg]
    · have hn : ¬ tryOk j s = true := by
        intro h
        have := tryOk_reads h
        rw [hr] at this
        simp only [Prod.mk.injEq] at this
        exact hj this.1.symm
      rw [if_neg hn]
      exact readG_yes s k n hr hk hg m (j + 1) (by omega) (by omega)
/-- the document reads a line as the program does -/
theorem readG_eq (s : ByteArray) : readG s 7 1 = readF s := by
  cases hr : (readF s).2.2 with
  | false =>
    rw [readF_none hr]
    refine readG_no s 7 1 fun j => ?_
    rw [Bool.eq_false_iff]
    intro h
    rw [tryOk_reads h] at hr
    cases hr
  | true =>
    have h : readF s = ((readF s).1, (readF s).2.1, true) := by rw [← hr]
    obtain ⟨he, hl, hi⟩ := readF_sound h
    have hg : guess (readF s).1 s = (readF s).2.1 := by
      have := guess_line _ _ he hi
      rwa [hl] at this
    obtain ⟨h1, h7, _⟩ := evB_range he
    rw [readG_yes s _ _ h ((tryOk_iff _ _).2 ⟨by rw [hg]; exact he, by rw [hg]; exact hl⟩) hg 7 1 h1 (by omega)]
    exact h.symm
/-! ### the document's Parse -/
theorem linesB_cut (m : Nat) (a r : List UInt8) (h : ∀ c ∈ a, c ≠ 10) : linesB (m + 1) (bs (a ++ 10 :: r)) = bs (a ++ [10]) :: linesB m (bs r) := by
  conv => lhs; unfold linesB
  rw [if_neg (by rw [bs_size]; simp), nextA_at _ _ h, nextB_at _ _ h]
theorem linesB_nil (m : Nat) : linesB m (bs []) = [] := by
  cases m with
  | zero => rfl
  | succ m =>
    unfold linesB
    exact if_pos (by rw [bs_size]; rfl)
theorem linesB_last (m : Nat) (a : List UInt8) (h : ∀ c ∈ a, c ≠ 10) (h0 : a ≠ []) : linesB (m + 1) (bs a) = [bs a] := by
  unfold linesB
  rw [if_neg (by rw [bs_size]; intro e; exact h0 (List.length_eq_zero_iff.1 e)), nextA_last _ h, nextB_last _ h, linesB_nil]
theorem no_suffix {a : List UInt8} (h : ∀ c ∈ a, c ≠ 10) : Lib.hasSuffix a [10] = false := by
  rw [Bool.eq_false_iff]
  intro hs
  simp only [Lib.hasSuffix] at hs
  simp at hs
  obtain ⟨t, rfl⟩ := hs
  exact h 10 (by simp) rfl
theorem parse_l0 (s : ByteArray) (hs : s.size ≤ 1000000) : ∀ (m p b : Nat) (acc : List S26) (n q : Nat), p + m = s.size → b ≤ p → acc.length ≤ b → 1 ≤ n → n ≤ b + 1 → s.size ≤ b + q →
    (∀ c ∈ (s.data.toList.drop b).take (p - b), c ≠ 10) →
    Ev (fun k => drogueref20_Parse.l0 k s acc (b : Int) (n : Int) (p : Int)) (parseLs (linesB q (bs (s.data.toList.drop b))) acc ((n : Int) - 1))
  | 0, p, b, acc, n, q, hp, hb, ha, hn1, hn, hq, hno => by
    have hl := ba_len s
    have hall : ∀ c ∈ s.data.toList.drop b, c ≠ 10 := by
      intro c hc
      refine hno c ?_
      rw [List.take_of_length_le (by rw [List.length_drop]; omega)]
      exact hc
    refine Ev.step ?_
    simp only [drogueref20_Parse.l0]
    refine Ev.neg (by omega) ?_
    by_cases hbs : b < s.size
    · refine Ev.pos (by omega) ?_
      have hne : s.data.toList.drop b ≠ [] := by
        intro e
        have := congrArg List.length e
        rw [List.length_drop] at this
        simp only [List.length_nil] at this
        omega
      obtain ⟨q', rfl⟩ : ∃ q', q = q' + 1 := ⟨q - 1, by omega⟩
      rw [linesB_last q' _ hall hne]
      have hok : okL (bs (s.data.toList.drop b)) = false := by
        unfold okL
        rw [bs_l, no_suffix hall]
        rfl
      unfold parseLs
      rw [if_neg (by rw [hok]; decide), show (n : Int) - 1 + 1 = n by omega]
      exact Ev.pure _
    · refine Ev.neg (by omega) ?_
      rw [List.drop_eq_nil_of_le (by omega), linesB_nil]
      exact Ev.pure _
  | m + 1, p, b, acc, n, q, hp, hb, ha, hn1, hn, hq, hno => by
    have hl := ba_len s
    have wp : wrap64 ((p : Int) + 1) = ((p + 1 : Nat) : Int) := by unfold wrap64; omega
    have wn : wrap64 ((n : Int) + 1) = ((n + 1 : Nat) : Int) := by unfold wrap64; omega
    have hlt : p < s.data.toList.length := by omega
    have hdp : s.data.toList.drop p = s.data.toList[p] :: s.data.toList.drop (p + 1) := List.drop_eq_getElem_cons hlt
    have hbt := btl_at s p _ _ hdp
    have hsplit : s.data.toList.drop b = (s.data.toList.drop b).take (p - b) ++ s.data.toList[p] :: s.data.toList.drop (p + 1) := by
      have := (List.take_append_drop (p - b) (s.data.toList.drop b)).symm
      rw [List.drop_drop, show b + (p - b) = p by omega, hdp] at this
      exact this
    generalize hpre : (s.data.toList.drop b).take (p - b) = pre at *
    generalize hc : s.data.toList[p] = c at *
    refine Ev.step ?_
    simp only [drogueref20_Parse.l0]
    refine Ev.pos (by omega) ?_
    refine Ev.pos (by omega) ?_
    rw [hbt]
    by_cases h10 : c = 10
    · subst h10
      refine Ev.pos (by rfl) ?_
      refine Ev.pos (by omega) ?_
      refine Ev.pos (by omega) ?_
      refine Ev.pos (by omega) ?_
      have hex : s.extract ((b : Int)).toNat ((p : Int)).toNat = bs pre := by
        apply bytes_ext
        rw [extract_l, bs_l]
        simp only [Int.toNat_natCast]
        rw [← hpre, List.drop_take]
      rw [hex]
      have hpl : pre.length ≤ s.size := by rw [← hpre, List.length_take, List.length_drop]; omega
      have hread : drogueref20_read.f (bs pre) = some (readF (bs pre)) := by
        unfold drogueref20_read.f
        rw [if_pos (by rw [bs_size]; omega), readG_eq]
      refine Ev.bind (Ev.const hread) ?_
      obtain ⟨q', rfl⟩ : ∃ q', q = q' + 1 := ⟨q - 1, by omega⟩
      rw [hsplit, linesB_cut q' _ _ hno]
      have hok : okL (bs (pre ++ [10])) = (readF (bs pre)).2.2 := by
        unfold okL
        rw [trimT_at, bs_l, suffix10]
        rfl
      have hev : evL (bs (pre ++ [10])) = ⟨(readF (bs pre)).1, (readF (bs pre)).2.1⟩ := by
        unfold evL
        rw [trimT_at]
      unfold parseLs
      rw [hok, hev]
      cases hv : (readF (bs pre)).2.2 with
      | true =>
        refine Ev.pos rfl ?_
        refine Ev.pos (by omega) ?_
        rw [if_pos rfl, wp, wn]
        have hm := parse_l0 s hs m (p + 1) (p + 1) (acc ++ [⟨(readF (bs pre)).1, (readF (bs pre)).2.1⟩]) (n + 1) q' (by omega) (Nat.le_refl _) (by simp; omega) (by omega) (by omega) (by omega) (by
          intro c hc
          rw [Nat.sub_self, List.take_zero] at hc
          cases hc)
        rw [show (n : Int) - 1 + 1 = ((n + 1 : Nat) : Int) - 1 by omega]
        exact hm
      | false =>
        refine Ev.neg (by decide) ?_
        rw [if_neg (by decide), show (n : Int) - 1 + 1 = n by omega]
        exact Ev.pure _
    · refine Ev.neg (by intro e; apply h10; apply UInt8.toNat_inj.1; have : (10 : UInt8).toNat = 10 := rfl; omega) ?_
      rw [wp]
      refine parse_l0 s hs m (p + 1) b acc n q (by omega) (by omega) ha hn1 hn hq ?_
      have hpl : pre.length = p - b := by
        rw [← hpre, List.length_take, List.length_drop]
        omega
      have e2 : (s.data.toList.drop b).take (p + 1 - b) = pre ++ [c] := by
        rw [hsplit, show p + 1 - b = pre.length + 1 by omega]
        rw [List.take_append, List.take_of_length_le (by omega)]
        simp
      rw [e2]
      intro x hx
      rcases List.mem_append.1 hx with h | h
      · exact hno x h
      · rw [List.mem_singleton] at h
        subst h
        exact h10
theorem refparse_ev (s : ByteArray) (hs : s.size ≤ 1000000) : Ev (fun k => drogueref20_Parse.f k s) (parseLs (linesB s.size s) [] 0) := by
  unfold drogueref20_Parse.f
  have := parse_l0 s hs s.size 0 0 [] 1 s.size (by omega) (Nat.le_refl _) (Nat.le_refl _) (Nat.le_refl _) (Nat.le_refl _) (by omega) (by intro c hc; cases hc)
  rw [List.drop_zero, bs_of] at this
  exact this
/-! ### the document's Text -/
theorem reftext_l0 (l : List S26) (hi : i64s l = true) (hl : l.length ≤ 100000) : ∀ (m i : Nat) (x : List UInt8), i + m = l.length → x.length ≤ 28 * i → Ev (fun k => drogueref20_Text.l0 k l (bs x) (i : Int)) (bs (x ++ textL (l.drop i)))
  | 0, i, x, h, hx => by
    refine Ev.step ?_
    simp only [drogueref20_Text.l0]
    refine Ev.neg (by omega) ?_
    rw [List.drop_eq_nil_of_le (by omega)]
    simp only [textL, List.append_nil]
    exact Ev.pure _
  | m + 1, i, x, h, hx => by
    have wx : wrap64 ((i : Int) + 1) = ((i + 1 : Nat) : Int) := by unfold wrap64; omega
    have hlt : i < l.length := by omega
    rw [drop_rd' l i hlt]
    have hii := i64s_rd hi i hlt
    refine Ev.step ?_
    simp only [drogueref20_Text.l0]
    refine Ev.pos (by omega) ?_
    refine Ev.pos (by omega) ?_
    generalize rd_T26 l (i : Int) = e at hii
    have hls := lineF_size e.f0 e.f1 hii
    have hll : (lineL e.f0 e.f1).length = (lineF e.f0 e.f1).size := ba_len _
    refine Ev.bind (rright_ev e.f0 e.f1) ?_
    by_cases he : evB e.f0 e.f1 = true
    · refine Ev.pos he ?_
      refine Ev.bind (Ev.const (if_pos hii)) ?_
      have hsz : (lineF e.f0 e.f1 ++ (⟨#[10]⟩ : ByteArray)).size = (lineF e.f0 e.f1).size + 1 := by rw [ByteArray.size_append]; rfl
      refine Ev.pos (by omega) ?_
      refine Ev.pos (by rw [hsz, bs_size]; omega) ?_
      have hj : bs x ++ (lineF e.f0 e.f1 ++ (⟨#[10]⟩ : ByteArray)) = bs (x ++ (lineL e.f0 e.f1 ++ [10])) := by
        rw [← bs_app, ← bs_app, lineL_bs]
      rw [hj, wx]
      have := reftext_l0 l hi hl m (i + 1) (x ++ (lineL e.f0 e.f1 ++ [10])) (by omega) (by simp; omega)
      rw [textL_cons_pos e _ he]
      simpa using this
    · refine Ev.neg he ?_
      rw [textL_cons_neg e _ he, wx]
      exact reftext_l0 l hi hl m (i + 1) x (by omega) (by omega)
theorem reftext_ev (l : List S26) (hi : i64s l = true) (hl : l.length ≤ 100000) : Ev (fun k => drogueref20_Text.f k l) (bs (textL l)) := by
  have := reftext_l0 l hi hl l.length 0 [] (by omega) (by simp)
  rw [List.drop_zero] at this
  exact this
theorem refline_get (k n : Int) (h : i64B n = true) : drogueref20_Line.f k n = some (lineF k n) := if_pos h
/-! ### TraceLines: the plain law -/
theorem parseLs_len : ∀ (xs : List ByteArray) (acc : List S26) (n : Int), (parseLs xs acc n).1.length ≤ acc.length + xs.length
  | [], acc, n => by simp [parseLs]
  | x :: xs, acc, n => by
    unfold parseLs
    split
    · have := parseLs_len xs (acc ++ [evL x]) (n + 1)
      simp at this ⊢
      omega
    · simp
theorem lines_end (l : List S26) (s : ByteArray) (hi : i64s l = true) (hl : l.length ≤ 300) (hs : s.size ≤ 5000) (x5 : Bool) (hx : x5 = true → rights l = l) (i : Nat) (hil : i = l.length) : Ev (fun k => droguelaw20_TraceLines.l0 k l s x5 (i : Int)) true := by
  subst hil
  refine Ev.step ?_
  simp only [droguelaw20_TraceLines.l0]
  refine Ev.neg (by omega) ?_
  obtain ⟨R, hR⟩ : ∃ R, R = parseLs (linesB s.size s) [] 0 := ⟨_, rfl⟩
  have h1 : trace_Parse.f s = some R := by
    unfold trace_Parse.f
    rw [if_pos (by omega), hR]
  have h2 : Ev (fun k => drogueref20_Parse.f k s) R := by
    rw [hR]
    exact refparse_ev s (by omega)
  have hRl : R.1.length ≤ 1000000 := by
    have h3 := parseLs_len (linesB s.size s) [] 0
    have h4 := linesB_len s.size s
    rw [← hR] at h3
    simp at h3
    omega
  refine Ev.bind (Ev.const h1) ?_
  refine Ev.bind h2 ?_
  refine Ev.bind (same_ev _ _ hRl) ?_
  refine Ev.pos (eqL_rfl _) ?_
  refine Ev.pos rfl ?_
  refine Ev.pos rfl ?_
  refine Ev.bind (Ev.const (text_get _ hi (by omega))) ?_
  refine Ev.bind (reftext_ev _ hi (by omega)) ?_
  refine Ev.step ?_
  simp only [droguelaw20_TraceLines.j2]
  refine Ev.neg (by simp) ?_
  refine Ev.bind (Ev.const (text_get _ hi (by omega))) ?_
  refine Ev.bind (Ev.const (parse_get _ hi (by omega))) ?_
  refine Ev.pos rfl ?_
  refine Ev.pos rfl ?_
  cases x5 with
  | false => exact Ev.neg (by decide) (Ev.pure _)
  | true =>
    refine Ev.pos rfl ?_
    simp only [hx rfl]
    refine Ev.bind (same_ev _ _ (by omega)) ?_
    rw [eqL_rfl]
    exact Ev.pure _
theorem lines_l0 (l : List S26) (s : ByteArray) (hi : i64s l = true) (hl : l.length ≤ 300) (hs : s.size ≤ 5000) : ∀ (m i : Nat) (x5 : Bool), i + m = l.length → (x5 = true → ∀ (j : Nat) (h : j < l.length), j < i → evB (l[j]).f0 (l[j]).f1 = true) → Ev (fun k => droguelaw20_TraceLines.l0 k l s x5 (i : Int)) true
  | 0, i, x5, h, hx => by
    refine lines_end l s hi hl hs x5 (fun e => ?_) i (by omega)
    refine rights_all fun y hy => ?_
    obtain ⟨j, hj, rfl⟩ := List.getElem_of_mem hy
    exact hx e j hj (by omega)
  | m + 1, i, x5, h, hx => by
    have wx : wrap64 ((i : Int) + 1) = ((i + 1 : Nat) : Int) := by unfold wrap64; omega
    have hlt : i < l.length := by omega
    have hii := i64s_rd hi i hlt
    have hrd := rd_mem l i hlt
    refine Ev.step ?_
    simp only [droguelaw20_TraceLines.l0]
    refine Ev.pos (by omega) ?_
    refine Ev.pos (by omega) ?_
    generalize rd_T26 l (i : Int) = e at *
    refine Ev.bind (right_ev _ _ hii) ?_
    refine Ev.bind (rright_ev _ _) ?_
    refine Ev.neg (by simp) ?_
    refine Ev.bind (Ev.const (trace_Line.get _ _ hii)) ?_
    refine Ev.bind (Ev.const (refline_get _ _ hii)) ?_
    refine Ev.pos rfl ?_
    cases x5 with
    | true =>
      refine Ev.pos rfl ?_
      refine Ev.bind (right_ev _ _ hii) ?_
      rw [wx]
      refine lines_l0 l s hi hl hs m (i + 1) _ (by omega) fun he j h1 h2 => ?_
      rcases Nat.lt_or_ge j i with h3 | h3
      · exact hx rfl j h1 h3
      · obtain rfl : j = i := by omega
        rw [← hrd]
        exact he
    | false =>
      refine Ev.neg (by decide) ?_
      rw [wx]
      exact lines_l0 l s hi hl hs m (i + 1) false (by omega) (fun e => by cases e)
theorem traceLines_pure (l : List S26) (s : ByteArray) (hi : i64s l = true) (hs : s.size ≤ 140737488351232) : ∃ k, droguelaw20_TraceLines.f k l s = some true := by
  refine Ev.some_of ?_
  unfold droguelaw20_TraceLines.f
  refine Ev.bind (Ev.const (r := true) rfl) ?_
  refine Ev.pos rfl ?_
  by_cases la : (l.length : Int) > 300
  · refine Ev.pos la ?_
    refine Ev.step ?_
    simp only [droguelaw20_TraceLines.j0]
    exact Ev.pos trivial (Ev.pure _)
  · refine Ev.neg la ?_
    refine Ev.step ?_
    simp only [droguelaw20_TraceLines.j0]
    by_cases lb : (s.size : Int) > 5000
    · exact Ev.pos (by simpa using lb) (Ev.pure _)
    · refine Ev.neg (by simpa using lb) ?_
      exact lines_l0 l s hi (by omega) (by omega) l.length 0 true (by omega) (fun _ j _ h => absurd h (by omega))
end Go.Proofs.YtlkppkmfpinocaaDoor.PT
