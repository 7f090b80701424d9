import Derived.Test.YtnlbbpandnpgoaaDoorPLx12
import Derived.Test.YtnlbbpandnpgoaaDoorLexPure5
namespace Go.Proofs.YtnlbbpandnpgoaaDoor.Pure
open Go.RowKit Go.Proofs.YtnlbbpandnpgoaaDoor.PL
set_option linter.unusedVariables false

abbrev bs (l : List UInt8) : ByteArray := ⟨l.toArray⟩
theorem bs_list (l : List UInt8) : (bs l).data.toList = l := rfl
theorem bs_size (l : List UInt8) : (bs l).size = l.length := by show l.toArray.size = _; simp
theorem bs_app (l r : List UInt8) : bs l ++ bs r = bs (l ++ r) := by
  apply bytes_ext
  simp [ByteArray.data_append]
theorem valD_cons (acc : Nat) (c : UInt8) (l : List UInt8) : valD acc (c :: l) = valD (acc * 10 + (c.toNat - 48)) l := by
  conv => lhs; unfold valD
theorem valD_acc (l : List UInt8) : ∀ (acc : Nat), valD acc l = acc * 10 ^ l.length + valD 0 l := by
  induction l with
  | nil =>
    intro acc
    show acc = acc * 10 ^ 0 + 0
    rw [Nat.pow_zero, Nat.mul_one, Nat.add_zero]
  | cons c l ih =>
    intro acc
    rw [valD_cons, valD_cons, ih (acc * 10 + (c.toNat - 48)), ih (0 * 10 + (c.toNat - 48)), List.length_cons]
    generalize c.toNat - 48 = d
    rw [Nat.pow_succ]
    generalize 10 ^ l.length = e
    generalize valD 0 l = v
    have h1 : (acc * 10 + d) * e = acc * (e * 10) + d * e := by rw [Nat.add_mul, Nat.mul_assoc, Nat.mul_comm 10]
    have h2 : (0 * 10 + d) * e = d * e := by rw [Nat.zero_mul, Nat.zero_add]
    rw [h1, h2, Nat.add_assoc]
def Digs (l : List UInt8) : Prop := ∀ c ∈ l, isDig c = true
theorem span_digs : ∀ (l r : List UInt8), Digs l → spanN isDigB (l ++ r) = l.length + spanN isDigB r
  | [], r, _ => by simp
  | c :: l, r, h => by
    have hc : isDigB (c.toNat : Int) = true := h c (List.mem_cons_self ..)
    rw [List.cons_append, spanN_cons, if_pos hc, span_digs l r (fun x hx => h x (List.mem_cons_of_mem _ hx)), List.length_cons]
    omega
theorem span_y : spanN isDigB [121] = 0 := by rw [spanN_cons, if_neg (by decide)]
/-- a digit of the table -/
theorem digit_of (d : Nat) (h : d < 10) : (⟨#[48, 49, 50, 51, 52, 53, 54, 55, 56, 57]⟩ : ByteArray).extract d (d + 1) = bs [UInt8.ofNat (48 + d)] := by
  have : ∀ d : Fin 10, (⟨#[48, 49, 50, 51, 52, 53, 54, 55, 56, 57]⟩ : ByteArray).extract d.val (d.val + 1) = bs [UInt8.ofNat (48 + d.val)] := by decide +kernel
  exact this ⟨d, h⟩
theorem digit_nat (d : Nat) (h : d < 10) : (UInt8.ofNat (48 + d)).toNat = 48 + d := by
  have : ∀ d : Fin 10, (UInt8.ofNat (48 + d.val)).toNat = 48 + d.val := by decide +kernel
  exact this ⟨d, h⟩
theorem digs_cons (d : Nat) (h : d < 10) (D : List UInt8) (hD : Digs D) : Digs (UInt8.ofNat (48 + d) :: D) := by
  intro c hc
  rw [List.mem_cons] at hc
  rcases hc with rfl | hc
  · rw [isDig_iff, digit_nat d h]
    omega
  · exact hD c hc
theorem val_cons (d : Nat) (h : d < 10) (D : List UInt8) : valD 0 (UInt8.ofNat (48 + d) :: D) = d * 10 ^ D.length + valD 0 D := by
  rw [valD_cons, digit_nat d h, Nat.zero_mul, Nat.zero_add, Nat.add_sub_cancel_left, valD_acc]
theorem num_step (x0 x1 : Int) (D : List UInt8) (m : Nat) (hm : m < 9223372036854775808) (hl : D.length ≤ 40) (hc : 0 < m ∨ D = []) (h : Ev (fun k => droguelaw03_LexNumbers.l0 k x0 x1 (bs (UInt8.ofNat (48 + m % 10) :: D)) ((m / 10 : Nat) : Int)) true) :
    Ev (fun k => droguelaw03_LexNumbers.l0 k x0 x1 (bs D) (m : Int)) true := by
  have h10 : m % 10 < 10 := Nat.mod_lt _ (by decide)
  have e1 : Int.tmod (m : Int) 10 = ((m % 10 : Nat) : Int) := rfl
  have e2 : wrap64 (((m % 10 : Nat) : Int) + 1) = ((m % 10 + 1 : Nat) : Int) := w64s _ (by omega)
  have e3 : wrap64 (Int.tdiv (m : Int) 10) = ((m / 10 : Nat) : Int) := by
    have : Int.tdiv (m : Int) 10 = ((m / 10 : Nat) : Int) := rfl
    rw [this]
    exact w64 _ (by omega)
  have e4 : (⟨#[48, 49, 50, 51, 52, 53, 54, 55, 56, 57]⟩ : ByteArray).extract (m % 10) (m % 10 + 1) ++ bs D = bs (UInt8.ofNat (48 + m % 10) :: D) := by
    rw [digit_of _ h10, bs_app]
    rfl
  have e5 : ((⟨#[48, 49, 50, 51, 52, 53, 54, 55, 56, 57]⟩ : ByteArray).extract (m % 10) (m % 10 + 1)).size = 1 := by
    rw [digit_of _ h10]
    rfl
  refine Ev.step ?_
  simp only [droguelaw03_LexNumbers.l0]
  rw [e1, e2, e3, Int.toNat_natCast, Int.toNat_natCast, e4, e5, bs_size]
  by_cases hp : 0 < m
  · exact Ev.pos (by omega) (Ev.pos (by omega) (Ev.pos (by omega) (Ev.pos (by omega) (Ev.pos (by omega) h))))
  · have hD := hc.resolve_left hp
    exact Ev.neg (by omega) (Ev.pos (by rw [hD, ByteArray.toList_eq]) (Ev.pos (by omega) (Ev.pos (by omega) (Ev.pos (by omega) (Ev.pos (by omega) h)))))
theorem num_loop (x0 x1 : Int) (N : Nat) (hfin : ∀ D, D ≠ [] → Digs D → D.length ≤ 30 → valD 0 D = N → Ev (fun k => droguelaw03_LexNumbers.l1 k x0 x1 (bs D) 0) true) :
    ∀ (j m : Nat) (D : List UInt8), D ≠ [] → Digs D → D.length + j ≤ 30 → m < 10 ^ j → m < 9223372036854775808 → m * 10 ^ D.length + valD 0 D = N → Ev (fun k => droguelaw03_LexNumbers.l0 k x0 x1 (bs D) (m : Int)) true := by
  have hend : ∀ D, D ≠ [] → Digs D → D.length ≤ 30 → valD 0 D = N → Ev (fun k => droguelaw03_LexNumbers.l0 k x0 x1 (bs D) ((0 : Nat) : Int)) true := by
    intro D h1 h2 h3 h4
    refine Ev.step ?_
    simp only [droguelaw03_LexNumbers.l0]
    refine Ev.neg (by omega) (Ev.neg ?_ (hfin D h1 h2 h3 h4))
    rw [ByteArray.toList_eq]
    exact h1
  intro j
  induction j with
  | zero =>
    intro m D h1 h2 h3 h4 h5 h6
    have : m = 0 := by simpa using h4
    subst this
    exact hend D h1 h2 (by omega) (by simpa using h6)
  | succ j ih =>
    intro m D h1 h2 h3 h4 h5 h6
    by_cases hm : m = 0
    · subst hm
      exact hend D h1 h2 (by omega) (by simpa using h6)
    · have h10 : m % 10 < 10 := Nat.mod_lt _ (by decide)
      refine num_step x0 x1 D m h5 (by omega) (Or.inl (by omega)) ?_
      refine ih (m / 10) _ (by simp) (digs_cons _ h10 D h2) (by simp only [List.length_cons]; omega) ?_ (by omega) ?_
      · rw [Nat.div_lt_iff_lt_mul (by decide)]
        rw [Nat.pow_succ] at h4
        exact h4
      · rw [val_cons _ h10, ← Nat.add_assoc, List.length_cons, Nat.pow_succ, Nat.mul_comm (10 ^ D.length), ← Nat.mul_assoc, ← Nat.add_mul, Nat.mul_comm (m / 10)]
        rw [Nat.div_add_mod]
        exact h6
theorem nought_loop (x0 : Int) (x1 : Nat) (N : Nat) (hx : x1 < 256) (hfin : ∀ D, D ≠ [] → Digs D → D.length ≤ 40 → valD 0 D = N → Ev (fun k => droguelaw03_LexNumbers.l1 k x0 (x1 : Int) (bs D) ((x1 % 5 : Nat) : Int)) true) :
    ∀ (j i : Nat) (D : List UInt8), i + j = x1 % 5 → D ≠ [] → Digs D → D.length ≤ 30 + i → valD 0 D = N → Ev (fun k => droguelaw03_LexNumbers.l1 k x0 (x1 : Int) (bs D) (i : Int)) true
  | 0, i, D, hi, h1, h2, h3, h4 => by
    have : x1 % 5 < 5 := Nat.mod_lt _ (by decide)
    have e : i = x1 % 5 := by omega
    rw [e]
    exact hfin D h1 h2 (by omega) h4
  | j + 1, i, D, hi, h1, h2, h3, h4 => by
    have h5 : x1 % 5 < 5 := Nat.mod_lt _ (by decide)
    have e1 : wrap64 (Int.tmod (x1 : Int) 5) = ((x1 % 5 : Nat) : Int) := by
      have : Int.tmod (x1 : Int) 5 = ((x1 % 5 : Nat) : Int) := rfl
      rw [this]
      exact w64 _ (by omega)
    have e2 : (⟨#[48]⟩ : ByteArray) ++ bs D = bs (48 :: D) := bs_app [48] D
    refine Ev.step ?_
    simp only [droguelaw03_LexNumbers.l1]
    rw [e1, e2, w64s i (by omega), bs_size]
    refine Ev.pos (by omega) (Ev.pos (by omega) ?_)
    refine nought_loop x0 x1 N hx hfin j (i + 1) (48 :: D) (by omega) (by simp) ?_ (by simp only [List.length_cons]; omega) (by rw [← h4]; rfl)
    intro c hc
    rw [List.mem_cons] at hc
    rcases hc with rfl | hc
    · rfl
    · exact h2 c hc
/-! ### what is lexed -/
theorem tok_x (r : List UInt8) : tokB (120 :: 32 :: r) = some (1, 0 + 1, 0) := by
  have hs : spanN innerB (120 :: 32 :: r) = 1 := by rw [spanN_cons, if_pos (by decide), spanN_cons, if_neg (by decide)]
  have hw : wordB (⟨((120 :: 32 :: r).take 1).toArray⟩ : ByteArray) = false := by
    show wordB ⟨#[120]⟩ = false
    decide +kernel
  rw [tokB_let (by decide), hs, if_pos (by decide), hw]
  rfl
theorem tok_y : tokB [121] = some (1, 0 + 1, 0) := by decide +kernel
theorem lex_ok (S : List UInt8) (c : UInt8) (l : List UInt8) (hS : S = c :: l) (hb : ¬ Blank c) (h35 : c ≠ 35) (v : Int) (h : tokB (S ++ [121]) = some (3, S.length, v)) :
    Lexes 0 (120 :: 32 :: (S ++ [121])) (.ok [⟨1, 0, bs [120], 0⟩, ⟨3, 2, bs S, v⟩, ⟨1, ((2 + S.length : Nat) : Int), bs [121], 0⟩]) := by
  subst hS
  have h3 : Lexes (2 + (l.length + 1)) [121] (consR ⟨1, ((2 + (l.length + 1) : Nat) : Int), ⟨(([121] : List UInt8).take (0 + 1)).toArray⟩, 0⟩ (.ok [])) := .tok (by decide) (by decide) tok_y (.nil _)
  have h2 : Lexes (0 + (0 + 1) + 1) (c :: l ++ [121]) (consR ⟨3, ((0 + (0 + 1) + 1 : Nat) : Int), ⟨((c :: (l ++ [121])).take (l.length + 1)).toArray⟩, v⟩ (consR ⟨1, ((2 + (l.length + 1) : Nat) : Int), ⟨(([121] : List UInt8).take (0 + 1)).toArray⟩, 0⟩ (.ok []))) := by
    rw [List.cons_append] at h ⊢
    refine .tok (m := l.length) hb h35 h ?_
    rw [List.drop_left]
    exact h3
  have h1 := Lexes.tok (i := 0) (m := 0) (by decide) (by decide) (tok_x (c :: l ++ [121])) (.blank (Or.inl rfl) h2)
  have e : (c :: (l ++ [121])).take (l.length + 1) = c :: l := by rw [List.take_succ_cons, List.take_left]
  rw [e] at h1
  exact h1
theorem lex_bad (S : List UInt8) (c : UInt8) (l : List UInt8) (hS : S = c :: l) (hb : ¬ Blank c) (h35 : c ≠ 35) (h : tokB (S ++ [121]) = none) : Lexes 0 (120 :: 32 :: (S ++ [121])) (.error 2) := by
  subst hS
  rw [List.cons_append] at h
  exact Lexes.tok (i := 0) (m := 0) (by decide) (by decide) (tok_x (c :: l ++ [121])) (.blank (Or.inl rfl) (.bad hb h35 h))
theorem tok_neg (D : List UInt8) (hD : D ≠ []) (hd : Digs D) : tokB (45 :: D ++ [121]) = if 1099511627776 < valD 0 D then none else some (3, (45 :: D).length, -(valD 0 D : Int)) := by
  have hs := span_digs D [121] hd
  rw [span_y, Nat.add_zero] at hs
  have hg : digsOf 45 (D ++ [121]) = D := by
    unfold digsOf
    rw [if_pos rfl, hs, List.take_left]
  rw [List.cons_append, tokB_num (by decide) (Or.inl rfl), hg, hs]
  by_cases hv : 1099511627776 < valD 0 D
  · rw [if_pos hv, if_pos (Or.inr hv)]
  · rw [if_neg hv, if_neg (fun h => h.elim hD hv), if_pos rfl, List.length_cons, Nat.add_comm 1]
theorem tok_pos (c : UInt8) (l : List UInt8) (hd : Digs (c :: l)) : tokB (c :: l ++ [121]) = if 1099511627776 < valD 0 (c :: l) then none else some (3, (c :: l).length, (valD 0 (c :: l) : Int)) := by
  have hc := hd c (List.mem_cons_self ..)
  have hcn := (isDig_iff c).1 hc
  have h45 : c ≠ 45 := by
    rintro rfl
    revert hcn
    decide
  have hlet : ¬ isLetB (c.toNat : Int) = true := by
    unfold isLetB
    simp only [Bool.and_eq_true, decide_eq_true_eq]
    omega
  have hs := span_digs l [121] (fun x hx => hd x (List.mem_cons_of_mem _ hx))
  rw [span_y, Nat.add_zero] at hs
  have hg : digsOf c (l ++ [121]) = c :: l := by
    unfold digsOf
    rw [if_neg h45, hs, Nat.add_comm, List.take_succ_cons, List.take_left]
  rw [List.cons_append, tokB_num hlet (Or.inr hc), hg, hs]
  by_cases hv : 1099511627776 < valD 0 (c :: l)
  · rw [if_pos hv, if_pos (Or.inr hv)]
  · rw [if_neg hv, if_neg (fun h => h.elim (by simp) hv), if_neg h45, List.length_cons, Nat.add_comm 1]
theorem dig_start {c : UInt8} (h : isDig c = true) : ¬ Blank c ∧ c ≠ 35 := by
  have hcn := (isDig_iff c).1 h
  refine ⟨?_, ?_⟩
  · rintro (rfl | rfl | rfl) <;> revert hcn <;> decide
  · rintro rfl
    revert hcn
    decide
theorem chain (x0 : Int) (S : List UInt8) (c : UInt8) (l : List UInt8) (hS : S = c :: l) (hb : ¬ Blank c) (h35 : c ≠ 35) (hl : S.length ≤ 50)
    (ht : tokB (S ++ [121]) = if 1099511627776 < x0.natAbs then none else some (3, S.length, x0)) :
    Ev (fun _ => (lex_Lex.f (bs (120 :: 32 :: (S ++ [121])))).bind fun bt252 => (if x0 < (-1099511627776) then (if (bt252.2.1 == 2 && (bt252.2.2 == 1)) = true then (some ((bt252.1.length : Int) == 0)) else (some false)) else (if x0 > 1099511627776 then (if (bt252.2.1 == 2 && (bt252.2.2 == 1)) = true then (some ((bt252.1.length : Int) == 0)) else (some false)) else (if (bt252.2.1 == 0 && (bt252.2.2 == 0)) = true then (if (bt252.1.length : Int) = 3 then (if 1 < (bt252.1.length : Int) then (if (((rd_T35 bt252.1 1).f0) == 3 && (((rd_T35 bt252.1 1).f1) == 2 && ((((rd_T35 bt252.1 1).f2).toList) == ((bs S).toList) && (((rd_T35 bt252.1 1).f3) == x0)))) = true then (if 2 < (bt252.1.length : Int) then (some (((rd_T35 bt252.1 2).f0) == 1 && (((rd_T35 bt252.1 2).f1) == (wrap64 (2 + ((bs S).size : Int))) && ((((rd_T35 bt252.1 2).f2).toList) == ([121] : List UInt8) && (((rd_T35 bt252.1 2).f3) == 0))))) else (none)) else (some false)) else (none)) else (some false)) else (some false))))) true := by
  have hz : (bs (120 :: 32 :: (S ++ [121]))).size ≤ 16384 := by
    rw [bs_size]
    simp only [List.length_cons, List.length_append, List.length_nil]
    omega
  by_cases hbig : 1099511627776 < x0.natAbs
  · rw [if_pos hbig] at ht
    have hL := lex_bad S c l hS hb h35 ht
    refine Ev.bind (Ev.const (lex_of hz hL)) ?_
    by_cases h1 : x0 < -1099511627776
    · exact Ev.pos h1 (Ev.pos rfl (Ev.pure _))
    · exact Ev.neg h1 (Ev.pos (by omega) (Ev.pos rfl (Ev.pure _)))
  · rw [if_neg hbig] at ht
    have hL := lex_ok S c l hS hb h35 x0 ht
    have hw : wrap64 (2 + (S.length : Int)) = ((2 + S.length : Nat) : Int) := by unfold wrap64; omega
    refine Ev.bind (Ev.const (lex_of hz hL)) (Ev.neg (by omega) (Ev.neg (by omega) (Ev.pos rfl (Ev.pos rfl (Ev.pos (by simp [progR]) (Ev.pos ?_ (Ev.pos (by simp [progR]) ?_)))))))
    · show ((3 : Int) == 3 && ((2 : Int) == 2 && ((bs S).toList == (bs S).toList && (x0 == x0)))) = true
      simp
    · rw [bs_size, hw]
      have e : ((1 : Int) == 1 && ((((2 + S.length : Nat) : Int) == ((2 + S.length : Nat) : Int)) && ((bs [121]).toList == ([121] : List UInt8) && ((0 : Int) == 0)))) = true := by
        rw [ByteArray.toList_eq]
        simp
      exact Ev.const (congrArg some e)
theorem fin_ev (x0 : Int) (x1 : Nat) (hx1 : x1 < 256) (D : List UInt8) (hD : D ≠ []) (hd : Digs D) (hl : D.length ≤ 40) (hv : valD 0 D = x0.natAbs) :
    Ev (fun k => droguelaw03_LexNumbers.l1 k x0 (x1 : Int) (bs D) ((x1 % 5 : Nat) : Int)) true := by
  have h5 : x1 % 5 < 5 := Nat.mod_lt _ (by decide)
  have e1 : wrap64 (Int.tmod (x1 : Int) 5) = ((x1 % 5 : Nat) : Int) := by
    have : Int.tmod (x1 : Int) 5 = ((x1 % 5 : Nat) : Int) := rfl
    rw [this]
    exact w64 _ (by omega)
  refine Ev.step ?_
  simp only [droguelaw03_LexNumbers.l1]
  rw [e1]
  refine Ev.neg (by omega) ?_
  by_cases hneg : x0 < 0
  · refine Ev.pos hneg ?_
    have a1 : (⟨#[45]⟩ : ByteArray) ++ bs D = bs (45 :: D) := bs_app [45] D
    have a2 : (⟨#[120, 32]⟩ : ByteArray) ++ bs (45 :: D) = bs (120 :: 32 :: 45 :: D) := bs_app [120, 32] (45 :: D)
    have a3 : bs (120 :: 32 :: 45 :: D) ++ (⟨#[121]⟩ : ByteArray) = bs (120 :: 32 :: (45 :: D ++ [121])) := bs_app (120 :: 32 :: 45 :: D) [121]
    rw [a1, a2, a3]
    refine Ev.pos (by rw [bs_size]; omega) (Ev.pos (by rw [bs_size, List.length_cons]; omega) (Ev.pos (by rw [bs_size]; simp only [List.length_cons]; omega) ?_))
    have ht := tok_neg D hD hd
    rw [hv, show -(x0.natAbs : Int) = x0 by omega] at ht
    exact chain x0 (45 :: D) 45 D rfl (by decide) (by decide) (by simp only [List.length_cons]; omega) ht
  · refine Ev.neg hneg ?_
    have a2 : (⟨#[120, 32]⟩ : ByteArray) ++ bs D = bs (120 :: 32 :: D) := bs_app [120, 32] D
    have a3 : bs (120 :: 32 :: D) ++ (⟨#[121]⟩ : ByteArray) = bs (120 :: 32 :: (D ++ [121])) := bs_app (120 :: 32 :: D) [121]
    rw [a2, a3]
    refine Ev.pos (by rw [bs_size]; omega) (Ev.pos (by rw [bs_size]; simp only [List.length_cons]; omega) ?_)
    obtain ⟨c, l, rfl⟩ : ∃ c l, D = c :: l := by
      cases D with
      | nil => exact absurd rfl hD
      | cons c l => exact ⟨c, l, rfl⟩
    have ht := tok_pos c l hd
    rw [hv, show (x0.natAbs : Int) = x0 by omega] at ht
    obtain ⟨hb, h35⟩ := dig_start (hd c (List.mem_cons_self ..))
    exact chain x0 (c :: l) c l rfl hb h35 (by omega) ht
theorem LexNumbers : droguelaw03_LexNumbers.Pure := by
  intro a0 a1 h0 h1
  refine Ev.some_of ?_
  unfold droguelaw03_LexNumbers.f
  refine Ev.bind (Ev.const (show droguelaw03_alive.f = some true from rfl)) (Ev.pos rfl ?_)
  have htrue : Ev (fun k => droguelaw03_LexNumbers.j0 k a0 a1 true) true := by
    refine Ev.step ?_
    simp only [droguelaw03_LexNumbers.j0]
    exact Ev.pos trivial (Ev.pure _)
  by_cases hs : a0 < (-1125899906842624)
  · exact Ev.pos hs htrue
  · refine Ev.neg hs ?_
    by_cases h2 : a0 > 1125899906842624
    · rw [decide_eq_true h2]
      exact htrue
    · rw [decide_eq_false h2]
      obtain ⟨x1, rfl, hx1⟩ : ∃ x : Nat, a1 = (x : Int) ∧ x < 256 := by
        have hb : 0 ≤ a1 ∧ a1 < 256 := by
          have := h1
          simp only [Lit.wf, Bool.and_eq_true, decide_eq_true_eq] at this
          have e1 : IntKind.u8.min = 0 := rfl
          have e2 : IntKind.u8.max = 255 := rfl
          omega
        exact ⟨a1.toNat, by omega, by omega⟩
      refine Ev.step ?_
      simp only [droguelaw03_LexNumbers.j0]
      refine Ev.neg (by decide) ?_
      have hw : wrap64 (-a0) = -a0 := by unfold wrap64; omega
      have hm : Go.Proofs.YtnlbbpandnpgoaaDoorW.PrintWords.mx a0 (wrap64 (-a0)) = ((a0.natAbs : Nat) : Int) := by
        rw [hw]
        unfold Go.Proofs.YtnlbbpandnpgoaaDoorW.PrintWords.mx
        split <;> omega
      have hb : a0.natAbs ≤ 1125899906842624 := by omega
      rw [hm]
      have hn := nought_loop a0 x1 a0.natAbs hx1 (fin_ev a0 x1 hx1)
      have hlp := num_loop a0 (x1 : Int) a0.natAbs (fun D d1 d2 d3 d4 => hn (x1 % 5) 0 D (by omega) d1 d2 (by omega) d4)
      have h10 : a0.natAbs % 10 < 10 := Nat.mod_lt _ (by decide)
      refine num_step a0 (x1 : Int) [] a0.natAbs (by omega) (by simp) (Or.inr rfl) ?_
      refine hlp 20 (a0.natAbs / 10) [UInt8.ofNat (48 + a0.natAbs % 10)] (by simp) (digs_cons _ h10 [] (by intro c hc; cases hc)) (by simp) ?_ (by omega) ?_
      · have : (1125899906842624 : Nat) < 10 ^ 20 := by decide
        omega
      · rw [val_cons _ h10]
        show _ * 10 ^ 1 + (_ * 10 ^ 0 + 0) = _
        rw [Nat.pow_one, Nat.pow_zero, Nat.mul_one, Nat.add_zero, Nat.mul_comm]
        exact Nat.div_add_mod _ _
end Go.Proofs.YtnlbbpandnpgoaaDoor.Pure
