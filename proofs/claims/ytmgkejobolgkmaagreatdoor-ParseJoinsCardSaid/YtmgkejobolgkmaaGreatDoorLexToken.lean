/- Package lex's token: its contract. -/
import Derived.Test.YtmgkejobolgkmaaGreatDoorLexSkip
import Derived.Test.YtmgkejobolgkmaaGreatDoorLexAid
import Derived.RegionTactic
import Derived.BigRegion
import Derived.Test.YtmgkejobolgkmaaGreatDoorPLx3
import Derived.Test.YtmgkejobolgkmaaGreatDoorPLx2
namespace Go.Proofs.YtmgkejobolgkmaaGreatDoor.PL
open Go.RowKit Go.Proofs.YtmgkejobolgkmaaGreatDoorW.PrintWords Go.Proofs.YtmgkejobolgkmaaGreatDoorW.PrintLast Go.Proofs.YtmgkejobolgkmaaGreatDoorW.PrintMore
set_option linter.unusedVariables false
set_option linter.unusedSimpArgs false

theorem letter_f (c : Int) : lex_letter.f c = some (isLetB c) := by
  unfold lex_letter.f isLetB
  by_cases h : c ≥ 97
  · rw [if_pos h]; simp [h]
  · rw [if_neg h]
    have : ¬ 97 ≤ c := h
    simp [this]
theorem digit_f (c : Int) : lex_digit.f c = some (isDigB c) := by
  unfold lex_digit.f isDigB
  by_cases h : c ≥ 48
  · rw [if_pos h]; simp [h]
  · rw [if_neg h]
    have : ¬ 48 ≤ c := h
    simp [this]
theorem inner_f (c : Int) : lex_inner.f c = some (innerB c) := by
  unfold lex_inner.f innerB
  rw [letter_f, digit_f]
  simp only [Option.bind_some]
  cases isLetB c <;> cases isDigB c <;> simp

theorem index_words (s : ByteArray) (l : List ByteArray) : ∀ (d : Nat) (i : Nat) (k : Nat), i ≤ l.length → l.length - i = d → d < k → l.length ≤ 1000 →
    ∃ r, slices_Index_string_string.l0 k l s (l.length : Int) (i : Int) = some r ∧ decide (r ≥ 0) = (l.drop i).any fun x => s.toList == x.toList := by
  intro d
  induction d with
  | zero =>
    intro i k hi hd hk hl
    obtain ⟨k, rfl⟩ : ∃ m, k = m + 1 := ⟨k - 1, by omega⟩
    have : i = l.length := by omega
    subst this
    refine ⟨-1, ?_, by simp⟩
    simp only [slices_Index_string_string.l0]
    rw [if_neg (by omega)]
  | succ d ih =>
    intro i k hi hd hk hl
    obtain ⟨k, rfl⟩ : ∃ m, k = m + 1 := ⟨k - 1, by omega⟩
    have hlt : i < l.length := by omega
    obtain ⟨r, hr, hp⟩ := ih (i + 1) k (by omega) (by omega) (by omega) hl
    have hdrop : l.drop i = l[i] :: l.drop (i + 1) := List.drop_eq_getElem_cons hlt
    have hrd : rdOf ByteArray.empty l (i : Int) = l[i] := by
      unfold rdOf
      rw [Int.toNat_natCast, List.getD_eq_getElem?_getD, List.getElem?_eq_getElem hlt]
      rfl
    simp only [slices_Index_string_string.l0]
    rw [if_pos (by omega), if_pos (by omega), if_pos (by omega), hrd, hdrop]
    by_cases he : s.toList = l[i].toList
    · rw [if_pos he]
      have hb : (s.toList == l[i].toList) = true := by rw [he]; exact beq_self_eq_true _
      refine ⟨_, rfl, ?_⟩
      rw [List.any_cons, hb, Bool.true_or]
      exact decide_eq_true (by omega)
    · rw [if_neg he]
      have hw : wrap64 ((i : Int) + 1) = ((i + 1 : Nat) : Int) := by unfold wrap64; omega
      rw [hw]
      refine ⟨r, hr, ?_⟩
      have hb : (s.toList == l[i].toList) = false := beq_eq_false_iff_ne.2 he
      rw [hp, List.any_cons, hb, Bool.false_or]
theorem word_f (s : ByteArray) : lex_Word.f 100 s = some (wordB s) := by
  obtain ⟨r, hr, hp⟩ := index_words s wordsB wordsB.length 0 100 (Nat.zero_le _) (by omega) (by decide) (by decide)
  unfold lex_Word.f lex_words.f slices_Contains_string_string.f slices_Index_string_string.f
  simp only [Option.bind_some]
  have hr' : slices_Index_string_string.l0 100 wordsB s (wordsB.length : Int) 0 = some r := hr
  rw [hr']
  simp only [Option.bind_some]
  rw [hp]
  rfl

theorem inner_calls (c : Int) (W : World) (_ : 0 ≤ c) (_ : c ≤ 255) : Calls Tryz.prog 73 #[.int .u8 c] W fun e W' => e = .returned (.bool (innerB c)) ∧ Drawn0 W W' := lex_inner.calls c _ W (inner_f c)
theorem digit_calls (c : Int) (W : World) (_ : 0 ≤ c) (_ : c ≤ 255) : Calls Tryz.prog 75 #[.int .u8 c] W fun e W' => e = .returned (.bool (isDigB c)) ∧ Drawn0 W W' := lex_digit.calls c _ W (digit_f c)

theorem indexByte_lo (c : UInt8) : ∀ (l : List UInt8), -1 ≤ Lib.indexByte l c := by
  intro l
  induction l with
  | nil => simp [Lib.indexByte]
  | cons x l ih =>
    simp only [Lib.indexByte]
    split
    · omega
    · split <;> omega
theorem signs_index (c : UInt8) : (0 ≤ Lib.indexByte (⟨#[123, 125, 40, 41, 59, 44, 46, 42, 58, 61]⟩ : ByteArray).data.toList ((c.toNat : Int).toNat.toUInt8)) ↔ signB c = true := by
  rw [Int.toNat_natCast]
  have : c.toNat.toUInt8 = c := by simp
  rw [this]
  have lo := indexByte_lo c
  have key : ∀ (l : List UInt8), 0 ≤ Lib.indexByte l c ↔ l.contains c = true := by
    intro l
    induction l with
    | nil => simp [Lib.indexByte]
    | cons x l ih =>
      simp only [Lib.indexByte]
      rw [List.contains_cons]
      by_cases h : x = c
      · subst h
        simp
      · have h1 : (x == c) = false := beq_eq_false_iff_ne.2 h
        have h2 : (c == x) = false := beq_eq_false_iff_ne.2 (Ne.symm h)
        rw [h1, h2, Bool.false_or, ← ih]
        have := lo l
        by_cases h3 : Lib.indexByte l c = -1
        · rw [h3]; simp
        · have h4 : (Lib.indexByte l c == -1) = false := beq_eq_false_iff_ne.2 h3
          rw [h4]
          simp only [Bool.false_eq_true, if_false]
          omega
  exact key signsL

theorem take_extract (s : ByteArray) (n : Nat) : (s.extract 0 n).data.toList = s.data.toList.take n := by
  rw [Lib.extract_data]; simp
theorem size_len (s : ByteArray) : s.data.toList.length = s.size := by simp
theorem bt0 (s : ByteArray) (c : UInt8) (l : List UInt8) (h : s.data.toList = c :: l) (h0 : 0 < s.size) : (s[0]'h0) = c := by
  have h1 : s.data.toList[0]? = some c := by rw [h]; rfl
  have h2 : s.data.toList[0]? = some (s[0]'h0) := by
    rw [List.getElem?_eq_getElem (by rw [size_len]; exact h0)]
    rfl
  rw [h1] at h2
  exact (Option.some.inj h2).symm

def TokPost (v : Value) (w : World) (e : Ending) (w' : World) : Prop := e = .returned v ∧ Below w.heap.size w w'

set_option maxHeartbeats 2000000 in
set_option maxRecDepth 100000 in
theorem token_letter (s : ByteArray) (c : UInt8) (l : List UInt8) (hl : s.data.toList = c :: l) (hs : s.size ≤ 140737488351232) (hc : isLetB (c.toNat : Int) = true) (w : World) (hG : Globs w) :
    Calls Tryz.prog 34 #[.string s] w (TokPost (.tuple #[.agg #[.int .i64 (if wordB (s.extract 0 (spanN innerB (c :: l))) then 2 else 1), .int .i64 0, .string (s.extract 0 (spanN innerB (c :: l))), .int .i64 0], .bool (decide ((spanN innerB (c :: l) : Int) ≤ 16))]) w) := by
  have h0 : 0 < s.size := by rw [← size_len, hl]; simp
  have hle := spanN_le innerB (c :: l)
  rw [← hl, size_len] at hle
  have hcall1 := fun W => lex_letter.calls (c.toNat : Int) _ W (letter_f _)
  rw [hc] at hcall1
  have hspan := fun W => span_calls 73 (enters_of Tryz.func73 (by kernel_rfl) rfl) innerB inner_calls s W (by omega)
  rw [hl] at hspan hle
  obtain ⟨n, hn⟩ : ∃ n, n = spanN innerB (c :: l) := ⟨_, rfl⟩
  rw [← hn] at hspan hle ⊢
  have hword := fun W hg => lex_Word.calls 100 (s.extract 0 n) (wordB (s.extract 0 n)) W hg (word_f _)
  have hz : s[0] = c := bt0 s c l hl h0
  have h0z : (0 : Int) < (s.size : Int) := by omega
  have HG := Lib.hid hG
  have HZ := Lib.hid hz
  clear hG hz hl hn hc
  cases hw : wordB (s.extract 0 n) with
  | true =>
    rw [hw] at hword
    have HW := Lib.hid hw
    clear hw
    go_enter Tryz.func34, Tryz.ntmps34
    go_wp2_with fail
    rw [HZ.out]
    refine (hcall1 _).mono ?_
    rintro e w1 ⟨rfl, hd1⟩
    obtain ⟨m1, rfl⟩ := hd1.out
    clear hd1
    go_wp2_with fail
    refine (hspan _).mono ?_
    rintro e w2 ⟨rfl, hd2⟩
    obtain ⟨m2, rfl⟩ := hd2.out
    clear hd2
    go_wp2_with fail
    refine at_world (fun W => Blk W w.heap.size #[.int .i64 0, .int .i64 0, .string ⟨#[]⟩, .int .i64 0] 42 ∧ Blk W (w.heap.size + 1) #[.int .i64 1, .int .i64 0, .string (s.extract 0 n), .int .i64 0] 42 ∧ Bel w.heap.size w W) ?_ ?_
    · refine ⟨?_, ?_, ?_⟩
      · exact ((Blk.new w _ _).drewN _).alloc _
      · exact Blk.new' (by simp) _ _
      · exact (((Bel.refl w).alloc _).drewN _).alloc _
    rintro W ⟨B0, B1, HB⟩
    refine (hword _ (HG.out.below HB.out)).mono ?_
    rintro e w3 ⟨rfl, hb3⟩
    replace B0 := B0.below hb3
    replace B1 := B1.below hb3
    replace HB := HB.below hb3
    clear hb3
    obtain ⟨⟨c00, c01, c02, c03⟩, f00, f01, f02, f03⟩ := B0.cells4
    obtain ⟨⟨c10, c11, c12, c13⟩, f10, f11, f12, f13⟩ := B1.cells4
    go_wp2
    refine post_at (fun W => Blk W w.heap.size #[.int .i64 2, .int .i64 0, .string (s.extract 0 n), .int .i64 0] 42 ∧ Bel w.heap.size w W) ⟨?_, ?_⟩ ?_
    · exact ((((B0.far (p := ⟨w.heap.size + 1, 0, none⟩) (by simp) _).set 0 _).set 1 _).set 2 _).set 3 _
    · exact ((((HB.set (p := ⟨w.heap.size + 1, 0, none⟩) (Nat.le_succ _) _).set (p := ⟨w.heap.size, 0, none⟩) (Nat.le_refl _) _).set (p := ⟨w.heap.size, 1, none⟩) (Nat.le_refl _) _).set (p := ⟨w.heap.size, 2, none⟩) (Nat.le_refl _) _).set (p := ⟨w.heap.size, 3, none⟩) (Nat.le_refl _) _
    clear c00 c01 c02 c03 f00 f01 f02 f03 c10 c11 c12 c13 f10 f11 f12 f13 B0 B1 HB
    rintro W ⟨B0, HB⟩
    obtain ⟨⟨c00, c01, c02, c03⟩, _⟩ := B0.cells4
    exact bodyPost_ret (v := .tuple #[.agg #[.int .i64 2, .int .i64 0, .string (s.extract 0 n), .int .i64 0], .bool (decide ((n : Int) ≤ 16))]) (by simp [results, Tryz.results34, go_sem, c00, c01, c02, c03]) rfl ⟨rfl, HB.out⟩
  | false =>
    rw [hw] at hword
    have HW := Lib.hid hw
    clear hw
    go_enter Tryz.func34, Tryz.ntmps34
    go_wp2_with fail
    rw [HZ.out]
    refine (hcall1 _).mono ?_
    rintro e w1 ⟨rfl, hd1⟩
    obtain ⟨m1, rfl⟩ := hd1.out
    clear hd1
    go_wp2_with fail
    refine (hspan _).mono ?_
    rintro e w2 ⟨rfl, hd2⟩
    obtain ⟨m2, rfl⟩ := hd2.out
    clear hd2
    go_wp2_with fail
    refine at_world (fun W => Blk W w.heap.size #[.int .i64 0, .int .i64 0, .string ⟨#[]⟩, .int .i64 0] 42 ∧ Blk W (w.heap.size + 1) #[.int .i64 1, .int .i64 0, .string (s.extract 0 n), .int .i64 0] 42 ∧ Bel w.heap.size w W) ?_ ?_
    · refine ⟨?_, ?_, ?_⟩
      · exact ((Blk.new w _ _).drewN _).alloc _
      · exact Blk.new' (by simp) _ _
      · exact (((Bel.refl w).alloc _).drewN _).alloc _
    rintro W ⟨B0, B1, HB⟩
    refine (hword _ (HG.out.below HB.out)).mono ?_
    rintro e w3 ⟨rfl, hb3⟩
    replace B0 := B0.below hb3
    replace B1 := B1.below hb3
    replace HB := HB.below hb3
    clear hb3
    obtain ⟨⟨c00, c01, c02, c03⟩, f00, f01, f02, f03⟩ := B0.cells4
    obtain ⟨⟨c10, c11, c12, c13⟩, f10, f11, f12, f13⟩ := B1.cells4
    go_wp2
    refine post_at (fun W => Blk W w.heap.size #[.int .i64 1, .int .i64 0, .string (s.extract 0 n), .int .i64 0] 42 ∧ Bel w.heap.size w W) ⟨?_, ?_⟩ ?_
    · exact (((B0.set 0 _).set 1 _).set 2 _).set 3 _
    · exact (((HB.set (p := ⟨w.heap.size, 0, none⟩) (Nat.le_refl _) _).set (p := ⟨w.heap.size, 1, none⟩) (Nat.le_refl _) _).set (p := ⟨w.heap.size, 2, none⟩) (Nat.le_refl _) _).set (p := ⟨w.heap.size, 3, none⟩) (Nat.le_refl _) _
    clear c00 c01 c02 c03 f00 f01 f02 f03 c10 c11 c12 c13 f10 f11 f12 f13 B0 B1 HB
    rintro W ⟨B0, HB⟩
    obtain ⟨⟨c00, c01, c02, c03⟩, _⟩ := B0.cells4
    exact bodyPost_ret (v := .tuple #[.agg #[.int .i64 1, .int .i64 0, .string (s.extract 0 n), .int .i64 0], .bool (decide ((n : Int) ≤ 16))]) (by simp [results, Tryz.results34, go_sem, c00, c01, c02, c03]) rfl ⟨rfl, HB.out⟩

set_option maxHeartbeats 2000000 in
set_option maxRecDepth 100000 in
theorem token_num (s : ByteArray) (c : UInt8) (l : List UInt8) (hl : s.data.toList = c :: l) (hs : s.size ≤ 140737488351232) (hc : isLetB (c.toNat : Int) = false) (hd : ((c.toNat : Int) == 45) = true)
    (n : Nat) (hn : n = 1 + spanN isDigB l) (v : Int)
    (hparse : ∀ W, Globs W → Calls Tryz.prog 76 #[.string (s.extract 0 n), .int .i64 10, .int .i64 64] W fun e w' => e = .returned (.tuple #[.int .i64 v, .nilIface]) ∧ Below W.heap.size W w')
    (w : World) (hG : Globs w) :
    Calls Tryz.prog 34 #[.string s] w (TokPost (.tuple #[.agg #[.int .i64 3, .int .i64 0, .string (s.extract 0 n), .int .i64 v], .bool (decide (-1099511627776 ≤ v) && decide (v ≤ 1099511627776))]) w) := by
  have h0 : 0 < s.size := by rw [← size_len, hl]; simp
  have hle := spanN_le isDigB l
  have hlen : l.length + 1 = s.size := by rw [← size_len, hl]; simp
  have hcall1 := fun W => lex_letter.calls (c.toNat : Int) _ W (letter_f _)
  rw [hc] at hcall1
  have hspan := fun W => span_calls 75 (enters_of Tryz.func75 (by kernel_rfl) rfl) isDigB digit_calls (s.extract 1 s.size) W (by simp; omega)
  rw [Lib.extract_to_end, hl] at hspan
  simp only [List.drop_succ_cons, List.drop_zero] at hspan
  obtain ⟨m, hm⟩ : ∃ m, m = spanN isDigB l := ⟨_, rfl⟩
  rw [← hm] at hspan hle hn
  have hz : s[0] = c := bt0 s c l hl h0
  have h0z : (0 : Int) < (s.size : Int) := by omega
  have h1z : (1 : Int) ≤ (s.size : Int) := by omega
  have hnz : (1 : Int) + (m : Int) ≤ (s.size : Int) := by omega
  have HG := Lib.hid hG
  have HZ := Lib.hid hz
  subst hn
  clear hG hz hl hm hc hlen
  go_enter Tryz.func34, Tryz.ntmps34
  go_wp2_with fail
  rw [HZ.out]
  refine (hcall1 _).mono ?_
  rintro e w1 ⟨rfl, hd1⟩
  obtain ⟨m1, rfl⟩ := hd1.out
  clear hd1
  go_wp2_with fail
  refine (hspan _).mono ?_
  rintro e w2 ⟨rfl, hd2⟩
  obtain ⟨m2, rfl⟩ := hd2.out
  clear hd2
  go_wp2_with fail
  refine at_world (fun W => Blk W w.heap.size #[.int .i64 0, .int .i64 0, .string ⟨#[]⟩, .int .i64 0] 42 ∧ Bel w.heap.size w W) ?_ ?_
  · refine ⟨?_, ?_⟩
    · exact (Blk.new w _ _).drewN _
    · exact ((Bel.refl w).alloc _).drewN _
  rintro W ⟨B0, HB⟩
  refine (hparse _ (HG.out.below HB.out)).mono ?_
  rintro e w3 ⟨rfl, hb3⟩
  replace B0 := B0.below hb3
  replace HB := HB.below hb3
  clear hb3 hparse
  obtain ⟨⟨c00, c01, c02, c03⟩, f00, f01, f02, f03⟩ := B0.cells4
  by_cases hv1 : -1099511627776 ≤ v
  · by_cases hv2 : v ≤ 1099511627776
    · have g1 : decide (-1099511627776 ≤ v) = true := decide_eq_true hv1
      have g2 : decide (v ≤ 1099511627776) = true := decide_eq_true hv2
      go_wp2
      go_region
      go_wp2
      refine post_at (fun W => Blk W w.heap.size #[.int .i64 3, .int .i64 0, .string (s.extract 0 (1 + m)), .int .i64 v] 42 ∧ Bel w.heap.size w W) ⟨?_, ?_⟩ ?_
      · exact ((((B0.set 0 _).set 1 _).set 2 _).set 3 _).drew
      · exact ⟨((((HB.set (p := ⟨w.heap.size, 0, none⟩) (Nat.le_refl _) _).set (p := ⟨w.heap.size, 1, none⟩) (Nat.le_refl _) _).set (p := ⟨w.heap.size, 2, none⟩) (Nat.le_refl _) _).set (p := ⟨w.heap.size, 3, none⟩) (Nat.le_refl _) _).out.drew⟩
      clear c00 c01 c02 c03 f00 f01 f02 f03 B0 HB
      rintro W ⟨B0, HB⟩
      obtain ⟨⟨c00, c01, c02, c03⟩, _⟩ := B0.cells4
      exact bodyPost_ret (v := .tuple #[.agg #[.int .i64 3, .int .i64 0, .string (s.extract 0 (1 + m)), .int .i64 v], .bool true]) (by simp [results, Tryz.results34, go_sem, c00, c01, c02, c03]) rfl ⟨by rw [g1, g2]; rfl, HB.out⟩
    · have g1 : decide (-1099511627776 ≤ v) = true := decide_eq_true hv1
      have g2 : decide (v ≤ 1099511627776) = false := decide_eq_false hv2
      go_wp2
      go_region
      go_wp2
      refine post_at (fun W => Blk W w.heap.size #[.int .i64 3, .int .i64 0, .string (s.extract 0 (1 + m)), .int .i64 v] 42 ∧ Bel w.heap.size w W) ⟨?_, ?_⟩ ?_
      · exact ((((B0.set 0 _).set 1 _).set 2 _).set 3 _).drew
      · exact ⟨((((HB.set (p := ⟨w.heap.size, 0, none⟩) (Nat.le_refl _) _).set (p := ⟨w.heap.size, 1, none⟩) (Nat.le_refl _) _).set (p := ⟨w.heap.size, 2, none⟩) (Nat.le_refl _) _).set (p := ⟨w.heap.size, 3, none⟩) (Nat.le_refl _) _).out.drew⟩
      clear c00 c01 c02 c03 f00 f01 f02 f03 B0 HB
      rintro W ⟨B0, HB⟩
      obtain ⟨⟨c00, c01, c02, c03⟩, _⟩ := B0.cells4
      exact bodyPost_ret (v := .tuple #[.agg #[.int .i64 3, .int .i64 0, .string (s.extract 0 (1 + m)), .int .i64 v], .bool false]) (by simp [results, Tryz.results34, go_sem, c00, c01, c02, c03]) rfl ⟨by rw [g1, g2]; rfl, HB.out⟩
  · have g1 : decide (-1099511627776 ≤ v) = false := decide_eq_false hv1
    go_wp2
    go_region
    go_wp2
    refine post_at (fun W => Blk W w.heap.size #[.int .i64 3, .int .i64 0, .string (s.extract 0 (1 + m)), .int .i64 v] 42 ∧ Bel w.heap.size w W) ⟨?_, ?_⟩ ?_
    · exact ((((B0.set 0 _).set 1 _).set 2 _).set 3 _).drew
    · exact ⟨((((HB.set (p := ⟨w.heap.size, 0, none⟩) (Nat.le_refl _) _).set (p := ⟨w.heap.size, 1, none⟩) (Nat.le_refl _) _).set (p := ⟨w.heap.size, 2, none⟩) (Nat.le_refl _) _).set (p := ⟨w.heap.size, 3, none⟩) (Nat.le_refl _) _).out.drew⟩
    clear c00 c01 c02 c03 f00 f01 f02 f03 B0 HB
    rintro W ⟨B0, HB⟩
    obtain ⟨⟨c00, c01, c02, c03⟩, _⟩ := B0.cells4
    exact bodyPost_ret (v := .tuple #[.agg #[.int .i64 3, .int .i64 0, .string (s.extract 0 (1 + m)), .int .i64 v], .bool false]) (by simp [results, Tryz.results34, go_sem, c00, c01, c02, c03]) rfl ⟨by rw [g1]; rfl, HB.out⟩

set_option maxHeartbeats 2000000 in
set_option maxRecDepth 100000 in
theorem token_numD (s : ByteArray) (c : UInt8) (l : List UInt8) (hl : s.data.toList = c :: l) (hs : s.size ≤ 140737488351232) (hc : isLetB (c.toNat : Int) = false) (hd : ((c.toNat : Int) == 45) = false) (hd2 : isDigB (c.toNat : Int) = true)
    (n : Nat) (hn : n = 1 + spanN isDigB l) (v : Int)
    (hparse : ∀ W, Globs W → Calls Tryz.prog 76 #[.string (s.extract 0 n), .int .i64 10, .int .i64 64] W fun e w' => e = .returned (.tuple #[.int .i64 v, .nilIface]) ∧ Below W.heap.size W w')
    (w : World) (hG : Globs w) :
    Calls Tryz.prog 34 #[.string s] w (TokPost (.tuple #[.agg #[.int .i64 3, .int .i64 0, .string (s.extract 0 n), .int .i64 v], .bool (decide (-1099511627776 ≤ v) && decide (v ≤ 1099511627776))]) w) := by
  have h0 : 0 < s.size := by rw [← size_len, hl]; simp
  have hle := spanN_le isDigB l
  have hlen : l.length + 1 = s.size := by rw [← size_len, hl]; simp
  have hcall1 := fun W => lex_letter.calls (c.toNat : Int) _ W (letter_f _)
  rw [hc] at hcall1
  have hcall2 := fun W => lex_digit.calls (c.toNat : Int) _ W (digit_f _)
  rw [hd2] at hcall2
  have hspan := fun W => span_calls 75 (enters_of Tryz.func75 (by kernel_rfl) rfl) isDigB digit_calls (s.extract 1 s.size) W (by simp; omega)
  rw [Lib.extract_to_end, hl] at hspan
  simp only [List.drop_succ_cons, List.drop_zero] at hspan
  obtain ⟨m, hm⟩ : ∃ m, m = spanN isDigB l := ⟨_, rfl⟩
  rw [← hm] at hspan hle hn
  have hz : s[0] = c := bt0 s c l hl h0
  have h0z : (0 : Int) < (s.size : Int) := by omega
  have h1z : (1 : Int) ≤ (s.size : Int) := by omega
  have hnz : (1 : Int) + (m : Int) ≤ (s.size : Int) := by omega
  have HG := Lib.hid hG
  have HZ := Lib.hid hz
  subst hn
  clear hG hz hl hm hc hlen hd2
  go_enter Tryz.func34, Tryz.ntmps34
  go_wp2_with fail
  rw [HZ.out]
  refine (hcall1 _).mono ?_
  rintro e w1 ⟨rfl, hd1⟩
  obtain ⟨m1, rfl⟩ := hd1.out
  clear hd1
  go_wp2_with fail
  refine (hcall2 _).mono ?_
  rintro e w11 ⟨rfl, hd11⟩
  obtain ⟨m11, rfl⟩ := hd11.out
  clear hd11
  go_wp2_with fail
  refine (hspan _).mono ?_
  rintro e w2 ⟨rfl, hd2⟩
  obtain ⟨m2, rfl⟩ := hd2.out
  clear hd2
  go_wp2_with fail
  refine at_world (fun W => Blk W w.heap.size #[.int .i64 0, .int .i64 0, .string ⟨#[]⟩, .int .i64 0] 42 ∧ Bel w.heap.size w W) ?_ ?_
  · refine ⟨?_, ?_⟩
    · exact (Blk.new w _ _).drewN _
    · exact ((Bel.refl w).alloc _).drewN _
  rintro W ⟨B0, HB⟩
  refine (hparse _ (HG.out.below HB.out)).mono ?_
  rintro e w3 ⟨rfl, hb3⟩
  replace B0 := B0.below hb3
  replace HB := HB.below hb3
  clear hb3 hparse
  obtain ⟨⟨c00, c01, c02, c03⟩, f00, f01, f02, f03⟩ := B0.cells4
  by_cases hv1 : -1099511627776 ≤ v
  · by_cases hv2 : v ≤ 1099511627776
    · have g1 : decide (-1099511627776 ≤ v) = true := decide_eq_true hv1
      have g2 : decide (v ≤ 1099511627776) = true := decide_eq_true hv2
      go_wp2
      go_region
      go_wp2
      refine post_at (fun W => Blk W w.heap.size #[.int .i64 3, .int .i64 0, .string (s.extract 0 (1 + m)), .int .i64 v] 42 ∧ Bel w.heap.size w W) ⟨?_, ?_⟩ ?_
      · exact ((((B0.set 0 _).set 1 _).set 2 _).set 3 _).drew
      · exact ⟨((((HB.set (p := ⟨w.heap.size, 0, none⟩) (Nat.le_refl _) _).set (p := ⟨w.heap.size, 1, none⟩) (Nat.le_refl _) _).set (p := ⟨w.heap.size, 2, none⟩) (Nat.le_refl _) _).set (p := ⟨w.heap.size, 3, none⟩) (Nat.le_refl _) _).out.drew⟩
      clear c00 c01 c02 c03 f00 f01 f02 f03 B0 HB
      rintro W ⟨B0, HB⟩
      obtain ⟨⟨c00, c01, c02, c03⟩, _⟩ := B0.cells4
      exact bodyPost_ret (v := .tuple #[.agg #[.int .i64 3, .int .i64 0, .string (s.extract 0 (1 + m)), .int .i64 v], .bool true]) (by simp [results, Tryz.results34, go_sem, c00, c01, c02, c03]) rfl ⟨by rw [g1, g2]; rfl, HB.out⟩
    · have g1 : decide (-1099511627776 ≤ v) = true := decide_eq_true hv1
      have g2 : decide (v ≤ 1099511627776) = false := decide_eq_false hv2
      go_wp2
      go_region
      go_wp2
      refine post_at (fun W => Blk W w.heap.size #[.int .i64 3, .int .i64 0, .string (s.extract 0 (1 + m)), .int .i64 v] 42 ∧ Bel w.heap.size w W) ⟨?_, ?_⟩ ?_
      · exact ((((B0.set 0 _).set 1 _).set 2 _).set 3 _).drew
      · exact ⟨((((HB.set (p := ⟨w.heap.size, 0, none⟩) (Nat.le_refl _) _).set (p := ⟨w.heap.size, 1, none⟩) (Nat.le_refl _) _).set (p := ⟨w.heap.size, 2, none⟩) (Nat.le_refl _) _).set (p := ⟨w.heap.size, 3, none⟩) (Nat.le_refl _) _).out.drew⟩
      clear c00 c01 c02 c03 f00 f01 f02 f03 B0 HB
      rintro W ⟨B0, HB⟩
      obtain ⟨⟨c00, c01, c02, c03⟩, _⟩ := B0.cells4
      exact bodyPost_ret (v := .tuple #[.agg #[.int .i64 3, .int .i64 0, .string (s.extract 0 (1 + m)), .int .i64 v], .bool false]) (by simp [results, Tryz.results34, go_sem, c00, c01, c02, c03]) rfl ⟨by rw [g1, g2]; rfl, HB.out⟩
  · have g1 : decide (-1099511627776 ≤ v) = false := decide_eq_false hv1
    go_wp2
    go_region
    go_wp2
    refine post_at (fun W => Blk W w.heap.size #[.int .i64 3, .int .i64 0, .string (s.extract 0 (1 + m)), .int .i64 v] 42 ∧ Bel w.heap.size w W) ⟨?_, ?_⟩ ?_
    · exact ((((B0.set 0 _).set 1 _).set 2 _).set 3 _).drew
    · exact ⟨((((HB.set (p := ⟨w.heap.size, 0, none⟩) (Nat.le_refl _) _).set (p := ⟨w.heap.size, 1, none⟩) (Nat.le_refl _) _).set (p := ⟨w.heap.size, 2, none⟩) (Nat.le_refl _) _).set (p := ⟨w.heap.size, 3, none⟩) (Nat.le_refl _) _).out.drew⟩
    clear c00 c01 c02 c03 f00 f01 f02 f03 B0 HB
    rintro W ⟨B0, HB⟩
    obtain ⟨⟨c00, c01, c02, c03⟩, _⟩ := B0.cells4
    exact bodyPost_ret (v := .tuple #[.agg #[.int .i64 3, .int .i64 0, .string (s.extract 0 (1 + m)), .int .i64 v], .bool false]) (by simp [results, Tryz.results34, go_sem, c00, c01, c02, c03]) rfl ⟨by rw [g1]; rfl, HB.out⟩

set_option maxHeartbeats 2000000 in
set_option maxRecDepth 100000 in
theorem token_err (s : ByteArray) (c : UInt8) (l : List UInt8) (hl : s.data.toList = c :: l) (hs : s.size ≤ 140737488351232) (hc : isLetB (c.toNat : Int) = false) (hd : ((c.toNat : Int) == 45) = true)
    (n : Nat) (hn : n = 1 + spanN isDigB l) (v : Int)
    (hparse : ∀ W, Globs W → Calls Tryz.prog 76 #[.string (s.extract 0 n), .int .i64 10, .int .i64 64] W fun e w' => ∃ (T : TypeId) (N : Nat), e = .returned (.tuple #[.int .i64 v, .iface T (.pointer (some ⟨N, 0, none⟩))]) ∧ Below W.heap.size W w')
    (w : World) (hG : Globs w) :
    Calls Tryz.prog 34 #[.string s] w (TokPost (.tuple #[.agg #[.int .i64 3, .int .i64 0, .string (s.extract 0 n), .int .i64 v], .bool false]) w) := by
  have h0 : 0 < s.size := by rw [← size_len, hl]; simp
  have hle := spanN_le isDigB l
  have hlen : l.length + 1 = s.size := by rw [← size_len, hl]; simp
  have hcall1 := fun W => lex_letter.calls (c.toNat : Int) _ W (letter_f _)
  rw [hc] at hcall1
  have hspan := fun W => span_calls 75 (enters_of Tryz.func75 (by kernel_rfl) rfl) isDigB digit_calls (s.extract 1 s.size) W (by simp; omega)
  rw [Lib.extract_to_end, hl] at hspan
  simp only [List.drop_succ_cons, List.drop_zero] at hspan
  obtain ⟨m, hm⟩ : ∃ m, m = spanN isDigB l := ⟨_, rfl⟩
  rw [← hm] at hspan hle hn
  have hz : s[0] = c := bt0 s c l hl h0
  have h0z : (0 : Int) < (s.size : Int) := by omega
  have h1z : (1 : Int) ≤ (s.size : Int) := by omega
  have hnz : (1 : Int) + (m : Int) ≤ (s.size : Int) := by omega
  have HG := Lib.hid hG
  have HZ := Lib.hid hz
  subst hn
  clear hG hz hl hm hc hlen
  go_enter Tryz.func34, Tryz.ntmps34
  go_wp2_with fail
  rw [HZ.out]
  refine (hcall1 _).mono ?_
  rintro e w1 ⟨rfl, hd1⟩
  obtain ⟨m1, rfl⟩ := hd1.out
  clear hd1
  go_wp2_with fail
  refine (hspan _).mono ?_
  rintro e w2 ⟨rfl, hd2⟩
  obtain ⟨m2, rfl⟩ := hd2.out
  clear hd2
  go_wp2_with fail
  refine at_world (fun W => Blk W w.heap.size #[.int .i64 0, .int .i64 0, .string ⟨#[]⟩, .int .i64 0] 42 ∧ Bel w.heap.size w W) ?_ ?_
  · refine ⟨?_, ?_⟩
    · exact (Blk.new w _ _).drewN _
    · exact ((Bel.refl w).alloc _).drewN _
  rintro W ⟨B0, HB⟩
  refine (hparse _ (HG.out.below HB.out)).mono ?_
  rintro e w3 ⟨T, N, rfl, hb3⟩
  replace B0 := B0.below hb3
  replace HB := HB.below hb3
  clear hb3 hparse
  obtain ⟨⟨c00, c01, c02, c03⟩, f00, f01, f02, f03⟩ := B0.cells4
  go_wp2
  go_region
  go_wp2
  refine post_at (fun W => Blk W w.heap.size #[.int .i64 3, .int .i64 0, .string (s.extract 0 (1 + m)), .int .i64 v] 42 ∧ Bel w.heap.size w W) ⟨?_, ?_⟩ ?_
  · exact ((((B0.set 0 _).set 1 _).set 2 _).set 3 _).drew
  · exact ⟨((((HB.set (p := ⟨w.heap.size, 0, none⟩) (Nat.le_refl _) _).set (p := ⟨w.heap.size, 1, none⟩) (Nat.le_refl _) _).set (p := ⟨w.heap.size, 2, none⟩) (Nat.le_refl _) _).set (p := ⟨w.heap.size, 3, none⟩) (Nat.le_refl _) _).out.drew⟩
  clear c00 c01 c02 c03 f00 f01 f02 f03 B0 HB
  rintro W ⟨B0, HB⟩
  obtain ⟨⟨c00, c01, c02, c03⟩, _⟩ := B0.cells4
  exact bodyPost_ret (v := .tuple #[.agg #[.int .i64 3, .int .i64 0, .string (s.extract 0 (1 + m)), .int .i64 v], .bool false]) (by simp [results, Tryz.results34, go_sem, c00, c01, c02, c03]) rfl ⟨rfl, HB.out⟩

set_option maxHeartbeats 2000000 in
set_option maxRecDepth 100000 in
theorem token_errD (s : ByteArray) (c : UInt8) (l : List UInt8) (hl : s.data.toList = c :: l) (hs : s.size ≤ 140737488351232) (hc : isLetB (c.toNat : Int) = false) (hd : ((c.toNat : Int) == 45) = false) (hd2 : isDigB (c.toNat : Int) = true)
    (n : Nat) (hn : n = 1 + spanN isDigB l) (v : Int)
    (hparse : ∀ W, Globs W → Calls Tryz.prog 76 #[.string (s.extract 0 n), .int .i64 10, .int .i64 64] W fun e w' => ∃ (T : TypeId) (N : Nat), e = .returned (.tuple #[.int .i64 v, .iface T (.pointer (some ⟨N, 0, none⟩))]) ∧ Below W.heap.size W w')
    (w : World) (hG : Globs w) :
    Calls Tryz.prog 34 #[.string s] w (TokPost (.tuple #[.agg #[.int .i64 3, .int .i64 0, .string (s.extract 0 n), .int .i64 v], .bool false]) w) := by
  have h0 : 0 < s.size := by rw [← size_len, hl]; simp
  have hle := spanN_le isDigB l
  have hlen : l.length + 1 = s.size := by rw [← size_len, hl]; simp
  have hcall1 := fun W => lex_letter.calls (c.toNat : Int) _ W (letter_f _)
  rw [hc] at hcall1
  have hcall2 := fun W => lex_digit.calls (c.toNat : Int) _ W (digit_f _)
  rw [hd2] at hcall2
  have hspan := fun W => span_calls 75 (enters_of Tryz.func75 (by kernel_rfl) rfl) isDigB digit_calls (s.extract 1 s.size) W (by simp; omega)
  rw [Lib.extract_to_end, hl] at hspan
  simp only [List.drop_succ_cons, List.drop_zero] at hspan
  obtain ⟨m, hm⟩ : ∃ m, m = spanN isDigB l := ⟨_, rfl⟩
  rw [← hm] at hspan hle hn
  have hz : s[0] = c := bt0 s c l hl h0
  have h0z : (0 : Int) < (s.size : Int) := by omega
  have h1z : (1 : Int) ≤ (s.size : Int) := by omega
  have hnz : (1 : Int) + (m : Int) ≤ (s.size : Int) := by omega
  have HG := Lib.hid hG
  have HZ := Lib.hid hz
  subst hn
  clear hG hz hl hm hc hlen hd2
  go_enter Tryz.func34, Tryz.ntmps34
  go_wp2_with fail
  rw [HZ.out]
  refine (hcall1 _).mono ?_
  rintro e w1 ⟨rfl, hd1⟩
  obtain ⟨m1, rfl⟩ := hd1.out
  clear hd1
  go_wp2_with fail
  refine (hcall2 _).mono ?_
  rintro e w11 ⟨rfl, hd11⟩
  obtain ⟨m11, rfl⟩ := hd11.out
  clear hd11
  go_wp2_with fail
  refine (hspan _).mono ?_
  rintro e w2 ⟨rfl, hd2⟩
  obtain ⟨m2, rfl⟩ := hd2.out
  clear hd2
  go_wp2_with fail
  refine at_world (fun W => Blk W w.heap.size #[.int .i64 0, .int .i64 0, .string ⟨#[]⟩, .int .i64 0] 42 ∧ Bel w.heap.size w W) ?_ ?_
  · refine ⟨?_, ?_⟩
    · exact (Blk.new w _ _).drewN _
    · exact ((Bel.refl w).alloc _).drewN _
  rintro W ⟨B0, HB⟩
  refine (hparse _ (HG.out.below HB.out)).mono ?_
  rintro e w3 ⟨T, N, rfl, hb3⟩
  replace B0 := B0.below hb3
  replace HB := HB.below hb3
  clear hb3 hparse
  obtain ⟨⟨c00, c01, c02, c03⟩, f00, f01, f02, f03⟩ := B0.cells4
  go_wp2
  go_region
  go_wp2
  refine post_at (fun W => Blk W w.heap.size #[.int .i64 3, .int .i64 0, .string (s.extract 0 (1 + m)), .int .i64 v] 42 ∧ Bel w.heap.size w W) ⟨?_, ?_⟩ ?_
  · exact ((((B0.set 0 _).set 1 _).set 2 _).set 3 _).drew
  · exact ⟨((((HB.set (p := ⟨w.heap.size, 0, none⟩) (Nat.le_refl _) _).set (p := ⟨w.heap.size, 1, none⟩) (Nat.le_refl _) _).set (p := ⟨w.heap.size, 2, none⟩) (Nat.le_refl _) _).set (p := ⟨w.heap.size, 3, none⟩) (Nat.le_refl _) _).out.drew⟩
  clear c00 c01 c02 c03 f00 f01 f02 f03 B0 HB
  rintro W ⟨B0, HB⟩
  obtain ⟨⟨c00, c01, c02, c03⟩, _⟩ := B0.cells4
  exact bodyPost_ret (v := .tuple #[.agg #[.int .i64 3, .int .i64 0, .string (s.extract 0 (1 + m)), .int .i64 v], .bool false]) (by simp [results, Tryz.results34, go_sem, c00, c01, c02, c03]) rfl ⟨rfl, HB.out⟩


set_option maxHeartbeats 2000000 in
set_option maxRecDepth 100000 in
theorem token_sign (s : ByteArray) (c : UInt8) (l : List UInt8) (hl : s.data.toList = c :: l) (hs : s.size ≤ 140737488351232) (hc : isLetB (c.toNat : Int) = false) (hd : ((c.toNat : Int) == 45) = false) (hd2 : isDigB (c.toNat : Int) = false)
    (i : Int) (hi : 0 ≤ i) (hix : Lib.indexByte (⟨#[123, 125, 40, 41, 59, 44, 46, 42, 58, 61]⟩ : ByteArray).data.toList ((c.toNat : Int).toNat.toUInt8) = i) (w : World) :
    Calls Tryz.prog 34 #[.string s] w (TokPost (.tuple #[.agg #[.int .i64 4, .int .i64 0, .string (s.extract 0 1), .int .i64 0], .bool true]) w) := by
  have h0 : 0 < s.size := by rw [← size_len, hl]; simp
  have hcall1 := fun W => lex_letter.calls (c.toNat : Int) _ W (letter_f _)
  rw [hc] at hcall1
  have hcall2 := fun W => lex_digit.calls (c.toNat : Int) _ W (digit_f _)
  rw [hd2] at hcall2
  have hcall3 := fun W => Tryz.strings_IndexByte ⟨#[123, 125, 40, 41, 59, 44, 46, 42, 58, 61]⟩ (c.toNat : Int) W
  rw [hix] at hcall3
  have hz : s[0] = c := bt0 s c l hl h0
  have h0z : (0 : Int) < (s.size : Int) := by omega
  have h1z : (1 : Int) ≤ (s.size : Int) := by omega
  have HZ := Lib.hid hz
  clear hz hl hc hd2 hix
  go_enter Tryz.func34, Tryz.ntmps34
  go_wp2_with fail
  rw [HZ.out]
  refine (hcall1 _).mono ?_
  rintro e w1 ⟨rfl, hd1⟩
  obtain ⟨m1, rfl⟩ := hd1.out
  clear hd1
  go_wp2_with fail
  refine (hcall2 _).mono ?_
  rintro e w11 ⟨rfl, hd11⟩
  obtain ⟨m11, rfl⟩ := hd11.out
  clear hd11
  go_wp2_with fail
  refine (hcall3 _).mono ?_
  rintro e w12 ⟨rfl, rfl⟩
  go_wp2
  refine post_at (fun W => Blk W w.heap.size #[.int .i64 4, .int .i64 0, .string (s.extract 0 1), .int .i64 0] 42 ∧ Bel w.heap.size w W) ⟨?_, ?_⟩ ?_
  · exact ((((((Blk.new w _ _).drewN _).set 0 _).set 1 _).set 2 _).set 3 _)
  · exact ((((((Bel.refl w).alloc _).drewN _).set (p := ⟨w.heap.size, 0, none⟩) (Nat.le_refl _) _).set (p := ⟨w.heap.size, 1, none⟩) (Nat.le_refl _) _).set (p := ⟨w.heap.size, 2, none⟩) (Nat.le_refl _) _).set (p := ⟨w.heap.size, 3, none⟩) (Nat.le_refl _) _
  rintro W ⟨B0, HB⟩
  obtain ⟨⟨c00, c01, c02, c03⟩, _⟩ := B0.cells4
  exact bodyPost_ret (v := .tuple #[.agg #[.int .i64 4, .int .i64 0, .string (s.extract 0 1), .int .i64 0], .bool true]) (by simp [results, Tryz.results34, go_sem, c00, c01, c02, c03]) rfl ⟨rfl, HB.out⟩

set_option maxHeartbeats 2000000 in
set_option maxRecDepth 100000 in
theorem token_none (s : ByteArray) (c : UInt8) (l : List UInt8) (hl : s.data.toList = c :: l) (hs : s.size ≤ 140737488351232) (hc : isLetB (c.toNat : Int) = false) (hd : ((c.toNat : Int) == 45) = false) (hd2 : isDigB (c.toNat : Int) = false)
    (i : Int) (hi : i = -1) (hix : Lib.indexByte (⟨#[123, 125, 40, 41, 59, 44, 46, 42, 58, 61]⟩ : ByteArray).data.toList ((c.toNat : Int).toNat.toUInt8) = i) (w : World) :
    Calls Tryz.prog 34 #[.string s] w (TokPost (.tuple #[.agg #[.int .i64 0, .int .i64 0, .string ⟨#[]⟩, .int .i64 0], .bool false]) w) := by
  have h0 : 0 < s.size := by rw [← size_len, hl]; simp
  have hcall1 := fun W => lex_letter.calls (c.toNat : Int) _ W (letter_f _)
  rw [hc] at hcall1
  have hcall2 := fun W => lex_digit.calls (c.toNat : Int) _ W (digit_f _)
  rw [hd2] at hcall2
  have hcall3 := fun W => Tryz.strings_IndexByte ⟨#[123, 125, 40, 41, 59, 44, 46, 42, 58, 61]⟩ (c.toNat : Int) W
  rw [hix] at hcall3
  have hz : s[0] = c := bt0 s c l hl h0
  have h0z : (0 : Int) < (s.size : Int) := by omega
  have h1z : (1 : Int) ≤ (s.size : Int) := by omega
  have HZ := Lib.hid hz
  clear hz hl hc hd2 hix
  subst hi
  go_enter Tryz.func34, Tryz.ntmps34
  go_wp2_with fail
  rw [HZ.out]
  refine (hcall1 _).mono ?_
  rintro e w1 ⟨rfl, hd1⟩
  obtain ⟨m1, rfl⟩ := hd1.out
  clear hd1
  go_wp2_with fail
  refine (hcall2 _).mono ?_
  rintro e w11 ⟨rfl, hd11⟩
  obtain ⟨m11, rfl⟩ := hd11.out
  clear hd11
  go_wp2_with fail
  refine (hcall3 _).mono ?_
  rintro e w12 ⟨rfl, rfl⟩
  go_wp2
  refine post_at (fun W => Blk W w.heap.size #[.int .i64 0, .int .i64 0, .string ⟨#[]⟩, .int .i64 0] 42 ∧ Bel w.heap.size w W) ⟨?_, ?_⟩ ?_
  · exact ((((((Blk.new w _ _).drewN _).set 0 _).set 1 _).set 2 _).set 3 _)
  · exact ((((((Bel.refl w).alloc _).drewN _).set (p := ⟨w.heap.size, 0, none⟩) (Nat.le_refl _) _).set (p := ⟨w.heap.size, 1, none⟩) (Nat.le_refl _) _).set (p := ⟨w.heap.size, 2, none⟩) (Nat.le_refl _) _).set (p := ⟨w.heap.size, 3, none⟩) (Nat.le_refl _) _
  rintro W ⟨B0, HB⟩
  obtain ⟨⟨c00, c01, c02, c03⟩, _⟩ := B0.cells4
  exact bodyPost_ret (v := .tuple #[.agg #[.int .i64 0, .int .i64 0, .string ⟨#[]⟩, .int .i64 0], .bool false]) (by simp [results, Tryz.results34, go_sem, c00, c01, c02, c03]) rfl ⟨rfl, HB.out⟩

theorem parse_ok (s : ByteArray) (hs : s.size ≤ 140737488351232) (v : Int) (h : Lib.parseIntB 64 s.data.toList = .ok v) (W : World) (_ : Globs W) :
    Calls Tryz.prog 76 #[.string s, .int .i64 10, .int .i64 64] W fun e w' => e = .returned (.tuple #[.int .i64 v, .nilIface]) ∧ Below W.heap.size W w' :=
  (Tryz.strconv_ParseInt_10_at64_ok s (by omega) v h W).mono fun e w' hh => ⟨hh.1, by
    rcases hh.2 with h2 | ⟨t, h2⟩
    · rw [h2]; exact Below.refl _ _
    · rw [h2]; exact Lib.bytesWorld_below W 5 t⟩
theorem parse_err (s : ByteArray) (hs : s.size ≤ 140737488351232) (h : (numF s.data.toList).2 = false) (h2 : ∀ v, Lib.parseIntB 64 s.data.toList ≠ .ok v) (W : World) (hG : Globs W) :
    Calls Tryz.prog 76 #[.string s, .int .i64 10, .int .i64 64] W fun e w' => ∃ (T : TypeId) (N : Nat), e = .returned (.tuple #[.int .i64 (numF s.data.toList).1, .iface T (.pointer (some ⟨N, 0, none⟩))]) ∧ Below W.heap.size W w' := by
  cases hp : Lib.parseIntB 64 s.data.toList with
  | ok v => exact absurd hp (h2 v)
  | range =>
    obtain ⟨tp, p, hv⟩ := hG.rng
    refine (Tryz.strconv_ParseInt_10_at64_range_var s (by omega) hp tp p W hv).mono fun e w' hh => ?_
    obtain ⟨N, he, _, _, hb⟩ := hh
    exact ⟨169, N, by rw [he]; simp [numF, hp], hb⟩
  | _ =>
    obtain ⟨tp, p, hv⟩ := hG.syn
    refine (Tryz.strconv_ParseInt_10_at64_syntax_var s (by omega) hp tp p W hv).mono fun e w' hh => ?_
    obtain ⟨N, he, _, _, hb⟩ := hh
    exact ⟨169, N, by rw [he]; simp [numF, hp], hb⟩

def lex_token.f (a0 : ByteArray) : Option (Int × Int × ByteArray × Int × Bool) := tokenF a0
theorem lex_token.calls (a0 : ByteArray) (r1 : Int) (r2 : Int) (r3 : ByteArray) (r4 : Int) (r5 : Bool) (w : World) (hG : Globs w) (h : lex_token.f a0 = some (r1, r2, r3, r4, r5)) :
    Calls Tryz.prog 34 #[.string a0] w fun e w' => e = .returned (.tuple #[.agg #[.int .i64 r1, .int .i64 r2, .string r3, .int .i64 r4], .bool r5]) ∧ Below w.heap.size w w' := by
  unfold lex_token.f tokenF at h
  split at h
  · rename_i hs
    split at h
    · cases h
    · rename_i c l hl
      cases hc : isLetB (c.toNat : Int) with
      | true =>
        rw [hc] at h
        simp only [if_true, Option.some.injEq, Prod.mk.injEq] at h
        obtain ⟨rfl, rfl, rfl, rfl, rfl⟩ := h
        exact token_letter a0 c l hl hs hc w hG
      | false =>
        rw [hc] at h
        simp only [Bool.false_eq_true, if_false] at h
        have hsz : (a0.extract 0 (1 + spanN isDigB l)).size ≤ 140737488351232 := by simp; omega
        have htk : (a0.extract 0 (1 + spanN isDigB l)).data.toList = (c :: l).take (1 + spanN isDigB l) := by rw [take_extract, hl]
        by_cases hd : (c.toNat : Int) == 45 || isDigB (c.toNat : Int)
        · rw [if_pos hd] at h
          simp only [Option.some.injEq, Prod.mk.injEq] at h
          obtain ⟨rfl, rfl, rfl, rfl, rfl⟩ := h
          cases hp : Lib.parseIntB 64 ((c :: l).take (1 + spanN isDigB l)) with
          | ok v =>
            have hp' := hp
            rw [← htk] at hp'
            have e1 : (numF ((c :: l).take (1 + spanN isDigB l))) = (v, decide (-1099511627776 ≤ v) && decide (v ≤ 1099511627776)) := by simp [numF, hp]
            rw [e1]
            cases h45 : (c.toNat : Int) == 45 with
            | true => exact token_num a0 c l hl hs hc h45 _ rfl v (parse_ok _ hsz v hp') w hG
            | false =>
              rw [h45, Bool.false_or] at hd
              exact token_numD a0 c l hl hs hc h45 hd _ rfl v (parse_ok _ hsz v hp') w hG
          | range =>
            have hp' := hp
            rw [← htk] at hp'
            have e1 : (numF ((c :: l).take (1 + spanN isDigB l))).2 = false := by simp [numF, hp]
            have e2 := parse_err (a0.extract 0 (1 + spanN isDigB l)) hsz (by rw [htk]; exact e1) (by intro v; rw [hp']; simp)
            rw [htk] at e2
            rw [e1]
            cases h45 : (c.toNat : Int) == 45 with
            | true => exact token_err a0 c l hl hs hc h45 _ rfl _ e2 w hG
            | false =>
              rw [h45, Bool.false_or] at hd
              exact token_errD a0 c l hl hs hc h45 hd _ rfl _ e2 w hG
          | _ =>
            have hp' := hp
            rw [← htk] at hp'
            have e1 : (numF ((c :: l).take (1 + spanN isDigB l))).2 = false := by simp [numF, hp]
            have e2 := parse_err (a0.extract 0 (1 + spanN isDigB l)) hsz (by rw [htk]; exact e1) (by intro v; rw [hp']; simp)
            rw [htk] at e2
            rw [e1]
            cases h45 : (c.toNat : Int) == 45 with
            | true => exact token_err a0 c l hl hs hc h45 _ rfl _ e2 w hG
            | false =>
              rw [h45, Bool.false_or] at hd
              exact token_errD a0 c l hl hs hc h45 hd _ rfl _ e2 w hG
        · rw [if_neg hd] at h
          simp only [Bool.or_eq_true, not_or, Bool.not_eq_true] at hd
          cases hsg : signB c with
          | true =>
            rw [hsg] at h
            simp only [if_true, Option.some.injEq, Prod.mk.injEq] at h
            obtain ⟨rfl, rfl, rfl, rfl, rfl⟩ := h
            exact token_sign a0 c l hl hs hc hd.1 hd.2 _ ((signs_index c).2 hsg) rfl w
          | false =>
            rw [hsg] at h
            simp only [Bool.false_eq_true, if_false, Option.some.injEq, Prod.mk.injEq] at h
            obtain ⟨rfl, rfl, rfl, rfl, rfl⟩ := h
            have h1 : ¬ 0 ≤ Lib.indexByte (⟨#[123, 125, 40, 41, 59, 44, 46, 42, 58, 61]⟩ : ByteArray).data.toList ((c.toNat : Int).toNat.toUInt8) := by
              rw [signs_index c, hsg]; simp
            have h2 := indexByte_lo ((c.toNat : Int).toNat.toUInt8) (⟨#[123, 125, 40, 41, 59, 44, 46, 42, 58, 61]⟩ : ByteArray).data.toList
            exact token_none a0 c l hl hs hc hd.1 hd.2 _ (by omega) rfl w
  · cases h
end Go.Proofs.YtmgkejobolgkmaaGreatDoor.PL
