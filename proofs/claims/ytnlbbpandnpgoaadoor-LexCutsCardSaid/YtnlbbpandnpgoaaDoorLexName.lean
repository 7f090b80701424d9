/- Package lex's Name: its contract. -/
import Derived.Test.YtnlbbpandnpgoaaDoorLexToken
namespace Go.Proofs.YtnlbbpandnpgoaaDoor.PL
open Go.RowKit Go.Proofs.YtnlbbpandnpgoaaDoorW.PrintWords Go.Proofs.YtnlbbpandnpgoaaDoorW.PrintLast Go.Proofs.YtnlbbpandnpgoaaDoorW.PrintMore
set_option linter.unusedVariables false
set_option linter.unusedSimpArgs false

/-- is it a name? -/
def nameB (s : ByteArray) : Bool :=
  match s.data.toList with
  | [] => false
  | c :: l => decide (s.size ≤ 16) && (isLetB (c.toNat : Int) && (!wordB s && decide (spanN innerB (c :: l) = s.size)))

set_option maxHeartbeats 2000000 in
set_option maxRecDepth 100000 in
theorem name_empty (s : ByteArray) (hl : s.data.toList = []) (w : World) :
    Calls Tryd.prog 15 #[.string s] w (TokPost (.bool false) w) := by
  have h1 : s = ⟨#[]⟩ := by
    apply ByteArray.ext
    exact Array.toList_inj.1 hl
  subst h1
  clear hl
  go_enter Tryd.func15, Tryd.ntmps15
  go_wp2
  go_ret
  exact ⟨rfl, Below.refl _ _⟩
theorem toList_ne (s : ByteArray) (h : s.data.toList ≠ []) : (s.toList = []) = False ∧ s.toList.isEmpty = false := by
  have : s.toList = s.data.toList := ByteArray.toList_eq s
  constructor
  · rw [this]; exact eq_false h
  · rw [this]; simpa using h
set_option maxHeartbeats 2000000 in
set_option maxRecDepth 100000 in
theorem name_long (s : ByteArray) (c : UInt8) (l : List UInt8) (hl : s.data.toList = c :: l) (hs : s.size ≤ 140737488351232) (h16 : ¬ s.size ≤ 16) (w : World) :
    Calls Tryd.prog 15 #[.string s] w (TokPost (.bool false) w) := by
  obtain ⟨he1, he2⟩ := toList_ne s (by rw [hl]; simp)
  have h1 : decide (16 < s.size) = true := by simp; omega
  have h2 : decide ((16 : Int) < (s.size : Int)) = true := by simp; omega
  clear hl
  go_enter Tryd.func15, Tryd.ntmps15
  go_wp2
  go_ret
  exact ⟨rfl, Below.refl _ _⟩
set_option maxHeartbeats 2000000 in
set_option maxRecDepth 100000 in
theorem name_noletter (s : ByteArray) (c : UInt8) (l : List UInt8) (hl : s.data.toList = c :: l) (h16 : s.size ≤ 16) (hc : isLetB (c.toNat : Int) = false) (w : World) :
    Calls Tryd.prog 15 #[.string s] w (TokPost (.bool false) w) := by
  obtain ⟨he1, he2⟩ := toList_ne s (by rw [hl]; simp)
  have h0 : 0 < s.size := by rw [← size_len, hl]; simp
  have hz : s[0] = c := bt0 s c l hl h0
  have h1 : decide (16 < s.size) = false := by simp; omega
  have h2 : decide ((16 : Int) < (s.size : Int)) = false := by simp; omega
  have hcall1 := fun W => lex_letter.calls (c.toNat : Int) _ W (letter_f _)
  rw [hc] at hcall1
  have h0z : (0 : Int) < (s.size : Int) := by omega
  have HZ := Lib.hid hz
  clear hz hl hc
  go_enter Tryd.func15, Tryd.ntmps15
  go_wp2_with fail
  rw [HZ.out]
  refine (hcall1 _).mono ?_
  rintro e w1 ⟨rfl, hd1⟩
  obtain ⟨m1, rfl⟩ := hd1.out
  clear hd1
  go_wp2
  go_ret
  exact ⟨rfl, (Drawn0.step (Drawn0.refl w) m1).below⟩
set_option maxHeartbeats 2000000 in
set_option maxRecDepth 100000 in
theorem name_word (s : ByteArray) (c : UInt8) (l : List UInt8) (hl : s.data.toList = c :: l) (h16 : s.size ≤ 16) (hc : isLetB (c.toNat : Int) = true) (hw : wordB s = true) (w : World) (hG : Globs w) :
    Calls Tryd.prog 15 #[.string s] w (TokPost (.bool false) w) := by
  obtain ⟨he1, he2⟩ := toList_ne s (by rw [hl]; simp)
  have h0 : 0 < s.size := by rw [← size_len, hl]; simp
  have hz : s[0] = c := bt0 s c l hl h0
  have h1 : decide (16 < s.size) = false := by simp; omega
  have h2 : decide ((16 : Int) < (s.size : Int)) = false := by simp; omega
  have hcall1 := fun W => lex_letter.calls (c.toNat : Int) _ W (letter_f _)
  rw [hc] at hcall1
  have hword := fun W hg => lex_Word.calls 100 s (wordB s) W hg (word_f _)
  rw [hw] at hword
  have h0z : (0 : Int) < (s.size : Int) := by omega
  have HZ := Lib.hid hz
  have HG := Lib.hid hG
  clear hz hl hc hG hw
  go_enter Tryd.func15, Tryd.ntmps15
  go_wp2_with fail
  rw [HZ.out]
  refine (hcall1 _).mono ?_
  rintro e w1 ⟨rfl, hd1⟩
  have hb1 := hd1.below
  clear hd1
  go_wp2_with fail
  refine (hword _ (HG.out.below hb1)).mono ?_
  rintro e w2 ⟨rfl, hb2⟩
  have hb3 := below_then hb1 hb1.size hb2
  clear hb1 hb2
  go_wp2
  go_ret
  exact ⟨rfl, hb3⟩
set_option maxHeartbeats 2000000 in
set_option maxRecDepth 100000 in
theorem name_span (s : ByteArray) (c : UInt8) (l : List UInt8) (hl : s.data.toList = c :: l) (h16 : s.size ≤ 16) (hc : isLetB (c.toNat : Int) = true) (hw : wordB s = false) (w : World) (hG : Globs w) :
    Calls Tryd.prog 15 #[.string s] w (TokPost (.bool (decide (spanN innerB (c :: l) = s.size))) w) := by
  obtain ⟨he1, he2⟩ := toList_ne s (by rw [hl]; simp)
  have h0 : 0 < s.size := by rw [← size_len, hl]; simp
  have hz : s[0] = c := bt0 s c l hl h0
  have h1 : decide (16 < s.size) = false := by simp; omega
  have h2 : decide ((16 : Int) < (s.size : Int)) = false := by simp; omega
  have hcall1 := fun W => lex_letter.calls (c.toNat : Int) _ W (letter_f _)
  rw [hc] at hcall1
  have hword := fun W hg => lex_Word.calls 100 s (wordB s) W hg (word_f _)
  rw [hw] at hword
  have hspan := fun W => span_calls 31 (enters_of Tryd.func31 (by kernel_rfl) rfl) innerB inner_calls s W (by omega)
  rw [hl] at hspan
  obtain ⟨n, hn⟩ : ∃ n, n = spanN innerB (c :: l) := ⟨_, rfl⟩
  rw [← hn] at hspan ⊢
  have h0z : (0 : Int) < (s.size : Int) := by omega
  have HZ := Lib.hid hz
  have HG := Lib.hid hG
  clear hz hl hc hG hw hn
  go_enter Tryd.func15, Tryd.ntmps15
  go_wp2_with fail
  rw [HZ.out]
  refine (hcall1 _).mono ?_
  rintro e w1 ⟨rfl, hd1⟩
  have hb1 := hd1.below
  clear hd1
  go_wp2_with fail
  refine (hword _ (HG.out.below hb1)).mono ?_
  rintro e w2 ⟨rfl, hb2⟩
  have hb3 := below_then hb1 hb1.size hb2
  clear hb1 hb2
  go_wp2_with fail
  refine (hspan _).mono ?_
  rintro e w3 ⟨rfl, hd3⟩
  have hb4 := below_then hb3 hb3.size hd3.below
  clear hb3 hd3
  go_wp2
  go_ret
  refine ⟨?_, hb4⟩
  show Ending.returned (Value.bool ((n : Int) == (s.size : Int))) = _
  rw [show ((n : Int) == (s.size : Int)) = decide (n = s.size) from by rw [Bool.eq_iff_iff]; simp only [beq_iff_eq, decide_eq_true_eq]; constructor <;> intro h <;> omega]

def lex_Name.f (a0 : ByteArray) : Option Bool := if a0.size ≤ 140737488351232 then some (nameB a0) else none
theorem lex_Name.calls (a0 : ByteArray) (r : Bool) (w : World) (hG : Globs w) (h : lex_Name.f a0 = some r) :
    Calls Tryd.prog 15 #[.string a0] w fun e w' => e = .returned (.bool r) ∧ Below w.heap.size w w' := by
  unfold lex_Name.f at h
  split at h
  · rename_i hs
    obtain rfl := Option.some.inj h
    unfold nameB
    split
    · rename_i hl
      exact name_empty a0 hl w
    · rename_i c l hl
      by_cases h16 : a0.size ≤ 16
      · have g16 : decide (a0.size ≤ 16) = true := decide_eq_true h16
        rw [g16, Bool.true_and]
        cases hc : isLetB (c.toNat : Int) with
        | false => exact name_noletter a0 c l hl h16 hc w
        | true =>
          rw [Bool.true_and]
          cases hw : wordB a0 with
          | true => exact name_word a0 c l hl h16 hc hw w hG
          | false => exact name_span a0 c l hl h16 hc hw w hG
      · have g16 : decide (a0.size ≤ 16) = false := decide_eq_false h16
        rw [g16, Bool.false_and]
        exact name_long a0 c l hl hs h16 w
  · cases h
end Go.Proofs.YtnlbbpandnpgoaaDoor.PL
