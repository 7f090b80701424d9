/- Lexing, as plain functions on lists of bytes: no program in sight. -/
import Derived.Test.YtmgkejobolgkmaaGreatDoorPLx0
import Derived.Lib.ParseIntB
namespace Go.Proofs.YtmgkejobolgkmaaGreatDoor.PL
open Go.RowKit Go.Proofs.YtmgkejobolgkmaaGreatDoorW.PrintWords Go.Proofs.YtmgkejobolgkmaaGreatDoorW.PrintLast Go.Proofs.YtmgkejobolgkmaaGreatDoorW.PrintMore
set_option linter.unusedVariables false
set_option linter.unusedSimpArgs false

/-- how many bytes at a list's beginning are so -/
def spanN (p : Int → Bool) (l : List UInt8) : Nat := (l.takeWhile fun c => p (c.toNat : Int)).length
theorem spanN_le (p : Int → Bool) (l : List UInt8) : spanN p l ≤ l.length := by
  unfold spanN
  exact (List.takeWhile_sublist _).length_le
theorem spanN_cons (p : Int → Bool) (c : UInt8) (l : List UInt8) : spanN p (c :: l) = if p (c.toNat : Int) then spanN p l + 1 else 0 := by
  unfold spanN
  rw [List.takeWhile_cons]
  split <;> simp

theorem bt_nat (s : ByteArray) (k : Nat) (h : k < s.data.toList.length) : bt s (k : Int) = ((s.data.toList[k]).toNat : Int) := by
  have h' : k < s.size := by simpa using h
  unfold bt
  simp only [Int.toNat_natCast]
  rw [dif_pos h']
  rfl

/-- how many bytes are passed over; inside a remark or not -/
def skipS : Bool → List UInt8 → Nat
  | _, [] => 0
  | false, c :: l => if c = 32 ∨ c = 9 ∨ c = 10 then skipS false l + 1 else if c = 35 then skipS true l + 1 else 0
  | true, c :: l => if c = 10 then skipS false l + 1 else skipS true l + 1
theorem skipS_le : ∀ (b : Bool) (l : List UInt8), skipS b l ≤ l.length
  | _, [] => by simp [skipS]
  | false, c :: l => by
    unfold skipS
    have h1 := skipS_le false l
    have h2 := skipS_le true l
    simp only [List.length_cons]
    split
    · omega
    · split <;> omega
  | true, c :: l => by
    unfold skipS
    have h1 := skipS_le false l
    have h2 := skipS_le true l
    simp only [List.length_cons]
    split <;> omega
/-- not the end of a line -/
def notLF (c : Int) : Bool := c != 10
theorem skipS_remark : ∀ (l : List UInt8), skipS true l = spanN notLF l + skipS false (l.drop (spanN notLF l))
  | [] => by simp [skipS, spanN]
  | c :: l => by
    rw [spanN_cons]
    by_cases h : c = 10
    · subst h
      simp [notLF, skipS]
    · have h2 : notLF (c.toNat : Int) = true := by
        simp only [notLF, bne_iff_ne, ne_eq]
        intro h3
        apply h
        have h4 : c.toNat = 10 := by omega
        exact UInt8.toNat_inj.1 h4
      have ih := skipS_remark l
      rw [if_pos h2, List.drop_succ_cons]
      have h5 : skipS true (c :: l) = skipS true l + 1 := by
        rw [skipS, if_neg h]
      omega
/-- all words -/
def wordsB : List ByteArray := [(⟨#[115, 116, 114, 117, 99, 116]⟩ : ByteArray), (⟨#[101, 110, 117, 109]⟩ : ByteArray), (⟨#[102, 110]⟩ : ByteArray), (⟨#[108, 101, 116]⟩ : ByteArray), (⟨#[115, 97, 102, 101]⟩ : ByteArray), (⟨#[104, 111, 111, 107]⟩ : ByteArray), (⟨#[105, 110, 116]⟩ : ByteArray), (⟨#[98, 111, 120]⟩ : ByteArray), (⟨#[114, 101, 102]⟩ : ByteArray), (⟨#[109, 117, 116]⟩ : ByteArray), (⟨#[97, 100, 100]⟩ : ByteArray), (⟨#[115, 117, 98]⟩ : ByteArray), (⟨#[108, 101, 115, 115]⟩ : ByteArray), (⟨#[117, 115, 101]⟩ : ByteArray), (⟨#[110, 101, 119]⟩ : ByteArray), (⟨#[116, 97, 103]⟩ : ByteArray), (⟨#[111, 117, 116]⟩ : ByteArray), (⟨#[103, 111, 116, 111]⟩ : ByteArray), (⟨#[105, 102]⟩ : ByteArray), (⟨#[109, 97, 116, 99, 104]⟩ : ByteArray), (⟨#[99, 104, 101, 99, 107]⟩ : ByteArray), (⟨#[99, 97, 108, 108]⟩ : ByteArray), (⟨#[99, 97, 116, 99, 104]⟩ : ByteArray), (⟨#[114, 101, 116, 117, 114, 110]⟩ : ByteArray)]

def isLetB (c : Int) : Bool := decide (97 ≤ c) && decide (c ≤ 122)
def isDigB (c : Int) : Bool := decide (48 ≤ c) && decide (c ≤ 57)
def innerB (c : Int) : Bool := isLetB c || (isDigB c || c == 95)
def wordB (s : ByteArray) : Bool := wordsB.any fun x => s.toList == x.toList
def signsL : List UInt8 := [123, 125, 40, 41, 59, 44, 46, 42, 58, 61]
def signB (c : UInt8) : Bool := signsL.contains c
/-- a number's value, and whether it is one within the bounds -/
def numF (l : List UInt8) : Int × Bool :=
  match Lib.parseIntB 64 l with
  | .ok v => (v, decide (-1099511627776 ≤ v) && decide (v ≤ 1099511627776))
  | .range => (Lib.intSat 64 l, false)
  | _ => (0, false)
/-- the token at a text's beginning: kind, text, value, is there one -/
def tokenF (s : ByteArray) : Option (Int × Int × ByteArray × Int × Bool) :=
  if s.size ≤ 140737488351232 then
    match s.data.toList with
    | [] => none
    | c :: l =>
      if isLetB (c.toNat : Int) then
        let n := spanN innerB (c :: l)
        some (if wordB (s.extract 0 n) then 2 else 1, 0, s.extract 0 n, 0, decide ((n : Int) ≤ 16))
      else if (c.toNat : Int) == 45 || isDigB (c.toNat : Int) then
        let n := 1 + spanN isDigB l
        some (3, 0, s.extract 0 n, (numF ((c :: l).take n)).1, (numF ((c :: l).take n)).2)
      else if signB c then some (4, 0, s.extract 0 1, 0, true)
      else some (0, 0, ⟨#[]⟩, 0, false)
  else none
end Go.Proofs.YtmgkejobolgkmaaGreatDoor.PL
