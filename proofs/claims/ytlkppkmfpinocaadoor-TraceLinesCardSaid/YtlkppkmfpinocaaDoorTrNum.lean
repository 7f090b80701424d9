/- The document's Number tells a number's digits: plain. -/
import Derived.Test.YtlkppkmfpinocaaDoorTrRefLine
import Derived.IntWalk
namespace Go.Proofs.YtlkppkmfpinocaaDoor.PT
open Go.RowKit Go.Proofs.YtlkppkmfpinocaaDoorW.PrintWords Go.Proofs.YtlkppkmfpinocaaDoorW.PrintLast Go.Proofs.YtlkppkmfpinocaaDoorW.PrintMore
set_option linter.unusedVariables false
set_option linter.unusedSimpArgs false

def digitsT : ByteArray := ⟨#[48, 49, 50, 51, 52, 53, 54, 55, 56, 57]⟩
theorem dig_ext (d : Nat) (h : d < 10) : digitsT.extract d (d + 1) = ⟨#[UInt8.ofNat (48 + d)]⟩ := by
  have : ∀ d : Fin 10, (digitsT.extract d.val (d.val + 1)).data.toList = [UInt8.ofNat (48 + d.val)] := by decide
  have h1 := this ⟨d, h⟩
  have h2 : (digitsT.extract d (d + 1)).data = #[UInt8.ofNat (48 + d)] := by
    apply Array.toList_inj.1
    simpa using h1
  generalize digitsT.extract d (d + 1) = x at *
  cases x
  simp only at h2
  rw [h2]
theorem ba_app (l : List UInt8) (c : UInt8) (acc : ByteArray) : (⟨l.toArray⟩ : ByteArray) ++ ((⟨#[c]⟩ : ByteArray) ++ acc) = (⟨(l ++ [c]).toArray⟩ : ByteArray) ++ acc := by
  apply ByteArray.ext
  simp
theorem digits_l0 : ∀ (k u : Nat) (acc : ByteArray), u < 10 ^ (k + 1) → u < 18446744073709551616 → acc.size + k ≤ 100 → drogueref05_digits.l0 (k + 1) (u : Int) acc = some ((⟨(Lib.decDigits u).toArray⟩ : ByteArray) ++ acc)
  | k, u, acc, h1, h2, h3 => by
    have t1 : Int.tmod (u : Int) 10 = ((u % 10 : Nat) : Int) := by
      rw [Int.tmod_eq_emod_of_nonneg (by omega)]
      omega
    have t2 : Int.tdiv (u : Int) 10 = ((u / 10 : Nat) : Int) := by
      rw [Int.tdiv_eq_ediv_of_nonneg (by omega)]
      omega
    have t3 : IntKind.u64.wrap (((u % 10 : Nat) : Int) + 1) = ((u % 10 + 1 : Nat) : Int) := by
      rw [IntWalk.u64_in _ (by omega)]
      omega
    have t4 : IntKind.u64.wrap ((u / 10 : Nat) : Int) = ((u / 10 : Nat) : Int) := IntWalk.u64_in _ (by omega)
    have t5 := dig_ext (u % 10) (by omega)
    unfold digitsT at t5
    have hs : ((⟨#[UInt8.ofNat (48 + u % 10)]⟩ : ByteArray)).size = 1 := rfl
    have hz : IntKind.u64.wrap (Int.tdiv (u : Int) 10) = ((u / 10 : Nat) : Int) := by rw [t2, t4]
    unfold drogueref05_digits.l0
    rw [t1, t3, hz]
    simp only [Int.toNat_natCast]
    rw [t5]
    rw [if_pos (by omega), if_pos (by omega), if_pos (by omega), if_pos (by rw [hs]; omega)]
    by_cases hu : u < 10
    · rw [if_pos (by omega)]
      rw [Lib.decDigits, dif_pos hu, Nat.mod_eq_of_lt hu]
    · rw [if_neg (by omega)]
      match k, h1, h3 with
      | 0, h1, h3 => omega
      | k + 1, h1, h3 =>
        rw [digits_l0 k (u / 10) _ (by rw [Nat.pow_succ] at h1; omega) (by omega) (by rw [ByteArray.size_append, hs]; omega)]
        rw [ba_app]
        rw [Lib.decDigits.eq_def u, dif_neg hu]
theorem number_f (n : Int) (h : i64B n = true) : drogueref05_Number.f 20 n = some (itoaT n) := by
  obtain ⟨h0, h1⟩ := i64B_of h
  unfold drogueref05_Number.f drogueref05_digits.f itoaT Lib.itoa
  by_cases hn : n < 0
  · rw [if_pos hn, if_pos hn]
    have e1 : wrap64 (n + 1) = n + 1 := by unfold wrap64; omega
    have e2 : wrap64 (-(n + 1)) = -(n + 1) := by unfold wrap64; omega
    have e3 : IntKind.u64.wrap (-(n + 1)) = -(n + 1) := IntWalk.u64_in _ (by omega)
    have e4 : IntKind.u64.wrap (-(n + 1) + 1) = ((n.natAbs : Nat) : Int) := by rw [IntWalk.u64_in _ (by omega)]; omega
    rw [e1, e2, e3, e4, digits_l0 19 _ _ (by omega) (by omega) (by decide)]
    have hl : (Lib.decDigits n.natAbs).length ≤ 21 := by
      have := Lib.itoa_length_le n h0 h1
      unfold Lib.itoa at this
      rw [if_pos hn] at this
      simp at this
      omega
    rw [Option.bind_some, if_pos (by rw [ByteArray.size_append]; simp [ByteArray.size]; omega)]
    congr 1
    apply ByteArray.ext
    simp
  · rw [if_neg hn, if_neg hn]
    have e1 : IntKind.u64.wrap n = ((n.toNat : Nat) : Int) := by rw [IntWalk.u64_in _ (by omega)]; omega
    rw [e1, digits_l0 19 _ _ (by omega) (by omega) (by decide)]
    rw [Option.bind_some]
    congr 1
    apply ByteArray.ext
    simp
theorem drogueref20_Line.calls (k n : Int) (r : ByteArray) (w : World) (h : drogueref20_Line.f k n = some r) :
    Calls Tryd.prog 12 #[.agg #[.int .i64 k, .int .i64 n]] w fun e w' => e = .returned (.string r) ∧ Below w.heap.size w w' :=
  drogueref20_Line.calls_of (fun n h => ⟨20, number_f n h⟩) k n r w h
end Go.Proofs.YtlkppkmfpinocaaDoor.PT
