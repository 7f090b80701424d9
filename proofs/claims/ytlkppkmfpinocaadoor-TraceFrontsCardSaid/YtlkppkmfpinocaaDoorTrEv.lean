/- Package trace: the printed functions, told as plain functions on lists of events. No program in sight. -/
import Derived.Test.YtlkppkmfpinocaaDoorPTx5
import Derived.Test.YtlkppkmfpinocaaDoorPTx2
import Derived.Test.YtlkppkmfpinocaaDoorTrPure
import Derived.Test.YtlkppkmfpinocaaDoorTrAlike
import Derived.Test.YtlkppkmfpinocaaDoorTrAlive
namespace Go.Proofs.YtlkppkmfpinocaaDoor.PT
open Go.RowKit Go.Proofs.YtlkppkmfpinocaaDoorW.PrintWords Go.Proofs.YtlkppkmfpinocaaDoorW.PrintLast Go.Proofs.YtlkppkmfpinocaaDoorW.PrintMore
set_option linter.unusedVariables false
set_option linter.unusedSimpArgs false

/-- told, with rounds enough -/
def Ev {α : Type} (f : Nat → Option α) (r : α) : Prop := ∃ K, ∀ k, K ≤ k → f k = some r
theorem Ev.pure {α : Type} (r : α) : Ev (fun _ => some r) r := ⟨0, fun _ _ => rfl⟩
theorem Ev.const {α : Type} {o : Option α} {r : α} (h : o = some r) : Ev (fun _ => o) r := ⟨0, fun _ _ => h⟩
theorem Ev.step {α : Type} {f : Nat → Option α} {r : α} (h : Ev (fun k => f (k + 1)) r) : Ev f r := by
  obtain ⟨K, h⟩ := h
  refine ⟨K + 1, fun k hk => ?_⟩
  obtain ⟨j, rfl⟩ : ∃ j, k = j + 1 := ⟨k - 1, by omega⟩
  exact h j (by omega)
theorem Ev.bind {α β : Type} {f : Nat → Option α} {g : Nat → α → Option β} {a : α} {b : β} (h : Ev f a) (h2 : Ev (fun k => g k a) b) : Ev (fun k => (f k).bind (g k)) b := by
  obtain ⟨K, h⟩ := h
  obtain ⟨K2, h2⟩ := h2
  refine ⟨max K K2, fun k hk => ?_⟩
  show (f k).bind (g k) = _
  rw [h k (by omega)]
  exact h2 k (by omega)
theorem Ev.pos {α : Type} {c : Prop} [Decidable c] {f g : Nat → Option α} {r : α} (hc : c) (h : Ev f r) : Ev (fun k => if c then f k else g k) r := by
  obtain ⟨K, h⟩ := h
  exact ⟨K, fun k hk => (if_pos hc).trans (h k hk)⟩
theorem Ev.neg {α : Type} {c : Prop} [Decidable c] {f g : Nat → Option α} {r : α} (hc : ¬ c) (h : Ev g r) : Ev (fun k => if c then f k else g k) r := by
  obtain ⟨K, h⟩ := h
  exact ⟨K, fun k hk => (if_neg hc).trans (h k hk)⟩
theorem Ev.some_of {α : Type} {f : Nat → Option α} {r : α} (h : Ev f r) : ∃ k, f k = some r := by
  obtain ⟨K, h⟩ := h
  exact ⟨K, h K (Nat.le_refl _)⟩
theorem Ev.of_mono {α : Type} {f : Nat → Option α} {r : α} (hm : ∀ k, LeO (f k) (f (k + 1))) {K : Nat} (h : f K = some r) : Ev f r := by
  refine ⟨K, fun k hk => ?_⟩
  induction hk with
  | refl => exact h
  | step _ ih => exact hm _ _ ih

theorem w64s (n : Nat) (h : n + 1 < 9223372036854775808) : wrap64 ((n : Int) + 1) = ((n + 1 : Nat) : Int) := by unfold wrap64; omega
theorem eqL_rfl (a : List S26) : eqL a a = true := (eqL_iff a a).2 rfl
theorem right_ev (k n : Int) (h : i64B n = true) : Ev (fun q => trace_Right.f q k n) (evB k n) := Ev.of_mono (trace_Right.mono k n) (right_f k n h 0)
theorem rright_ev (k n : Int) : Ev (fun q => drogueref20_Right.f q k n) (evB k n) := Ev.of_mono (drogueref20_Right.mono k n) (rright_f k n 0)
theorem same_l0 (a b : List S26) (hab : a.length = b.length) (hl : a.length ≤ 1000000) : ∀ (n i : Nat), i + n = a.length → droguelaw20_Same.l0 (n + 1) a b (i : Int) = some (eqL (a.drop i) (b.drop i))
  | 0, i, h => by
    unfold droguelaw20_Same.l0
    rw [if_neg (by omega)]
    rw [List.drop_eq_nil_of_le (by omega), List.drop_eq_nil_of_le (by omega)]
    rfl
  | n + 1, i, h => by
    have wx : wrap64 ((i : Int) + 1) = ((i + 1 : Nat) : Int) := by unfold wrap64; omega
    unfold droguelaw20_Same.l0
    rw [if_pos (by omega), if_pos (by omega), if_pos (by omega), wx, same_l0 a b hab hl n (i + 1) (by omega)]
    rw [drop_rd' a i (by omega), drop_rd' b i (by omega)]
    generalize rd_T26 a (i : Int) = x
    generalize rd_T26 b (i : Int) = y
    by_cases h0 : x.f0 = y.f0
    · by_cases h1 : x.f1 = y.f1
      · rw [if_neg (by simp [h0, h1])]
        simp [eqL, pr26, h0, h1]
      · rw [if_pos (by simp [h1])]
        simp [eqL, pr26, h1]
    · rw [if_pos (by simp [h0])]
      simp [eqL, pr26, h0]
theorem same_ev (a b : List S26) (hl : a.length ≤ 1000000) : Ev (fun k => droguelaw20_Same.f k a b) (eqL a b) := by
  refine Ev.of_mono (droguelaw20_Same.mono a b) (K := a.length + 1) ?_
  unfold droguelaw20_Same.f
  by_cases h : a.length = b.length
  · rw [if_pos (by omega)]
    have := same_l0 a b h hl a.length 0 (by omega)
    simpa using this
  · rw [if_neg (by omega)]
    congr 1
    symm
    rw [Bool.eq_false_iff]
    intro he
    rw [eqL_iff] at he
    exact h (by rw [he])
/-- is a a start of b -/
def frontB (a b : List S26) : Bool := decide (a.length ≤ b.length) && eqL a (b.take a.length)
theorem frontB_app (a b : List S26) : frontB a (a ++ b) = true := by
  simp [frontB, eqL_rfl]
theorem front_ev (a b : List S26) (hl : a.length ≤ 1000000) : Ev (fun k => trace_Front.f k a b) (frontB a b) := by
  refine Ev.of_mono (trace_Front.mono a b) (K := a.length + 1) ?_
  unfold trace_Front.f frontB
  by_cases h : a.length ≤ b.length
  · rw [if_pos (by omega), if_pos (by omega), equal_f a _ hl]
    simp [h]
  · rw [if_neg (by omega)]
    simp [h]
theorem bs_eq (l : List UInt8) : (⟨l.toArray⟩ : ByteArray) = bs l := rfl
theorem text_get (l : List S26) (hi : i64s l = true) (hl : l.length ≤ 100000) : trace_Text.f l = some (bs (textL l)) := if_pos ⟨hi, hl⟩
theorem textL_len2 : ∀ (l : List S26), i64s l = true → (textL l).length ≤ 28 * l.length
  | [], _ => by simp [textL]
  | e :: l, hi => by
    have hi2 : i64B e.f1 = true ∧ i64s l = true := by simpa [i64s] using hi
    have h1 := textL_len2 l hi2.2
    have h2 := lineF_size e.f0 e.f1 hi2.1
    have h3 : (lineF e.f0 e.f1).data.toList.length = (lineF e.f0 e.f1).size := ba_len _
    simp only [textL]
    split <;> simp <;> omega
theorem parse_get (l : List S26) (hi : i64s l = true) (hl : l.length ≤ 30000) : trace_Parse.f (bs (textL l)) = some (rights l, 0, 0) := by
  have h1 := textL_len2 l hi
  unfold trace_Parse.f
  rw [if_pos (by rw [bs_size]; omega), parse_lines l _ _ _ hi (by rw [bs_size]; exact Nat.le_refl _)]
  rfl
theorem i64s_app {a b : List S26} (ha : i64s a = true) (hb : i64s b = true) : i64s (a ++ b) = true := by
  unfold i64s at *
  rw [List.all_append, ha, hb]
  rfl
theorem alike_get (a b : List S26) (ha : i64s a = true) (hb : i64s b = true) (h1 : a.length ≤ 100000) (h2 : b.length ≤ 100000) : trace_Alike.f a b = some (eqL (renAll a) (renAll b)) := if_pos ⟨⟨ha, h1⟩, hb, h2⟩
theorem rd_mem (l : List S26) (i : Nat) (h : i < l.length) : rd_T26 l (i : Int) = l[i] := by simp [rd_T26, List.getD, h]
end Go.Proofs.YtlkppkmfpinocaaDoor.PT
