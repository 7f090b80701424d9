/- Package code: walks of slices.ContainsFunc at structs. -/
import Derived.Test.YtoiakaagbgfocaaCoInst
namespace Go.Proofs.Ytoiakaagbgfocaa.PC
open Go.RowKit Go.Proofs.YtoiakaagbgfocaaW.PrintWords Go.Proofs.YtoiakaagbgfocaaW.PrintLast Go.Proofs.YtoiakaagbgfocaaW.PrintMore
set_option linter.unusedVariables false
set_option linter.unusedSimpArgs false

/-- the place of the first one that isn't so, or -1 -/
def idx_inst (ok : S42 → Bool) : List S42 → Int → Int
  | [], _ => -1
  | x :: l, i => if ok x then idx_inst ok l (i + 1) else i
theorem idx_inst_ge (ok : S42 → Bool) : ∀ (l : List S42) (i : Int), 0 ≤ i → (decide (idx_inst ok l i ≥ 0) = !(l.all ok))
  | [], i, h => by simp [idx_inst]
  | x :: l, i, h => by
    unfold idx_inst
    cases hx : ok x with
    | true =>
      rw [if_pos rfl, idx_inst_ge ok l (i + 1) (by omega)]
      simp [hx]
    | false =>
      rw [if_neg (by decide)]
      simp [hx, h]
set_option maxHeartbeats 4000000 in
set_option maxRecDepth 100000 in
theorem index_inst (B : Nat) (ok : S42 → Bool) (A : Option Addr) (c : Nat) (l : List S42) (hl : l.length ≤ 2000000) (w : World) (hC : Kd.C k42 w A l.length l) (hS0 : ∀ W (x : S42), Below w.heap.size w W → Calls Try.prog 39 #[.agg #[.int .i64 x.f0, .int .i64 x.f1, .int .i64 x.f2, .int .i64 x.f3], .pointer (some ⟨B, 0, none⟩)] W fun e w' => e = .returned (.bool (!ok x)) ∧ Below W.heap.size W w') (r : Int) (hr : idx_inst ok l 0 = r) :
    Calls Try.prog 51 #[.slice A l.length c, .func (.func 39) #[] #[.pointer (some ⟨B, 0, none⟩)]] w fun e w' => e = .returned (.int .i64 r) ∧ Below w.heap.size w w' := by
  have HC := Lib.hid hC
  have HL := Lib.hid hl
  have HS := Lib.hid hS0
  have HR := Lib.hid hr
  clear hC hl hr hS0
  go_enter Try.func51, Try.ntmps51
  go_wp2_with fail
  go_loopg [8] l.length (fun kq v8 w' => ∃ x : Nat, v8 = .int .i64 (x : Int) ∧ Aside0 (x + kq = l.length) ∧ Aside0 (idx_inst ok (l.drop x) (x : Int) = r) ∧ Aside0 (Below w.heap.size w w'))
  case atStart => exact ⟨0, rfl, ⟨by omega⟩, ⟨HR.out⟩, ⟨Below.refl _ _⟩⟩
  case round =>
    obtain ⟨x, rfl, HX, HI, HB⟩ := hrel
    cases gk with
    | zero =>
      have cx : decide (x < l.length) = false := decide_eq_false (by have := HX.out; omega)
      have cx' : decide ((x : Int) < (l.length : Int)) = false := decide_eq_false (by have := HX.out; omega)
      have hr : r = -1 := by
        rw [← HI.out, List.drop_eq_nil_of_le (by have := HX.out; omega)]
        rfl
      subst hr
      clear HI
      go_wp2_with fail
      go_ret
      exact ⟨rfl, HB.out⟩
    | succ kk =>
      have hxl : x < l.length := by have := HX.out; omega
      have cx : decide (x < l.length) = true := decide_eq_true hxl
      have cx' : decide ((x : Int) < (l.length : Int)) = true := decide_eq_true (by omega)
      have wx : IntKind.i64.wrap ((x : Int) + 1) = ((x + 1 : Nat) : Int) := by rw [i64_w]; unfold wrap64; have := HL.out; omega
      have hd : l.drop x = rd_T42 l (x : Int) :: l.drop (x + 1) := by
        rw [List.drop_eq_getElem_cons hxl]
        simp [rd_T42, List.getD, hxl]
      obtain ⟨ad, ea, hx0, hx1, hx2, hx3⟩ := at_T42 (Kd.C_below HC.out HB.out) (x : Int) (by omega) (by omega)
      cases ea
      simp only [Int.toNat_natCast] at hx0 hx1 hx2 hx3
      rw [hd] at HI
      generalize rd_T42 l (x : Int) = q at *
      have p1 := eq_true hxl
      have p2 : (0 ≤ (x : Int)) = True := eq_true (by omega)
      have p3 : ((x : Int) < (l.length : Int)) = True := eq_true (by omega)
      clear hxl hd
      have HI2 := HI.out
      unfold idx_inst at HI2
      have HS2 := Lib.hid (HS.out wr q HB.out)
      cases hq : ok q with
      | true =>
        rw [hq] at HS2 HI2
        rw [if_pos rfl] at HI2
        have HI3 := Lib.hid HI2
        clear HI2 HI hq
        go_wp2_with fail
        refine HS2.out.mono ?_
        rintro e w1 ⟨rfl, hb1⟩
        have HB1 := Aside0.mk (below_step HB.out hb1)
        clear hb1
        go_wp2_with fail
        go_roundg kk
        case measure => omega
        case rel => exact ⟨x + 1, by simp [wx], ⟨by have := HX.out; omega⟩, ⟨by rw [← HI3.out]; congr 1⟩, ⟨HB1.out⟩⟩
      | false =>
        rw [hq] at HS2 HI2
        rw [if_neg (by decide)] at HI2
        subst HI2
        clear HI hq
        go_wp2_with fail
        refine HS2.out.mono ?_
        rintro e w1 ⟨rfl, hb1⟩
        have HB1 := Aside0.mk (below_step HB.out hb1)
        clear hb1
        go_wp2_with fail
        go_ret
        exact ⟨rfl, HB1.out⟩
set_option maxHeartbeats 4000000 in
set_option maxRecDepth 100000 in
theorem contains_inst (B : Nat) (ok : S42 → Bool) (A : Option Addr) (c : Nat) (l : List S42) (hl : l.length ≤ 2000000) (w : World) (hC : Kd.C k42 w A l.length l) (hS0 : ∀ W (x : S42), Below w.heap.size w W → Calls Try.prog 39 #[.agg #[.int .i64 x.f0, .int .i64 x.f1, .int .i64 x.f2, .int .i64 x.f3], .pointer (some ⟨B, 0, none⟩)] W fun e w' => e = .returned (.bool (!ok x)) ∧ Below W.heap.size W w') :
    Calls Try.prog 38 #[.slice A l.length c, .func (.func 39) #[] #[.pointer (some ⟨B, 0, none⟩)]] w fun e w' => e = .returned (.bool (!(l.all ok))) ∧ Below w.heap.size w w' := by
  have hge := idx_inst_ge ok l 0 (Int.le_refl _)
  rw [← hge]
  have HI := Lib.hid (index_inst B ok A c l hl w hC hS0 (idx_inst ok l 0) rfl)
  clear hC hge hS0
  generalize idx_inst ok l 0 = r at HI ⊢
  go_enter Try.func38, Try.ntmps38
  go_wp2_with fail
  refine HI.out.mono ?_
  rintro e w1 ⟨rfl, hb1⟩
  go_wp2_with fail
  go_ret
  exact ⟨by simp, hb1⟩
/-- the place of the first one that isn't so, or -1 -/
def idx_pad (ok : S66 → Bool) : List S66 → Int → Int
  | [], _ => -1
  | x :: l, i => if ok x then idx_pad ok l (i + 1) else i
theorem idx_pad_ge (ok : S66 → Bool) : ∀ (l : List S66) (i : Int), 0 ≤ i → (decide (idx_pad ok l i ≥ 0) = !(l.all ok))
  | [], i, h => by simp [idx_pad]
  | x :: l, i, h => by
    unfold idx_pad
    cases hx : ok x with
    | true =>
      rw [if_pos rfl, idx_pad_ge ok l (i + 1) (by omega)]
      simp [hx]
    | false =>
      rw [if_neg (by decide)]
      simp [hx, h]
set_option maxHeartbeats 4000000 in
set_option maxRecDepth 100000 in
theorem index_pad (B : Nat) (ok : S66 → Bool) (A : Option Addr) (c : Nat) (l : List S66) (hl : l.length ≤ 2000000) (w : World) (hC : Kd.C k66 w A l.length l) (hS0 : ∀ W (x : S66), Below w.heap.size w W → Calls Try.prog 42 #[.agg #[.int .i64 x.f0, .int .i64 x.f1, .int .i64 x.f2], .pointer (some ⟨B, 0, none⟩)] W fun e w' => e = .returned (.bool (!ok x)) ∧ Below W.heap.size W w') (r : Int) (hr : idx_pad ok l 0 = r) :
    Calls Try.prog 57 #[.slice A l.length c, .func (.func 42) #[] #[.pointer (some ⟨B, 0, none⟩)]] w fun e w' => e = .returned (.int .i64 r) ∧ Below w.heap.size w w' := by
  have HC := Lib.hid hC
  have HL := Lib.hid hl
  have HS := Lib.hid hS0
  have HR := Lib.hid hr
  clear hC hl hr hS0
  go_enter Try.func57, Try.ntmps57
  go_wp2_with fail
  go_loopg [8] l.length (fun kq v8 w' => ∃ x : Nat, v8 = .int .i64 (x : Int) ∧ Aside0 (x + kq = l.length) ∧ Aside0 (idx_pad ok (l.drop x) (x : Int) = r) ∧ Aside0 (Below w.heap.size w w'))
  case atStart => exact ⟨0, rfl, ⟨by omega⟩, ⟨HR.out⟩, ⟨Below.refl _ _⟩⟩
  case round =>
    obtain ⟨x, rfl, HX, HI, HB⟩ := hrel
    cases gk with
    | zero =>
      have cx : decide (x < l.length) = false := decide_eq_false (by have := HX.out; omega)
      have cx' : decide ((x : Int) < (l.length : Int)) = false := decide_eq_false (by have := HX.out; omega)
      have hr : r = -1 := by
        rw [← HI.out, List.drop_eq_nil_of_le (by have := HX.out; omega)]
        rfl
      subst hr
      clear HI
      go_wp2_with fail
      go_ret
      exact ⟨rfl, HB.out⟩
    | succ kk =>
      have hxl : x < l.length := by have := HX.out; omega
      have cx : decide (x < l.length) = true := decide_eq_true hxl
      have cx' : decide ((x : Int) < (l.length : Int)) = true := decide_eq_true (by omega)
      have wx : IntKind.i64.wrap ((x : Int) + 1) = ((x + 1 : Nat) : Int) := by rw [i64_w]; unfold wrap64; have := HL.out; omega
      have hd : l.drop x = rd_T66 l (x : Int) :: l.drop (x + 1) := by
        rw [List.drop_eq_getElem_cons hxl]
        simp [rd_T66, List.getD, hxl]
      obtain ⟨ad, ea, hx0, hx1, hx2⟩ := at_T66 (Kd.C_below HC.out HB.out) (x : Int) (by omega) (by omega)
      cases ea
      simp only [Int.toNat_natCast] at hx0 hx1 hx2
      rw [hd] at HI
      generalize rd_T66 l (x : Int) = q at *
      have p1 := eq_true hxl
      have p2 : (0 ≤ (x : Int)) = True := eq_true (by omega)
      have p3 : ((x : Int) < (l.length : Int)) = True := eq_true (by omega)
      clear hxl hd
      have HI2 := HI.out
      unfold idx_pad at HI2
      have HS2 := Lib.hid (HS.out wr q HB.out)
      cases hq : ok q with
      | true =>
        rw [hq] at HS2 HI2
        rw [if_pos rfl] at HI2
        have HI3 := Lib.hid HI2
        clear HI2 HI hq
        go_wp2_with fail
        refine HS2.out.mono ?_
        rintro e w1 ⟨rfl, hb1⟩
        have HB1 := Aside0.mk (below_step HB.out hb1)
        clear hb1
        go_wp2_with fail
        go_roundg kk
        case measure => omega
        case rel => exact ⟨x + 1, by simp [wx], ⟨by have := HX.out; omega⟩, ⟨by rw [← HI3.out]; congr 1⟩, ⟨HB1.out⟩⟩
      | false =>
        rw [hq] at HS2 HI2
        rw [if_neg (by decide)] at HI2
        subst HI2
        clear HI hq
        go_wp2_with fail
        refine HS2.out.mono ?_
        rintro e w1 ⟨rfl, hb1⟩
        have HB1 := Aside0.mk (below_step HB.out hb1)
        clear hb1
        go_wp2_with fail
        go_ret
        exact ⟨rfl, HB1.out⟩
set_option maxHeartbeats 4000000 in
set_option maxRecDepth 100000 in
theorem contains_pad (B : Nat) (ok : S66 → Bool) (A : Option Addr) (c : Nat) (l : List S66) (hl : l.length ≤ 2000000) (w : World) (hC : Kd.C k66 w A l.length l) (hS0 : ∀ W (x : S66), Below w.heap.size w W → Calls Try.prog 42 #[.agg #[.int .i64 x.f0, .int .i64 x.f1, .int .i64 x.f2], .pointer (some ⟨B, 0, none⟩)] W fun e w' => e = .returned (.bool (!ok x)) ∧ Below W.heap.size W w') :
    Calls Try.prog 41 #[.slice A l.length c, .func (.func 42) #[] #[.pointer (some ⟨B, 0, none⟩)]] w fun e w' => e = .returned (.bool (!(l.all ok))) ∧ Below w.heap.size w w' := by
  have hge := idx_pad_ge ok l 0 (Int.le_refl _)
  rw [← hge]
  have HI := Lib.hid (index_pad B ok A c l hl w hC hS0 (idx_pad ok l 0) rfl)
  clear hC hge hS0
  generalize idx_pad ok l 0 = r at HI ⊢
  go_enter Try.func41, Try.ntmps41
  go_wp2_with fail
  refine HI.out.mono ?_
  rintro e w1 ⟨rfl, hb1⟩
  go_wp2_with fail
  go_ret
  exact ⟨by simp, hb1⟩
end Go.Proofs.Ytoiakaagbgfocaa.PC
