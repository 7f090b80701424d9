/- Package code: a judge's slot: its contract. -/
import Derived.Test.YtoiakaagbgfocaaCoAid
import Derived.Test.YtoiakaagbgfocaaPCx6
namespace Go.Proofs.Ytoiakaagbgfocaa.PC
open Go.RowKit Go.Proofs.YtoiakaagbgfocaaW.PrintWords Go.Proofs.YtoiakaagbgfocaaW.PrintLast Go.Proofs.YtoiakaagbgfocaaW.PrintMore
set_option linter.unusedVariables false
set_option linter.unusedSimpArgs false

/-- a judge: an image and one of its codes -/
structure Jd where
  A0 : Option Addr
  c0 : Nat
  g : List S48
  A1 : Option Addr
  c1 : Nat
  cs : List S40
  m : Int
  s : Int
  p : Int
  r : Int
  A6 : Option Addr
  c6 : Nat
  xs : List S42
  A7 : Option Addr
  c7 : Nat
  ps : List S66
namespace Jd
abbrev val (j : Jd) : Value := .agg #[.slice j.A0 j.g.length j.c0, .slice j.A1 j.cs.length j.c1, .int .i64 j.m, .int .i64 j.s, .int .i64 j.p, .int .i64 j.r, .slice j.A6 j.xs.length j.c6, .slice j.A7 j.ps.length j.c7]
abbrev cells (j : Jd) : Array Value := #[.slice j.A0 j.g.length j.c0, .slice j.A1 j.cs.length j.c1, .int .i64 j.m, .int .i64 j.s, .int .i64 j.p, .int .i64 j.r, .slice j.A6 j.xs.length j.c6, .slice j.A7 j.ps.length j.c7]
/-- the judge's rows lie in a world -/
structure In (j : Jd) (w : World) : Prop where mk ::
  (h0 : Kd.C k48 w j.A0 j.g.length j.g) (b0 : j.g.length ≤ j.c0) (h1 : Kd.C k40 w j.A1 j.cs.length j.cs) (b1 : j.cs.length ≤ j.c1)
  (h6 : Kd.C k42 w j.A6 j.xs.length j.xs) (b6 : j.xs.length ≤ j.c6) (h7 : Kd.C k66 w j.A7 j.ps.length j.ps) (b7 : j.ps.length ≤ j.c7)
theorem In.below {j : Jd} {B : Nat} {w W : World} (h : j.In w) (hB : B = w.heap.size) (hb : Below B w W) : j.In W := by
  subst hB
  exact ⟨Kd.C_below h.h0 hb, h.b0, Kd.C_below h.h1 hb, h.b1, Kd.C_below h.h6 hb, h.b6, Kd.C_below h.h7 hb, h.b7⟩
/-- is it a row of slots -/
def rowB (j : Jd) (a n : Int) : Bool := decide (0 ≤ a) && (decide (a ≤ wrap64 (j.s - 1)) && decide (n ≤ wrap64 (j.s - a)))
theorem row_calls (j : Jd) (a n : Int) (w : World) (h : j.In w) : Calls Try.prog 54 #[j.val, .int .i64 a, .int .i64 n] w fun e w' => e = .returned (.bool (j.rowB a n)) ∧ Below w.heap.size w w' := by
  refine code_judge_row.calls j.A0 j.c0 j.g j.A1 j.c1 j.cs j.m j.s j.p j.r j.A6 j.c6 j.xs j.A7 j.c7 j.ps a n _ w h.h0 h.b0 h.h1 h.b1 h.h6 h.b6 h.h7 h.b7 ?_
  unfold code_judge_row.f code_within_int64.f rowB
  by_cases h0 : 0 ≤ a
  · rw [if_pos h0, decide_eq_true h0]
    simp only [Option.bind_some, Bool.true_and]
    by_cases h1 : a ≤ wrap64 (j.s - 1)
    · rw [if_pos (decide_eq_true h1), decide_eq_true h1]
      rfl
    · rw [if_neg (by simpa using h1), decide_eq_false h1]
      rfl
  · rw [if_neg h0, decide_eq_false h0]
    rfl
end Jd
set_option maxHeartbeats 4000000 in
set_option maxRecDepth 100000 in
theorem slot1_calls (j : Jd) (a : Int) (B : Nat) (w : World) (h : j.In w) (hB : Blk w B j.cells 58) : Calls Try.prog 62 #[.int .i64 a, .pointer (some ⟨B, 0, none⟩)] w fun e w' => e = .returned (.bool (!j.rowB a 1)) ∧ Below w.heap.size w w' := by
  have HR := Lib.hid (fun W (h : j.In W) => j.row_calls a 1 W h)
  have HJ := Lib.hid h
  obtain ⟨e0, e1, e2, e3, e4, e5, e6, e7⟩ := hB.cells8
  clear h hB
  generalize j.rowB a 1 = b at *
  go_enter Try.func62, Try.ntmps62
  go_wp2_with fail
  refine (HR.out w HJ.out).mono ?_
  rintro e w1 ⟨rfl, hb1⟩
  go_wp2_with fail
  go_ret
  exact ⟨rfl, hb1⟩
/-- the place of the first one that is no row, or -1 -/
def idxN (j : Jd) : List Int → Int → Int
  | [], _ => -1
  | x :: l, i => if j.rowB x 1 then idxN j l (i + 1) else i
theorem idxN_ge (j : Jd) : ∀ (l : List Int) (i : Int), 0 ≤ i → (decide (idxN j l i ≥ 0) = !(l.all fun x => j.rowB x 1))
  | [], i, h => by simp [idxN]
  | x :: l, i, h => by
    unfold idxN
    cases hx : j.rowB x 1 with
    | true =>
      rw [if_pos rfl, idxN_ge j l (i + 1) (by omega)]
      simp [hx]
    | false =>
      rw [if_neg (by decide)]
      simp [hx, h]
set_option maxHeartbeats 4000000 in
set_option maxRecDepth 100000 in
theorem index64_calls (j : Jd) (B : Nat) (A : Option Addr) (c : Nat) (l : List Int) (hl : l.length ≤ 1000000) (w : World) (h : j.In w) (hB : Blk w B j.cells 58) (hC : Kd.C (Kd.int .i64) w A l.length l) (r : Int) (hr : idxN j l 0 = r) :
    Calls Try.prog 63 #[.slice A l.length c, .func (.func 62) #[] #[.pointer (some ⟨B, 0, none⟩)]] w fun e w' => e = .returned (.int .i64 r) ∧ Below w.heap.size w w' := by
  have HJ := Lib.hid h
  have HBl := Lib.hid hB
  have HC := Lib.hid hC
  have HL := Lib.hid hl
  have HS : Hid (∀ W (x : Int), Below w.heap.size w W → Calls Try.prog 62 #[.int .i64 x, .pointer (some ⟨B, 0, none⟩)] W fun e w' => e = .returned (.bool (!j.rowB x 1)) ∧ Below W.heap.size W w') :=
    Lib.hid (fun W x hb => slot1_calls j x B W (HJ.out.below rfl hb) (HBl.out.below hb))
  have HR := Lib.hid hr
  clear h hB hC hl hr
  go_enter Try.func63, Try.ntmps63
  go_wp2_with fail
  go_loopg [8] l.length (fun kq v8 w' => ∃ x : Nat, v8 = .int .i64 (x : Int) ∧ Aside0 (x + kq = l.length) ∧ Aside0 (idxN j (l.drop x) (x : Int) = r) ∧ Aside0 (Below w.heap.size w w'))
  case atStart => exact ⟨0, rfl, ⟨by omega⟩, ⟨HR.out⟩, ⟨Below.refl _ _⟩⟩
  case round =>
    obtain ⟨x, rfl, HX, HI, HB⟩ := hrel
    cases gk with
    | zero =>
      have cx : decide (x < l.length) = false := decide_eq_false (by have := HX.out; omega)
      have cx' : decide ((x : Int) < (l.length : Int)) = false := decide_eq_false (by have := HX.out; omega)
      have hr : r = -1 := by
        rw [← HI.out, List.drop_eq_nil_of_le (by have := HX.out; omega)]
        rfl
      subst hr
      clear HI
      go_wp2_with fail
      go_ret
      exact ⟨rfl, HB.out⟩
    | succ kk =>
      have hxl : x < l.length := by have := HX.out; omega
      have cx : decide (x < l.length) = true := decide_eq_true hxl
      have cx' : decide ((x : Int) < (l.length : Int)) = true := decide_eq_true (by omega)
      have wx : IntKind.i64.wrap ((x : Int) + 1) = ((x + 1 : Nat) : Int) := by rw [i64_w]; unfold wrap64; have := HL.out; omega
      have hd : l.drop x = rd l (x : Int) :: l.drop (x + 1) := by
        rw [List.drop_eq_getElem_cons hxl]
        simp [rd, List.getD, hxl]
      obtain ⟨ad, ea, hx0⟩ := Kd.at_int (Kd.C_below HC.out HB.out) (x : Int) (by omega) (by omega)
      cases ea
      simp only [Int.toNat_natCast] at hx0
      rw [hd] at HI
      generalize rd l (x : Int) = q at *
      have p1 := eq_true hxl
      have p2 : (0 ≤ (x : Int)) = True := eq_true (by omega)
      have p3 : ((x : Int) < (l.length : Int)) = True := eq_true (by omega)
      clear hxl hd
      have HI2 := HI.out
      unfold idxN at HI2
      have HS2 := Lib.hid (HS.out wr q HB.out)
      cases hq : j.rowB q 1 with
      | true =>
        rw [hq] at HS2 HI2
        rw [if_pos rfl] at HI2
        have HI3 := Lib.hid HI2
        clear HI2 HI hq
        go_wp2_with fail
        refine HS2.out.mono ?_
        rintro e w1 ⟨rfl, hb1⟩
        have HB1 := Aside0.mk (below_step HB.out hb1)
        clear hb1
        go_wp2_with fail
        go_roundg kk
        case measure => omega
        case rel => exact ⟨x + 1, by simp [wx], ⟨by have := HX.out; omega⟩, ⟨by rw [← HI3.out]; congr 1⟩, ⟨HB1.out⟩⟩
      | false =>
        rw [hq] at HS2 HI2
        rw [if_neg (by decide)] at HI2
        subst HI2
        clear HI hq
        go_wp2_with fail
        refine HS2.out.mono ?_
        rintro e w1 ⟨rfl, hb1⟩
        have HB1 := Aside0.mk (below_step HB.out hb1)
        clear hb1
        go_wp2_with fail
        go_ret
        exact ⟨rfl, HB1.out⟩
set_option maxHeartbeats 4000000 in
set_option maxRecDepth 100000 in
theorem contains64_calls (j : Jd) (B : Nat) (A : Option Addr) (c : Nat) (l : List Int) (hl : l.length ≤ 1000000) (w : World) (h : j.In w) (hB : Blk w B j.cells 58) (hC : Kd.C (Kd.int .i64) w A l.length l) :
    Calls Try.prog 61 #[.slice A l.length c, .func (.func 62) #[] #[.pointer (some ⟨B, 0, none⟩)]] w fun e w' => e = .returned (.bool (!(l.all fun x => j.rowB x 1))) ∧ Below w.heap.size w w' := by
  have hge := idxN_ge j l 0 (Int.le_refl _)
  rw [← hge]
  have HI := Lib.hid (index64_calls j B A c l hl w h hB hC (idxN j l 0) rfl)
  clear h hB hC hge
  generalize idxN j l 0 = r at HI ⊢
  go_enter Try.func61, Try.ntmps61
  go_wp2_with fail
  refine HI.out.mono ?_
  rintro e w1 ⟨rfl, hb1⟩
  go_wp2_with fail
  go_ret
  exact ⟨by simp, hb1⟩
set_option maxHeartbeats 4000000 in
set_option maxRecDepth 100000 in
theorem slot_calls (j : Jd) (A : Option Addr) (c : Nat) (l : List Int) (hl : l.length ≤ 1000000) (w : World) (h : j.In w) (hC : Kd.C (Kd.int .i64) w A l.length l) :
    Calls Try.prog 52 #[j.val, .slice A l.length c] w fun e w' => e = .returned (.bool (l.all fun x => j.rowB x 1)) ∧ Below w.heap.size w w' := by
  have HS := Lib.hid (fun W (h : j.In W) (hB : Blk W w.heap.size j.cells 58) (hC : Kd.C (Kd.int .i64) W A l.length l) => contains64_calls j w.heap.size A c l hl W h hB hC)
  have HJ := Lib.hid h
  have HC := Lib.hid hC
  clear h hC
  generalize (l.all fun x => j.rowB x 1) = b at HS ⊢
  go_enter Try.func52, Try.ntmps52
  go_wp2_with fail
  have hb0 := below_alloc (Below.refl w.heap.size w) (.cells j.cells 58)
  refine (HS.out _ (HJ.out.below rfl hb0) (Blk.new w j.cells 58) (Kd.C_below HC.out hb0)).mono ?_
  rintro e w1 ⟨rfl, hb1⟩
  have HB := Aside0.mk (below_step hb0 hb1)
  clear hb0 hb1
  go_wp2_with fail
  go_ret
  exact ⟨by simp, HB.out⟩
end Go.Proofs.Ytoiakaagbgfocaa.PC
