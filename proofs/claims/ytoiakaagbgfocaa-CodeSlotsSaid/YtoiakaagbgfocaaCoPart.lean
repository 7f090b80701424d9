/- Package code: a glue's part: its contract. -/
import Derived.Test.YtoiakaagbgfocaaCoInst
import Derived.Test.YtoiakaagbgfocaaPCx8
namespace Go.Proofs.Ytoiakaagbgfocaa.PC
open Go.RowKit Go.Proofs.YtoiakaagbgfocaaW.PrintWords Go.Proofs.YtoiakaagbgfocaaW.PrintLast Go.Proofs.YtoiakaagbgfocaaW.PrintMore
set_option linter.unusedVariables false
set_option linter.unusedSimpArgs false

/-- an image -/
structure Im where
  A0 : Option Addr
  c0 : Nat
  g : List S48
  A1 : Option Addr
  c1 : Nat
  cs : List S40
  m : Int
namespace Im
abbrev val (j : Im) : Value := .agg #[.slice j.A0 j.g.length j.c0, .slice j.A1 j.cs.length j.c1, .int .i64 j.m]
abbrev cells (j : Im) : Array Value := #[.slice j.A0 j.g.length j.c0, .slice j.A1 j.cs.length j.c1, .int .i64 j.m]
/-- the image's rows lie in a world -/
structure In (j : Im) (w : World) : Prop where mk ::
  (h0 : Kd.C k48 w j.A0 j.g.length j.g) (b0 : j.g.length ≤ j.c0) (h1 : Kd.C k40 w j.A1 j.cs.length j.cs) (b1 : j.cs.length ≤ j.c1)
theorem In.below {j : Im} {B : Nat} {w W : World} (h : j.In w) (hB : B = w.heap.size) (hb : Below B w W) : j.In W := by
  subst hB
  exact ⟨Kd.C_below h.h0 hb, h.b0, Kd.C_below h.h1 hb, h.b1⟩
end Im
/-- a glue -/
structure Gl where
  kd : Int
  sl : Int
  hk : Int
  A : Option Addr
  c : Nat
  ps : List S73
namespace Gl
abbrev val (j : Gl) : Value := .agg #[.int .i64 j.kd, .int .i64 j.sl, .int .i64 j.hk, .slice j.A j.ps.length j.c]
abbrev cells (j : Gl) : Array Value := #[.int .i64 j.kd, .int .i64 j.sl, .int .i64 j.hk, .slice j.A j.ps.length j.c]
structure In (j : Gl) (w : World) : Prop where mk :: (h : Kd.C k73 w j.A j.ps.length j.ps) (b : j.ps.length ≤ j.c)
theorem In.below {j : Gl} {B : Nat} {w W : World} (h : j.In w) (hB : B = w.heap.size) (hb : Below B w W) : j.In W := by
  subst hB
  exact ⟨Kd.C_below h.h hb, h.b⟩
end Gl
/-- is a part of a glue at an index right -/
def partB (gs : List S48) (k kd sl : Int) (x : S73) : Bool :=
  if kd = 3 ∧ x.f0 = 0 ∧ x.f1 = -1 then true else
  inB x.f1 0 (wrap64 ((gs.length : Int) - 1)) && (if kd = 1 then (x.f0 == 0) else
    (!(kd == 3) || (x.f0 == 1)) && (decide (x.f1 < k) && (inB (rd_T48 gs x.f1).f1 1 64 && inB x.f0 0 (wrap64 (sl - (rd_T48 gs x.f1).f1)))))
theorem part_j1 (gs : List S48) (cs : List S40) (m k kd sl hk : Int) (ps : List S73) (x : S73) (h : inB x.f1 0 (wrap64 ((gs.length : Int) - 1)) = true) (hg : gs.length ≤ 1000000) :
    code_part.j1 1 k gs cs m kd sl hk ps x.f0 x.f1 = some (decide (x.f1 < k) && (inB (rd_T48 gs x.f1).f1 1 64 && inB x.f0 0 (wrap64 (sl - (rd_T48 gs x.f1).f1)))) := by
  simp only [inB, Bool.and_eq_true, decide_eq_true_eq] at h
  have w1 : wrap64 ((gs.length : Int) - 1) = (gs.length : Int) - 1 := by unfold wrap64; omega
  simp only [code_part.j1, wi_b, Option.bind_some]
  rw [if_pos h.1, if_pos (by omega)]
  by_cases h2 : x.f1 < k
  · rw [if_pos h2, decide_eq_true h2]
    cases inB (rd_T48 gs x.f1).f1 1 64 <;> rfl
  · rw [if_neg h2, decide_eq_false h2]
    rfl
theorem part_f (gs : List S48) (cs : List S40) (m k kd sl hk : Int) (ps : List S73) (x : S73) (hg : gs.length ≤ 1000000) : code_part.f 2 gs cs m k kd sl hk ps x.f0 x.f1 = some (partB gs k kd sl x) := by
  have key : ∀ b : Bool, b = decide (kd = 3 ∧ x.f0 = 0 ∧ x.f1 = -1) → code_part.j0 2 k b gs cs m kd sl hk ps x.f0 x.f1 = some (partB gs k kd sl x) := by
    intro b hb
    simp only [code_part.j0, wi_b, Option.bind_some]
    unfold partB
    by_cases h0 : kd = 3 ∧ x.f0 = 0 ∧ x.f1 = -1
    · rw [if_pos h0, if_pos (by rw [hb]; exact decide_eq_true h0)]
    · rw [if_neg h0, if_neg (by rw [hb]; simpa using h0)]
      cases hi : inB x.f1 0 (wrap64 ((gs.length : Int) - 1)) with
      | false => rfl
      | true =>
        rw [if_pos rfl, Bool.true_and]
        by_cases h1 : kd = 1
        · rw [if_pos h1, if_pos h1]
        · rw [if_neg h1, if_neg h1, part_j1 gs cs m k kd sl hk ps x hi hg]
          by_cases h3 : kd = 3
          · rw [if_pos h3]
            by_cases h4 : x.f0 = 1
            · rw [if_pos h4]
              simp [h4]
            · rw [if_neg h4]
              simp [h3, h4]
          · rw [if_neg h3]
            simp [h3]
  unfold code_part.f
  by_cases h3 : kd = 3
  · rw [if_pos h3]
    exact key _ (by rw [Bool.eq_iff_iff]; simp [h3])
  · rw [if_neg h3]
    exact key _ (by simp [h3])
theorem part_calls (j : Im) (g : Gl) (k : Int) (x : S73) (w : World) (hj : j.In w) (hg : g.In w) (hl : j.g.length ≤ 1000000) : Calls Try.prog 37 #[j.val, .int .i64 k, g.val, .agg #[.int .i64 x.f0, .int .i64 x.f1]] w fun e w' => e = .returned (.bool (partB j.g k g.kd g.sl x)) ∧ Below w.heap.size w w' :=
  code_part.calls 2 j.A0 j.c0 j.g j.A1 j.c1 j.cs j.m k g.kd g.sl g.hk g.A g.c g.ps x.f0 x.f1 _ w hj.h0 hj.b0 hj.h1 hj.b1 hg.h hg.b (part_f j.g j.cs j.m k g.kd g.sl g.hk g.ps x hl)
end Go.Proofs.Ytoiakaagbgfocaa.PC
