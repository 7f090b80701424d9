/- Maps from int64, as plain functions: a set of them, and numbers of them. -/
import Derived.Test.YtlkppkmfpinocaaDoorTrParse
import Derived.Maps.OwnSet
import Derived.Maps.OwnOps
import Derived.Maps.Views
import Derived.Carry
namespace Go.Proofs.YtlkppkmfpinocaaDoor.PT
open Go.RowKit Go.Proofs.YtlkppkmfpinocaaDoorW.PrintWords Go.Proofs.YtlkppkmfpinocaaDoorW.PrintLast Go.Proofs.YtlkppkmfpinocaaDoorW.PrintMore
open Go.Maps
set_option linter.unusedVariables false
set_option linter.unusedSimpArgs false

theorem i64_wf {x : Int} (h : i64B x = true) : (Lit.int .i64 x).wf = true := by
  obtain ⟨h0, h1⟩ := i64B_of h
  have : IntKind.i64.wrap x = x := by rw [IntKind.wrap_i64]; omega
  simp only [Lit.wf, Bool.and_eq_true, decide_eq_true_eq]
  refine ⟨?_, ?_⟩
  · exact h0
  · exact h1
theorem key2 {x : Int} (h : i64B x = true) : keyOf Tryd.prog 2 (.int .i64 x) = some (.int .i64 x) := keyOf_int_mk Tryd.underlying2 (i64_wf h)
theorem keyLit (x : Int) : WideAt.IsKeyLit (.int .i64 x) := by trivial
/-- a set of numbers -/
def BMap (w : World) (b n : Nat) (fr : Int → Bool) : Prop :=
  ∃ D : DataW Unit, w.ownsMap Tryd.prog 2 (plainElem Tryd.prog 4) b n D ∧ ∀ x, D.atKey (.int .i64 x) (.lit (.bool false)) = .lit (.bool (fr x))
theorem plainElem_bool_inv {e : TypeId} (he : Tryd.prog.underlying e = some .bool) {v : Value} {z : DataW Unit × List MemPlace} (h : plainElem Tryd.prog e v = some z) : ∃ x, v = .bool x ∧ z = (.lit (.bool x), []) := by
  unfold plainElem at h
  rw [he] at h
  cases v <;> simp at h
  exact ⟨_, rfl, h.symm⟩
theorem BMap.new (w : World) : BMap (w.alloc (.map #[] 0)) w.heap.size 0 (fun _ => false) := ⟨_, World.ownsMap_made _ _ _ _, fun x => rfl⟩
theorem BMap.kept {w w' : World} {b n : Nat} {fr : Int → Bool} {row : Option Nat} (h : BMap w b n fr) (hg : w.grownBy w' row) (hne : some b ≠ row) : BMap w' b n fr := by
  obtain ⟨D, h1, h2⟩ := h
  exact ⟨D, h1.kept hg hne, h2⟩
theorem BMap.below {w w' : World} {b n : Nat} {fr : Int → Bool} (h : BMap w b n fr) (hb : Below w.heap.size w w') : BMap w' b n fr := by
  obtain ⟨D, h1, h2⟩ := h
  exact ⟨D, h1.kept (row := none) ⟨hb.os, hb.tape, hb.output, hb.size, fun k hk _ => hb.block k hk⟩ (by simp), h2⟩
theorem BMap.lt {w : World} {b n : Nat} {fr : Int → Bool} (h : BMap w b n fr) : b < w.heap.size := by
  obtain ⟨D, h1, h2⟩ := h
  exact h1.lt
theorem BMap.look {w : World} {b n : Nat} {fr : Int → Bool} (h : BMap w b n fr) (x : Int) (hx : i64B x = true) : (Instr.lookup 65 (.map (some b)) (.int .i64 x) false).run Tryd.prog w = .ok (.bool (fr x)) w := by
  obtain ⟨D, h1, h2⟩ := h
  obtain ⟨v, ps, hrun, hv⟩ := h1.lookup (t := 65) (e := 4) (int_keyed Tryd.underlying2) Tryd.underlying65 (Tryd.zeroValue4 w) (plainElem_bool Tryd.underlying4 false) (key2 hx)
  obtain ⟨y, rfl, hy⟩ := plainElem_bool_inv Tryd.underlying4 hv
  rw [h2 x] at hy
  simp only [Prod.mk.injEq, DataW.lit.injEq, Lit.bool.injEq] at hy
  rw [hrun, hy.1]
def setB (fr : Int → Bool) (x : Int) : Int → Bool := fun y => if y = x then true else fr y
theorem BMap.put {w : World} {b n : Nat} {fr : Int → Bool} (h : BMap w b n fr) (x : Int) (hx : i64B x = true) (hn : n < 1000000) {ops : Array Oper} {rest : List Oper} {o : Oper} {a : Act} {Q : Exit → Act → World → Prop}
    (hg : o.guard = none) (m k v : Operand) (hop : o.op = Op.mapUpdate 65 m k v) (hm : a.eval m = .map (some b)) (hk : a.eval k = .int .i64 x) (hv : a.eval v = .bool true)
    (hK : ∀ w', BMap w' b (n + 1) (setB fr x) → w.grownBy w' (some b) → wpList Tryd.prog ops Q rest (a.put o.dst undef) w') : wpList Tryd.prog ops Q (o :: rest) a w := by
  obtain ⟨D, h1, h2⟩ := h
  refine wpList_mapUpdate_own w hg m k v 65 hop 2 4 (int_keyed Tryd.underlying2) Tryd.underlying65 (plainElem Tryd.prog 4) b n D hm h1 (by unfold maxLen; omega) _ _ _ hk hv (key2 hx) _ [] (plainElem_bool Tryd.underlying4 true) (fun w' hw hgr => hK w' ⟨_, hw, fun y => ?_⟩ hgr)
  unfold setB
  by_cases hy : y = x
  · subst hy
    rw [if_pos rfl]
    exact atKey_put_same h1.isMap (keyLit y) _ _
  · rw [if_neg hy]
    rw [atKey_put_other (by intro e; cases e; exact hy rfl)]
    exact h2 y
/-- numbers by numbers -/
def IMap (e : TypeId) (w : World) (b n : Nat) (f : Int → Option Int) (sz : Nat) : Prop :=
  ∃ D : DataW Unit, w.ownsMap Tryd.prog 2 (plainElem Tryd.prog e) b n D ∧ size D = sz ∧ ∀ x, has D (.int .i64 x) = (f x).isSome ∧ D.atKey (.int .i64 x) (.lit (.int .i64 0)) = .lit (.int .i64 ((f x).getD 0))
theorem IMap.new (e : TypeId) (w : World) : IMap e (w.alloc (.map #[] 0)) w.heap.size 0 (fun _ => none) 0 := ⟨_, World.ownsMap_made _ _ _ _, rfl, fun x => ⟨rfl, rfl⟩⟩
theorem IMap.kept {e : TypeId} {w w' : World} {b n sz : Nat} {f : Int → Option Int} {row : Option Nat} (h : IMap e w b n f sz) (hg : w.grownBy w' row) (hne : some b ≠ row) : IMap e w' b n f sz := by
  obtain ⟨D, h1, h2⟩ := h
  exact ⟨D, h1.kept hg hne, h2⟩
theorem IMap.below {e : TypeId} {w w' : World} {b n sz : Nat} {f : Int → Option Int} (h : IMap e w b n f sz) (hb : Below w.heap.size w w') : IMap e w' b n f sz := by
  obtain ⟨D, h1, h2⟩ := h
  exact ⟨D, h1.kept (row := none) ⟨hb.os, hb.tape, hb.output, hb.size, fun k hk _ => hb.block k hk⟩ (by simp), h2⟩
theorem IMap.lt {e : TypeId} {w : World} {b n sz : Nat} {f : Int → Option Int} (h : IMap e w b n f sz) : b < w.heap.size := by
  obtain ⟨D, h1, h2⟩ := h
  exact h1.lt
theorem IMap.mapObj {e : TypeId} {w : World} {b n sz : Nat} {f : Int → Option Int} (h : IMap e w b n f sz) : ∃ es c, w.heap[b]? = some (.map es c) := by
  obtain ⟨D, ⟨es, c, h1, _⟩, h2⟩ := h
  exact ⟨es, c, h1⟩
theorem IMap.look {e t : TypeId} {w : World} {b n sz : Nat} {f : Int → Option Int} (h : IMap e w b n f sz) (ht : Tryd.prog.underlying t = some (.map 2 e)) (he : Tryd.prog.underlying e = some (.int .i64)) (hz : ∀ w, (zeroValue e).run Tryd.prog w = .ok (.int .i64 0) w) (x : Int) (hx : i64B x = true) :
    (Instr.lookup t (.map (some b)) (.int .i64 x) false).run Tryd.prog w = .ok (.int .i64 ((f x).getD 0)) w := by
  obtain ⟨D, h1, _, h2⟩ := h
  obtain ⟨c, hrun, hat, _⟩ := h1.lookup_int (int_keyed Tryd.underlying2) ht he (hz w) (key2 hx)
  rw [(h2 x).2] at hat
  simp only [DataW.lit.injEq, Lit.int.injEq, true_and] at hat
  rw [hrun, hat]
theorem IMap.lookOk {e t : TypeId} {w : World} {b n sz : Nat} {f : Int → Option Int} (h : IMap e w b n f sz) (ht : Tryd.prog.underlying t = some (.map 2 e)) (he : Tryd.prog.underlying e = some (.int .i64)) (hz : ∀ w, (zeroValue e).run Tryd.prog w = .ok (.int .i64 0) w) (x : Int) (hx : i64B x = true) :
    (Instr.lookup t (.map (some b)) (.int .i64 x) true).run Tryd.prog w = .ok (.tuple #[.int .i64 ((f x).getD 0), .bool (f x).isSome]) w := by
  obtain ⟨D, h1, _, h2⟩ := h
  obtain ⟨v, ps, hrun, hv⟩ := h1.look_ok (int_keyed Tryd.underlying2) ht (hz w) (plainElem_int he (by decide)) (key2 hx)
  obtain ⟨c, rfl, hc, _⟩ := plainElem_int_inv he hv
  rw [(h2 x).2] at hc
  simp only [Prod.mk.injEq, DataW.lit.injEq, Lit.int.injEq, true_and] at hc
  rw [hrun, (h2 x).1, hc.1]
theorem IMap.len {e t : TypeId} {w : World} {b n sz : Nat} {f : Int → Option Int} (h : IMap e w b n f sz) (ht : Tryd.prog.underlying t = some (.map 2 e)) (ty : TypeId) : (Builtin.len_ #[t] ty #[.map (some b)]).run Tryd.prog w = .ok (.int .i64 (sz : Int)) w := by
  obtain ⟨D, h1, h3, h2⟩ := h
  rw [h1.len ht ty, h3]
def setI (f : Int → Option Int) (x y : Int) : Int → Option Int := fun z => if z = x then some y else f z
theorem IMap.store {e t : TypeId} {w : World} {b n sz : Nat} {f : Int → Option Int} (h : IMap e w b n f sz) (ht : Tryd.prog.underlying t = some (.map 2 e)) (he : Tryd.prog.underlying e = some (.int .i64)) (x y : Int) (hx : i64B x = true) (hy : i64B y = true) (hn : n < 1000000) :
    ∃ w', (Instr.mapUpdate t (.map (some b)) (.int .i64 x) (.int .i64 y)).run Tryd.prog w = .ok () w' ∧ IMap e w' b (n + 1) (setI f x y) (if (f x).isSome then sz else sz + 1) ∧ w.grownBy w' (some b) := by
  obtain ⟨D, h1, h3, h2⟩ := h
  obtain ⟨w', hr, ho, hg⟩ := h1.update (int_keyed Tryd.underlying2) ht (by unfold maxLen; omega) (key2 hx) (plainElem_int he (i64_wf hy))
  refine ⟨w', hr, ⟨_, ho, ?_, fun z => ?_⟩, hg⟩
  · rw [size_put (h1.tidy (int_keyed Tryd.underlying2)), (h2 x).1, h3]
  · unfold setI
    by_cases hz : z = x
    · subst hz
      rw [if_pos rfl]
      exact ⟨has_put_same h1.isMap (keyLit z) _, atKey_put_same h1.isMap (keyLit z) _ _⟩
    · rw [if_neg hz]
      have hne : (Lit.int .i64 z) ≠ (Lit.int .i64 x) := by intro e; cases e; exact hz rfl
      rw [atKey_put_other hne, has_put_other hne]
      exact h2 z
theorem IMap.put {e t : TypeId} {w : World} {b n sz : Nat} {f : Int → Option Int} (h : IMap e w b n f sz) (ht : Tryd.prog.underlying t = some (.map 2 e)) (he : Tryd.prog.underlying e = some (.int .i64)) (x y : Int) (hx : i64B x = true) (hy : i64B y = true) (hn : n < 1000000)
    {ops : Array Oper} {rest : List Oper} {o : Oper} {a : Act} {Q : Exit → Act → World → Prop}
    (hg : o.guard = none) (m k v : Operand) (hop : o.op = Op.mapUpdate t m k v) (hm : a.eval m = .map (some b)) (hk : a.eval k = .int .i64 x) (hv : a.eval v = .int .i64 y)
    (hK : ∀ w', IMap e w' b (n + 1) (setI f x y) (if (f x).isSome then sz else sz + 1) → w.grownBy w' (some b) → wpList Tryd.prog ops Q rest (a.put o.dst undef) w') : wpList Tryd.prog ops Q (o :: rest) a w := by
  obtain ⟨w', hr, h1, h2⟩ := h.store ht he x y hx hy hn
  refine wpList_plain hg fun K' hK' => ?_
  unfold Oper.wp
  simp [execOp, hop, hm, hk, hv, hr, Result.andThen]
  exact hK' _ _ (hK w' h1 h2)
end Go.Proofs.YtlkppkmfpinocaaDoor.PT
