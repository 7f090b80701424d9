/- What a round of a range keeps, told by the types of blocks; yield at any depth. -/
import Derived.Test.YtoiakaagbgfocaaCoAid
import Derived.Test.YtoiakaagbgfocaaRgAid
import Derived.Shelf.Abstract
import Derived.Shelf.RegionOpen
import Derived.WalkKit
import Derived.OwnWalkIn
import Derived.TacticsInMore
import Derived.LoopNIn
import Derived.LoopIn
import Derived.BigRegionIn
namespace Go.Proofs.Ytoiakaagbgfocaa.PC
open Go.RowKit Go.Proofs.YtoiakaagbgfocaaW.PrintWords Go.Proofs.YtoiakaagbgfocaaW.PrintLast Go.Proofs.YtoiakaagbgfocaaW.PrintMore
open Go.Proofs.Ytoiakaagbgfocaa.RG
set_option linter.unusedVariables false
set_option linter.unusedSimpArgs false

/-- the blocks that a caller's round may turn: bytes, numbers of 64 bits, and boxes of slices of these -/
def tsB (t : Nat) : Bool := t == 5 || (t == 28 || (t == 2 || t == 52))
/-- what a round keeps: what lay below n₀, and all cells but those of the types ts -/
structure Kp (ts : Nat → Bool) (n₀ : Nat) (A C : World) : Prop where
  below : Below n₀ A C
  blk : ∀ (k : Nat) (cs : Array Value) (t : Nat) (r : Nat × Nat), A.heap[k]? = some (Obj.cells cs t r) → ts t = false → C.heap[k]? = some (Obj.cells cs t r)
namespace Kp
variable {ts : Nat → Bool} {n₀ : Nat} {A B C W : World}
theorem refl (ts : Nat → Bool) (n₀ : Nat) (A : World) : Kp ts n₀ A A := ⟨Below.refl _ _, fun _ _ _ _ h _ => h⟩
theorem trans (h : Kp ts n₀ A B) (k : Kp ts n₀ B C) : Kp ts n₀ A C := ⟨h.below.trans k.below, fun q cs t r hq ht => k.blk q cs t r (h.blk q cs t r hq ht) ht⟩
theorem of_below (h : Below A.heap.size A C) (hs : n₀ ≤ A.heap.size) : Kp ts n₀ A C := ⟨h.mono hs, fun q cs t r hq _ => (h.block q (Array.getElem?_eq_some_iff.1 hq).1).trans hq⟩
theorem size (h : Kp ts n₀ A C) : A.heap.size ≤ C.heap.size := h.below.size
theorem on (h : Kp ts n₀ W A) (hs : n₀ ≤ W.heap.size) (hb : Below A.heap.size A C) : Kp ts n₀ W C := h.trans (of_below hb (Nat.le_trans hs h.size))
theorem alloc (h : Kp ts n₀ W A) (hs : n₀ ≤ W.heap.size) (o : Obj) : Kp ts n₀ W (A.alloc o) := h.on hs (below_alloc (Below.refl _ _) o)
theorem drew (h : Kp ts n₀ W A) (hs : n₀ ≤ W.heap.size) : Kp ts n₀ W A.drew := h.on hs (below_drew (Below.refl _ _))
theorem grown (h : Kp ts n₀ W A) {row : Option Nat} (hs : n₀ ≤ W.heap.size) (hg : A.grownBy C row) (hr : ∀ r, row = some r → n₀ ≤ r ∧ ∀ (cs : Array Value) (t : Nat) (x : Nat × Nat), A.heap[r]? = some (Obj.cells cs t x) → ts t = true) : Kp ts n₀ W C :=
  h.trans ⟨(Below.refl n₀ A).grown hg (Nat.le_trans hs h.size) (fun k e => (hr k e).1), fun q cs t r hq ht => (hg.block q (Array.getElem?_eq_some_iff.1 hq).1 (fun e => by
    have h1 := (hr q e.symm).2 cs t r hq
    rw [ht] at h1
    cases h1)).trans hq⟩
theorem set (h : Kp ts n₀ W A) (hs : n₀ ≤ W.heap.size) {p : Addr} {cs : Array Value} {t : Nat} (hp : n₀ ≤ p.block) (hb : Blk A p.block cs t) (ht : ts t = true) (u : Value) : Kp ts n₀ W (A.setCell p u) := by
  refine h.trans ⟨(Below.refl _ _).setCell hp u, fun q cs' t' r hq ht' => (Below.heap_setCell A p u q (fun e => ?_)).trans hq⟩
  subst e
  rw [hb.out] at hq
  cases hq
  rw [ht] at ht'
  cases ht'
theorem put (h : Kp ts n₀ W A) (hs : n₀ ≤ W.heap.size) {l : Nat} {o o' : Obj} (hl : n₀ ≤ l) (ho : A.heap[l]? = some o) (hc : o.isCells = false) : Kp ts n₀ W (A.putObj l o') :=
  h.trans ⟨(Below.refl _ A).grown (grownBy_putObj' A l o') (Nat.le_trans hs h.size) (fun k e => by cases e; exact hl), fun q cs t r hq _ => (World.putObj_heap_other (by rintro rfl; rw [hq] at ho; cases ho; cases hc)).trans hq⟩
end Kp
theorem Blk.kp {ts : Nat → Bool} {n₀ : Nat} {W W' : World} {g t : Nat} {cs : Array Value} (h : Blk W g cs t) (hk : Kp ts n₀ W W') (ht : ts t = false) : Blk W' g cs t := ⟨hk.blk g cs t _ h.out ht⟩
theorem Blk.grown {W W' : World} {g t : Nat} {cs : Array Value} {row : Option Nat} (h : Blk W g cs t) (hg : W.grownBy W' row) (hne : row ≠ some g) : Blk W' g cs t := ⟨(hg.block g h.lt (fun e => hne e.symm)).trans h.out⟩
theorem yield_any {n m : Nat} {P : Program} {l : Nat} {args : Array Value} {W : World} {R : Ending → World → Prop} (h : YieldAt Fence.wide n P l args W R) : YieldAt Fence.wide m P l args W R := by
  obtain ⟨fn, tmps, assign, body, h1, h2, h3⟩ := h
  exact ⟨fn, tmps, assign, body, h1, h2, fun c cs _ => h3 c cs (room_wide _)⟩
end Go.Proofs.Ytoiakaagbgfocaa.PC
