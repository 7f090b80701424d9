/- Small aids for walks: a world named at a call; a block known whole, hidden from the walk's rules. -/
import Derived.Test.YtmgkejobolgkmaaGreatDoorPLx0
namespace Go.Proofs.YtmgkejobolgkmaaGreatDoor.PL
open Go.RowKit Go.Proofs.YtmgkejobolgkmaaGreatDoorW.PrintWords Go.Proofs.YtmgkejobolgkmaaGreatDoorW.PrintLast Go.Proofs.YtmgkejobolgkmaaGreatDoorW.PrintMore
set_option linter.unusedVariables false
set_option linter.unusedSimpArgs false

theorem at_world {P : Program} {f : FuncId} {args : Array Value} {W : World} {Q : Ending → World → Prop} (F : World → Prop) (hF : F W) (k : ∀ W', F W' → Calls P f args W' Q) : Calls P f args W Q := k W hF
theorem code_at {P : Program} {c : Code} {Q : Exit → Act → World → Prop} {a : Act} {W : World} (F : World → Prop) (hF : F W) (k : ∀ W', F W' → Code.wp P c Q a W') : Code.wp P c Q a W := k W hF
theorem post_at {P : Program} {fn : Func} {R : Ending → World → Prop} {x : Exit} {a : Act} {W : World} (F : World → Prop) (hF : F W) (k : ∀ W', F W' → bodyPost P fn R x a W') : bodyPost P fn R x a W := k W hF
structure Blk (W : World) (g : Nat) (cs : Array Value) (t : TypeId) : Prop where mk :: (out : W.heap[g]? = some (.cells cs t (0, 0)))
namespace Blk
variable {W W' : World} {g t : Nat} {cs : Array Value}
theorem new (W : World) (cs : Array Value) (t : TypeId) : Blk (W.alloc (.cells cs t)) W.heap.size cs t := ⟨heap_alloc_new W _⟩
theorem new' {W : World} {g : Nat} (hs : W.heap.size = g) (cs : Array Value) (t : TypeId) : Blk (W.alloc (.cells cs t)) g cs t := by subst hs; exact new W cs t
theorem lt (h : Blk W g cs t) : g < W.heap.size := blk_lt h.out
theorem alloc (h : Blk W g cs t) (o : Obj) : Blk (W.alloc o) g cs t := ⟨blk_alloc h.out o⟩
theorem drewN (h : Blk W g cs t) (m : Nat) : Blk (W.drewN m) g cs t := ⟨h.out⟩
theorem drew (h : Blk W g cs t) : Blk W.drew g cs t := ⟨h.out⟩
theorem below (h : Blk W g cs t) (hb : Below W.heap.size W W') : Blk W' g cs t := ⟨(hb.block g h.lt).trans h.out⟩
theorem set (h : Blk W g cs t) (j : Nat) (u : Value) : Blk (W.setCell ⟨g, j, none⟩ u) g (cs.setIfInBounds j u) t := ⟨blk_set h.out j u⟩
theorem far (h : Blk W g cs t) {p : Addr} (hp : g ≠ p.block) (u : Value) : Blk (W.setCell p u) g cs t := ⟨blk_far h.out hp u⟩
theorem cell (h : Blk W g cs t) (j : Nat) : W.cell? ⟨g, j, none⟩ = cs[j]? := blk_cell h.out j
theorem frozen (h : Blk W g cs t) (j : Nat) : W.frozen? ⟨g, j, none⟩ = false := blk_frozen h.out j
theorem cells1 {a : Value} (h : Blk W g #[a] t) : W.cell? ⟨g, 0, none⟩ = some a ∧ W.frozen? ⟨g, 0, none⟩ = false := ⟨h.cell 0, h.frozen 0⟩
theorem cells2 {a b : Value} (h : Blk W g #[a, b] t) : (W.cell? ⟨g, 0, none⟩ = some a ∧ W.cell? ⟨g, 1, none⟩ = some b) ∧ W.frozen? ⟨g, 0, none⟩ = false ∧ W.frozen? ⟨g, 1, none⟩ = false := ⟨⟨h.cell 0, h.cell 1⟩, h.frozen 0, h.frozen 1⟩
theorem cells3 {a b c : Value} (h : Blk W g #[a, b, c] t) : (W.cell? ⟨g, 0, none⟩ = some a ∧ W.cell? ⟨g, 1, none⟩ = some b ∧ W.cell? ⟨g, 2, none⟩ = some c) ∧ W.frozen? ⟨g, 0, none⟩ = false ∧ W.frozen? ⟨g, 1, none⟩ = false ∧ W.frozen? ⟨g, 2, none⟩ = false := ⟨⟨h.cell 0, h.cell 1, h.cell 2⟩, h.frozen 0, h.frozen 1, h.frozen 2⟩
theorem cells4 {a b c d : Value} (h : Blk W g #[a, b, c, d] t) : (W.cell? ⟨g, 0, none⟩ = some a ∧ W.cell? ⟨g, 1, none⟩ = some b ∧ W.cell? ⟨g, 2, none⟩ = some c ∧ W.cell? ⟨g, 3, none⟩ = some d) ∧ W.frozen? ⟨g, 0, none⟩ = false ∧ W.frozen? ⟨g, 1, none⟩ = false ∧ W.frozen? ⟨g, 2, none⟩ = false ∧ W.frozen? ⟨g, 3, none⟩ = false := ⟨⟨h.cell 0, h.cell 1, h.cell 2, h.cell 3⟩, h.frozen 0, h.frozen 1, h.frozen 2, h.frozen 3⟩
theorem cells5 {a b c d e : Value} (h : Blk W g #[a, b, c, d, e] t) : (W.cell? ⟨g, 0, none⟩ = some a ∧ W.cell? ⟨g, 1, none⟩ = some b ∧ W.cell? ⟨g, 2, none⟩ = some c ∧ W.cell? ⟨g, 3, none⟩ = some d ∧ W.cell? ⟨g, 4, none⟩ = some e) ∧ W.frozen? ⟨g, 0, none⟩ = false ∧ W.frozen? ⟨g, 1, none⟩ = false ∧ W.frozen? ⟨g, 2, none⟩ = false ∧ W.frozen? ⟨g, 3, none⟩ = false ∧ W.frozen? ⟨g, 4, none⟩ = false := ⟨⟨h.cell 0, h.cell 1, h.cell 2, h.cell 3, h.cell 4⟩, h.frozen 0, h.frozen 1, h.frozen 2, h.frozen 3, h.frozen 4⟩
end Blk
/-- what lay below B lies as it lay, hidden from the walk's rules -/
structure Bel (B : Nat) (w W : World) : Prop where mk :: (out : Below B w W)
namespace Bel
variable {B : Nat} {w W W' : World}
theorem refl (w : World) : Bel w.heap.size w w := ⟨Below.refl _ _⟩
theorem alloc (h : Bel w.heap.size w W) (o : Obj) : Bel w.heap.size w (W.alloc o) := ⟨below_alloc h.out o⟩
theorem drewN (h : Bel B w W) (m : Nat) : Bel B w (W.drewN m) := ⟨pw_below_drewN h.out m⟩
theorem set (h : Bel B w W) {p : Addr} (hp : B ≤ p.block) (u : Value) : Bel B w (W.setCell p u) := ⟨h.out.setCell hp u⟩
theorem below (h : Bel w.heap.size w W) (hb : Below W.heap.size W W') : Bel w.heap.size w W' := ⟨below_then h.out h.out.size hb⟩
theorem size (h : Bel w.heap.size w W) : w.heap.size ≤ W.heap.size := h.out.size
end Bel
end Go.Proofs.YtmgkejobolgkmaaGreatDoor.PL
