/- What the package-level variables hold that lexing reads, and the list of words. -/
import Derived.WalkSmall
import Derived.Lib.LaidTab
import Derived.Test.YtlkppkmfpinocaaDoorTrAid
import Derived.Test.YtlkppkmfpinocaaDoorShelf
namespace Go.Proofs.YtlkppkmfpinocaaDoor.PT
open Go.RowKit Go.Proofs.YtlkppkmfpinocaaDoorW.PrintWords Go.Proofs.YtlkppkmfpinocaaDoorW.PrintLast Go.Proofs.YtlkppkmfpinocaaDoorW.PrintMore
set_option linter.unusedVariables false
set_option linter.unusedSimpArgs false

/-- the library's variables that the program reads -/
structure Globs (w : World) : Prop where
  pow : Lib.TabIs Tryd.prog w "internal/strconv.uint64pow10" .u64 Lib.pow10Tab
  syn : ∃ tp p, w.var? Tryd.prog "strconv.ErrSyntax" = some #[.iface tp p]
  rng : ∃ tp p, w.var? Tryd.prog "strconv.ErrRange" = some #[.iface tp p]

theorem gPow : ∃ g, Tryd.prog.globalNamed "internal/strconv.uint64pow10" = some g := Option.isSome_iff_exists.1 (by kernel_rfl : (Tryd.prog.globalNamed "internal/strconv.uint64pow10").isSome = true)
theorem gSyn : ∃ g, Tryd.prog.globalNamed "strconv.ErrSyntax" = some g := Option.isSome_iff_exists.1 (by kernel_rfl : (Tryd.prog.globalNamed "strconv.ErrSyntax").isSome = true)
theorem gRng : ∃ g, Tryd.prog.globalNamed "strconv.ErrRange" = some g := Option.isSome_iff_exists.1 (by kernel_rfl : (Tryd.prog.globalNamed "strconv.ErrRange").isSome = true)

theorem var_keeps {n : String} {g : Nat} {w w' : World} {cs : Array Value} (hg : Tryd.prog.globalNamed n = some g) (hv : w.var? Tryd.prog n = some cs) (h0 : 0 < cs.size) (hb : Below w.heap.size w w') : w'.var? Tryd.prog n = some cs := by
  have hc : w.cell? ⟨g, 0, none⟩ = some cs[0] := by
    have := World.var?_cell hg hv 0
    rw [this]
    simp [h0]
  exact var?_below hb hg (World.block_lt_of_cell? w _ hc) hv

theorem Globs.below {w w' : World} (h : Globs w) (hb : Below w.heap.size w w') : Globs w' := by
  obtain ⟨g0, e0⟩ := gPow
  obtain ⟨g1, e1⟩ := gSyn
  obtain ⟨g2, e2⟩ := gRng
  obtain ⟨t1, p1, h1⟩ := h.syn
  obtain ⟨t2, p2, h2⟩ := h.rng
  exact ⟨var_keeps e0 h.pow (by simp [Lib.pow10Tab]) hb, ⟨t1, p1, var_keeps e1 h1 (by simp) hb⟩, ⟨t2, p2, var_keeps e2 h2 (by simp) hb⟩⟩

end Go.Proofs.YtlkppkmfpinocaaDoor.PT
