/- What the laid variables give: Globs; a start that meets the condition; events handed in, read as a row. -/
import Derived.Test.YtlkppkmfpinocaaDoorTrAlive
import Derived.Test.YtlkppkmfpinocaaDoorRows
import Derived.Test.YtlkppkmfpinocaaDoorTie
import Derived.LaidMore
import Derived.LaidLaws
import Derived.LaidHandle
import Derived.ChangeSame
import Derived.ChangeVars
import Derived.JoinedOf
import Derived.RowKit
import Derived.RowKitTokens
import Derived.Stop.LaidErr
import Derived.Stop.Joined
import Derived.Lib.LaidTab
import Derived.Deep.SlicePairs
import Derived.SizedLaws
import Derived.ChangeArms
import Derived.OpenShut
namespace Go.Proofs.YtlkppkmfpinocaaDoor
open Go Go.ChangeShapes Go.WideShapes Go.RowKit Go.Proofs.YtlkppkmfpinocaaDoorW.PrintWords Go.Proofs.YtlkppkmfpinocaaDoorW.PrintLast Go.Proofs.YtlkppkmfpinocaaDoorW.PrintMore
set_option linter.unusedVariables false

abbrev laidL : List (String × DataW Unit) := Rows.traceLinesRow.laid
set_option maxRecDepth 100000 in
theorem lrowErr (u : TypeId) (h : Tryd.prog.typeName? 3 u = some "*errors.errorString") : u = 122 :=
  typeName_ptr_named (nm := "errors.errorString") (by rw [show "*" ++ "errors.errorString" = "*errors.errorString" by decide]; kernel_rfl) (by kernel_rfl) (by decide) u (by rw [show "*" ++ "errors.errorString" = "*errors.errorString" by decide]; exact h)
set_option maxRecDepth 100000 in
theorem globs_of_laid {W : World} (h : laidMetH Tryd.prog laidL W) : PT.Globs W := by
  have hL : laidMet Tryd.prog laidL W := h
  have h3 := hL.tail.tail.tail
  have h4 := h3.tail
  obtain ⟨a0, s0, hv0, _⟩ := laid_sentinel (g := 3) h3 (by kernel_rfl) (by kernel_rfl) Tryd.underlying61 lrowErr Tryd.underlying122 Tryd.underlying124 rfl rfl Tryd.underlying9 (by kernel_rfl) (by kernel_rfl)
  obtain ⟨a1, s1, hv1, _⟩ := laid_sentinel (g := 2) h4 (by kernel_rfl) (by kernel_rfl) Tryd.underlying61 lrowErr Tryd.underlying122 Tryd.underlying124 rfl rfl Tryd.underlying9 (by kernel_rfl) (by kernel_rfl)
  exact ⟨Lib.tabIs_of_head (g := 0) (t := 99) (e := 73) (n := 20) (by kernel_rfl) (by kernel_rfl) Tryd.underlying99 Tryd.underlying73 (by kernel_rfl) (by kernel_rfl) hL.tail.tail, ⟨_, _, hv1⟩, ⟨_, _, hv0⟩⟩
theorem lown : ownKnob Tryd.prog.godebug = none := by kernel_rfl
theorem laidOut : laidOutB Tryd.prog = true := by kernel_rfl
set_option maxRecDepth 100000 in
theorem door_met (os : Os) (args : Array Value) : laidMetH Tryd.prog laidL ((World.doorLaid Tryd.prog 62 os).forCall (fun _ _ => 0) ⟨#[], args, []⟩).memory :=
  laidMetH_of_parts3 (fuel := 8) (laidMet_of_run' 8 (by kernel_rfl) (by kernel_rfl)) (by kernel_rfl) (by kernel_rfl)
set_option maxRecDepth 100000 in
theorem door_shaped (os : Os) (args : Array Value) : ((World.doorLaid Tryd.prog 62 os).forCall (fun _ _ => 0) ⟨#[], args, []⟩).Shaped Tryd.prog := World.shaped_of_RefB (by kernel_rfl) (by kernel_rfl)
theorem door_os (os : Os) : (World.doorLaid Tryd.prog 62 os).os = os := by
  unfold World.doorLaid
  rfl
theorem i64_of_wf {x : Int} (h : (Lit.int .i64 x).wf = true) : PT.i64B x = true := by
  simp only [Lit.wf, Bool.and_eq_true, decide_eq_true_eq] at h
  obtain ⟨h0, h1⟩ := h
  simp only [PT.i64B, Bool.and_eq_true, decide_eq_true_eq]
  exact ⟨h0, h1⟩
/-- events handed in -/
theorem open_events {H : Type} {enc : TypeId × Value → H} {W : World} {v : Value} {d : DataW H} {p : List MemPlace} (hv : ∃ a n c, v = .slice a n c) (h : DataW.Trod enc Tryd.prog W 0 (fun _ => true) true 22 v d p) :
    ∃ (A : Option Addr) (c : Nat) (l : List PT.S26), v = .slice A l.length c ∧ l.length ≤ c ∧ Kd.C PT.k26 W A l.length l ∧ PT.i64s l = true := by
  obtain ⟨fuel, hf⟩ := h
  rcases Go.Deep.open_slice_pairs Tryd.underlying22 Tryd.underlying26 (by kernel_rfl) rfl rfl (by kernel_rfl) (by kernel_rfl) hf with ⟨hcs, _⟩ | ⟨a, len, cap, m, n, V0, V1, D0, D1, P0, P1, hcs, _, hl, hm, hmm, _, hall⟩
  · obtain ⟨a, n, c, rfl⟩ := hv
    simp [Value.cells] at hcs
    obtain ⟨rfl, rfl, rfl⟩ := hcs
    refine ⟨none, 0, [], rfl, Nat.le_refl _, ?_, rfl⟩
    exact (Kd.R_reads' (Kd.R_nil PT.k26 26 W 0 (fun _ => True))).2.2
  · obtain ⟨a', n', c', rfl⟩ := hv
    simp [Value.cells] at hcs
    obtain ⟨rfl, rfl, rfl⟩ := hcs
    have hlm : n' ≤ m := by rw [hmm]; simp; exact hl
    have hint : ∀ i, i < n' → ∃ q : Int × Int, W.cell? (a.add (i * 2)) = some (.int .i64 q.1) ∧ W.cell? (a.add (i * 2 + 1)) = some (.int .i64 q.2) ∧ (Lit.int .i64 q.2).wf = true := by
      intro i hi
      obtain ⟨h0, h1, t0, t1⟩ := hall i (by omega)
      obtain ⟨x, hx, _, _⟩ := DataW.trod_int (k := .i64) Tryd.underlying3 t0
      obtain ⟨y, hy, _, hw⟩ := DataW.trod_int (k := .i64) Tryd.underlying2 t1
      simp at hx hy
      exact ⟨(x, y), by rw [h0, hx], by rw [h1, hy], hw⟩
    obtain ⟨q, hq⟩ := Go.Deep.choose_lt hint
    obtain ⟨l, hl'⟩ : ∃ l : List PT.S26, l = (List.range n').map fun i => ⟨(q i).1, (q i).2⟩ := ⟨_, rfl⟩
    have hlen : l.length = n' := by rw [hl']; simp
    refine ⟨some a, c', l, by rw [hlen], by omega, ?_, ?_⟩
    · refine ⟨rfl, by rw [hlen]; have : maxLen = 9223372036854775807 := rfl; omega, fun _ => ⟨a, rfl, fun j e hj => ⟨[.int .i64 e.f0, .int .i64 e.f1], rfl, PT.k26_mk _ e, fun i u hu => ?_⟩⟩⟩
      rw [hl'] at hj
      have hj' : j < n' := by have := (List.getElem?_eq_some_iff.1 hj).1; simpa using this
      rw [List.getElem?_map, List.getElem?_range hj'] at hj
      simp at hj
      subst hj
      have h2 := hq j hj'
      match i, hu with
      | 0, hu =>
        simp at hu
        subst hu
        exact h2.1
      | 1, hu =>
        simp at hu
        subst hu
        exact h2.2.1
      | i + 2, hu => simp at hu
    · rw [hl']
      simp only [PT.i64s, List.all_map, List.all_eq_true, List.mem_range, Function.comp]
      intro i hi
      exact i64_of_wf (hq i hi).2.2
end Go.Proofs.YtlkppkmfpinocaaDoor
