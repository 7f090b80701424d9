/- Package law of layer 22: the small image: its contract. -/
import Derived.Test.YtoiakaagbgfocaaCoParse
namespace Go.Proofs.Ytoiakaagbgfocaa.PC
open Go.RowKit Go.Proofs.YtoiakaagbgfocaaW.PrintWords Go.Proofs.YtoiakaagbgfocaaW.PrintLast Go.Proofs.YtoiakaagbgfocaaW.PrintMore
set_option linter.unusedVariables false
set_option linter.unusedSimpArgs false

theorem C_blk {α : Type} {d : Kd α} {W : World} {g t : Nat} {xs : List α} {cells : List Value} (h : Blk W g cells.toArray t) (hr : Reps (d.K W) d.sz xs cells) (hl : xs.length ≤ 1000000) : d.C W (some ⟨g, 0, none⟩) xs.length xs := by
  refine ⟨rfl, by omega, fun _ => ⟨⟨g, 0, none⟩, rfl, fun j p hp => ?_⟩⟩
  have h1 := hr.2 j p hp
  refine ⟨_, d.K_len h1, h1, fun i u hu => ?_⟩
  have h2 := h.cell (j * d.sz + i)
  rw [List.getElem?_take] at hu
  split at hu
  · rw [List.getElem?_drop] at hu
    rw [Addr.add_lit, Nat.zero_add, h2]
    simpa using hu
  · cases hu
def smallGs : List S48 := [⟨0, 1, -1, []⟩]
def smallXs (a : Int) : List S42 := [⟨1, a, -65, 0⟩, ⟨15, 0, 0, 0⟩, ⟨22, 0, 0, 0⟩]
def smallPs : List S66 := [⟨0, 2, 2⟩]
def smallCs (a : Int) : List S40 := [⟨1, 0, 1, smallXs a, smallPs⟩]
/-- the small image's blocks -/
structure SmallAt (a : Int) (g : Nat) (W : World) : Prop where mk ::
  (bi : Blk W (g + 1) [.int .i64 1, .int .i64 a, .int .i64 (-65), .int .i64 0, .int .i64 15, .int .i64 0, .int .i64 0, .int .i64 0, .int .i64 22, .int .i64 0, .int .i64 0, .int .i64 0].toArray 42)
  (bp : Blk W (g + 2) [.int .i64 0, .int .i64 2, .int .i64 2].toArray 66)
  (bc : Blk W (g + 3) [.int .i64 1, .int .i64 0, .int .i64 1, .slice (some ⟨g + 1, 0, none⟩) 3 3, .slice (some ⟨g + 2, 0, none⟩) 1 1].toArray 40)
  (bg : Blk W (g + 4) [.int .i64 0, .int .i64 1, .int .i64 (-1), .slice none 0 0].toArray 48)
namespace SmallAt
variable {a : Int} {g : Nat} {W W' : World}
theorem below (h : SmallAt a g W) (hb : Below W.heap.size W W') : SmallAt a g W' := ⟨h.bi.below hb, h.bp.below hb, h.bc.below hb, h.bg.below hb⟩
theorem rows (h : SmallAt a g W) : Kd.C k48 W (some ⟨g + 4, 0, none⟩) 1 smallGs ∧ Kd.C k40 W (some ⟨g + 3, 0, none⟩) 1 (smallCs a) := by
  have hi : Kd.C k42 W (some ⟨g + 1, 0, none⟩) 3 (smallXs a) := C_blk h.bi ⟨rfl, fun j p hp => by
    match j, hp with
    | 0, hp => cases hp; exact k42_mk W _
    | 1, hp => cases hp; exact k42_mk W _
    | 2, hp => cases hp; exact k42_mk W _
    | j + 3, hp => simp [smallXs] at hp⟩ (by simp [smallXs])
  have hp : Kd.C k66 W (some ⟨g + 2, 0, none⟩) 1 smallPs := C_blk h.bp ⟨rfl, fun j p hp => by
    match j, hp with
    | 0, hp => cases hp; exact k66_mk W _
    | j + 1, hp => simp [smallPs] at hp⟩ (by simp [smallPs])
  refine ⟨C_blk h.bg ⟨rfl, fun j p hq => ?_⟩ (by simp [smallGs]), C_blk h.bc ⟨rfl, fun j p hq => ?_⟩ (by simp [smallCs])⟩
  · match j, hq with
    | 0, hq =>
      cases hq
      exact k48_mk W ⟨0, 1, -1, []⟩ (A3 := none) (c3 := 0) (Nat.le_refl _) ⟨rfl, by simp, fun h => absurd h (by simp)⟩
    | j + 1, hq => simp [smallGs] at hq
  · match j, hq with
    | 0, hq =>
      cases hq
      exact k40_mk W ⟨1, 0, 1, smallXs a, smallPs⟩ (A3 := some ⟨g + 1, 0, none⟩) (c3 := 3) (Nat.le_refl _) hi (A4 := some ⟨g + 2, 0, none⟩) (c4 := 1) (Nat.le_refl _) hp
    | j + 1, hq => simp [smallCs] at hq
end SmallAt
/-- the small image, where it lies -/
abbrev smallI (a : Int) (g : Nat) : Im := ⟨some ⟨g + 4, 0, none⟩, 1, smallGs, some ⟨g + 3, 0, none⟩, 1, smallCs a, 0⟩
theorem SmallAt.In {a : Int} {g : Nat} {W : World} (h : SmallAt a g W) : (smallI a g).In W := ⟨h.rows.1, Nat.le_refl _, h.rows.2, Nat.le_refl _⟩
theorem smallI_sm (a : Int) (g : Nat) : (smallI a g).Sm := ⟨by simp [smallGs], by simp [smallCs], by simp [smallGs], by simp [smallCs, smallXs, smallPs]⟩
set_option maxHeartbeats 8000000 in
set_option maxRecDepth 100000 in
theorem small_calls (w : World) : Calls Try.prog 17 #[] w fun e w' => ∃ g, e = .returned (smallI 0 g).val ∧ SmallAt 0 g w' ∧ w.heap.size ≤ g ∧ Below w.heap.size w w' := by
  go_enter Try.func17, Try.ntmps17
  go_wp2
  refine bodyPost_ret (v := (smallI 0 w.heap.size).val) (by simp [results, Try.results17, go_sem, smallGs, smallCs]) rfl ?_
  refine ⟨w.heap.size, rfl, ⟨?_, ?_, ?_, ?_⟩, Nat.le_refl _, ?_⟩
  · exact (((Blk.new' (by simp) _ _).alloc _).alloc _).alloc _
  · exact ((Blk.new' (by simp) _ _).alloc _).alloc _
  · exact (Blk.new' (by simp) _ _).alloc _
  · exact Blk.new' (by simp) _ _
  · exact below_alloc (below_alloc (below_alloc (below_alloc (below_alloc (Below.refl _ _) _) _) _) _) _
end Go.Proofs.Ytoiakaagbgfocaa.PC
