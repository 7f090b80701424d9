/- Package trace: words, Line: their contracts. -/
import Derived.Test.YtlkppkmfpinocaaDoorTrGlobs
import Derived.Test.YtlkppkmfpinocaaDoorShelf
import Derived.Test.YtlkppkmfpinocaaDoorPTx2
import Derived.RegionTactic
import Derived.BigRegion
import Derived.Deep.RegionWith
import Derived.Lib.ItoaLen
namespace Go.Proofs.YtlkppkmfpinocaaDoor.PT
open Go.RowKit Go.Proofs.YtlkppkmfpinocaaDoorW.PrintWords Go.Proofs.YtlkppkmfpinocaaDoorW.PrintLast Go.Proofs.YtlkppkmfpinocaaDoorW.PrintMore
set_option linter.unusedVariables false
set_option linter.unusedSimpArgs false

abbrev wd0 : ByteArray := ⟨#[]⟩
abbrev wd1 : ByteArray := ⟨#[97, 108, 108, 111, 99]⟩
abbrev wd2 : ByteArray := ⟨#[102, 114, 101, 101]⟩
abbrev wd3 : ByteArray := ⟨#[104, 111, 111, 107]⟩
abbrev wd4 : ByteArray := ⟨#[111, 117, 116]⟩
abbrev wd5 : ByteArray := ⟨#[112, 97, 110, 105, 99]⟩
abbrev wd6 : ByteArray := ⟨#[99, 97, 116, 99, 104]⟩
abbrev wd7 : ByteArray := ⟨#[97, 98, 111, 114, 116]⟩
set_option maxHeartbeats 2000000 in
set_option maxRecDepth 100000 in
theorem words_calls (w : World) : Calls Tryd.prog 28 #[] w fun e w' => e = .returned (.agg #[.string wd0, .string wd1, .string wd2, .string wd3, .string wd4, .string wd5, .string wd6, .string wd7]) ∧ Bel w.heap.size w w' := by
  go_enter Tryd.func28, Tryd.ntmps28
  go_wp2
  refine post_at (fun W => Blk W w.heap.size #[.string wd0, .string wd1, .string wd2, .string wd3, .string wd4, .string wd5, .string wd6, .string wd7] 43 ∧ Bel w.heap.size w W) ⟨Blk.new _ _ _, (Bel.refl w).alloc _⟩ ?_
  rintro W ⟨B, HB⟩
  have c0 := B.cell 0
  have c1 := B.cell 1
  have c2 := B.cell 2
  have c3 := B.cell 3
  have c4 := B.cell 4
  have c5 := B.cell 5
  have c6 := B.cell 6
  have c7 := B.cell 7
  exact bodyPost_ret (v := .agg #[.string wd0, .string wd1, .string wd2, .string wd3, .string wd4, .string wd5, .string wd6, .string wd7]) (by simp [results, Tryd.results28, go_sem, c0, c1, c2, c3, c4, c5, c6, c7]) rfl ⟨rfl, HB⟩
theorem idx_1 (w : World) : (Instr.index 43 (.agg #[.string wd0, .string wd1, .string wd2, .string wd3, .string wd4, .string wd5, .string wd6, .string wd7]) (.int .i64 1)).run Tryd.prog w = .ok (.string wd1) w := by
  simp [Instr.index, run_underlying Tryd.underlying43, asIntOf]
  go_simp
attribute [local go_sem high] idx_1

theorem idx_2 (w : World) : (Instr.index 43 (.agg #[.string wd0, .string wd1, .string wd2, .string wd3, .string wd4, .string wd5, .string wd6, .string wd7]) (.int .i64 2)).run Tryd.prog w = .ok (.string wd2) w := by
  simp [Instr.index, run_underlying Tryd.underlying43, asIntOf]
  go_simp
attribute [local go_sem high] idx_2

theorem idx_3 (w : World) : (Instr.index 43 (.agg #[.string wd0, .string wd1, .string wd2, .string wd3, .string wd4, .string wd5, .string wd6, .string wd7]) (.int .i64 3)).run Tryd.prog w = .ok (.string wd3) w := by
  simp [Instr.index, run_underlying Tryd.underlying43, asIntOf]
  go_simp
attribute [local go_sem high] idx_3

theorem idx_4 (w : World) : (Instr.index 43 (.agg #[.string wd0, .string wd1, .string wd2, .string wd3, .string wd4, .string wd5, .string wd6, .string wd7]) (.int .i64 4)).run Tryd.prog w = .ok (.string wd4) w := by
  simp [Instr.index, run_underlying Tryd.underlying43, asIntOf]
  go_simp
attribute [local go_sem high] idx_4

theorem idx_5 (w : World) : (Instr.index 43 (.agg #[.string wd0, .string wd1, .string wd2, .string wd3, .string wd4, .string wd5, .string wd6, .string wd7]) (.int .i64 5)).run Tryd.prog w = .ok (.string wd5) w := by
  simp [Instr.index, run_underlying Tryd.underlying43, asIntOf]
  go_simp
attribute [local go_sem high] idx_5

theorem idx_6 (w : World) : (Instr.index 43 (.agg #[.string wd0, .string wd1, .string wd2, .string wd3, .string wd4, .string wd5, .string wd6, .string wd7]) (.int .i64 6)).run Tryd.prog w = .ok (.string wd6) w := by
  simp [Instr.index, run_underlying Tryd.underlying43, asIntOf]
  go_simp
attribute [local go_sem high] idx_6

theorem idx_7 (w : World) : (Instr.index 43 (.agg #[.string wd0, .string wd1, .string wd2, .string wd3, .string wd4, .string wd5, .string wd6, .string wd7]) (.int .i64 7)).run Tryd.prog w = .ok (.string wd7) w := by
  simp [Instr.index, run_underlying Tryd.underlying43, asIntOf]
  go_simp
attribute [local go_sem high] idx_7
/-- is it an event? -/
def evB (k n : Int) : Bool := ((k == 1 || k == 2) && decide (1 ≤ n)) || ((k == 3) && decide (0 ≤ n)) || (k == 4) || ((k == 5 || (k == 6 || k == 7)) && (n == 0))
set_option maxHeartbeats 4000000 in
set_option maxRecDepth 100000 in
theorem line_5 (n : Int) (w : World) (hr : ∀ W, Calls Tryd.prog 9 #[.agg #[.int .i64 5, .int .i64 n]] W fun e w' => e = .returned (.bool true) ∧ Below W.heap.size W w') : Calls Tryd.prog 11 #[.agg #[.int .i64 5, .int .i64 n]] w fun e w' => e = .returned (.string wd5) ∧ Below w.heap.size w w' := by
  go_enter Tryd.func11, Tryd.ntmps11
  go_wp2_with fail
  refine at_world (fun W => Blk W w.heap.size #[.int .i64 5, .int .i64 n] 26 ∧ Bel w.heap.size w W) ⟨Blk.new _ _ _, (Bel.refl w).alloc _⟩ ?_
  rintro W ⟨B, HB⟩
  refine (hr W).mono ?_
  rintro e w1 ⟨rfl, hb1⟩
  replace B := B.below hb1
  replace HB := HB.below hb1
  clear hb1
  obtain ⟨⟨c00, c01⟩, f00, f01⟩ := B.cells2
  go_wp2_with fail
  have hu43 := Tryd.underlying43
  have HBd : Bel w.heap.size w w1.drew := ⟨below_drew HB.out⟩
  have Bd := B.drew
  go_region_with (go_at_call 28; refine (words_calls _).mono ?_; rintro e w2 ⟨rfl, hb2⟩; have HB2 := HBd.below hb2.out; have B2 := Bd.below hb2.out; obtain ⟨⟨c10, c11⟩, f10, f11⟩ := B2.cells2)
  all_goals (go_wp2; go_ret; exact ⟨rfl, HB2.out⟩)

set_option maxHeartbeats 4000000 in
set_option maxRecDepth 100000 in
theorem line_6 (n : Int) (w : World) (hr : ∀ W, Calls Tryd.prog 9 #[.agg #[.int .i64 6, .int .i64 n]] W fun e w' => e = .returned (.bool true) ∧ Below W.heap.size W w') : Calls Tryd.prog 11 #[.agg #[.int .i64 6, .int .i64 n]] w fun e w' => e = .returned (.string wd6) ∧ Below w.heap.size w w' := by
  go_enter Tryd.func11, Tryd.ntmps11
  go_wp2_with fail
  refine at_world (fun W => Blk W w.heap.size #[.int .i64 6, .int .i64 n] 26 ∧ Bel w.heap.size w W) ⟨Blk.new _ _ _, (Bel.refl w).alloc _⟩ ?_
  rintro W ⟨B, HB⟩
  refine (hr W).mono ?_
  rintro e w1 ⟨rfl, hb1⟩
  replace B := B.below hb1
  replace HB := HB.below hb1
  clear hb1
  obtain ⟨⟨c00, c01⟩, f00, f01⟩ := B.cells2
  go_wp2_with fail
  have hu43 := Tryd.underlying43
  have HBd : Bel w.heap.size w w1.drew := ⟨below_drew HB.out⟩
  have Bd := B.drew
  go_region_with (go_at_call 28; refine (words_calls _).mono ?_; rintro e w2 ⟨rfl, hb2⟩; have HB2 := HBd.below hb2.out; have B2 := Bd.below hb2.out; obtain ⟨⟨c10, c11⟩, f10, f11⟩ := B2.cells2)
  all_goals (go_wp2; go_ret; exact ⟨rfl, HB2.out⟩)

set_option maxHeartbeats 4000000 in
set_option maxRecDepth 100000 in
theorem line_7 (n : Int) (w : World) (hr : ∀ W, Calls Tryd.prog 9 #[.agg #[.int .i64 7, .int .i64 n]] W fun e w' => e = .returned (.bool true) ∧ Below W.heap.size W w') : Calls Tryd.prog 11 #[.agg #[.int .i64 7, .int .i64 n]] w fun e w' => e = .returned (.string wd7) ∧ Below w.heap.size w w' := by
  go_enter Tryd.func11, Tryd.ntmps11
  go_wp2_with fail
  refine at_world (fun W => Blk W w.heap.size #[.int .i64 7, .int .i64 n] 26 ∧ Bel w.heap.size w W) ⟨Blk.new _ _ _, (Bel.refl w).alloc _⟩ ?_
  rintro W ⟨B, HB⟩
  refine (hr W).mono ?_
  rintro e w1 ⟨rfl, hb1⟩
  replace B := B.below hb1
  replace HB := HB.below hb1
  clear hb1
  obtain ⟨⟨c00, c01⟩, f00, f01⟩ := B.cells2
  go_wp2_with fail
  have hu43 := Tryd.underlying43
  have HBd : Bel w.heap.size w w1.drew := ⟨below_drew HB.out⟩
  have Bd := B.drew
  go_region_with (go_at_call 28; refine (words_calls _).mono ?_; rintro e w2 ⟨rfl, hb2⟩; have HB2 := HBd.below hb2.out; have B2 := Bd.below hb2.out; obtain ⟨⟨c10, c11⟩, f10, f11⟩ := B2.cells2)
  all_goals (go_wp2; go_ret; exact ⟨rfl, HB2.out⟩)
theorem below_fmt (w : World) (q : Nat) (os : Array Obj) : Below w.heap.size w (Go.Sort.grow (w.drewN q) os) :=
  ⟨rfl, rfl, rfl, by simp [Go.Sort.grow], fun k hk => by
    show (w.heap ++ os)[k]? = w.heap[k]?
    rw [Array.getElem?_append_left hk]⟩
/-- a number's digits as a text -/
def itoaT (n : Int) : ByteArray := ⟨(Lib.itoa n).toArray⟩
theorem itoaT_size (n : Int) (h0 : -9223372036854775808 ≤ n) (h1 : n ≤ 9223372036854775807) : (itoaT n).size ≤ 21 := by
  have := Lib.itoa_length_le n h0 h1
  simpa [itoaT, ByteArray.size] using this
set_option maxHeartbeats 4000000 in
set_option maxRecDepth 100000 in
theorem line_num (k : Int) (wd : ByteArray) (hwd : wd.size ≤ 5) (hk4 : decide ((4 : Int) < k) = false) (hidx : ∀ w, (Instr.index 43 (.agg #[.string wd0, .string wd1, .string wd2, .string wd3, .string wd4, .string wd5, .string wd6, .string wd7]) (.int .i64 k)).run Tryd.prog w = .ok (.string wd) w)
    (n : Int) (h0 : -9223372036854775808 ≤ n) (h1 : n ≤ 9223372036854775807) (w : World) (hG : Globs w) (hr : ∀ W, Calls Tryd.prog 9 #[.agg #[.int .i64 k, .int .i64 n]] W fun e w' => e = .returned (.bool true) ∧ Below W.heap.size W w') :
    Calls Tryd.prog 11 #[.agg #[.int .i64 k, .int .i64 n]] w fun e w' => e = .returned (.string (wd ++ (⟨#[32]⟩ : ByteArray) ++ itoaT n)) ∧ Below w.heap.size w w' := by
  have HG := Lib.hid hG
  clear hG
  have hfmt := fun W hp => Tryd.strconv_FormatInt_10 n h0 h1 W hp
  have hts := itoaT_size n h0 h1
  change ∀ W hp, Calls _ _ _ W fun e w' => e = .returned (.string (itoaT n)) ∧ _ at hfmt
  generalize itoaT n = t at *
  have z1 : (9223372036854775807 < wd.size + 1 + t.size) = False := eq_false (by omega)
  have z3 : (9223372036854775807 < wd.size + 1) = False := eq_false (by omega)
  clear hts hwd h0 h1
  go_enter Tryd.func11, Tryd.ntmps11
  go_wp2_with fail
  refine at_world (fun W => Blk W w.heap.size #[.int .i64 k, .int .i64 n] 26 ∧ Bel w.heap.size w W) ⟨Blk.new _ _ _, (Bel.refl w).alloc _⟩ ?_
  rintro W ⟨B, HB⟩
  refine (hr W).mono ?_
  rintro e w1 ⟨rfl, hb1⟩
  replace B := B.below hb1
  replace HB := HB.below hb1
  clear hb1 hr
  obtain ⟨⟨c00, c01⟩, f00, f01⟩ := B.cells2
  go_wp2_with fail
  have hu43 := Tryd.underlying43
  have HBd : Bel w.heap.size w w1.drew := ⟨below_drew HB.out⟩
  have Bd := B.drew
  go_region_with (first | (go_at_call 28; refine (words_calls _).mono ?_; rintro e w2 ⟨rfl, hb2⟩; have HB2 := HBd.below hb2.out; have B2 := Bd.below hb2.out; obtain ⟨⟨c10, c11⟩, f10, f11⟩ := B2.cells2) | (go_at_call 29; refine (hfmt _ (HG.out.below HB2.out).pow).mono ?_; rintro e w3 ⟨rfl, k3, os3, rfl⟩; have HB3 := HB2.below (below_fmt _ k3 os3); have B3 := B2.below (below_fmt _ k3 os3); obtain ⟨⟨c20, c21⟩, f20, f21⟩ := B3.cells2))
  all_goals (go_wp2; go_ret; exact ⟨rfl, HB3.out⟩)
end Go.Proofs.YtlkppkmfpinocaaDoor.PT
