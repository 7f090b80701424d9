/- droguelaw03.LexCuts: its walk, along the answers that the plain law tells. -/
import Derived.Test.YtnlbbpandnpgoaaDoorPLx5
import Derived.Test.YtnlbbpandnpgoaaDoorLexAlive
import Derived.Test.YtnlbbpandnpgoaaDoorLexCuts
import Derived.RegionTactic
import Derived.BigRegion
namespace Go.Proofs.YtnlbbpandnpgoaaDoor.PL
open Go.RowKit Go.Proofs.YtnlbbpandnpgoaaDoorW.PrintWords Go.Proofs.YtnlbbpandnpgoaaDoorW.PrintLast Go.Proofs.YtnlbbpandnpgoaaDoorW.PrintMore
set_option linter.unusedVariables false
set_option linter.unusedSimpArgs false

theorem ceq25 (d : Nat) (w : World) (x0 y0 : Int) (x1 y1 : Int) :
    (Op.equalIn (d + 2) 25 (.agg #[.int .i64 x0, .int .i64 x1]) (.agg #[.int .i64 y0, .int .i64 y1])).run Tryd.prog w = .ok (x0 == y0 && (x1 == y1)) w := by
  refine eqA_of Tryd.underlying25 (by kernel_rfl) ?_
  refine eqf_cons (by rfl) (by go_simp; rfl) (by go_simp; rfl) (by go_simp) ?_
  exact eqf_last (by rfl) (by go_simp; rfl) (by go_simp; rfl) (by go_simp)
theorem ceq35 (d : Nat) (w : World) (x0 y0 : Int) (x1 y1 : Int) (x2 y2 : ByteArray) (x3 y3 : Int) :
    (Op.equalIn (d + 2) 35 (.agg #[.int .i64 x0, .int .i64 x1, .string x2, .int .i64 x3]) (.agg #[.int .i64 y0, .int .i64 y1, .string y2, .int .i64 y3])).run Tryd.prog w = .ok (x0 == y0 && (x1 == y1 && (x2.toList == y2.toList && (x3 == y3)))) w := by
  refine eqA_of Tryd.underlying35 (by kernel_rfl) ?_
  refine eqf_cons (by rfl) (by go_simp; rfl) (by go_simp; rfl) (by go_simp) ?_
  refine eqf_cons (by rfl) (by go_simp; rfl) (by go_simp; rfl) (by go_simp) ?_
  refine eqf_cons (by rfl) (by go_simp; rfl) (by go_simp; rfl) (by go_simp) ?_
  exact eqf_last (by rfl) (by go_simp; rfl) (by go_simp; rfl) (by go_simp)
attribute [local go_sem high] ceq25 ceq35

set_option maxHeartbeats 8000000 in
set_option maxRecDepth 100000 in
theorem cuts_long (a0 a1 : ByteArray) (h : ¬ (a0.size ≤ 4000 ∧ a1.size ≤ 4000)) (w : World) (hG : Globs w) :
    Calls Tryd.prog 6 #[.string a0, .string a1] w fun e w' => e = .returned (.bool true) ∧ Below w.heap.size w w' := by
  have HG := Lib.hid hG
  clear hG
  by_cases h1 : 4000 < a0.size
  · have c1 : decide (4000 < a0.size) = true := decide_eq_true h1
    have c2 : decide ((4000 : Int) < (a0.size : Int)) = true := decide_eq_true (by omega)
    clear h h1
    go_enter Tryd.func6, Tryd.ntmps6
    go_wp2_with fail
    refine (droguelaw03_alive.calls true _ HG.out rfl).mono ?_
    rintro e w1 ⟨rfl, hb1⟩
    go_wp2
    go_ret
    exact ⟨rfl, hb1⟩
  · have c1 : decide (4000 < a0.size) = false := decide_eq_false h1
    have c2 : decide ((4000 : Int) < (a0.size : Int)) = false := decide_eq_false (by omega)
    have c3 : decide (4000 < a1.size) = true := decide_eq_true (by omega)
    have c4 : decide ((4000 : Int) < (a1.size : Int)) = true := decide_eq_true (by omega)
    clear h h1
    go_enter Tryd.func6, Tryd.ntmps6
    go_wp2_with fail
    refine (droguelaw03_alive.calls true _ HG.out rfl).mono ?_
    rintro e w1 ⟨rfl, hb1⟩
    go_wp2
    go_ret
    exact ⟨rfl, hb1⟩
set_option maxHeartbeats 8000000 in
set_option maxRecDepth 100000 in
theorem cuts_first (a0 a1 : ByteArray) (ha : a0.size ≤ 4000) (hb : a1.size ≤ 4000) (p : Nat) (m : List S35) (x2 y2 : Int) (hp : p ≤ 4000) (h1 : lex_Lex.f a0 = some ([], (p : Int), 1)) (h2 : lex_Lex.f a1 = some (m, x2, y2)) (h3 : lex_Lex.f (cutText a0 a1) = some ([], (p : Int), 1)) (w : World) (hG : Globs w) :
    Calls Tryd.prog 6 #[.string a0, .string a1] w fun e w' => e = .returned (.bool true) ∧ Below w.heap.size w w' := by
  have HG := Lib.hid hG
  clear hG
  have c1 : decide (4000 < a0.size) = false := decide_eq_false (by omega)
  have c2 : decide ((4000 : Int) < (a0.size : Int)) = false := decide_eq_false (by omega)
  have c3 : decide (4000 < a1.size) = false := decide_eq_false (by omega)
  have c4 : decide ((4000 : Int) < (a1.size : Int)) = false := decide_eq_false (by omega)
  have s1 : (9223372036854775807 < a0.size + 1) = False := eq_false (by omega)
  have s2 : (9223372036854775807 < a0.size + 1 + a1.size) = False := eq_false (by omega)
  have q1 : IntKind.i64.wrap ((p : Int) + (a0.size : Int)) = (p : Int) + (a0.size : Int) := by rw [i64_w]; unfold wrap64; omega
  have q2 : IntKind.i64.wrap ((p : Int) + (a0.size : Int) + 1) = (p : Int) + (a0.size : Int) + 1 := by rw [i64_w]; unfold wrap64; omega
  have H1 := Lib.hid h1
  have H2 := Lib.hid h2
  have H3 := Lib.hid h3
  clear h1 h2 h3 ha hb hp
  go_enter Tryd.func6, Tryd.ntmps6
  go_wp2_with fail
  refine (droguelaw03_alive.calls true _ HG.out rfl).mono ?_
  rintro e w1 ⟨rfl, hb1⟩
  have HB : Bel w.heap.size w w1 := ⟨hb1⟩
  clear hb1
  go_wp2_with fail
  refine (lex_Lex.calls a0 _ _ _ _ (HG.out.below HB.out) H1.out).mono ?_
  rintro e w2 ⟨v5, rfl, HR5, hb2⟩
  replace HB := HB.below hb2
  clear hb2
  obtain ⟨A5, cap5, rfl, _, _⟩ := Kd.R_reads HR5
  clear HR5
  go_wp2_with fail
  refine at_world (fun W => Blk W w2.heap.size #[.int .i64 ((p : Int)), .int .i64 (1)] 25 ∧ Bel w.heap.size w W) ⟨Blk.new _ _ _, HB.alloc _⟩ ?_
  clear HB
  rintro W ⟨B6, HB⟩
  generalize w2.heap.size = g6 at *
  refine (lex_Lex.calls a1 _ _ _ _ (HG.out.below HB.out) H2.out).mono ?_
  rintro e w3 ⟨v7, rfl, HR7, hb3⟩
  replace B6 := B6.below hb3
  replace HB := HB.below hb3
  clear hb3
  obtain ⟨A7, cap7, rfl, _, _⟩ := Kd.R_reads HR7
  clear HR7
  go_wp2_with fail
  refine at_world (fun W => Blk W g6 #[.int .i64 ((p : Int)), .int .i64 (1)] 25 ∧ Blk W w3.heap.size #[.int .i64 (x2), .int .i64 (y2)] 25 ∧ Bel w.heap.size w W) ⟨B6.alloc _, Blk.new _ _ _, HB.alloc _⟩ ?_
  clear B6 HB
  rintro W ⟨B6, B8, HB⟩
  generalize w3.heap.size = g8 at *
  refine (lex_Lex.calls (cutText a0 a1) _ _ _ _ (HG.out.below HB.out) H3.out).mono ?_
  rintro e w4 ⟨v9, rfl, HR9, hb4⟩
  replace B6 := B6.below hb4
  replace B8 := B8.below hb4
  replace HB := HB.below hb4
  clear hb4
  obtain ⟨A9, cap9, rfl, _, _⟩ := Kd.R_reads HR9
  clear HR9
  have D6 := fun o => (B6.alloc o).cells2.1.1
  have D6' := fun o => (B6.alloc o).cells2.1.2
  have D8 := fun o => (B8.alloc o).cells2.1.1
  have D8' := fun o => (B8.alloc o).cells2.1.2
  go_wp2
  go_ret
  exact ⟨rfl, (HB.alloc _).out⟩

set_option maxHeartbeats 8000000 in
set_option maxRecDepth 100000 in
theorem cuts_second (a0 a1 : ByteArray) (ha : a0.size ≤ 4000) (hb : a1.size ≤ 4000) (p : Nat) (l : List S35) (hp : p ≤ 4000) (h1 : lex_Lex.f a0 = some (l, 0, 0)) (h2 : lex_Lex.f a1 = some ([], (p : Int), 1)) (h3 : lex_Lex.f (cutText a0 a1) = some ([], (p : Int) + (a0.size : Int) + 1, 1)) (w : World) (hG : Globs w) :
    Calls Tryd.prog 6 #[.string a0, .string a1] w fun e w' => e = .returned (.bool true) ∧ Below w.heap.size w w' := by
  have HG := Lib.hid hG
  clear hG
  have c1 : decide (4000 < a0.size) = false := decide_eq_false (by omega)
  have c2 : decide ((4000 : Int) < (a0.size : Int)) = false := decide_eq_false (by omega)
  have c3 : decide (4000 < a1.size) = false := decide_eq_false (by omega)
  have c4 : decide ((4000 : Int) < (a1.size : Int)) = false := decide_eq_false (by omega)
  have s1 : (9223372036854775807 < a0.size + 1) = False := eq_false (by omega)
  have s2 : (9223372036854775807 < a0.size + 1 + a1.size) = False := eq_false (by omega)
  have q1 : IntKind.i64.wrap ((p : Int) + (a0.size : Int)) = (p : Int) + (a0.size : Int) := by rw [i64_w]; unfold wrap64; omega
  have q2 : IntKind.i64.wrap ((p : Int) + (a0.size : Int) + 1) = (p : Int) + (a0.size : Int) + 1 := by rw [i64_w]; unfold wrap64; omega
  have H1 := Lib.hid h1
  have H2 := Lib.hid h2
  have H3 := Lib.hid h3
  clear h1 h2 h3 ha hb hp
  go_enter Tryd.func6, Tryd.ntmps6
  go_wp2_with fail
  refine (droguelaw03_alive.calls true _ HG.out rfl).mono ?_
  rintro e w1 ⟨rfl, hb1⟩
  have HB : Bel w.heap.size w w1 := ⟨hb1⟩
  clear hb1
  go_wp2_with fail
  refine (lex_Lex.calls a0 _ _ _ _ (HG.out.below HB.out) H1.out).mono ?_
  rintro e w2 ⟨v5, rfl, HR5, hb2⟩
  replace HB := HB.below hb2
  clear hb2
  obtain ⟨A5, cap5, rfl, _, _⟩ := Kd.R_reads HR5
  clear HR5
  go_wp2_with fail
  refine at_world (fun W => Blk W w2.heap.size #[.int .i64 (0), .int .i64 (0)] 25 ∧ Bel w.heap.size w W) ⟨Blk.new _ _ _, HB.alloc _⟩ ?_
  clear HB
  rintro W ⟨B6, HB⟩
  generalize w2.heap.size = g6 at *
  refine (lex_Lex.calls a1 _ _ _ _ (HG.out.below HB.out) H2.out).mono ?_
  rintro e w3 ⟨v7, rfl, HR7, hb3⟩
  replace B6 := B6.below hb3
  replace HB := HB.below hb3
  clear hb3
  obtain ⟨A7, cap7, rfl, _, _⟩ := Kd.R_reads HR7
  clear HR7
  go_wp2_with fail
  refine at_world (fun W => Blk W g6 #[.int .i64 (0), .int .i64 (0)] 25 ∧ Blk W w3.heap.size #[.int .i64 ((p : Int)), .int .i64 (1)] 25 ∧ Bel w.heap.size w W) ⟨B6.alloc _, Blk.new _ _ _, HB.alloc _⟩ ?_
  clear B6 HB
  rintro W ⟨B6, B8, HB⟩
  generalize w3.heap.size = g8 at *
  refine (lex_Lex.calls (cutText a0 a1) _ _ _ _ (HG.out.below HB.out) H3.out).mono ?_
  rintro e w4 ⟨v9, rfl, HR9, hb4⟩
  replace B6 := B6.below hb4
  replace B8 := B8.below hb4
  replace HB := HB.below hb4
  clear hb4
  obtain ⟨A9, cap9, rfl, _, _⟩ := Kd.R_reads HR9
  clear HR9
  have D6 := fun o => (B6.alloc o).cells2.1.1
  have D6' := fun o => (B6.alloc o).cells2.1.2
  have D8 := fun o => (B8.alloc o).cells2.1.1
  have D8' := fun o => (B8.alloc o).cells2.1.2
  go_wp2
  go_ret
  exact ⟨rfl, (HB.alloc _).out⟩
theorem cell_al {w : World} {a : Addr} {v : Value} (h : w.cell? a = some v) (o : Obj) : (w.alloc o).cell? a = some v :=
  (Below.cell (below_alloc (Below.refl w.heap.size w) o) (World.block_lt_of_cell? w _ h)).trans h
theorem rd_left (l r : List S35) (x : Int) (h0 : 0 ≤ x) (h : x < (l.length : Int)) : rd_T35 (l ++ r) x = rd_T35 l x := by
  have h1 : x.toNat < l.length := by omega
  unfold rd_T35
  simp only [List.getD]
  rw [List.getElem?_append_left h1]
theorem rd_right (l m : List S35) (d : Nat) (x : Int) (h : ¬ x < (l.length : Int)) (h2 : x < ((l.length + m.length : Nat) : Int)) : rd_T35 (l ++ m.map (sh d)) x = sh d (rd_T35 m (x - (l.length : Int))) := by
  have h1 : l.length ≤ x.toNat := by omega
  have h3 : x.toNat - l.length < m.length := by omega
  have h4 : (x - (l.length : Int)).toNat = x.toNat - l.length := by omega
  unfold rd_T35
  simp only [List.getD]
  rw [List.getElem?_append_right h1, List.getElem?_map, h4, List.getElem?_eq_getElem h3]
  rfl
theorem rd_mem (m : List S35) (y : Int) (h0 : 0 ≤ y) (h : y < (m.length : Int)) : rd_T35 m y ∈ m := by
  have h3 : y.toNat < m.length := by omega
  unfold rd_T35
  simp only [List.getD]
  rw [List.getElem?_eq_getElem h3]
  exact List.getElem_mem h3
set_option maxHeartbeats 8000000 in
set_option maxRecDepth 100000 in
theorem cuts_both (a0 a1 : ByteArray) (ha : a0.size ≤ 4000) (hb : a1.size ≤ 4000) (l m q : List S35) (hq : q = l ++ m.map (sh (a0.size + 1))) (hl : l.length ≤ 4000) (hm : m.length ≤ 4000) (hat : ∀ t ∈ m, 0 ≤ t.f1 ∧ t.f1 ≤ 4000) (h1 : lex_Lex.f a0 = some (l, 0, 0)) (h2 : lex_Lex.f a1 = some (m, 0, 0)) (h3 : lex_Lex.f (cutText a0 a1) = some (q, 0, 0)) (w : World) (hG : Globs w) :
    Calls Tryd.prog 6 #[.string a0, .string a1] w fun e w' => e = .returned (.bool true) ∧ Below w.heap.size w w' := by
  have HG := Lib.hid hG
  clear hG
  have c1 : decide (4000 < a0.size) = false := decide_eq_false (by omega)
  have c2 : decide ((4000 : Int) < (a0.size : Int)) = false := decide_eq_false (by omega)
  have c3 : decide (4000 < a1.size) = false := decide_eq_false (by omega)
  have c4 : decide ((4000 : Int) < (a1.size : Int)) = false := decide_eq_false (by omega)
  have s1 : (9223372036854775807 < a0.size + 1) = False := eq_false (by omega)
  have s2 : (9223372036854775807 < a0.size + 1 + a1.size) = False := eq_false (by omega)
  have hqn : q.length = l.length + m.length := by rw [hq]; simp
  have q1 : IntKind.i64.wrap ((l.length : Int) + (m.length : Int)) = (q.length : Int) := by rw [i64_w, hqn]; unfold wrap64; omega
  have q2 : IntKind.i64.wrap ((a0.size : Int) + 1) = (a0.size : Int) + 1 := by rw [i64_w]; unfold wrap64; omega
  have H1 := Lib.hid h1
  have H2 := Lib.hid h2
  have H3 := Lib.hid h3
  have HQ := Lib.hid hq
  have HN := Lib.hid hqn
  have HS := Lib.hid ha
  have HL := Lib.hid hl
  have HM := Lib.hid hm
  clear h1 h2 h3 ha hb hq hqn hl hm
  go_enter Tryd.func6, Tryd.ntmps6
  go_wp2_with fail
  refine (droguelaw03_alive.calls true _ HG.out rfl).mono ?_
  rintro e w1 ⟨rfl, hb1⟩
  have HB : Bel w.heap.size w w1 := ⟨hb1⟩
  clear hb1
  go_wp2_with fail
  refine (lex_Lex.calls a0 _ _ _ _ (HG.out.below HB.out) H1.out).mono ?_
  rintro e w2 ⟨v5, rfl, HR5, hb2⟩
  replace HB := HB.below hb2
  clear hb2
  obtain ⟨A5, cap5, rfl, hcap5, C5⟩ := Kd.R_reads HR5
  clear HR5
  go_wp2_with fail
  refine at_world (fun W => Blk W w2.heap.size #[.int .i64 0, .int .i64 0] 25 ∧ Kd.C k35 W A5 l.length l ∧ Bel w.heap.size w W) ⟨Blk.new _ _ _, Kd.C_alloc C5 _, HB.alloc _⟩ ?_
  clear HB C5
  rintro W ⟨B6, C5, HB⟩
  generalize w2.heap.size = g6 at *
  refine (lex_Lex.calls a1 _ _ _ _ (HG.out.below HB.out) H2.out).mono ?_
  rintro e w3 ⟨v7, rfl, HR7, hb3⟩
  replace B6 := B6.below hb3
  replace C5 := Kd.C_below C5 hb3
  replace HB := HB.below hb3
  clear hb3
  obtain ⟨A7, cap7, rfl, hcap7, C7⟩ := Kd.R_reads HR7
  clear HR7
  go_wp2_with fail
  refine at_world (fun W => Blk W g6 #[.int .i64 0, .int .i64 0] 25 ∧ Blk W w3.heap.size #[.int .i64 0, .int .i64 0] 25 ∧ Kd.C k35 W A5 l.length l ∧ Kd.C k35 W A7 m.length m ∧ Bel w.heap.size w W) ⟨B6.alloc _, Blk.new _ _ _, Kd.C_alloc C5 _, Kd.C_alloc C7 _, HB.alloc _⟩ ?_
  clear B6 C5 C7 HB
  rintro W ⟨B6, B8, C5, C7, HB⟩
  generalize w3.heap.size = g8 at *
  refine (lex_Lex.calls (cutText a0 a1) _ _ _ _ (HG.out.below HB.out) H3.out).mono ?_
  rintro e w4 ⟨v9, rfl, HR9, hb4⟩
  replace B6 := B6.below hb4
  replace B8 := B8.below hb4
  replace C5 := Lib.hid (Kd.C_below C5 hb4)
  replace C7 := Lib.hid (Kd.C_below C7 hb4)
  replace HB := HB.below hb4
  clear hb4
  obtain ⟨A9, cap9, rfl, hcap9, C9⟩ := Kd.R_reads HR9
  replace C9 := Lib.hid C9
  clear HR9
  have D6 := fun o => (B6.alloc o).cells2.1.1
  have D6' := fun o => (B6.alloc o).cells2.1.2
  have D8 := fun o => (B8.alloc o).cells2.1.1
  have D8' := fun o => (B8.alloc o).cells2.1.2
  go_wp2_with fail
  go_loopg [11] q.length (fun kq v11 w' => ∃ (x : Int), v11 = .int .i64 x ∧ Aside0 (0 ≤ x ∧ x + (kq : Int) = (q.length : Int)) ∧ Aside0 (Kd.C k35 w' A5 l.length l) ∧ Aside0 (Kd.C k35 w' A7 m.length m) ∧ Aside0 (Kd.C k35 w' A9 q.length q) ∧ Aside0 (Below w.heap.size w w'))
  case atStart => exact ⟨0, rfl, ⟨⟨Int.le_refl _, by omega⟩⟩, ⟨Kd.C_alloc C5.out _⟩, ⟨Kd.C_alloc C7.out _⟩, ⟨Kd.C_alloc C9.out _⟩, ⟨(HB.alloc _).out⟩⟩
  case round =>
    clear D6 D6' D8 D8' B6 B8 C5 C7 C9 HB
    obtain ⟨x, rfl, HX, E5, E7, E9, HB⟩ := hrel
    cases gk with
    | zero =>
      have cx : decide (x < (q.length : Int)) = false := decide_eq_false (by have := HX.out; omega)
      go_wp2
      go_ret
      exact ⟨rfl, HB.out⟩
    | succ k1 =>
      have hx0 : 0 ≤ x := HX.out.1
      have hxq : x < (q.length : Int) := by have := HX.out; omega
      have cx : decide (x < (q.length : Int)) = true := decide_eq_true hxq
      have hq := HQ.out
      have hqn := HN.out
      have hl := HL.out
      have hm := HM.out
      have hsz := HS.out
      obtain ⟨ad9, e9, hx9_0, hx9_1, hx9_2, hx9_3⟩ := at_T35 E9.out x hx0 hxq
      cases e9
      have wx : IntKind.i64.wrap (x + 1) = x + 1 := by rw [i64_w]; unfold wrap64; omega
      by_cases hxl : x < (l.length : Int)
      · have cl : decide (x < (l.length : Int)) = true := decide_eq_true hxl
        obtain ⟨ad5, e5, hx5_0, hx5_1, hx5_2, hx5_3⟩ := at_T35 E5.out x hx0 hxl
        cases e5
        have hrd : rd_T35 q x = rd_T35 l x := by rw [hq]; exact rd_left l _ x hx0 hxl
        rw [hrd] at hx9_0 hx9_1 hx9_2 hx9_3
        clear hrd
        have y90 := fun o => cell_al hx9_0 o
        have y91 := fun o => cell_al hx9_1 o
        have y92 := fun o => cell_al hx9_2 o
        have y93 := fun o => cell_al hx9_3 o
        have y50 := fun o => cell_al hx5_0 o
        have y51 := fun o => cell_al hx5_1 o
        have y52 := fun o => cell_al hx5_2 o
        have y53 := fun o => cell_al hx5_3 o
        clear hx9_0 hx9_1 hx9_2 hx9_3 hx5_0 hx5_1 hx5_2 hx5_3
        have p0 := eq_true hx0
        have p1 := eq_true hxl
        have p2 := eq_true hxq
        clear hx0 hxq hxl hq hqn hl hm hsz
        go_wp2_with fail
        go_region
        go_wp2
        go_roundg k1
        case measure => omega
        case rel => exact ⟨x + 1, rfl, ⟨⟨by have := HX.out; omega, by have := HX.out; omega⟩⟩, ⟨Kd.C_drew (Kd.C_alloc E5.out _)⟩, ⟨Kd.C_drew (Kd.C_alloc E7.out _)⟩, ⟨Kd.C_drew (Kd.C_alloc E9.out _)⟩, ⟨below_drew (below_alloc HB.out _)⟩⟩
      · have cl : decide (x < (l.length : Int)) = false := decide_eq_false hxl
        obtain ⟨y, hy⟩ : ∃ y : Int, y = x - (l.length : Int) := ⟨_, rfl⟩
        have wy : IntKind.i64.wrap (x - (l.length : Int)) = y := by rw [i64_w, hy]; unfold wrap64; omega
        have hy0 : 0 ≤ y := by omega
        have hym : y < (m.length : Int) := by omega
        obtain ⟨ad7, e7, hx7_0, hx7_1, hx7_2, hx7_3⟩ := at_T35 E7.out y hy0 hym
        cases e7
        have hrd : rd_T35 q x = sh (a0.size + 1) (rd_T35 m y) := by rw [hq, hy]; exact rd_right l m _ x hxl (by omega)
        rw [hrd] at hx9_0 hx9_1 hx9_2 hx9_3
        clear hrd
        obtain ⟨t0, ht0⟩ : ∃ t0 : S35, t0 = rd_T35 m y := ⟨_, rfl⟩
        have htm := hat t0 (by rw [ht0]; exact rd_mem m y hy0 hym)
        rw [← ht0] at hx9_0 hx9_1 hx9_2 hx9_3 hx7_0 hx7_1 hx7_2 hx7_3
        have hx91 : wr.cell? ⟨(ad9.add (x.toNat * 4)).block, (ad9.add (x.toNat * 4)).off + 1, none⟩ = some (.int .i64 (t0.f1 + ((a0.size : Int) + 1))) := hx9_1.trans (by unfold sh; simp)
        have wt : IntKind.i64.wrap (t0.f1 + ((a0.size : Int) + 1)) = t0.f1 + ((a0.size : Int) + 1) := by rw [i64_w]; unfold wrap64; omega
        have y90 := fun o => cell_al (show wr.cell? (ad9.add (x.toNat * 4)) = some (.int .i64 t0.f0) from hx9_0) o
        have y91 := fun o => cell_al hx91 o
        have y92 := fun o => cell_al (show wr.cell? ⟨(ad9.add (x.toNat * 4)).block, (ad9.add (x.toNat * 4)).off + 2, none⟩ = some (.string t0.f2) from hx9_2) o
        have y93 := fun o => cell_al (show wr.cell? ⟨(ad9.add (x.toNat * 4)).block, (ad9.add (x.toNat * 4)).off + 3, none⟩ = some (.int .i64 t0.f3) from hx9_3) o
        have y70 := fun o => cell_al hx7_0 o
        have y71 := fun o => cell_al hx7_1 o
        have y72 := fun o => cell_al hx7_2 o
        have y73 := fun o => cell_al hx7_3 o
        have p0 := eq_true hx0
        have p2 := eq_true hxq
        have p3 := eq_true hy0
        have p4 := eq_true hym
        clear hx9_0 hx9_1 hx9_2 hx9_3 hx7_0 hx7_1 hx7_2 hx7_3 hx91 htm ht0 hy hx0 hxq hxl hq hqn hl hm hsz hy0 hym
        go_wp2_with fail
        go_region
        go_wp2
        go_roundg k1
        case measure => omega
        case rel => exact ⟨x + 1, rfl, ⟨⟨by have := HX.out; omega, by have := HX.out; omega⟩⟩, ⟨Kd.C_drew (Kd.C_alloc E5.out _)⟩, ⟨Kd.C_drew (Kd.C_alloc E7.out _)⟩, ⟨Kd.C_drew (Kd.C_alloc E9.out _)⟩, ⟨below_drew (below_alloc HB.out _)⟩⟩
/-- the law's walk, whole -/
theorem droguelaw03_LexCuts.walk (a0 a1 : ByteArray) (w : World) (hG : Globs w) :
    Calls Tryd.prog 6 #[.string a0, .string a1] w fun e w' => e = .returned (.bool true) ∧ Below w.heap.size w w' := by
  by_cases h : a0.size ≤ 4000 ∧ a1.size ≤ 4000
  · obtain ⟨ha, hb⟩ := h
    rcases cut3 a0 a1 ha hb with ⟨p, h1, R, h2, h3, hp⟩ | ⟨l, p, h1, h2, h3, hp⟩ | ⟨l, m, h1, h2, h3, hl, hm, hat⟩
    · obtain ⟨m, x2, y2⟩ := R
      exact cuts_first a0 a1 ha hb p m x2 y2 hp h1 h2 h3 w hG
    · refine cuts_second a0 a1 ha hb p l hp h1 h2 ?_ w hG
      rw [h3]
      simp [Int.add_assoc]
    · exact cuts_both a0 a1 ha hb l m _ rfl hl hm hat h1 h2 h3 w hG
  · exact cuts_long a0 a1 h w hG
end Go.Proofs.YtnlbbpandnpgoaaDoor.PL
