/- Package parse's reader: block. -/
import Derived.Test.YtmgkejobolgkmaaGreatDoorPaTerm
import Derived.Test.YtmgkejobolgkmaaGreatDoorPaThree
namespace Go.Proofs.YtmgkejobolgkmaaGreatDoor.PL
open Go Go.RowKit Go.Proofs.YtmgkejobolgkmaaGreatDoorW.PrintWords Go.Proofs.YtmgkejobolgkmaaGreatDoorW.PrintLast Go.Proofs.YtmgkejobolgkmaaGreatDoorW.PrintMore
set_option linter.unusedVariables false
set_option linter.unusedSimpArgs false

theorem Blk.cells11 {W : World} {g t : Nat} {v0 v1 v2 v3 v4 v5 v6 v7 v8 v9 v10 : Value} (h : Blk W g #[v0, v1, v2, v3, v4, v5, v6, v7, v8, v9, v10] t) : (W.cell? ⟨g, 0, none⟩ = some v0 ∧ W.cell? ⟨g, 1, none⟩ = some v1 ∧ W.cell? ⟨g, 2, none⟩ = some v2 ∧ W.cell? ⟨g, 3, none⟩ = some v3 ∧ W.cell? ⟨g, 4, none⟩ = some v4 ∧ W.cell? ⟨g, 5, none⟩ = some v5 ∧ W.cell? ⟨g, 6, none⟩ = some v6 ∧ W.cell? ⟨g, 7, none⟩ = some v7 ∧ W.cell? ⟨g, 8, none⟩ = some v8 ∧ W.cell? ⟨g, 9, none⟩ = some v9 ∧ W.cell? ⟨g, 10, none⟩ = some v10) ∧ W.frozen? ⟨g, 0, none⟩ = false ∧ W.frozen? ⟨g, 1, none⟩ = false ∧ W.frozen? ⟨g, 2, none⟩ = false ∧ W.frozen? ⟨g, 3, none⟩ = false ∧ W.frozen? ⟨g, 4, none⟩ = false ∧ W.frozen? ⟨g, 5, none⟩ = false ∧ W.frozen? ⟨g, 6, none⟩ = false ∧ W.frozen? ⟨g, 7, none⟩ = false ∧ W.frozen? ⟨g, 8, none⟩ = false ∧ W.frozen? ⟨g, 9, none⟩ = false ∧ W.frozen? ⟨g, 10, none⟩ = false :=
  ⟨⟨h.cell 0, h.cell 1, h.cell 2, h.cell 3, h.cell 4, h.cell 5, h.cell 6, h.cell 7, h.cell 8, h.cell 9, h.cell 10⟩, h.frozen 0, h.frozen 1, h.frozen 2, h.frozen 3, h.frozen 4, h.frozen 5, h.frozen 6, h.frozen 7, h.frozen 8, h.frozen 9, h.frozen 10⟩
theorem Blk.cells6 {W : World} {g t : Nat} {v0 v1 v2 v3 v4 v5 : Value} (h : Blk W g #[v0, v1, v2, v3, v4, v5] t) : (W.cell? ⟨g, 0, none⟩ = some v0 ∧ W.cell? ⟨g, 1, none⟩ = some v1 ∧ W.cell? ⟨g, 2, none⟩ = some v2 ∧ W.cell? ⟨g, 3, none⟩ = some v3 ∧ W.cell? ⟨g, 4, none⟩ = some v4 ∧ W.cell? ⟨g, 5, none⟩ = some v5) ∧ W.frozen? ⟨g, 0, none⟩ = false ∧ W.frozen? ⟨g, 1, none⟩ = false ∧ W.frozen? ⟨g, 2, none⟩ = false ∧ W.frozen? ⟨g, 3, none⟩ = false ∧ W.frozen? ⟨g, 4, none⟩ = false ∧ W.frozen? ⟨g, 5, none⟩ = false :=
  ⟨⟨h.cell 0, h.cell 1, h.cell 2, h.cell 3, h.cell 4, h.cell 5⟩, h.frozen 0, h.frozen 1, h.frozen 2, h.frozen 3, h.frozen 4, h.frozen 5⟩
theorem Blk.all11 {W : World} {R t : Nat} {v0 v1 v2 v3 v4 v5 v6 v7 v8 v9 v10 : Value} (h : Blk W R #[v0, v1, v2, v3, v4, v5, v6, v7, v8, v9, v10] t) (a0 a1 a2 a3 a4 a5 a6 a7 a8 a9 a10 : Value) : Blk (((((((((((W.setCell ⟨R, 0, none⟩ a0).setCell ⟨R, 1, none⟩ a1).setCell ⟨R, 2, none⟩ a2).setCell ⟨R, 3, none⟩ a3).setCell ⟨R, 4, none⟩ a4).setCell ⟨R, 5, none⟩ a5).setCell ⟨R, 6, none⟩ a6).setCell ⟨R, 7, none⟩ a7).setCell ⟨R, 8, none⟩ a8).setCell ⟨R, 9, none⟩ a9).setCell ⟨R, 10, none⟩ a10) R #[a0, a1, a2, a3, a4, a5, a6, a7, a8, a9, a10] t := by
  have h0 : Blk (W.setCell ⟨R, 0, none⟩ a0) R #[a0, v1, v2, v3, v4, v5, v6, v7, v8, v9, v10] t := h.set 0 a0
  have h1 : Blk ((W.setCell ⟨R, 0, none⟩ a0).setCell ⟨R, 1, none⟩ a1) R #[a0, a1, v2, v3, v4, v5, v6, v7, v8, v9, v10] t := h0.set 1 a1
  have h2 : Blk (((W.setCell ⟨R, 0, none⟩ a0).setCell ⟨R, 1, none⟩ a1).setCell ⟨R, 2, none⟩ a2) R #[a0, a1, a2, v3, v4, v5, v6, v7, v8, v9, v10] t := h1.set 2 a2
  have h3 : Blk ((((W.setCell ⟨R, 0, none⟩ a0).setCell ⟨R, 1, none⟩ a1).setCell ⟨R, 2, none⟩ a2).setCell ⟨R, 3, none⟩ a3) R #[a0, a1, a2, a3, v4, v5, v6, v7, v8, v9, v10] t := h2.set 3 a3
  have h4 : Blk (((((W.setCell ⟨R, 0, none⟩ a0).setCell ⟨R, 1, none⟩ a1).setCell ⟨R, 2, none⟩ a2).setCell ⟨R, 3, none⟩ a3).setCell ⟨R, 4, none⟩ a4) R #[a0, a1, a2, a3, a4, v5, v6, v7, v8, v9, v10] t := h3.set 4 a4
  have h5 : Blk ((((((W.setCell ⟨R, 0, none⟩ a0).setCell ⟨R, 1, none⟩ a1).setCell ⟨R, 2, none⟩ a2).setCell ⟨R, 3, none⟩ a3).setCell ⟨R, 4, none⟩ a4).setCell ⟨R, 5, none⟩ a5) R #[a0, a1, a2, a3, a4, a5, v6, v7, v8, v9, v10] t := h4.set 5 a5
  have h6 : Blk (((((((W.setCell ⟨R, 0, none⟩ a0).setCell ⟨R, 1, none⟩ a1).setCell ⟨R, 2, none⟩ a2).setCell ⟨R, 3, none⟩ a3).setCell ⟨R, 4, none⟩ a4).setCell ⟨R, 5, none⟩ a5).setCell ⟨R, 6, none⟩ a6) R #[a0, a1, a2, a3, a4, a5, a6, v7, v8, v9, v10] t := h5.set 6 a6
  have h7 : Blk ((((((((W.setCell ⟨R, 0, none⟩ a0).setCell ⟨R, 1, none⟩ a1).setCell ⟨R, 2, none⟩ a2).setCell ⟨R, 3, none⟩ a3).setCell ⟨R, 4, none⟩ a4).setCell ⟨R, 5, none⟩ a5).setCell ⟨R, 6, none⟩ a6).setCell ⟨R, 7, none⟩ a7) R #[a0, a1, a2, a3, a4, a5, a6, a7, v8, v9, v10] t := h6.set 7 a7
  have h8 : Blk (((((((((W.setCell ⟨R, 0, none⟩ a0).setCell ⟨R, 1, none⟩ a1).setCell ⟨R, 2, none⟩ a2).setCell ⟨R, 3, none⟩ a3).setCell ⟨R, 4, none⟩ a4).setCell ⟨R, 5, none⟩ a5).setCell ⟨R, 6, none⟩ a6).setCell ⟨R, 7, none⟩ a7).setCell ⟨R, 8, none⟩ a8) R #[a0, a1, a2, a3, a4, a5, a6, a7, a8, v9, v10] t := h7.set 8 a8
  have h9 : Blk ((((((((((W.setCell ⟨R, 0, none⟩ a0).setCell ⟨R, 1, none⟩ a1).setCell ⟨R, 2, none⟩ a2).setCell ⟨R, 3, none⟩ a3).setCell ⟨R, 4, none⟩ a4).setCell ⟨R, 5, none⟩ a5).setCell ⟨R, 6, none⟩ a6).setCell ⟨R, 7, none⟩ a7).setCell ⟨R, 8, none⟩ a8).setCell ⟨R, 9, none⟩ a9) R #[a0, a1, a2, a3, a4, a5, a6, a7, a8, a9, v10] t := h8.set 9 a9
  have h10 : Blk (((((((((((W.setCell ⟨R, 0, none⟩ a0).setCell ⟨R, 1, none⟩ a1).setCell ⟨R, 2, none⟩ a2).setCell ⟨R, 3, none⟩ a3).setCell ⟨R, 4, none⟩ a4).setCell ⟨R, 5, none⟩ a5).setCell ⟨R, 6, none⟩ a6).setCell ⟨R, 7, none⟩ a7).setCell ⟨R, 8, none⟩ a8).setCell ⟨R, 9, none⟩ a9).setCell ⟨R, 10, none⟩ a10) R #[a0, a1, a2, a3, a4, a5, a6, a7, a8, a9, a10] t := h9.set 10 a10
  exact h10
theorem Blk.from3 {W : World} {R t : Nat} {v0 v1 v2 v3 v4 v5 v6 v7 v8 v9 v10 : Value} (h : Blk W R #[v0, v1, v2, v3, v4, v5, v6, v7, v8, v9, v10] t) (a3 a4 a5 a6 a7 a8 a9 a10 : Value) : Blk ((((((((W.setCell ⟨R, 3, none⟩ a3).setCell ⟨R, 4, none⟩ a4).setCell ⟨R, 5, none⟩ a5).setCell ⟨R, 6, none⟩ a6).setCell ⟨R, 7, none⟩ a7).setCell ⟨R, 8, none⟩ a8).setCell ⟨R, 9, none⟩ a9).setCell ⟨R, 10, none⟩ a10) R #[v0, v1, v2, a3, a4, a5, a6, a7, a8, a9, a10] t := by
  have h0 : Blk (W.setCell ⟨R, 3, none⟩ a3) R #[v0, v1, v2, a3, v4, v5, v6, v7, v8, v9, v10] t := h.set 3 a3
  have h1 : Blk ((W.setCell ⟨R, 3, none⟩ a3).setCell ⟨R, 4, none⟩ a4) R #[v0, v1, v2, a3, a4, v5, v6, v7, v8, v9, v10] t := h0.set 4 a4
  have h2 : Blk (((W.setCell ⟨R, 3, none⟩ a3).setCell ⟨R, 4, none⟩ a4).setCell ⟨R, 5, none⟩ a5) R #[v0, v1, v2, a3, a4, a5, v6, v7, v8, v9, v10] t := h1.set 5 a5
  have h3 : Blk ((((W.setCell ⟨R, 3, none⟩ a3).setCell ⟨R, 4, none⟩ a4).setCell ⟨R, 5, none⟩ a5).setCell ⟨R, 6, none⟩ a6) R #[v0, v1, v2, a3, a4, a5, a6, v7, v8, v9, v10] t := h2.set 6 a6
  have h4 : Blk (((((W.setCell ⟨R, 3, none⟩ a3).setCell ⟨R, 4, none⟩ a4).setCell ⟨R, 5, none⟩ a5).setCell ⟨R, 6, none⟩ a6).setCell ⟨R, 7, none⟩ a7) R #[v0, v1, v2, a3, a4, a5, a6, a7, v8, v9, v10] t := h3.set 7 a7
  have h5 : Blk ((((((W.setCell ⟨R, 3, none⟩ a3).setCell ⟨R, 4, none⟩ a4).setCell ⟨R, 5, none⟩ a5).setCell ⟨R, 6, none⟩ a6).setCell ⟨R, 7, none⟩ a7).setCell ⟨R, 8, none⟩ a8) R #[v0, v1, v2, a3, a4, a5, a6, a7, a8, v9, v10] t := h4.set 8 a8
  have h6 : Blk (((((((W.setCell ⟨R, 3, none⟩ a3).setCell ⟨R, 4, none⟩ a4).setCell ⟨R, 5, none⟩ a5).setCell ⟨R, 6, none⟩ a6).setCell ⟨R, 7, none⟩ a7).setCell ⟨R, 8, none⟩ a8).setCell ⟨R, 9, none⟩ a9) R #[v0, v1, v2, a3, a4, a5, a6, a7, a8, a9, v10] t := h5.set 9 a9
  have h7 : Blk ((((((((W.setCell ⟨R, 3, none⟩ a3).setCell ⟨R, 4, none⟩ a4).setCell ⟨R, 5, none⟩ a5).setCell ⟨R, 6, none⟩ a6).setCell ⟨R, 7, none⟩ a7).setCell ⟨R, 8, none⟩ a8).setCell ⟨R, 9, none⟩ a9).setCell ⟨R, 10, none⟩ a10) R #[v0, v1, v2, a3, a4, a5, a6, a7, a8, a9, a10] t := h6.set 10 a10
  exact h7
theorem Blk.all6 {W : World} {R t : Nat} {v0 v1 v2 v3 v4 v5 : Value} (h : Blk W R #[v0, v1, v2, v3, v4, v5] t) (a0 a1 a2 a3 a4 a5 : Value) : Blk ((((((W.setCell ⟨R, 0, none⟩ a0).setCell ⟨R, 1, none⟩ a1).setCell ⟨R, 2, none⟩ a2).setCell ⟨R, 3, none⟩ a3).setCell ⟨R, 4, none⟩ a4).setCell ⟨R, 5, none⟩ a5) R #[a0, a1, a2, a3, a4, a5] t := by
  have h0 : Blk (W.setCell ⟨R, 0, none⟩ a0) R #[a0, v1, v2, v3, v4, v5] t := h.set 0 a0
  have h1 : Blk ((W.setCell ⟨R, 0, none⟩ a0).setCell ⟨R, 1, none⟩ a1) R #[a0, a1, v2, v3, v4, v5] t := h0.set 1 a1
  have h2 : Blk (((W.setCell ⟨R, 0, none⟩ a0).setCell ⟨R, 1, none⟩ a1).setCell ⟨R, 2, none⟩ a2) R #[a0, a1, a2, v3, v4, v5] t := h1.set 2 a2
  have h3 : Blk ((((W.setCell ⟨R, 0, none⟩ a0).setCell ⟨R, 1, none⟩ a1).setCell ⟨R, 2, none⟩ a2).setCell ⟨R, 3, none⟩ a3) R #[a0, a1, a2, a3, v4, v5] t := h2.set 3 a3
  have h4 : Blk (((((W.setCell ⟨R, 0, none⟩ a0).setCell ⟨R, 1, none⟩ a1).setCell ⟨R, 2, none⟩ a2).setCell ⟨R, 3, none⟩ a3).setCell ⟨R, 4, none⟩ a4) R #[a0, a1, a2, a3, a4, v5] t := h3.set 4 a4
  have h5 : Blk ((((((W.setCell ⟨R, 0, none⟩ a0).setCell ⟨R, 1, none⟩ a1).setCell ⟨R, 2, none⟩ a2).setCell ⟨R, 3, none⟩ a3).setCell ⟨R, 4, none⟩ a4).setCell ⟨R, 5, none⟩ a5) R #[a0, a1, a2, a3, a4, a5] t := h4.set 5 a5
  exact h5
theorem EbP (q : Nat) (h : q ∈ 50 :: (k50).E) : q ≠ 59 := by
  revert q
  decide
theorem EbS (q : Nat) (h : q ∈ 9 :: (Kd.string).E) : q ≠ 59 := by
  revert q
  decide
theorem EbA (q : Nat) (h : q ∈ 92 :: (k92).E) : q ≠ 59 := by
  revert q
  decide
theorem EbT (q : Nat) (h : q ∈ 53 :: (k53).E) : q ≠ 59 := by
  revert q
  decide
theorem sets38 (W : World) (R : Nat) (a3 a4 a5 a6 a7 a8 a9 a10 : Value) : W.grownBy ((((((((W.setCell ⟨R, 3, none⟩ a3).setCell ⟨R, 4, none⟩ a4).setCell ⟨R, 5, none⟩ a5).setCell ⟨R, 6, none⟩ a6).setCell ⟨R, 7, none⟩ a7).setCell ⟨R, 8, none⟩ a8).setCell ⟨R, 9, none⟩ a9).setCell ⟨R, 10, none⟩ a10) (some R) :=
  grown_trans (grown_trans (grown_trans (grown_trans (grown_trans (grown_trans (grown_trans (grown_set _ ⟨R, 3, none⟩ _) (grown_set _ ⟨R, 4, none⟩ _)) (grown_set _ ⟨R, 5, none⟩ _)) (grown_set _ ⟨R, 6, none⟩ _)) (grown_set _ ⟨R, 7, none⟩ _)) (grown_set _ ⟨R, 8, none⟩ _)) (grown_set _ ⟨R, 9, none⟩ _)) (grown_set _ ⟨R, 10, none⟩ _)
theorem infoStmt : (Tryz.prog.info? 53).map (fun i => (i.zero, i.size, i.bytes)) = some (some (.agg #[.int .i64 0, .int .i64 0, .string ⟨#[]⟩, .slice none 0 0, .int .i64 0, .string ⟨#[]⟩, .string ⟨#[]⟩, .slice none 0 0]), 8, 120) := by kernel_rfl
theorem Rd.stmt_prog {s : Rd} (h : s.Ok) {n : Nat} (hn : s.toks.length ≤ n) : s.stmt.2.bad ≠ -1 ∨ s.stmt.2.toks.length < n := by
  unfold Rd.stmt
  simp only
  split
  · rename_i hm
    exact (progC n).must _ ((progC n).places _ _ (.inr (Nat.lt_of_lt_of_le (Rd.may_lt hm) hn)))
  · have h1 := Rd.name_prog (okC.may ⟨#[111, 117, 116]⟩ h) (Nat.le_trans ((lenC s.toks.length).may ⟨#[111, 117, 116]⟩ (Nat.le_refl _)) hn)
    exact (progC n).must _ ((progC n).value _ ((progC n).must _ ((progC n).more _ _ ((progC n).steps _ _ h1))))
theorem Rd.stmts_out (kq : Nat) (s : Rd) (out : List SStmt) (hb : s.bad ≠ -1) : Rd.stmts kq s out = (out, s) := by
  cases kq with
  | zero => rfl
  | succ k =>
    unfold Rd.stmts
    rw [if_neg (fun e => hb e.1)]
set_option maxHeartbeats 32000000 in
set_option maxRecDepth 100000 in
theorem block_calls (w0 W : World) (B : Nat) (s : Rd) (h : RdIn w0 W B s) (hok : s.Ok) :
    Calls Tryz.prog 107 #[.pointer (some ⟨B, 0, none⟩)] W fun e W' => ∃ A n c A3 n3 c3 A5 n5 c5 A6 n6 c6 A7 n7 c7, e = .returned (.agg #[.int .i64 s.block.1.f0, .string s.block.1.f1, .slice A n c, .int .i64 s.block.1.f3.f0, .int .i64 s.block.1.f3.f1, .string s.block.1.f3.f2.f0, .slice A3 n3 c3, .string s.block.1.f3.f3, .slice A5 n5 c5, .slice A6 n6 c6, .slice A7 n7 c7]) ∧ RW k53 53 W' W.heap.size (.slice A n c) s.block.1.f2 ∧ (RW Kd.string 9 W' W.heap.size (.slice A3 n3 c3) s.block.1.f3.f2.f1 ∧ RW k50 50 W' W.heap.size (.slice A5 n5 c5) s.block.1.f3.f4 ∧ RW Kd.string 9 W' W.heap.size (.slice A6 n6 c6) s.block.1.f3.f5 ∧ RW k92 92 W' W.heap.size (.slice A7 n7 c7) s.block.1.f3.f6) ∧ PS w0 W W' B s.block.2 := by
  have HP0 := Lib.hid (PS.start h)
  have HLt := Lib.hid h.lt
  obtain ⟨fin, hfin⟩ : ∃ fin, fin = s.block := ⟨_, rfl⟩
  rw [← hfin]
  unfold Rd.block at hfin
  simp only at hfin
  obtain ⟨a, ha⟩ : ∃ a, a = s.at_ := ⟨_, rfl⟩
  have HAt := Lib.hid (fun V (hV : RdIn w0 V B s) => at_calls w0 V B s hV)
  rw [← ha] at hfin HAt
  have HO1 := Lib.hid (okC.name hok)
  clear h hok ha
  go_enter Tryz.func107, Tryz.ntmps107
  go_wp2_with fail
  refine at_world (fun V => Blk V W.heap.size #[.int .i64 0, .string ⟨#[]⟩, .slice none 0 0, .int .i64 0, .int .i64 0, .string ⟨#[]⟩, .slice none 0 0, .string ⟨#[]⟩, .slice none 0 0, .slice none 0 0, .slice none 0 0] 59 ∧ PS w0 W V B s) ⟨Blk.new _ _ _, HP0.out.alloc _⟩ ?_
  rintro V0 ⟨HRes, hp0⟩
  have HP := Lib.hid hp0
  clear hp0 HP0
  refine (HAt.out V0 HP.out.r).mono ?_
  rintro e W1 ⟨rfl, rfl⟩
  clear HAt
  have HN := Lib.hid (name_at HP.out)
  generalize s.name = q at *
  obtain ⟨x, s1⟩ := q
  simp only at HN HO1 hfin
  go_wp2_with fail
  refine HN.out.mono ?_
  rintro e V1 ⟨rfl, hp1, hg1⟩
  have HRB : Hid (W.heap.size ≠ B) := Lib.hid (fun e => by have := HLt.out; omega)
  have hr1 := HRes.ps hg1 HRB.out
  have HLG : Hid (W.heap.size < V1.heap.size) := Lib.hid hr1.lt
  have HGB : Hid (V1.heap.size ≠ B) := Lib.hid (fun e => by have := HLt.out; have := HLG.out; omega)
  have HRG : Hid (W.heap.size ≠ V1.heap.size) := Lib.hid (fun e => by have := HLG.out; omega)
  have hGR : (V1.heap.size = W.heap.size) = False := eq_false (by have := HLG.out; omega)
  have hRG : (W.heap.size = V1.heap.size) = False := eq_false (by have := HLG.out; omega)
  have HLe : Hid (W.heap.size ≤ V1.heap.size) := Lib.hid (Nat.le_of_lt HLG.out)
  have HR1 := Lib.hid (hr1.alloc (.cells #[.int .i64 a, .string x, .slice none 0 0, .int .i64 0, .int .i64 0, .string ⟨#[]⟩, .slice none 0 0, .string ⟨#[]⟩, .slice none 0 0, .slice none 0 0, .slice none 0 0] 59))
  have HG1 := Lib.hid (Blk.new V1 #[.int .i64 a, .string x, .slice none 0 0, .int .i64 0, .int .i64 0, .string ⟨#[]⟩, .slice none 0 0, .string ⟨#[]⟩, .slice none 0 0, .slice none 0 0, .slice none 0 0] 59)
  have HP1 := Lib.hid (hp1.alloc (.cells #[.int .i64 a, .string x, .slice none 0 0, .int .i64 0, .int .i64 0, .string ⟨#[]⟩, .slice none 0 0, .string ⟨#[]⟩, .slice none 0 0, .slice none 0 0, .slice none 0 0] 59))
  clear HRes HP hp1 hg1 hr1 HN
  have HM := Lib.hid (must_at' (n := V1.heap.size + 1) HP1.out ⟨#[58]⟩ (by simp))
  have HO2 := Lib.hid (okC.must [⟨#[58]⟩] HO1.out)
  generalize Rd.must [⟨#[58]⟩] s1 = u at *
  go_wp2_with fail
  refine HM.out.mono ?_
  rintro e V2 ⟨⟨v2, rfl⟩, hp1, hg1⟩
  have HR2 := Lib.hid (HR1.out.ps hg1 HRB.out)
  have HG2 := Lib.hid (HG1.out.ps hg1 HGB.out)
  have HP2 := Lib.hid hp1
  clear hp1 hg1 HR1 HG1 HP1 HM
  generalize V1.heap.size = G at *
  obtain ⟨F, hF⟩ : ∃ F, F = rdF := ⟨_, rfl⟩
  rw [← hF] at hfin
  obtain ⟨st, hst⟩ : ∃ st, st = Rd.stmts F u [] := ⟨_, rfl⟩
  rw [← hst] at hfin
  have HF := Lib.hid hfin
  have HSt := Lib.hid hst
  have HFF : Hid (F = 100001) := Lib.hid hF
  clear hfin hF hst
  go_wp2_with fail
  go_loopg [] F (fun kq w' => ∃ (s' : Rd) (out : List SStmt) (A : Option Addr) (n c : Nat), Aside0 (n = out.length) ∧ Aside0 (out.length + kq = F) ∧ Aside0 (s'.bad ≠ -1 ∨ s'.toks.length < kq) ∧ Aside0 (Rd.stmts kq s' out = st) ∧ Aside0 (Blk w' W.heap.size #[.int .i64 0, .string ⟨#[]⟩, .slice none 0 0, .int .i64 0, .int .i64 0, .string ⟨#[]⟩, .slice none 0 0, .string ⟨#[]⟩, .slice none 0 0, .slice none 0 0, .slice none 0 0] 59) ∧ Aside0 (Blk w' G #[.int .i64 a, .string x, .slice A n c, .int .i64 0, .int .i64 0, .string ⟨#[]⟩, .slice none 0 0, .string ⟨#[]⟩, .slice none 0 0, .slice none 0 0, .slice none 0 0] 59) ∧ Aside0 (RW k53 53 w' W.heap.size (.slice A n c) out) ∧ Aside0 (PS w0 W w' B s') ∧ Aside0 s'.Ok)
  case atStart => exact ⟨u, [], none, 0, 0, ⟨rfl⟩, ⟨by simp⟩, ⟨.inr (by have := HO2.out.len; have := HFF.out; omega)⟩, ⟨HSt.out.symm⟩, ⟨HR2.out⟩, ⟨HG2.out⟩, ⟨RW.nil _ _ _ _⟩, ⟨HP2.out⟩, ⟨HO2.out⟩⟩
  case round =>
    clear HP2 HG2 HR2 HSt HO1 HO2
    obtain ⟨s', out, A, nn, c, HNl, HI, HLn, HB, HR, HG, HW, HPS, HO⟩ := hrel
    obtain rfl := HNl.out
    clear HNl
    obtain ⟨A', c', ⟨d0, d1, d2, d3⟩, -⟩ := HPS.out.cells
    clear d0 d1 d3
    have HEn := Lib.hid (ending_at HPS.out HO.out)
    by_cases hgo : s'.bad = -1 ∧ s'.ending = false
    · cases gk with
      | zero => exact absurd (HLn.out.resolve_left (fun hn => hn hgo.1)) (by omega)
      | succ kk =>
        have HL0 : Hid (s'.toks.length ≤ kk) := Lib.hid (by have := HLn.out.resolve_left (fun hn => hn hgo.1); omega)
        have hb := HB.out
        unfold Rd.stmts at hb
        rw [if_pos hgo] at hb
        have hb1 : (s'.bad == -1) = true := by rw [hgo.1]; rfl
        rw [hgo.2] at HEn
        have HO1 := Lib.hid (okC.limit out.length 64 HO.out)
        have HPr : Hid ((s'.limit out.length 64).stmt.2.bad ≠ -1 ∨ (s'.limit out.length 64).stmt.2.toks.length < kk) := Lib.hid (Rd.stmt_prog HO1.out (by rw [Rd.limit_toks]; exact HL0.out))
        clear hgo HB
        go_wp2_with fail
        refine HEn.out.mono ?_
        rintro e V3 ⟨rfl, hp3, hg3⟩
        have HR3 := Lib.hid (HR.out.ps hg3 HRB.out)
        have HG3 := Lib.hid (HG.out.ps hg3 HGB.out)
        have HW3 := Lib.hid (RW.grown HW.out hg3 HLt.out)
        have HP3 := Lib.hid hp3
        clear hp3 hg3 HR HG HW HPS HEn
        obtain ⟨⟨g0, g1, g2, g3, g4, g5, g6, g7, g8, g9, g10⟩, f0, f1, f2, f3, f4, f5, f6, f7, f8, f9, f10⟩ := HG3.out.cells11
        have HLi := Lib.hid (limit_at HP3.out out.length 64)
        generalize s'.limit out.length 64 = s2 at *
        go_wp2_with fail
        refine HLi.out.mono ?_
        rintro e V4 ⟨⟨v4, rfl⟩, hp4, hg4⟩
        clear g0 g1 g2 g3 g4 g5 g6 g7 g8 g9 g10 f0 f1 f2 f3 f4 f5 f6 f7 f8 f9 f10
        have HR4 := Lib.hid (HR3.out.ps hg4 HRB.out)
        have HG4 := Lib.hid (HG3.out.ps hg4 HGB.out)
        have HW4 := Lib.hid (RW.grown HW3.out hg4 HLt.out)
        have HVl := Lib.hid (Kd.R_lt HW4.out)
        have HP4 := Lib.hid hp4
        clear hp4 hg4 HR3 HG3 HW3 HP3 HLi
        obtain ⟨⟨g0, g1, g2, g3, g4, g5, g6, g7, g8, g9, g10⟩, f0, f1, f2, f3, f4, f5, f6, f7, f8, f9, f10⟩ := HG4.out.cells11
        clear g0 g1 g3 g4 g5 g6 g7 g8 g9 g10 f0 f1 f2 f3 f4 f5 f6 f7 f8 f9 f10
        have HSt := Lib.hid (stmt_at (HP4.out.bel (below_drew (Below.refl _ _))) HO1.out)
        have HO2 := Lib.hid (okC.stmt HO1.out)
        generalize s2.stmt = q at *
        obtain ⟨y, s3⟩ := q
        simp only at hb HSt HO2 HPr
        have HB := Lib.hid hb
        clear hb
        go_wp2_with fail
        go_region_law (first
          | (go_simp; refine HSt.out.mono ?_; rintro e V5 ⟨A3, n3, c3, A7, n7, c7, rfl, hm5, hp5, hg5⟩; have hg5' := grown_trans (grown_below (below_drew (Below.refl V4.heap.size V4))) hg5; have HP5 := Lib.hid hp5; have HM5 := Lib.hid hm5; have HR5 := Lib.hid (HR4.out.ps hg5' HRB.out); have HG5 := Lib.hid (HG4.out.ps hg5' HGB.out); have HW5 := Lib.hid (RW.grown HW4.out hg5' HLt.out); have HSz5 := Lib.hid hp5.size; have HSw5 := Lib.hid HP4.out.size; have q1 := HG5.out.cells11.1.2.2.1; have q2 := fun o => cell_al HG5.out.cells11.1.2.2.1 o; clear hp5 hg5 hg5' hm5)
          | (refine row_append_step k53 W.heap.size V4.heap.size rfl (.tmp 28) (.tmp 31) 54 53 _ 120 rfl Tryz.underlying54 infoStmt rfl (by decide) (by decide) _ out y _ rfl rfl HM5.out HW5.out HVl.out HSw5.out HSz5.out (by have := HI.out; have := HFF.out; omega) ?_; intro v6 V6 hw6 hg6 hb6; obtain ⟨A6, c6, e6⟩ := Kd.R_slice hw6; obtain ⟨n6, hn6⟩ : ∃ n6, n6 = (out ++ [y]).length := ⟨_, rfl⟩; rw [← hn6] at e6; subst e6; have HN6 := Lib.hid hn6; clear hn6; have HW6 := Lib.hid hw6; have HP6 := Lib.hid (HP5.out.app hg6 hb6); have HG6 := Lib.hid (HG5.out.grown hg6 (HW5.out.far HG5.out (by decide))); have HR6 := Lib.hid (HR5.out.grown hg6 (HW5.out.far HR5.out (by decide))); clear hw6 hg6 hb6; obtain ⟨⟨e0, e1, e2, e3, e4, e5, e6, e7, e8, e9, e10⟩, d0, d1, d2, d3, d4, d5, d6, d7, d8, d9, d10⟩ := HG6.out.cells11))
        all_goals
          go_wp2_with fail
          go_roundg kk
          case measure => omega
          case rel => exact ⟨s3, out ++ [y], A6, n6, c6, ⟨HN6.out⟩, ⟨by rw [List.length_append]; have := HI.out; simp; omega⟩, ⟨HPr.out⟩, ⟨HB.out⟩, ⟨HR6.out.far (p := ⟨G, 2, none⟩) HRG.out _⟩, ⟨HG6.out.set 2 _⟩, ⟨RW.set HW6.out HG6.out EbT 2 _⟩, ⟨HP6.out.set (p := ⟨G, 2, none⟩) HLe.out _⟩, ⟨HO2.out⟩⟩
    · have hst : Rd.stmts gk s' out = (out, s') := by
        cases gk with
        | zero => rfl
        | succ k =>
          unfold Rd.stmts
          rw [if_neg hgo]
      have hf := HF.out
      rw [← HB.out, hst] at hf
      simp only at hf
      have HT := Lib.hid (fun V (hV : PS w0 W V B s') => term_at hV HO.out)
      generalize s'.term = q at *
      obtain ⟨t, s2⟩ := q
      simp only at hf HT
      have HF' := Lib.hid hf
      clear hf hst HF HB HI HLn
      have HTail : Hid (∃ V, PS w0 W V B s' → True) := Lib.hid ⟨W, fun _ => trivial⟩
      clear HTail
      by_cases hbad : s'.bad = -1
      all_goals
        first
          | (have hb1 : (s'.bad == -1) = true := by rw [hbad]; rfl
             have hen : s'.ending = true := by
               cases he : s'.ending with
               | true => rfl
               | false => exact absurd ⟨hbad, he⟩ hgo
             rw [hen] at HEn
             clear hen hbad hgo
             go_wp2_with fail
             refine HEn.out.mono ?_
             rintro e V3 ⟨rfl, hp3, hg3⟩
             have HR3 := Lib.hid (HR.out.ps hg3 HRB.out)
             have HG3 := Lib.hid (HG.out.ps hg3 HGB.out)
             have HW3 := Lib.hid (RW.grown HW.out hg3 HLt.out)
             have HP3 := Lib.hid hp3
             clear hp3 hg3 HR HG HW HPS HEn)
          | (have hb1 : (s'.bad == -1) = false := by rw [beq_eq_false_iff_ne]; exact hbad
             clear hbad hgo HEn
             have HR3 := Lib.hid HR.out
             have HG3 := Lib.hid HG.out
             have HW3 := Lib.hid HW.out
             have HP3 := Lib.hid HPS.out
             clear HR HG HW HPS)
        go_wp2_with fail
        refine (HT.out _ HP3.out).mono ?_
        rintro e V4 ⟨A3, n3, c3, A5, n5, c5, A6, n6, c6, A7, n7, c7, rfl, ⟨r3, r5, r6, r7⟩, hp4, hg4⟩
        have HSz := HP3.out.size
        have HR4 := Lib.hid (HR3.out.ps hg4 HRB.out)
        have HG4 := Lib.hid (HG3.out.ps hg4 HGB.out)
        have HW4 := Lib.hid (RW.grown HW3.out hg4 HLt.out)
        have H3 := Lib.hid (Kd.R_lower r3 HSz)
        have H5 := Lib.hid (Kd.R_lower r5 HSz)
        have H6 := Lib.hid (Kd.R_lower r6 HSz)
        have H7 := Lib.hid (Kd.R_lower r7 HSz)
        have HP4 := Lib.hid hp4
        clear hp4 hg4 r3 r5 r6 r7 HSz HR3 HG3 HW3 HP3 HT
        obtain ⟨⟨g0, g1, g2, g3, g4, g5, g6, g7, g8, g9, g10⟩, f0, f1, f2, f3, f4, f5, f6, f7, f8, f9, f10⟩ := HG4.out.cells11
        generalize hnn : out.length = nn at *
        have HNn := Lib.hid hnn
        clear hnn
        go_upto_region 7 with fail
        refine code_at (fun U => Blk U G #[.int .i64 a, .string x, .slice A nn c, .int .i64 t.f0, .int .i64 t.f1, .string t.f2.f0, .slice A3 n3 c3, .string t.f3, .slice A5 n5 c5, .slice A6 n6 c6, .slice A7 n7 c7] 59 ∧ Blk U W.heap.size #[.int .i64 0, .string ⟨#[]⟩, .slice none 0 0, .int .i64 0, .int .i64 0, .string ⟨#[]⟩, .slice none 0 0, .string ⟨#[]⟩, .slice none 0 0, .slice none 0 0, .slice none 0 0] 59 ∧ RW k53 53 U W.heap.size (.slice A nn c) out ∧ (RW Kd.string 9 U W.heap.size (.slice A3 n3 c3) t.f2.f1 ∧ RW k50 50 U W.heap.size (.slice A5 n5 c5) t.f4 ∧ RW Kd.string 9 U W.heap.size (.slice A6 n6 c6) t.f5 ∧ RW k92 92 U W.heap.size (.slice A7 n7 c7) t.f6) ∧ PS w0 W U B s2) ⟨?_, ?_, ?_, ⟨?_, ?_, ?_, ?_⟩, ?_⟩ ?_
        · exact HG4.out.from3 _ _ _ _ _ _ _ _ 
        · exact HR4.out.grown (sets38 _ _ _ _ _ _ _ _ _ _) (fun e => by cases e; exact HRG.out rfl)
        · exact RW.over HW4.out HG4.out EbT (sets38 _ _ _ _ _ _ _ _ _ _)
        · exact RW.over H3.out HG4.out EbS (sets38 _ _ _ _ _ _ _ _ _ _)
        · exact RW.over H5.out HG4.out EbP (sets38 _ _ _ _ _ _ _ _ _ _)
        · exact RW.over H6.out HG4.out EbS (sets38 _ _ _ _ _ _ _ _ _ _)
        · exact RW.over H7.out HG4.out EbA (sets38 _ _ _ _ _ _ _ _ _ _)
        · exact HP4.out.own (sets38 _ _ _ _ _ _ _ _ _ _) HLe.out
        rintro V5 ⟨hg5, hr5, hw5, ⟨r3, r5, r6, r7⟩, hp5⟩
        clear g0 g1 g2 g3 g4 g5 g6 g7 g8 g9 g10 f0 f1 f2 f3 f4 f5 f6 f7 f8 f9 f10 HR4 HG4 HW4 H3 H5 H6 H7 HP4
        have HR5 := Lib.hid hr5
        have HW5 := Lib.hid hw5
        have H3 := Lib.hid r3
        have H5 := Lib.hid r5
        have H6 := Lib.hid r6
        have H7 := Lib.hid r7
        have HP5 := Lib.hid hp5
        obtain ⟨⟨g0, g1, g2, g3, g4, g5, g6, g7, g8, g9, g10⟩, f0, f1, f2, f3, f4, f5, f6, f7, f8, f9, f10⟩ := hg5.cells11
        obtain ⟨⟨e0, e1, e2, e3, e4, e5, e6, e7, e8, e9, e10⟩, d0, d1, d2, d3, d4, d5, d6, d7, d8, d9, d10⟩ := hr5.cells11
        clear hg5 hr5 hw5 r3 r5 r6 r7 hp5
        go_wp2_with fail
        refine post_at (fun U => Blk U W.heap.size #[.int .i64 a, .string x, .slice A nn c, .int .i64 t.f0, .int .i64 t.f1, .string t.f2.f0, .slice A3 n3 c3, .string t.f3, .slice A5 n5 c5, .slice A6 n6 c6, .slice A7 n7 c7] 59 ∧ RW k53 53 U W.heap.size (.slice A nn c) out ∧ (RW Kd.string 9 U W.heap.size (.slice A3 n3 c3) t.f2.f1 ∧ RW k50 50 U W.heap.size (.slice A5 n5 c5) t.f4 ∧ RW Kd.string 9 U W.heap.size (.slice A6 n6 c6) t.f5 ∧ RW k92 92 U W.heap.size (.slice A7 n7 c7) t.f6) ∧ PS w0 W U B s2) ⟨?_, ?_, ⟨?_, ?_, ?_, ?_⟩, ?_⟩ ?_
        · exact HR5.out.all11 _ _ _ _ _ _ _ _ _ _ _ 
        · exact RW.over HW5.out HR5.out EbT (sets11 _ _ _ _ _ _ _ _ _ _ _ _ _)
        · exact RW.over H3.out HR5.out EbS (sets11 _ _ _ _ _ _ _ _ _ _ _ _ _)
        · exact RW.over H5.out HR5.out EbP (sets11 _ _ _ _ _ _ _ _ _ _ _ _ _)
        · exact RW.over H6.out HR5.out EbS (sets11 _ _ _ _ _ _ _ _ _ _ _ _ _)
        · exact RW.over H7.out HR5.out EbA (sets11 _ _ _ _ _ _ _ _ _ _ _ _ _)
        · exact HP5.out.own (sets11 _ _ _ _ _ _ _ _ _ _ _ _ _) (Nat.le_refl _)
        · rintro U ⟨hbx, hw, hrw, hps⟩
          obtain ⟨⟨z0, z1, z2, z3, z4, z5, z6, z7, z8, z9, z10⟩, -⟩ := hbx.cells11
          exact bodyPost_ret (v := .agg #[.int .i64 a, .string x, .slice A nn c, .int .i64 t.f0, .int .i64 t.f1, .string t.f2.f0, .slice A3 n3 c3, .string t.f3, .slice A5 n5 c5, .slice A6 n6 c6, .slice A7 n7 c7]) (by simp [results, Tryz.results107, go_sem, z0, z1, z2, z3, z4, z5, z6, z7, z8, z9, z10]) rfl ⟨A, nn, c, A3, n3, c3, A5, n5, c5, A6, n6, c6, A7, n7, c7, by rw [HF'.out], by rw [HF'.out]; exact hw, by rw [HF'.out]; exact hrw, by rw [HF'.out]; exact hps⟩
theorem block_at {w0 W0 W : World} {B : Nat} {s : Rd} (h : PS w0 W0 W B s) (hok : s.Ok) :
    Calls Tryz.prog 107 #[.pointer (some ⟨B, 0, none⟩)] W fun e W' => ∃ A n c A3 n3 c3 A5 n5 c5 A6 n6 c6 A7 n7 c7, e = .returned (.agg #[.int .i64 s.block.1.f0, .string s.block.1.f1, .slice A n c, .int .i64 s.block.1.f3.f0, .int .i64 s.block.1.f3.f1, .string s.block.1.f3.f2.f0, .slice A3 n3 c3, .string s.block.1.f3.f3, .slice A5 n5 c5, .slice A6 n6 c6, .slice A7 n7 c7]) ∧ MW k59 W' W.heap.size s.block.1 [.int .i64 s.block.1.f0, .string s.block.1.f1, .slice A n c, .int .i64 s.block.1.f3.f0, .int .i64 s.block.1.f3.f1, .string s.block.1.f3.f2.f0, .slice A3 n3 c3, .string s.block.1.f3.f3, .slice A5 n5 c5, .slice A6 n6 c6, .slice A7 n7 c7] ∧ PS w0 W0 W' B s.block.2 ∧ W.grownBy W' (some B) := by
  refine (block_calls w0 W B s h.r hok).mono ?_
  rintro e W' ⟨A, n, c, A3, n3, c3, A5, n5, c5, A6, n6, c6, A7, n7, c7, he, hw, ⟨h3, h5, h6, h7⟩, hp⟩
  exact ⟨A, n, c, A3, n3, c3, A5, n5, c5, A6, n6, c6, A7, n7, c7, he, k59_mkM W' _ _ _ hw h3 h5 h6 h7, h.on hp, hp.g⟩
end Go.Proofs.YtmgkejobolgkmaaGreatDoor.PL
