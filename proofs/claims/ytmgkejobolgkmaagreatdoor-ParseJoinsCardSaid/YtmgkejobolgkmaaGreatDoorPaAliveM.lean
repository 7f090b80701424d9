/- Package parse: what three texts are, in plain words. droguelaw06.alive: it answers true. -/
import Derived.Test.YtmgkejobolgkmaaGreatDoorPaParse
import Derived.RegionTactic
import Derived.BigRegion
namespace Go.Proofs.YtmgkejobolgkmaaGreatDoor.PL
section
open Go Go.RowKit Go.Proofs.YtmgkejobolgkmaaGreatDoorW.PrintWords Go.Proofs.YtmgkejobolgkmaaGreatDoorW.PrintLast Go.Proofs.YtmgkejobolgkmaaGreatDoorW.PrintMore
set_option linter.unusedVariables false
set_option linter.unusedSimpArgs false

def tA : ByteArray := ⟨#[102, 110, 32, 109, 97, 105, 110, 40, 41, 32, 105, 110, 116, 32, 123, 32, 108, 101, 116, 32, 120, 32, 105, 110, 116, 59, 32, 98, 58, 32, 120, 32, 61, 32, 53, 59, 32, 114, 101, 116, 117, 114, 110, 32, 120, 59, 32, 125]⟩
def tB : ByteArray := ⟨#[102, 110, 32, 109, 97, 105, 110, 40, 41, 32, 105, 110, 116, 32, 123, 32, 108, 101, 116, 32, 120, 32, 105, 110, 116, 59, 32, 98, 58, 32, 120, 32, 61, 32, 53, 32, 114, 101, 116, 117, 114, 110, 32, 120, 59, 32, 125]⟩
def tC : ByteArray := ⟨#[115, 116, 114, 117, 99, 116, 32, 97, 32, 123, 32, 98, 32, 36, 32, 125]⟩
def lA : List Tok := [⟨2, 0, ⟨#[102, 110]⟩, 0⟩, ⟨1, 3, ⟨#[109, 97, 105, 110]⟩, 0⟩, ⟨4, 7, ⟨#[40]⟩, 0⟩, ⟨4, 8, ⟨#[41]⟩, 0⟩, ⟨2, 10, ⟨#[105, 110, 116]⟩, 0⟩, ⟨4, 14, ⟨#[123]⟩, 0⟩, ⟨2, 16, ⟨#[108, 101, 116]⟩, 0⟩, ⟨1, 20, ⟨#[120]⟩, 0⟩, ⟨2, 22, ⟨#[105, 110, 116]⟩, 0⟩, ⟨4, 25, ⟨#[59]⟩, 0⟩, ⟨1, 27, ⟨#[98]⟩, 0⟩, ⟨4, 28, ⟨#[58]⟩, 0⟩, ⟨1, 30, ⟨#[120]⟩, 0⟩, ⟨4, 32, ⟨#[61]⟩, 0⟩, ⟨3, 34, ⟨#[53]⟩, 5⟩, ⟨4, 35, ⟨#[59]⟩, 0⟩, ⟨2, 37, ⟨#[114, 101, 116, 117, 114, 110]⟩, 0⟩, ⟨1, 44, ⟨#[120]⟩, 0⟩, ⟨4, 45, ⟨#[59]⟩, 0⟩, ⟨4, 47, ⟨#[125]⟩, 0⟩]
def lB : List Tok := [⟨2, 0, ⟨#[102, 110]⟩, 0⟩, ⟨1, 3, ⟨#[109, 97, 105, 110]⟩, 0⟩, ⟨4, 7, ⟨#[40]⟩, 0⟩, ⟨4, 8, ⟨#[41]⟩, 0⟩, ⟨2, 10, ⟨#[105, 110, 116]⟩, 0⟩, ⟨4, 14, ⟨#[123]⟩, 0⟩, ⟨2, 16, ⟨#[108, 101, 116]⟩, 0⟩, ⟨1, 20, ⟨#[120]⟩, 0⟩, ⟨2, 22, ⟨#[105, 110, 116]⟩, 0⟩, ⟨4, 25, ⟨#[59]⟩, 0⟩, ⟨1, 27, ⟨#[98]⟩, 0⟩, ⟨4, 28, ⟨#[58]⟩, 0⟩, ⟨1, 30, ⟨#[120]⟩, 0⟩, ⟨4, 32, ⟨#[61]⟩, 0⟩, ⟨3, 34, ⟨#[53]⟩, 5⟩, ⟨2, 36, ⟨#[114, 101, 116, 117, 114, 110]⟩, 0⟩, ⟨1, 43, ⟨#[120]⟩, 0⟩, ⟨4, 44, ⟨#[59]⟩, 0⟩, ⟨4, 46, ⟨#[125]⟩, 0⟩]
def fA : SFunc := ⟨0, ⟨#[109, 97, 105, 110]⟩, [], [⟨⟨#[120]⟩, ⟨#[105, 110, 116]⟩⟩], ⟨#[105, 110, 116]⟩, [⟨27, ⟨#[98]⟩, [⟨30, 1, ⟨⟨#[120]⟩, []⟩, 5, ⟨#[]⟩, ⟨#[]⟩, []⟩], ⟨37, 7, ⟨⟨#[]⟩, []⟩, ⟨#[]⟩, [⟨⟨#[120]⟩, []⟩], [], []⟩⟩]⟩
set_option maxRecDepth 100000 in
theorem al_A : lex_Lex.f tA = some (lA, 0, 0) := by kernel_rfl
set_option maxRecDepth 100000 in
theorem al_B : lex_Lex.f tB = some (lB, 0, 0) := by kernel_rfl
set_option maxRecDepth 100000 in
theorem al_C : lex_Lex.f tC = some ([], 13, 1) := by kernel_rfl
set_option maxRecDepth 100000 in
theorem al_pA : parseP lA 0 0 tA.size = (⟨[], [], [fA]⟩, []) := by kernel_rfl
set_option maxRecDepth 100000 in
theorem al_pB : parseP lB 0 0 tB.size = (prog0, [⟨36, 2⟩]) := by kernel_rfl
theorem al_pC : parseP [] 13 1 tC.size = (prog0, [⟨13, 1⟩]) := by kernel_rfl
theorem okOf {l : List Tok} {n : Nat} (h : (decide (l.length ≤ 100000) && l.all fun t => decide (t.f2.size ≤ 1000000) && decide (0 ≤ t.f1)) = true) : Rd.Ok ⟨l, n, -1, -1⟩ := by
  simp only [Bool.and_eq_true, List.all_eq_true, decide_eq_true_eq] at h
  exact ⟨h.1, fun t ht => h.2 t ht, by show (0 : Int) ≤ (n : Int); omega, .inl rfl⟩
theorem al_okA : Rd.Ok ⟨lA, tA.size, -1, -1⟩ := okOf (by kernel_rfl)
theorem al_okB : Rd.Ok ⟨lB, tB.size, -1, -1⟩ := okOf (by kernel_rfl)
theorem al_okC : Rd.Ok ⟨[], tC.size, -1, -1⟩ := okOf (by kernel_rfl)
end
section
open Go Go.RowKit Go.Proofs.YtmgkejobolgkmaaGreatDoorW.PrintWords Go.Proofs.YtmgkejobolgkmaaGreatDoorW.PrintLast Go.Proofs.YtmgkejobolgkmaaGreatDoorW.PrintMore
set_option linter.unusedVariables false
set_option linter.unusedSimpArgs false

theorem alive_cells {V : World} {A : Option Addr} (h : Kd.C k63 V A 1 [fA]) : ∃ ad a5 c5 a2 c2, A = some ad ∧ V.cell? ⟨ad.block, ad.off + 5, none⟩ = some (.slice (some a5) 1 c5) ∧ V.cell? a5 = some (.int .i64 27) ∧ V.cell? ⟨a5.block, a5.off + 2, none⟩ = some (.slice (some a2) 1 c2) ∧ V.cell? ⟨a2.block, a2.off + 4, none⟩ = some (.int .i64 5) := by
  obtain ⟨ad, A2, c2, A3, c3, A5, c5, ea, -, -, -, -, -, x5, -, -, -, -, -, h5⟩ := at_T63 h 0 (by omega) (by decide)
  have e1 : ad.add (Int.toNat 0 * 6) = ad := by simp [Addr.add]
  rw [e1] at x5
  change Kd.C k59 V A5 1 [⟨27, ⟨#[98]⟩, [⟨30, 1, ⟨⟨#[120]⟩, []⟩, 5, ⟨#[]⟩, ⟨#[]⟩, []⟩], ⟨37, 7, ⟨⟨#[]⟩, []⟩, ⟨#[]⟩, [⟨⟨#[120]⟩, []⟩], [], []⟩⟩] at h5
  change V.cell? _ = some (.slice A5 1 c5) at x5
  obtain ⟨a5, B2, d2, B6, d6, B8, d8, B9, d9, B10, d10, ea5, y0, -, y2, -, -, -, -, -, -, -, -, -, hs, -⟩ := at_T59 h5 0 (by omega) (by decide)
  have e2 : a5.add (Int.toNat 0 * 11) = a5 := by simp [Addr.add]
  rw [e2] at y0 y2
  change V.cell? _ = some (.int .i64 27) at y0
  change V.cell? _ = some (.slice B2 1 d2) at y2
  change Kd.C k53 V B2 1 [⟨30, 1, ⟨⟨#[120]⟩, []⟩, 5, ⟨#[]⟩, ⟨#[]⟩, []⟩] at hs
  obtain ⟨a2, D3, g3, D7, g7, ea2, -, -, -, -, z4, -⟩ := at_T53 hs 0 (by omega) (by decide)
  have e3 : a2.add (Int.toNat 0 * 8) = a2 := by simp [Addr.add]
  rw [e3] at z4
  change V.cell? _ = some (.int .i64 5) at z4
  subst ea5 ea2
  exact ⟨ad, a5, c5, a2, d2, ea, x5, y0, y2, z4⟩
theorem diag_cells {V : World} {A : Option Addr} {a b : Int} (h : Kd.C k32 V A 1 [⟨a, b⟩]) : ∃ ad, A = some ad ∧ V.cell? ad = some (.int .i64 a) ∧ V.cell? ⟨ad.block, ad.off + 1, none⟩ = some (.int .i64 b) := by
  obtain ⟨ad, ea, x0, x1⟩ := at_T32 h 0 (by omega) (by decide)
  have e : ad.add (Int.toNat 0 * 2) = ad := by simp [Addr.add]
  rw [e] at x0 x1
  exact ⟨ad, ea, x0, x1⟩
theorem ceqD (d : Nat) (w : World) (x0 y0 : Int) (x1 y1 : Int) :
    (Op.equalIn (d + 2) 32 (.agg #[.int .i64 x0, .int .i64 x1]) (.agg #[.int .i64 y0, .int .i64 y1])).run Tryz.prog w = .ok (x0 == y0 && (x1 == y1)) w := by
  refine eqA_of Tryz.underlying32 (by kernel_rfl) ?_
  refine eqf_cons (by rfl) (by go_simp; rfl) (by go_simp; rfl) (by go_simp) ?_
  exact eqf_last (by rfl) (by go_simp; rfl) (by go_simp; rfl) (by go_simp)
attribute [local go_sem high] ceqD
set_option maxHeartbeats 8000000 in
set_option maxRecDepth 100000 in
theorem alive_calls (w : World) (hG : Globs w) : Calls Tryz.prog 7 #[] w fun e w' => e = .returned (.bool true) ∧ Below w.heap.size w w' := by
  have HG := Lib.hid hG
  have H1 := Lib.hid (parse_calls tA lA 0 0 w hG al_A al_okA)
  clear hG
  rw [al_pA] at H1
  go_enter Tryz.func7, Tryz.ntmps7
  go_wp2_with fail
  refine H1.out.mono ?_
  rintro e W1 ⟨vp, vd, rfl, A0, n0, c0, A1, n1, c1, A2, n2, c2, A, c, rfl, rfl, r0, r1, r2, -, -, hb1⟩
  clear H1
  have HR2 := Lib.hid r2
  have hn := Kd.R_reads' r2
  have hn2 : n2 = 1 := hn.1
  subst hn2
  have HB1 := Lib.hid hb1
  clear r0 r1 r2 hb1 hn
  have HB2 := Lib.hid (below_alloc HB1.out (.cells #[.slice A0 n0 c0, .slice A1 n1 c1, .slice A2 1 c2] 27))
  have HX := Lib.hid (Blk.new W1 #[.slice A0 n0 c0, .slice A1 n1 c1, .slice A2 1 c2] 27)
  have H2 := Lib.hid (parse_calls tB lB 0 0 _ (HG.out.below HB2.out) al_B al_okB)
  rw [al_pB] at H2
  go_wp2_with fail
  refine H2.out.mono ?_
  rintro e W2 ⟨vp, vd, rfl, B0, m0, k0, B1, m1, k1, B2, m2, k2, Ae, ce, rfl, rfl, -, -, -, he, -, hb2⟩
  have HBb := Lib.hid (below_step HB2.out hb2)
  have HX2 := Lib.hid (HX.out.below hb2)
  have HRb := Lib.hid (RW.bel (RW.bel HR2.out (below_alloc (Below.refl _ _) (.cells #[.slice A0 n0 c0, .slice A1 n1 c1, .slice A2 1 c2] 27))) hb2)
  have HE := Lib.hid he
  clear he hb2 H2 HR2 HB2 HX HB1
  have HB3 := Lib.hid (below_alloc HBb.out (.cells #[.slice B0 m0 k0, .slice B1 m1 k1, .slice B2 m2 k2] 27))
  have H3 := Lib.hid (parse_calls tC [] 13 1 _ (HG.out.below HB3.out) al_C al_okC)
  rw [al_pC] at H3
  go_wp2_with fail
  refine H3.out.mono ?_
  rintro e W3 ⟨vp, vd, rfl, D0, j0, l0, D1, j1, l1, D2, j2, l2, Af, cf, rfl, rfl, -, -, -, hf, -, hb3⟩
  have hbx := below_step (below_alloc (Below.refl W2.heap.size W2) (.cells #[.slice B0 m0 k0, .slice B1 m1 k1, .slice B2 m2 k2] 27)) hb3
  have HBc := Lib.hid (below_step HBb.out hbx)
  have HXc := Lib.hid (HX2.out.below hbx)
  have HRc := Lib.hid (RW.bel HRb.out hbx)
  have HEc := Lib.hid (Kd.C_below HE.out hbx)
  have HFc := Lib.hid hf
  clear hf hb3 hbx HBb HX2 HRb HE HB3 H3
  go_upto_region 4 with fail
  refine code_at (fun V => Blk V W1.heap.size #[.slice A0 n0 c0, .slice A1 n1 c1, .slice A2 1 c2] 27 ∧ Kd.C k63 V A2 1 [fA] ∧ Kd.C k32 V Ae 1 [⟨36, 2⟩] ∧ Kd.C k32 V Af 1 [⟨13, 1⟩] ∧ Below w.heap.size w V)
    ⟨HXc.out.alloc _, (Kd.R_reads' (RW.bel HRc.out (below_alloc (Below.refl _ _) _))).2.2, Kd.C_below HEc.out (below_alloc (Below.refl _ _) _), Kd.C_below HFc.out (below_alloc (Below.refl _ _) _), below_alloc HBc.out _⟩ ?_
  rintro V ⟨hx, hc, he, hf, hb⟩
  obtain ⟨ad, a5, c5, a2, d2, rfl, x5, y0, y2, z4⟩ := alive_cells hc
  obtain ⟨ae, rfl, e0, e1⟩ := diag_cells he
  obtain ⟨af, rfl, f0, f1⟩ := diag_cells hf
  obtain ⟨⟨p0, p1, p2⟩, -⟩ := hx.cells3
  have HB := Lib.hid hb
  clear hx hc he hf hb HXc HRc HEc HFc HBc
  go_wp2_with fail
  go_ret
  exact ⟨rfl, HB.out⟩
end
end Go.Proofs.YtmgkejobolgkmaaGreatDoor.PL
