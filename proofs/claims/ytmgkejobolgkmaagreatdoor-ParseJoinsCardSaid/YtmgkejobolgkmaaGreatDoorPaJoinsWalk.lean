/- droguelaw06.ParseJoins: its walk, along the answers that the plain law tells. -/
import Derived.Test.YtmgkejobolgkmaaGreatDoorPaAliveM
import Derived.Test.YtmgkejobolgkmaaGreatDoorPaJoinC
import Derived.Test.YtmgkejobolgkmaaGreatDoorPaAppend
import Derived.Laws.Strings
import Derived.BigQuiet
namespace Go.Proofs.YtmgkejobolgkmaaGreatDoor.PL
open Go Go.RowKit Go.Proofs.YtmgkejobolgkmaaGreatDoorW.PrintWords Go.Proofs.YtmgkejobolgkmaaGreatDoorW.PrintLast Go.Proofs.YtmgkejobolgkmaaGreatDoorW.PrintMore
set_option linter.unusedVariables false
set_option linter.unusedSimpArgs false
attribute [local go_sem] max2_int max_two max_three

/-- what Parse hands back, in memory, as Same reads it -/
theorem pans_prog {w w' : World} {r : SProg × List SDiag} {A0 A1 A2 : Option Addr} {n0 c0 n1 c1 n2 c2 : Nat} (h0 : RW k77 77 w' w.heap.size (.slice A0 n0 c0) r.1.f0) (h1 : RW k80 80 w' w.heap.size (.slice A1 n1 c1) r.1.f1) (h2 : RW k63 63 w' w.heap.size (.slice A2 n2 c2) r.1.f2) :
    n0 = r.1.f0.length ∧ n1 = r.1.f1.length ∧ n2 = r.1.f2.length ∧ Kd.C k77 w' A0 n0 r.1.f0 ∧ Kd.C k80 w' A1 n1 r.1.f1 ∧ Kd.C k63 w' A2 n2 r.1.f2 ∧ n0 ≤ c0 ∧ n1 ≤ c1 ∧ n2 ≤ c2 := by
  obtain ⟨rfl, a2, a3⟩ := Kd.R_reads' h0
  obtain ⟨rfl, b2, b3⟩ := Kd.R_reads' h1
  obtain ⟨rfl, d2, d3⟩ := Kd.R_reads' h2
  exact ⟨rfl, rfl, rfl, a3, b3, d3, a2, b2, d2⟩
/-- a program's rows in memory -/
structure PR (w : World) (P : SProg) (A0 : Option Addr) (n0 c0 : Nat) (A1 : Option Addr) (n1 c1 : Nat) (A2 : Option Addr) (n2 c2 : Nat) : Prop where mk ::
  (e0 : n0 = P.f0.length) (e1 : n1 = P.f1.length) (e2 : n2 = P.f2.length) (k0 : Kd.C k77 w A0 n0 P.f0) (k1 : Kd.C k80 w A1 n1 P.f1) (k2 : Kd.C k63 w A2 n2 P.f2) (b0 : n0 ≤ c0) (b1 : n1 ≤ c1) (b2 : n2 ≤ c2)
theorem PR.bel {w w' : World} {P : SProg} {A0 A1 A2 : Option Addr} {n0 c0 n1 c1 n2 c2 : Nat} (h : PR w P A0 n0 c0 A1 n1 c1 A2 n2 c2) (hb : Below w.heap.size w w') : PR w' P A0 n0 c0 A1 n1 c1 A2 n2 c2 :=
  ⟨h.e0, h.e1, h.e2, Kd.C_below h.k0 hb, Kd.C_below h.k1 hb, Kd.C_below h.k2 hb, h.b0, h.b1, h.b2⟩
theorem PR.v {w : World} {P : SProg} {A0 A1 A2 : Option Addr} {n0 c0 n1 c1 n2 c2 : Nat} (h : PR w P A0 n0 c0 A1 n1 c1 A2 n2 c2) : VProg w P (.agg #[.slice A0 n0 c0, .slice A1 n1 c1, .slice A2 n2 c2]) := by
  obtain ⟨rfl, rfl, rfl, k0, k1, k2, b0, b1, b2⟩ := h
  exact ⟨A0, c0, A1, c1, A2, c2, rfl, b0, k0, b1, k1, b2, k2⟩
theorem parse_at (s : ByteArray) (l : List Tok) (d1 d2 : Int) (w : World) (hG : Globs w) (h : lex_Lex.f s = some (l, d1, d2)) (hok : Rd.Ok ⟨l, s.size, -1, -1⟩) :
    Calls Tryz.prog 8 #[.string s] w fun e w' => ∃ A0 n0 c0 A1 n1 c1 A2 n2 c2 A c, e = .returned (.tuple #[.agg #[.slice A0 n0 c0, .slice A1 n1 c1, .slice A2 n2 c2], .slice A (parseP l d1 d2 s.size).2.length c]) ∧ PR w' (parseP l d1 d2 s.size).1 A0 n0 c0 A1 n1 c1 A2 n2 c2 ∧
      Kd.C k32 w' A (parseP l d1 d2 s.size).2.length (parseP l d1 d2 s.size).2 ∧ Below w.heap.size w w' := by
  refine (parse_calls s l d1 d2 w hG h hok).mono ?_
  rintro e w' ⟨vp, vd, rfl, A0, n0, c0, A1, n1, c1, A2, n2, c2, Ad, cd, rfl, rfl, r0, r1, r2, hd, -, hb⟩
  obtain ⟨q1, q2, q3, q4, q5, q6, q7, q8, q9⟩ := pans_prog r0 r1 r2
  exact ⟨_, _, _, _, _, _, _, _, _, Ad, cd, rfl, ⟨q1, q2, q3, q4, q5, q6, q7, q8, q9⟩, hd, hb⟩
/-- what a parse without diagnostics tells -/
theorem good_parse {s : ByteArray} {l : List Tok} {d1 d2 : Int} (hd0 : d2 = 0 → s.size ≤ 16384 ∧ Lexes 0 s.data.toList (.ok l)) (h : (parseP l d1 d2 s.size).2 = []) :
    s.size ≤ 16384 ∧ Lexes 0 s.data.toList (.ok l) ∧ parseT l s.size = ((parseP l d1 d2 s.size).1, []) ∧ Fit (parseP l d1 d2 s.size).1 := by
  by_cases hd : d2 = 0
  · subst hd
    have e1 : parseP l d1 0 s.size = ((parseT l s.size).1, (parseT l s.size).2.map fun x => ⟨x.1, x.2⟩) := by
      unfold parseP
      rw [if_neg (by decide)]
    rw [e1] at h ⊢
    have h2 : (parseT l s.size).2 = [] := List.map_eq_nil_iff.1 h
    exact ⟨(hd0 rfl).1, (hd0 rfl).2, Prod.ext rfl h2, parse_fit _ _⟩
  · unfold parseP at h
    rw [if_pos hd] at h
    cases h
/-- where the new program lies -/
def JA (W V : World) (X : Nat) (v0 v1 v2 : Value) (P : SProg) : Prop :=
  Blk V X #[v0, v1, v2] tProg ∧ Below W.heap.size W V ∧ AR k77 77 W V W.heap.size v0 P.f0 ∧ AR k80 80 W V W.heap.size v1 P.f1 ∧ AR k63 63 W V W.heap.size v2 P.f2
theorem JA.below {W w w' : World} {X : Nat} {v0 v1 v2 : Value} {P : SProg} (h : JA W w X v0 v1 v2 P) (hb : Below w.heap.size w w') : JA W w' X v0 v1 v2 P :=
  ⟨h.1.below hb, below_step h.2.1 hb, h.2.2.1.below hb, h.2.2.2.1.below hb, h.2.2.2.2.below hb⟩
theorem ja_store {W w : World} {g : Nat} {v0 v1 v2 : Value} {P : SProg} (hbel : Below W.heap.size W w) (hb : Blk w g zProg tProg) (hg : W.heap.size ≤ g)
    (a0 : AR k77 77 W w W.heap.size v0 P.f0) (a1 : AR k80 80 W w W.heap.size v1 P.f1) (a2 : AR k63 63 W w W.heap.size v2 P.f2) :
    JA W (((w.setCell ⟨g, 0, none⟩ v0).setCell ⟨g, 1, none⟩ v1).setCell ⟨g, 2, none⟩ v2) g v0 v1 v2 P := by
  have hb1 : Blk (w.setCell ⟨g, 0, none⟩ v0) g #[v0, .slice none 0 0, .slice none 0 0] tProg := hb.set 0 v0
  have hb2 : Blk ((w.setCell ⟨g, 0, none⟩ v0).setCell ⟨g, 1, none⟩ v1) g #[v0, v1, .slice none 0 0] tProg := hb1.set 1 v1
  have hb3 : Blk (((w.setCell ⟨g, 0, none⟩ v0).setCell ⟨g, 1, none⟩ v1).setCell ⟨g, 2, none⟩ v2) g #[v0, v1, v2] tProg := hb2.set 2 v2
  exact ⟨hb3, ((hbel.setCell (p := ⟨g, 0, none⟩) hg v0).setCell (p := ⟨g, 1, none⟩) hg v1).setCell (p := ⟨g, 2, none⟩) hg v2,
    ((a0.set hb (by decide) 0 v0).set hb1 (by decide) 1 v1).set hb2 (by decide) 2 v2, ((a1.set hb (by decide) 0 v0).set hb1 (by decide) 1 v1).set hb2 (by decide) 2 v2, ((a2.set hb (by decide) 0 v0).set hb1 (by decide) 1 v1).set hb2 (by decide) 2 v2⟩
theorem all_done {md : Region.Mode} {ops : Array Oper} {l : Array Bool} (h : Region.ready md ops l = []) {i : Nat} {o : Oper} (ho : ops[i]? = some o) (hd : (o.after.toList.all fun e => !Region.binds md e || l.getD e.on false) = true) : l.getD i true = true := by
  unfold Region.ready at h
  rw [List.filter_eq_nil_iff] at h
  have h1 := h i (List.mem_range.2 (Array.getElem?_eq_some_iff.1 ho).1)
  rw [ho] at h1
  rw [Array.all_toList] at hd
  simp only [Option.map_some, Option.getD_some, hd, Bool.and_true] at h1
  simpa using h1
/- what holds: printed by genjoin.py -/
/-- what holds in the region that makes the new program, whatever has been done: b: is the operation done? v: the slots -/
structure PJ (W w : World) (X1 X2 : Nat) (P Q : SProg) (A0 : Option Addr) (n0 c0 : Nat) (A1 : Option Addr) (n1 c1 : Nat) (A2 : Option Addr) (n2 c2 : Nat) (B0 : Option Addr) (m0 k0 : Nat) (B1 : Option Addr) (m1 k1 : Nat) (B2 : Option Addr) (m2 k2 : Nat) (b0 b1 b2 b3 b4 b5 b6 b7 b8 b9 b10 b11 b12 b13 b14 b15 b16 b17 b18 b19 b20 b21 b22 b23 : Bool) (v42 v43 v44 v45 v46 v47 v48 v49 v50 v51 v52 v53 v54 v55 v56 v57 v58 v59 v60 v61 v62 v63 v9 : Value) : Prop where mk ::
  (bel : Below W.heap.size W w) (z0 : b0 = true → ∃ ao, v42 = .slice ao 0 0) (fa0 : b1 = true → v43 = .pointer (some ⟨X1, 0, none⟩)) (la0 : b2 = true → v44 = .slice A0 n0 c0) (ra0 : b3 = true → b6 = false → AR k77 77 W w W.heap.size v45 P.f0) (fb0 : b4 = true → v46 = .pointer (some ⟨X2, 0, none⟩)) (lb0 : b5 = true → v47 = .slice B0 m0 k0) (rb0 : b6 = true → AR k77 77 W w W.heap.size v48 (P.f0 ++ Q.f0)) (rc0 : b6 = true → b3 = true) (z1 : b7 = true → ∃ ao, v49 = .slice ao 0 0) (fa1 : b8 = true → v50 = .pointer (some ⟨X1, 1, none⟩)) (la1 : b9 = true → v51 = .slice A1 n1 c1) (ra1 : b10 = true → b13 = false → AR k80 80 W w W.heap.size v52 P.f1) (fb1 : b11 = true → v53 = .pointer (some ⟨X2, 1, none⟩)) (lb1 : b12 = true → v54 = .slice B1 m1 k1) (rb1 : b13 = true → AR k80 80 W w W.heap.size v55 (P.f1 ++ Q.f1)) (rc1 : b13 = true → b10 = true) (z2 : b14 = true → ∃ ao, v56 = .slice ao 0 0) (fa2 : b15 = true → v57 = .pointer (some ⟨X1, 2, none⟩)) (la2 : b16 = true → v58 = .slice A2 n2 c2) (ra2 : b17 = true → b20 = false → AR k63 63 W w W.heap.size v59 P.f2) (fb2 : b18 = true → v60 = .pointer (some ⟨X2, 2, none⟩)) (lb2 : b19 = true → v61 = .slice B2 m2 k2) (rb2 : b20 = true → AR k63 63 W w W.heap.size v62 (P.f2 ++ Q.f2)) (rc2 : b20 = true → b17 = true) (ag : b21 = true → v63 = .agg #[v48, v55, v62] ∧ b6 = true ∧ b13 = true ∧ b20 = true) (bx : b22 = true → ∃ g, v9 = .pointer (some ⟨g, 0, none⟩) ∧ W.heap.size ≤ g ∧ (b23 = false → Blk w g zProg tProg)) (fin : b23 = true → ∃ X u0 u1 u2, v9 = .pointer (some ⟨X, 0, none⟩) ∧ JA W w X u0 u1 u2 (comb P Q)) (c23 : b23 = true → b21 = true) (c24 : b23 = true → b22 = true)
/-- the same, of the frame and the list of what is done -/
inductive JInv (W : World) (X1 X2 : Nat) (P Q : SProg) (A0 : Option Addr) (n0 c0 : Nat) (A1 : Option Addr) (n1 c1 : Nat) (A2 : Option Addr) (n2 c2 : Nat) (B0 : Option Addr) (m0 k0 : Nat) (B1 : Option Addr) (m1 k1 : Nat) (B2 : Option Addr) (m2 k2 : Nat) (a0 a1 : ByteArray) (Ad : Option Addr) (nD cd : Nat) (Ae : Option Addr) (nE ce : Nat) : Array Bool → Act → World → Prop
  | mk {w : World} (b0 b1 b2 b3 b4 b5 b6 b7 b8 b9 b10 b11 b12 b13 b14 b15 b16 b17 b18 b19 b20 b21 b22 b23 : Bool) (v42 v43 v44 v45 v46 v47 v48 v49 v50 v51 v52 v53 v54 v55 v56 v57 v58 v59 v60 v61 v62 v63 v9 : Value) (h : PJ W w X1 X2 P Q A0 n0 c0 A1 n1 c1 A2 n2 c2 B0 m0 k0 B1 m1 k1 B2 m2 k2 b0 b1 b2 b3 b4 b5 b6 b7 b8 b9 b10 b11 b12 b13 b14 b15 b16 b17 b18 b19 b20 b21 b22 b23 v42 v43 v44 v45 v46 v47 v48 v49 v50 v51 v52 v53 v54 v55 v56 v57 v58 v59 v60 v61 v62 v63 v9) : JInv W X1 X2 P Q A0 n0 c0 A1 n1 c1 A2 n2 c2 B0 m0 k0 B1 m1 k1 B2 m2 k2 a0 a1 Ad nD cd Ae nE ce #[b0, b1, b2, b3, b4, b5, b6, b7, b8, b9, b10, b11, b12, b13, b14, b15, b16, b17, b18, b19, b20, b21, b22, b23] { tmps := #[.string a0, .string a1, undef, undef, .bool false, .pointer (some ⟨X1, 0, none⟩), .slice Ad nD cd, .pointer (some ⟨X2, 0, none⟩), .slice Ae nE ce, v9, undef, undef, .bool true, .bool false, .tuple #[.agg #[.slice A0 n0 c0, .slice A1 n1 c1, .slice A2 n2 c2], .slice Ad nD cd], .string a0, .tuple #[.agg #[.slice A0 n0 c0, .slice A1 n1 c1, .slice A2 n2 c2], .slice Ad nD cd], .agg #[.slice A0 n0 c0, .slice A1 n1 c1, .slice A2 n2 c2], .slice Ad nD cd, .tuple #[.agg #[.slice B0 m0 k0, .slice B1 m1 k1, .slice B2 m2 k2], .slice Ae nE ce], .string a1, .tuple #[.agg #[.slice B0 m0 k0, .slice B1 m1 k1, .slice B2 m2 k2], .slice Ae nE ce], .agg #[.slice B0 m0 k0, .slice B1 m1 k1, .slice B2 m2 k2], .slice Ae nE ce, .string a0, .int .i64 (a0.size : Int), .bool false, .bool false, .string a1, .int .i64 (a1.size : Int), .bool false, .bool false, .bool false, .slice Ad nD cd, .int .i64 (nD : Int), .bool false, .bool false, .bool false, .slice Ae nE ce, .int .i64 (nE : Int), .bool false, .bool false, v42, v43, v44, v45, v46, v47, v48, v49, v50, v51, v52, v53, v54, v55, v56, v57, v58, v59, v60, v61, v62, v63, undef, undef, undef, undef, undef, undef, undef, undef, undef, undef, undef, undef, undef, undef, undef, undef, undef, undef, undef, undef, undef, undef, undef, undef, undef, undef, undef, undef, undef, undef, undef, undef, undef, undef, undef, undef, undef], defers := [] } w
/- that is it -/
theorem ja_reads {W V : World} {X : Nat} {v0 v1 v2 : Value} {P : SProg} (h : JA W V X v0 v1 v2 P) : ∃ A0 n0 c0 A1 n1 c1 A2 n2 c2, v0 = .slice A0 n0 c0 ∧ v1 = .slice A1 n1 c1 ∧ v2 = .slice A2 n2 c2 ∧ PR V P A0 n0 c0 A1 n1 c1 A2 n2 c2 := by
  obtain ⟨hx, hb, a0, a1, a2⟩ := h
  obtain ⟨A0, c0, rfl, b0, k0⟩ := a0.reads hb
  obtain ⟨A1, c1, rfl, b1, k1⟩ := a1.reads hb
  obtain ⟨A2, c2, rfl, b2, k2⟩ := a2.reads hb
  exact ⟨_, _, _, _, _, _, _, _, _, rfl, rfl, rfl, rfl, rfl, rfl, k0, k1, k2, b0, b1, b2⟩
set_option maxHeartbeats 16000000 in
set_option maxRecDepth 100000 in
theorem droguelaw06_ParseJoins.walk (a0 a1 : ByteArray) (w : World) (hG : Globs w) : Calls Tryz.prog 5 #[.string a0, .string a1] w fun e w' => e = .returned (.bool true) ∧ Below w.heap.size w w' := by
  obtain ⟨la, d1, d2, hlex, hok, hd0⟩ := lexF a0
  obtain ⟨lb, e1, e2, hlexb, hokb, he0⟩ := lexF a1
  have HP1 := Lib.hid (fun V (hV : Globs V) => parse_at a0 la d1 d2 V hV hlex hok)
  have HP2 := Lib.hid (fun V (hV : Globs V) => parse_at a1 lb e1 e2 V hV hlexb hokb)
  have HGa := Lib.hid (fun h => good_parse (d1 := d1) hd0 h)
  have HGb := Lib.hid (fun h => good_parse (d1 := e1) he0 h)
  have HOka := Lib.hid hok
  have HOkb := Lib.hid hokb
  have HG := Lib.hid hG
  generalize parseP la d1 d2 a0.size = R1 at HP1 HGa
  generalize parseP lb e1 e2 a1.size = R2 at HP2 HGb
  obtain ⟨P, D⟩ := R1
  obtain ⟨Q, E⟩ := R2
  simp only at HP1 HP2 HGa HGb
  clear hlex hok hd0 hlexb hokb he0 hG
  go_enter Tryz.func5, Tryz.ntmps5
  go_wp2_with fail
  refine (alive_calls w HG.out).mono ?_
  rintro e W0 ⟨rfl, hb0⟩
  have HB0 := Lib.hid hb0
  clear hb0
  go_wp2_with fail
  refine (HP1.out _ (HG.out.below HB0.out)).mono ?_
  rintro e W1 ⟨A0, n0, c0, A1, n1, c1, A2, n2, c2, Ad, cd, rfl, hv, hdg, hb⟩
  have HB1 := Lib.hid (below_alloc (below_step HB0.out hb) (.cells #[.slice A0 n0 c0, .slice A1 n1 c1, .slice A2 n2 c2] 27))
  have HX1 := Lib.hid (Blk.new W1 #[.slice A0 n0 c0, .slice A1 n1 c1, .slice A2 n2 c2] 27)
  have HV1 := Lib.hid hv
  clear hv hdg hb HP1 HB0
  go_wp2_with fail
  refine (HP2.out _ (HG.out.below HB1.out)).mono ?_
  rintro e W2 ⟨B0, m0, k0, B1, m1, k1, B2, m2, k2, Ae, ce, rfl, hv, hdg, hb⟩
  have hb2 := below_step (below_alloc (Below.refl W1.heap.size W1) (.cells #[.slice A0 n0 c0, .slice A1 n1 c1, .slice A2 n2 c2] 27)) hb
  have HB2 := Lib.hid (below_step HB1.out hb)
  have HX2 := Lib.hid (HX1.out.below hb)
  have HV2 := Lib.hid (HV1.out.bel hb2)
  have HU2 := Lib.hid hv
  clear hv hdg hb hb2 HP2 HB1 HX1 HV1
  go_upto_region 5 with fail
  refine code_at (fun V => Blk V W1.heap.size #[.slice A0 n0 c0, .slice A1 n1 c1, .slice A2 n2 c2] 27 ∧ Blk V W2.heap.size #[.slice B0 m0 k0, .slice B1 m1 k1, .slice B2 m2 k2] 27 ∧ Below W2.heap.size W2 V) ⟨HX2.out.alloc _, Blk.new _ _ _, below_alloc (Below.refl _ _) _⟩ ?_
  rintro W ⟨hx, hy, hb⟩
  obtain ⟨⟨x0, x1, x2⟩, -⟩ := hx.cells3
  obtain ⟨⟨y0, y1, y2⟩, -⟩ := hy.cells3
  have HBw := Lib.hid (below_step HB2.out hb)
  have HVw := Lib.hid (HV2.out.bel hb)
  have HUw := Lib.hid (HU2.out.bel hb)
  have HS6 : Hid (∀ V, Below W.heap.size W V → V.cell? ⟨W1.heap.size, 0, none⟩ = some (.slice A0 n0 c0) ∧ V.cell? ⟨W1.heap.size, 1, none⟩ = some (.slice A1 n1 c1) ∧ V.cell? ⟨W1.heap.size, 2, none⟩ = some (.slice A2 n2 c2) ∧ V.cell? ⟨W2.heap.size, 0, none⟩ = some (.slice B0 m0 k0) ∧ V.cell? ⟨W2.heap.size, 1, none⟩ = some (.slice B1 m1 k1) ∧ V.cell? ⟨W2.heap.size, 2, none⟩ = some (.slice B2 m2 k2)) := Lib.hid (fun V hV => by
    obtain ⟨⟨q0, q1, q2⟩, -⟩ := (hx.below hV).cells3
    obtain ⟨⟨r0, r1, r2⟩, -⟩ := (hy.below hV).cells3
    exact ⟨q0, q1, q2, r0, r1, r2⟩)
  clear hx hy hb HB2 HX2 HV2 HU2
  by_cases hla : 7000 < a0.size
  · have g1 : decide (7000 < a0.size) = true := decide_eq_true hla
    have g2 : decide ((7000 : Int) < (a0.size : Int)) = true := decide_eq_true (by omega)
    have g3 : decide ((a0.size : Int) > 7000) = true := decide_eq_true (by omega)
    clear hla
    go_wp2_with fail
    go_ret
    exact ⟨rfl, HBw.out⟩
  · have g1 : decide (7000 < a0.size) = false := decide_eq_false hla
    have g2 : decide ((7000 : Int) < (a0.size : Int)) = false := decide_eq_false (by omega)
    have g3 : decide ((a0.size : Int) > 7000) = false := decide_eq_false (by omega)
    have HLa := Lib.hid hla
    clear hla
    by_cases hlb : 7000 < a1.size
    · have s1 : decide (7000 < a1.size) = true := decide_eq_true hlb
      have s2 : decide ((7000 : Int) < (a1.size : Int)) = true := decide_eq_true (by omega)
      have s3 : decide ((a1.size : Int) > 7000) = true := decide_eq_true (by omega)
      clear hlb
      go_wp2_with fail
      go_ret
      exact ⟨rfl, HBw.out⟩
    · have s1 : decide (7000 < a1.size) = false := decide_eq_false hlb
      have s2 : decide ((7000 : Int) < (a1.size : Int)) = false := decide_eq_false (by omega)
      have s3 : decide ((a1.size : Int) > 7000) = false := decide_eq_false (by omega)
      have HLb := Lib.hid hlb
      clear hlb
      by_cases hD : 0 < D.length
      · have t1 : decide (0 < D.length) = true := decide_eq_true hD
        have t2 : decide ((0 : Int) < (D.length : Int)) = true := decide_eq_true (by omega)
        have t3 : decide ((D.length : Int) > 0) = true := decide_eq_true (by omega)
        clear hD
        go_wp2_with fail
        go_ret
        exact ⟨rfl, HBw.out⟩
      · have t1 : decide (0 < D.length) = false := decide_eq_false hD
        have t2 : decide ((0 : Int) < (D.length : Int)) = false := decide_eq_false (by omega)
        have t3 : decide ((D.length : Int) > 0) = false := decide_eq_false (by omega)
        have hDn : D = [] := List.length_eq_zero_iff.1 (by omega)
        by_cases hE : 0 < E.length
        · have v1 : decide (0 < E.length) = true := decide_eq_true hE
          have v2 : decide ((0 : Int) < (E.length : Int)) = true := decide_eq_true (by omega)
          have v3 : decide ((E.length : Int) > 0) = true := decide_eq_true (by omega)
          clear hE hD hDn
          go_wp2_with fail
          go_ret
          exact ⟨rfl, HBw.out⟩
        · have v1 : decide (0 < E.length) = false := decide_eq_false hE
          have v2 : decide ((0 : Int) < (E.length : Int)) = false := decide_eq_false (by omega)
          have v3 : decide ((E.length : Int) > 0) = false := decide_eq_false (by omega)
          have hEn : E = [] := List.length_eq_zero_iff.1 (by omega)
          obtain ⟨-, za, pa, fa⟩ := HGa.out hDn
          obtain ⟨-, zb, pb, fb⟩ := HGb.out hEn
          obtain ⟨lj, hlj, hokj, hmap⟩ := lex_join (a := a0) (b := a1) (by have := HLa.out; have := HLb.out; omega) za zb
          have hj := join_plain HOka.out HOkb.out hokj (fun t ht => (zb.like lb rfl t ht).2.2) pa pb hmap
          have HJ := Lib.hid hj
          have HFz : Hid ((n0 ≤ 200000 ∧ n1 ≤ 200000 ∧ n2 ≤ 200000 ∧ P.f0.length ≤ 200000 ∧ P.f1.length ≤ 200000 ∧ P.f2.length ≤ 200000) ∧ m0 ≤ 200000 ∧ m1 ≤ 200000 ∧ m2 ≤ 200000 ∧ Q.f0.length ≤ 200000 ∧ Q.f1.length ≤ 200000 ∧ Q.f2.length ≤ 200000) := Lib.hid (by
            rw [HVw.out.e0, HVw.out.e1, HVw.out.e2, HUw.out.e0, HUw.out.e1, HUw.out.e2]
            exact ⟨⟨fa.1.1, fa.2.1.1, fa.2.2.1, fa.1.1, fa.2.1.1, fa.2.2.1⟩, fb.1.1, fb.2.1.1, fb.2.2.1, fb.1.1, fb.2.1.1, fb.2.2.1⟩)
          have HFa := Lib.hid fa
          have HFb := Lib.hid fb
          have HP3 := Lib.hid (fun V (hV : Globs V) => parse_at (cutText a0 a1) lj 0 0 V hV hlj hokj)
          clear hj hlj hokj hmap za pa fa zb pb fb hD hE hDn hEn HGa HGb
          go_upto_region 7 with fail
          go_cut [9] from 42 to 64 (fun v9 V => ∃ (X : Nat) (v0 v1 v2 : Value), v9 = .pointer (some ⟨X, 0, none⟩) ∧ JA W V X v0 v1 v2 (comb P Q))
          case first =>
            /- the region: printed by genjoin.py -/
            refine wp_region_inv (JInv W W1.heap.size W2.heap.size P Q A0 n0 c0 A1 n1 c1 A2 n2 c2 B0 m0 k0 B1 m1 k1 B2 m2 k2 a0 a1 Ad D.length cd Ae E.length ce) 24 rfl (by kernel_rfl) ?init ?size ?step ?done
            case init => exact JInv.mk false false false false false false false false false false false false false false false false false false false false false false false false _ _ _ _ _ _ _ _ _ _ _ _ _ _ _ _ _ _ _ _ _ _ _ ⟨(below_drew (Below.refl _ _)), (by intro x; cases x), (by intro x; cases x), (by intro x; cases x), (by intro x; cases x), (by intro x; cases x), (by intro x; cases x), (by intro x; cases x), (by intro x; cases x), (by intro x; cases x), (by intro x; cases x), (by intro x; cases x), (by intro x; cases x), (by intro x; cases x), (by intro x; cases x), (by intro x; cases x), (by intro x; cases x), (by intro x; cases x), (by intro x; cases x), (by intro x; cases x), (by intro x; cases x), (by intro x; cases x), (by intro x; cases x), (by intro x; cases x), (by intro x; cases x), (by intro x; cases x), (by intro x; cases x), (by intro x; cases x), (by intro x; cases x), (by intro x; cases x)⟩
            case size =>
              intro l a w hI
              cases hI with
              | mk b0 b1 b2 b3 b4 b5 b6 b7 b8 b9 b10 b11 b12 b13 b14 b15 b16 b17 b18 b19 b20 b21 b22 b23 v42 v43 v44 v45 v46 v47 v48 v49 v50 v51 v52 v53 v54 v55 v56 v57 v58 v59 v60 v61 v62 v63 v9 h => rfl
            case step =>
              intro l a w hI i hi
              cases hI with
              | mk b0 b1 b2 b3 b4 b5 b6 b7 b8 b9 b10 b11 b12 b13 b14 b15 b16 b17 b18 b19 b20 b21 b22 b23 v42 v43 v44 v45 v46 v47 v48 v49 v50 v51 v52 v53 v54 v55 v56 v57 v58 v59 v60 v61 v62 v63 v9 h =>
              have hm : i ∈ [0, 1, 2, 3, 4, 5, 6, 7, 8, 9, 10, 11, 12, 13, 14, 15, 16, 17, 18, 19, 20, 21, 22, 23] := ready_lt (n := 24) rfl hi
              simp only [List.mem_cons, List.not_mem_nil, or_false] at hm
              rcases hm with rfl | rfl | rfl | rfl | rfl | rfl | rfl | rfl | rfl | rfl | rfl | rfl | rfl | rfl | rfl | rfl | rfl | rfl | rfl | rfl | rfl | rfl | rfl | rfl
              · have hd := ready_dep hi rfl
                have hbi : b0 = false := hd.1
                refine wpOp_step rfl (fun K hK0 => ?_)
                have hK := Lib.hid hK0
                clear hK0 hi hd
                go_simp
                refine hK.out _ _ ?_
                exact JInv.mk true b1 b2 b3 b4 b5 b6 b7 b8 b9 b10 b11 b12 b13 b14 b15 b16 b17 b18 b19 b20 b21 b22 b23 _ _ _ _ _ _ _ _ _ _ _ _ _ _ _ _ _ _ _ _ _ _ _ ⟨below_step h.bel (below_alloc (Below.refl _ _) _), fun _ => ⟨_, rfl⟩, h.fa0, h.la0, fun x y => (h.ra0 x y).below (below_alloc (Below.refl _ _) _), h.fb0, h.lb0, fun x => (h.rb0 x).below (below_alloc (Below.refl _ _) _), h.rc0, h.z1, h.fa1, h.la1, fun x y => (h.ra1 x y).below (below_alloc (Below.refl _ _) _), h.fb1, h.lb1, fun x => (h.rb1 x).below (below_alloc (Below.refl _ _) _), h.rc1, h.z2, h.fa2, h.la2, fun x y => (h.ra2 x y).below (below_alloc (Below.refl _ _) _), h.fb2, h.lb2, fun x => (h.rb2 x).below (below_alloc (Below.refl _ _) _), h.rc2, h.ag, fun x => (h.bx x).imp fun g y => ⟨y.1, y.2.1, fun z => (y.2.2 z).below (below_alloc (Below.refl _ _) _)⟩, fun x => (h.fin x).imp fun X y => y.imp fun u0 y => y.imp fun u1 y => y.imp fun u2 y => ⟨y.1, y.2.below (below_alloc (Below.refl _ _) _)⟩, h.c23, h.c24⟩
              · have hd := ready_dep hi rfl
                have hbi : b1 = false := hd.1
                refine wpOp_step rfl (fun K hK0 => ?_)
                have hK := Lib.hid hK0
                clear hK0 hi hd
                go_simp
                refine hK.out _ _ ?_
                exact JInv.mk b0 true b2 b3 b4 b5 b6 b7 b8 b9 b10 b11 b12 b13 b14 b15 b16 b17 b18 b19 b20 b21 b22 b23 _ _ _ _ _ _ _ _ _ _ _ _ _ _ _ _ _ _ _ _ _ _ _ ⟨h.bel, h.z0, fun _ => rfl, h.la0, h.ra0, h.fb0, h.lb0, h.rb0, h.rc0, h.z1, h.fa1, h.la1, h.ra1, h.fb1, h.lb1, h.rb1, h.rc1, h.z2, h.fa2, h.la2, h.ra2, h.fb2, h.lb2, h.rb2, h.rc2, h.ag, h.bx, h.fin, h.c23, h.c24⟩
              · have hd := ready_dep hi rfl
                have hbi : b2 = false := hd.1
                have d1 : b1 = true := by
                  have q := hd.2 0 _ rfl
                  exact q
                refine wpOp_step rfl (fun K hK0 => ?_)
                have hK := Lib.hid hK0
                clear hK0 hi hd
                obtain rfl := h.fa0 d1
                obtain ⟨x0, x1, x2, x3, x4, x5⟩ := HS6.out w h.bel
                go_simp
                refine hK.out _ _ ?_
                exact JInv.mk b0 b1 true b3 b4 b5 b6 b7 b8 b9 b10 b11 b12 b13 b14 b15 b16 b17 b18 b19 b20 b21 b22 b23 _ _ _ _ _ _ _ _ _ _ _ _ _ _ _ _ _ _ _ _ _ _ _ ⟨h.bel, h.z0, h.fa0, fun _ => rfl, h.ra0, h.fb0, h.lb0, h.rb0, h.rc0, h.z1, h.fa1, h.la1, h.ra1, h.fb1, h.lb1, h.rb1, h.rc1, h.z2, h.fa2, h.la2, h.ra2, h.fb2, h.lb2, h.rb2, h.rc2, h.ag, h.bx, h.fin, h.c23, h.c24⟩
              · have hd := ready_dep hi rfl
                have hbi : b3 = false := hd.1
                have d0 : b0 = true := by
                  have q := hd.2 0 _ rfl
                  exact q
                have d2 : b2 = true := by
                  have q := hd.2 1 _ rfl
                  exact q
                refine wpOp_step rfl (fun K hK0 => ?_)
                have hK := Lib.hid hK0
                clear hK0 hi hd
                obtain rfl := h.la0 d2
                obtain ⟨ao, rfl⟩ := h.z0 d0
                refine step_append_ar rfl (.tmp 42) (.tmp 44) 23 rfl k77 77 _ 56 Tryz.underlying23 infoStruct rfl (by decide) (v := .slice ao 0 0) (xs := []) rfl h.bel ⟨[], Reps.none _ _, .inl ⟨ao, rfl, rfl⟩⟩ A0 n0 c0 P.f0 rfl HVw.out.k0 (by have := HFz.out; simp only [List.length_nil]; omega) (by have := HFz.out; simp only [List.length_nil]; omega) ?_
                intro Ar cr wr hcr hAr hbl hst
                refine hK.out _ _ ?_
                exact JInv.mk b0 b1 b2 true b4 b5 b6 b7 b8 b9 b10 b11 b12 b13 b14 b15 b16 b17 b18 b19 b20 b21 b22 b23 _ _ _ _ _ _ _ _ _ _ _ _ _ _ _ _ _ _ _ _ _ _ _ ⟨hbl, h.z0, h.fa0, h.la0, fun _ _ => hAr, h.fb0, h.lb0, fun x => absurd (h.rc0 x) (by rw [hbi]; decide), fun _ => rfl, h.z1, h.fa1, h.la1, fun x y => (h.ra1 x y).stab hst (by decide), h.fb1, h.lb1, fun x => (h.rb1 x).stab hst (by decide), h.rc1, h.z2, h.fa2, h.la2, fun x y => (h.ra2 x y).stab hst (by decide), h.fb2, h.lb2, fun x => (h.rb2 x).stab hst (by decide), h.rc2, h.ag, fun x => (h.bx x).imp fun g y => ⟨y.1, y.2.1, fun z => (y.2.2 z).stab hst (by decide)⟩, fun x => absurd (h.rc0 ((h.ag (h.c23 x)).2.1)) (by rw [hbi]; decide), h.c23, h.c24⟩
              · have hd := ready_dep hi rfl
                have hbi : b4 = false := hd.1
                refine wpOp_step rfl (fun K hK0 => ?_)
                have hK := Lib.hid hK0
                clear hK0 hi hd
                go_simp
                refine hK.out _ _ ?_
                exact JInv.mk b0 b1 b2 b3 true b5 b6 b7 b8 b9 b10 b11 b12 b13 b14 b15 b16 b17 b18 b19 b20 b21 b22 b23 _ _ _ _ _ _ _ _ _ _ _ _ _ _ _ _ _ _ _ _ _ _ _ ⟨h.bel, h.z0, h.fa0, h.la0, h.ra0, fun _ => rfl, h.lb0, h.rb0, h.rc0, h.z1, h.fa1, h.la1, h.ra1, h.fb1, h.lb1, h.rb1, h.rc1, h.z2, h.fa2, h.la2, h.ra2, h.fb2, h.lb2, h.rb2, h.rc2, h.ag, h.bx, h.fin, h.c23, h.c24⟩
              · have hd := ready_dep hi rfl
                have hbi : b5 = false := hd.1
                have d4 : b4 = true := by
                  have q := hd.2 0 _ rfl
                  exact q
                refine wpOp_step rfl (fun K hK0 => ?_)
                have hK := Lib.hid hK0
                clear hK0 hi hd
                obtain rfl := h.fb0 d4
                obtain ⟨x0, x1, x2, x3, x4, x5⟩ := HS6.out w h.bel
                go_simp
                refine hK.out _ _ ?_
                exact JInv.mk b0 b1 b2 b3 b4 true b6 b7 b8 b9 b10 b11 b12 b13 b14 b15 b16 b17 b18 b19 b20 b21 b22 b23 _ _ _ _ _ _ _ _ _ _ _ _ _ _ _ _ _ _ _ _ _ _ _ ⟨h.bel, h.z0, h.fa0, h.la0, h.ra0, h.fb0, fun _ => rfl, h.rb0, h.rc0, h.z1, h.fa1, h.la1, h.ra1, h.fb1, h.lb1, h.rb1, h.rc1, h.z2, h.fa2, h.la2, h.ra2, h.fb2, h.lb2, h.rb2, h.rc2, h.ag, h.bx, h.fin, h.c23, h.c24⟩
              · have hd := ready_dep hi rfl
                have hbi : b6 = false := hd.1
                have d3 : b3 = true := by
                  have q := hd.2 0 _ rfl
                  exact q
                have d5 : b5 = true := by
                  have q := hd.2 1 _ rfl
                  exact q
                refine wpOp_step rfl (fun K hK0 => ?_)
                have hK := Lib.hid hK0
                clear hK0 hi hd
                obtain rfl := h.lb0 d5
                have har := h.ra0 d3 hbi
                refine step_append_ar rfl (.tmp 45) (.tmp 47) 23 rfl k77 77 _ 56 Tryz.underlying23 infoStruct rfl (by decide) (v := v45) (xs := P.f0) rfl h.bel har B0 m0 k0 Q.f0 rfl HUw.out.k0 (by have := HFz.out; omega) (by have := HFz.out; omega) ?_
                intro Ar cr wr hcr hAr hbl hst
                refine hK.out _ _ ?_
                exact JInv.mk b0 b1 b2 b3 b4 b5 true b7 b8 b9 b10 b11 b12 b13 b14 b15 b16 b17 b18 b19 b20 b21 b22 b23 _ _ _ _ _ _ _ _ _ _ _ _ _ _ _ _ _ _ _ _ _ _ _ ⟨hbl, h.z0, h.fa0, h.la0, fun _ x => (by cases x), h.fb0, h.lb0, fun _ => hAr, fun _ => d3, h.z1, h.fa1, h.la1, fun x y => (h.ra1 x y).stab hst (by decide), h.fb1, h.lb1, fun x => (h.rb1 x).stab hst (by decide), h.rc1, h.z2, h.fa2, h.la2, fun x y => (h.ra2 x y).stab hst (by decide), h.fb2, h.lb2, fun x => (h.rb2 x).stab hst (by decide), h.rc2, fun x => absurd ((h.ag x).2.1) (by rw [hbi]; decide), fun x => (h.bx x).imp fun g y => ⟨y.1, y.2.1, fun z => (y.2.2 z).stab hst (by decide)⟩, fun x => absurd ((h.ag (h.c23 x)).2.1) (by rw [hbi]; decide), h.c23, h.c24⟩
              · have hd := ready_dep hi rfl
                have hbi : b7 = false := hd.1
                refine wpOp_step rfl (fun K hK0 => ?_)
                have hK := Lib.hid hK0
                clear hK0 hi hd
                go_simp
                refine hK.out _ _ ?_
                exact JInv.mk b0 b1 b2 b3 b4 b5 b6 true b8 b9 b10 b11 b12 b13 b14 b15 b16 b17 b18 b19 b20 b21 b22 b23 _ _ _ _ _ _ _ _ _ _ _ _ _ _ _ _ _ _ _ _ _ _ _ ⟨below_step h.bel (below_alloc (Below.refl _ _) _), h.z0, h.fa0, h.la0, fun x y => (h.ra0 x y).below (below_alloc (Below.refl _ _) _), h.fb0, h.lb0, fun x => (h.rb0 x).below (below_alloc (Below.refl _ _) _), h.rc0, fun _ => ⟨_, rfl⟩, h.fa1, h.la1, fun x y => (h.ra1 x y).below (below_alloc (Below.refl _ _) _), h.fb1, h.lb1, fun x => (h.rb1 x).below (below_alloc (Below.refl _ _) _), h.rc1, h.z2, h.fa2, h.la2, fun x y => (h.ra2 x y).below (below_alloc (Below.refl _ _) _), h.fb2, h.lb2, fun x => (h.rb2 x).below (below_alloc (Below.refl _ _) _), h.rc2, h.ag, fun x => (h.bx x).imp fun g y => ⟨y.1, y.2.1, fun z => (y.2.2 z).below (below_alloc (Below.refl _ _) _)⟩, fun x => (h.fin x).imp fun X y => y.imp fun u0 y => y.imp fun u1 y => y.imp fun u2 y => ⟨y.1, y.2.below (below_alloc (Below.refl _ _) _)⟩, h.c23, h.c24⟩
              · have hd := ready_dep hi rfl
                have hbi : b8 = false := hd.1
                refine wpOp_step rfl (fun K hK0 => ?_)
                have hK := Lib.hid hK0
                clear hK0 hi hd
                go_simp
                refine hK.out _ _ ?_
                exact JInv.mk b0 b1 b2 b3 b4 b5 b6 b7 true b9 b10 b11 b12 b13 b14 b15 b16 b17 b18 b19 b20 b21 b22 b23 _ _ _ _ _ _ _ _ _ _ _ _ _ _ _ _ _ _ _ _ _ _ _ ⟨h.bel, h.z0, h.fa0, h.la0, h.ra0, h.fb0, h.lb0, h.rb0, h.rc0, h.z1, fun _ => rfl, h.la1, h.ra1, h.fb1, h.lb1, h.rb1, h.rc1, h.z2, h.fa2, h.la2, h.ra2, h.fb2, h.lb2, h.rb2, h.rc2, h.ag, h.bx, h.fin, h.c23, h.c24⟩
              · have hd := ready_dep hi rfl
                have hbi : b9 = false := hd.1
                have d8 : b8 = true := by
                  have q := hd.2 0 _ rfl
                  exact q
                refine wpOp_step rfl (fun K hK0 => ?_)
                have hK := Lib.hid hK0
                clear hK0 hi hd
                obtain rfl := h.fa1 d8
                obtain ⟨x0, x1, x2, x3, x4, x5⟩ := HS6.out w h.bel
                go_simp
                refine hK.out _ _ ?_
                exact JInv.mk b0 b1 b2 b3 b4 b5 b6 b7 b8 true b10 b11 b12 b13 b14 b15 b16 b17 b18 b19 b20 b21 b22 b23 _ _ _ _ _ _ _ _ _ _ _ _ _ _ _ _ _ _ _ _ _ _ _ ⟨h.bel, h.z0, h.fa0, h.la0, h.ra0, h.fb0, h.lb0, h.rb0, h.rc0, h.z1, h.fa1, fun _ => rfl, h.ra1, h.fb1, h.lb1, h.rb1, h.rc1, h.z2, h.fa2, h.la2, h.ra2, h.fb2, h.lb2, h.rb2, h.rc2, h.ag, h.bx, h.fin, h.c23, h.c24⟩
              · have hd := ready_dep hi rfl
                have hbi : b10 = false := hd.1
                have d7 : b7 = true := by
                  have q := hd.2 0 _ rfl
                  exact q
                have d9 : b9 = true := by
                  have q := hd.2 1 _ rfl
                  exact q
                refine wpOp_step rfl (fun K hK0 => ?_)
                have hK := Lib.hid hK0
                clear hK0 hi hd
                obtain rfl := h.la1 d9
                obtain ⟨ao, rfl⟩ := h.z1 d7
                refine step_append_ar rfl (.tmp 49) (.tmp 51) 24 rfl k80 80 _ 48 Tryz.underlying24 infoEnum rfl (by decide) (v := .slice ao 0 0) (xs := []) rfl h.bel ⟨[], Reps.none _ _, .inl ⟨ao, rfl, rfl⟩⟩ A1 n1 c1 P.f1 rfl HVw.out.k1 (by have := HFz.out; simp only [List.length_nil]; omega) (by have := HFz.out; simp only [List.length_nil]; omega) ?_
                intro Ar cr wr hcr hAr hbl hst
                refine hK.out _ _ ?_
                exact JInv.mk b0 b1 b2 b3 b4 b5 b6 b7 b8 b9 true b11 b12 b13 b14 b15 b16 b17 b18 b19 b20 b21 b22 b23 _ _ _ _ _ _ _ _ _ _ _ _ _ _ _ _ _ _ _ _ _ _ _ ⟨hbl, h.z0, h.fa0, h.la0, fun x y => (h.ra0 x y).stab hst (by decide), h.fb0, h.lb0, fun x => (h.rb0 x).stab hst (by decide), h.rc0, h.z1, h.fa1, h.la1, fun _ _ => hAr, h.fb1, h.lb1, fun x => absurd (h.rc1 x) (by rw [hbi]; decide), fun _ => rfl, h.z2, h.fa2, h.la2, fun x y => (h.ra2 x y).stab hst (by decide), h.fb2, h.lb2, fun x => (h.rb2 x).stab hst (by decide), h.rc2, h.ag, fun x => (h.bx x).imp fun g y => ⟨y.1, y.2.1, fun z => (y.2.2 z).stab hst (by decide)⟩, fun x => absurd (h.rc1 ((h.ag (h.c23 x)).2.2.1)) (by rw [hbi]; decide), h.c23, h.c24⟩
              · have hd := ready_dep hi rfl
                have hbi : b11 = false := hd.1
                refine wpOp_step rfl (fun K hK0 => ?_)
                have hK := Lib.hid hK0
                clear hK0 hi hd
                go_simp
                refine hK.out _ _ ?_
                exact JInv.mk b0 b1 b2 b3 b4 b5 b6 b7 b8 b9 b10 true b12 b13 b14 b15 b16 b17 b18 b19 b20 b21 b22 b23 _ _ _ _ _ _ _ _ _ _ _ _ _ _ _ _ _ _ _ _ _ _ _ ⟨h.bel, h.z0, h.fa0, h.la0, h.ra0, h.fb0, h.lb0, h.rb0, h.rc0, h.z1, h.fa1, h.la1, h.ra1, fun _ => rfl, h.lb1, h.rb1, h.rc1, h.z2, h.fa2, h.la2, h.ra2, h.fb2, h.lb2, h.rb2, h.rc2, h.ag, h.bx, h.fin, h.c23, h.c24⟩
              · have hd := ready_dep hi rfl
                have hbi : b12 = false := hd.1
                have d11 : b11 = true := by
                  have q := hd.2 0 _ rfl
                  exact q
                refine wpOp_step rfl (fun K hK0 => ?_)
                have hK := Lib.hid hK0
                clear hK0 hi hd
                obtain rfl := h.fb1 d11
                obtain ⟨x0, x1, x2, x3, x4, x5⟩ := HS6.out w h.bel
                go_simp
                refine hK.out _ _ ?_
                exact JInv.mk b0 b1 b2 b3 b4 b5 b6 b7 b8 b9 b10 b11 true b13 b14 b15 b16 b17 b18 b19 b20 b21 b22 b23 _ _ _ _ _ _ _ _ _ _ _ _ _ _ _ _ _ _ _ _ _ _ _ ⟨h.bel, h.z0, h.fa0, h.la0, h.ra0, h.fb0, h.lb0, h.rb0, h.rc0, h.z1, h.fa1, h.la1, h.ra1, h.fb1, fun _ => rfl, h.rb1, h.rc1, h.z2, h.fa2, h.la2, h.ra2, h.fb2, h.lb2, h.rb2, h.rc2, h.ag, h.bx, h.fin, h.c23, h.c24⟩
              · have hd := ready_dep hi rfl
                have hbi : b13 = false := hd.1
                have d10 : b10 = true := by
                  have q := hd.2 0 _ rfl
                  exact q
                have d12 : b12 = true := by
                  have q := hd.2 1 _ rfl
                  exact q
                refine wpOp_step rfl (fun K hK0 => ?_)
                have hK := Lib.hid hK0
                clear hK0 hi hd
                obtain rfl := h.lb1 d12
                have har := h.ra1 d10 hbi
                refine step_append_ar rfl (.tmp 52) (.tmp 54) 24 rfl k80 80 _ 48 Tryz.underlying24 infoEnum rfl (by decide) (v := v52) (xs := P.f1) rfl h.bel har B1 m1 k1 Q.f1 rfl HUw.out.k1 (by have := HFz.out; omega) (by have := HFz.out; omega) ?_
                intro Ar cr wr hcr hAr hbl hst
                refine hK.out _ _ ?_
                exact JInv.mk b0 b1 b2 b3 b4 b5 b6 b7 b8 b9 b10 b11 b12 true b14 b15 b16 b17 b18 b19 b20 b21 b22 b23 _ _ _ _ _ _ _ _ _ _ _ _ _ _ _ _ _ _ _ _ _ _ _ ⟨hbl, h.z0, h.fa0, h.la0, fun x y => (h.ra0 x y).stab hst (by decide), h.fb0, h.lb0, fun x => (h.rb0 x).stab hst (by decide), h.rc0, h.z1, h.fa1, h.la1, fun _ x => (by cases x), h.fb1, h.lb1, fun _ => hAr, fun _ => d10, h.z2, h.fa2, h.la2, fun x y => (h.ra2 x y).stab hst (by decide), h.fb2, h.lb2, fun x => (h.rb2 x).stab hst (by decide), h.rc2, fun x => absurd ((h.ag x).2.2.1) (by rw [hbi]; decide), fun x => (h.bx x).imp fun g y => ⟨y.1, y.2.1, fun z => (y.2.2 z).stab hst (by decide)⟩, fun x => absurd ((h.ag (h.c23 x)).2.2.1) (by rw [hbi]; decide), h.c23, h.c24⟩
              · have hd := ready_dep hi rfl
                have hbi : b14 = false := hd.1
                refine wpOp_step rfl (fun K hK0 => ?_)
                have hK := Lib.hid hK0
                clear hK0 hi hd
                go_simp
                refine hK.out _ _ ?_
                exact JInv.mk b0 b1 b2 b3 b4 b5 b6 b7 b8 b9 b10 b11 b12 b13 true b15 b16 b17 b18 b19 b20 b21 b22 b23 _ _ _ _ _ _ _ _ _ _ _ _ _ _ _ _ _ _ _ _ _ _ _ ⟨below_step h.bel (below_alloc (Below.refl _ _) _), h.z0, h.fa0, h.la0, fun x y => (h.ra0 x y).below (below_alloc (Below.refl _ _) _), h.fb0, h.lb0, fun x => (h.rb0 x).below (below_alloc (Below.refl _ _) _), h.rc0, h.z1, h.fa1, h.la1, fun x y => (h.ra1 x y).below (below_alloc (Below.refl _ _) _), h.fb1, h.lb1, fun x => (h.rb1 x).below (below_alloc (Below.refl _ _) _), h.rc1, fun _ => ⟨_, rfl⟩, h.fa2, h.la2, fun x y => (h.ra2 x y).below (below_alloc (Below.refl _ _) _), h.fb2, h.lb2, fun x => (h.rb2 x).below (below_alloc (Below.refl _ _) _), h.rc2, h.ag, fun x => (h.bx x).imp fun g y => ⟨y.1, y.2.1, fun z => (y.2.2 z).below (below_alloc (Below.refl _ _) _)⟩, fun x => (h.fin x).imp fun X y => y.imp fun u0 y => y.imp fun u1 y => y.imp fun u2 y => ⟨y.1, y.2.below (below_alloc (Below.refl _ _) _)⟩, h.c23, h.c24⟩
              · have hd := ready_dep hi rfl
                have hbi : b15 = false := hd.1
                refine wpOp_step rfl (fun K hK0 => ?_)
                have hK := Lib.hid hK0
                clear hK0 hi hd
                go_simp
                refine hK.out _ _ ?_
                exact JInv.mk b0 b1 b2 b3 b4 b5 b6 b7 b8 b9 b10 b11 b12 b13 b14 true b16 b17 b18 b19 b20 b21 b22 b23 _ _ _ _ _ _ _ _ _ _ _ _ _ _ _ _ _ _ _ _ _ _ _ ⟨h.bel, h.z0, h.fa0, h.la0, h.ra0, h.fb0, h.lb0, h.rb0, h.rc0, h.z1, h.fa1, h.la1, h.ra1, h.fb1, h.lb1, h.rb1, h.rc1, h.z2, fun _ => rfl, h.la2, h.ra2, h.fb2, h.lb2, h.rb2, h.rc2, h.ag, h.bx, h.fin, h.c23, h.c24⟩
              · have hd := ready_dep hi rfl
                have hbi : b16 = false := hd.1
                have d15 : b15 = true := by
                  have q := hd.2 0 _ rfl
                  exact q
                refine wpOp_step rfl (fun K hK0 => ?_)
                have hK := Lib.hid hK0
                clear hK0 hi hd
                obtain rfl := h.fa2 d15
                obtain ⟨x0, x1, x2, x3, x4, x5⟩ := HS6.out w h.bel
                go_simp
                refine hK.out _ _ ?_
                exact JInv.mk b0 b1 b2 b3 b4 b5 b6 b7 b8 b9 b10 b11 b12 b13 b14 b15 true b17 b18 b19 b20 b21 b22 b23 _ _ _ _ _ _ _ _ _ _ _ _ _ _ _ _ _ _ _ _ _ _ _ ⟨h.bel, h.z0, h.fa0, h.la0, h.ra0, h.fb0, h.lb0, h.rb0, h.rc0, h.z1, h.fa1, h.la1, h.ra1, h.fb1, h.lb1, h.rb1, h.rc1, h.z2, h.fa2, fun _ => rfl, h.ra2, h.fb2, h.lb2, h.rb2, h.rc2, h.ag, h.bx, h.fin, h.c23, h.c24⟩
              · have hd := ready_dep hi rfl
                have hbi : b17 = false := hd.1
                have d14 : b14 = true := by
                  have q := hd.2 0 _ rfl
                  exact q
                have d16 : b16 = true := by
                  have q := hd.2 1 _ rfl
                  exact q
                refine wpOp_step rfl (fun K hK0 => ?_)
                have hK := Lib.hid hK0
                clear hK0 hi hd
                obtain rfl := h.la2 d16
                obtain ⟨ao, rfl⟩ := h.z2 d14
                refine step_append_ar rfl (.tmp 56) (.tmp 58) 25 rfl k63 63 _ 112 Tryz.underlying25 infoFunc rfl (by decide) (v := .slice ao 0 0) (xs := []) rfl h.bel ⟨[], Reps.none _ _, .inl ⟨ao, rfl, rfl⟩⟩ A2 n2 c2 P.f2 rfl HVw.out.k2 (by have := HFz.out; simp only [List.length_nil]; omega) (by have := HFz.out; simp only [List.length_nil]; omega) ?_
                intro Ar cr wr hcr hAr hbl hst
                refine hK.out _ _ ?_
                exact JInv.mk b0 b1 b2 b3 b4 b5 b6 b7 b8 b9 b10 b11 b12 b13 b14 b15 b16 true b18 b19 b20 b21 b22 b23 _ _ _ _ _ _ _ _ _ _ _ _ _ _ _ _ _ _ _ _ _ _ _ ⟨hbl, h.z0, h.fa0, h.la0, fun x y => (h.ra0 x y).stab hst (by decide), h.fb0, h.lb0, fun x => (h.rb0 x).stab hst (by decide), h.rc0, h.z1, h.fa1, h.la1, fun x y => (h.ra1 x y).stab hst (by decide), h.fb1, h.lb1, fun x => (h.rb1 x).stab hst (by decide), h.rc1, h.z2, h.fa2, h.la2, fun _ _ => hAr, h.fb2, h.lb2, fun x => absurd (h.rc2 x) (by rw [hbi]; decide), fun _ => rfl, h.ag, fun x => (h.bx x).imp fun g y => ⟨y.1, y.2.1, fun z => (y.2.2 z).stab hst (by decide)⟩, fun x => absurd (h.rc2 ((h.ag (h.c23 x)).2.2.2)) (by rw [hbi]; decide), h.c23, h.c24⟩
              · have hd := ready_dep hi rfl
                have hbi : b18 = false := hd.1
                refine wpOp_step rfl (fun K hK0 => ?_)
                have hK := Lib.hid hK0
                clear hK0 hi hd
                go_simp
                refine hK.out _ _ ?_
                exact JInv.mk b0 b1 b2 b3 b4 b5 b6 b7 b8 b9 b10 b11 b12 b13 b14 b15 b16 b17 true b19 b20 b21 b22 b23 _ _ _ _ _ _ _ _ _ _ _ _ _ _ _ _ _ _ _ _ _ _ _ ⟨h.bel, h.z0, h.fa0, h.la0, h.ra0, h.fb0, h.lb0, h.rb0, h.rc0, h.z1, h.fa1, h.la1, h.ra1, h.fb1, h.lb1, h.rb1, h.rc1, h.z2, h.fa2, h.la2, h.ra2, fun _ => rfl, h.lb2, h.rb2, h.rc2, h.ag, h.bx, h.fin, h.c23, h.c24⟩
              · have hd := ready_dep hi rfl
                have hbi : b19 = false := hd.1
                have d18 : b18 = true := by
                  have q := hd.2 0 _ rfl
                  exact q
                refine wpOp_step rfl (fun K hK0 => ?_)
                have hK := Lib.hid hK0
                clear hK0 hi hd
                obtain rfl := h.fb2 d18
                obtain ⟨x0, x1, x2, x3, x4, x5⟩ := HS6.out w h.bel
                go_simp
                refine hK.out _ _ ?_
                exact JInv.mk b0 b1 b2 b3 b4 b5 b6 b7 b8 b9 b10 b11 b12 b13 b14 b15 b16 b17 b18 true b20 b21 b22 b23 _ _ _ _ _ _ _ _ _ _ _ _ _ _ _ _ _ _ _ _ _ _ _ ⟨h.bel, h.z0, h.fa0, h.la0, h.ra0, h.fb0, h.lb0, h.rb0, h.rc0, h.z1, h.fa1, h.la1, h.ra1, h.fb1, h.lb1, h.rb1, h.rc1, h.z2, h.fa2, h.la2, h.ra2, h.fb2, fun _ => rfl, h.rb2, h.rc2, h.ag, h.bx, h.fin, h.c23, h.c24⟩
              · have hd := ready_dep hi rfl
                have hbi : b20 = false := hd.1
                have d17 : b17 = true := by
                  have q := hd.2 0 _ rfl
                  exact q
                have d19 : b19 = true := by
                  have q := hd.2 1 _ rfl
                  exact q
                refine wpOp_step rfl (fun K hK0 => ?_)
                have hK := Lib.hid hK0
                clear hK0 hi hd
                obtain rfl := h.lb2 d19
                have har := h.ra2 d17 hbi
                refine step_append_ar rfl (.tmp 59) (.tmp 61) 25 rfl k63 63 _ 112 Tryz.underlying25 infoFunc rfl (by decide) (v := v59) (xs := P.f2) rfl h.bel har B2 m2 k2 Q.f2 rfl HUw.out.k2 (by have := HFz.out; omega) (by have := HFz.out; omega) ?_
                intro Ar cr wr hcr hAr hbl hst
                refine hK.out _ _ ?_
                exact JInv.mk b0 b1 b2 b3 b4 b5 b6 b7 b8 b9 b10 b11 b12 b13 b14 b15 b16 b17 b18 b19 true b21 b22 b23 _ _ _ _ _ _ _ _ _ _ _ _ _ _ _ _ _ _ _ _ _ _ _ ⟨hbl, h.z0, h.fa0, h.la0, fun x y => (h.ra0 x y).stab hst (by decide), h.fb0, h.lb0, fun x => (h.rb0 x).stab hst (by decide), h.rc0, h.z1, h.fa1, h.la1, fun x y => (h.ra1 x y).stab hst (by decide), h.fb1, h.lb1, fun x => (h.rb1 x).stab hst (by decide), h.rc1, h.z2, h.fa2, h.la2, fun _ x => (by cases x), h.fb2, h.lb2, fun _ => hAr, fun _ => d17, fun x => absurd ((h.ag x).2.2.2) (by rw [hbi]; decide), fun x => (h.bx x).imp fun g y => ⟨y.1, y.2.1, fun z => (y.2.2 z).stab hst (by decide)⟩, fun x => absurd ((h.ag (h.c23 x)).2.2.2) (by rw [hbi]; decide), h.c23, h.c24⟩
              · have hd := ready_dep hi rfl
                have hbi : b21 = false := hd.1
                have d6 : b6 = true := by
                  have q := hd.2 0 _ rfl
                  exact q
                have d13 : b13 = true := by
                  have q := hd.2 1 _ rfl
                  exact q
                have d20 : b20 = true := by
                  have q := hd.2 2 _ rfl
                  exact q
                refine wpOp_step rfl (fun K hK0 => ?_)
                have hK := Lib.hid hK0
                clear hK0 hi hd
                obtain ⟨e0, z0, q0, hq0⟩ := (h.rb0 d6).shape
                subst hq0
                obtain ⟨e1, z1, q1, hq1⟩ := (h.rb1 d13).shape
                subst hq1
                obtain ⟨e2, z2, q2, hq2⟩ := (h.rb2 d20).shape
                subst hq2
                go_simp
                refine hK.out _ _ ?_
                exact JInv.mk b0 b1 b2 b3 b4 b5 b6 b7 b8 b9 b10 b11 b12 b13 b14 b15 b16 b17 b18 b19 b20 true b22 b23 _ _ _ _ _ _ _ _ _ _ _ _ _ _ _ _ _ _ _ _ _ _ _ ⟨h.bel, h.z0, h.fa0, h.la0, h.ra0, h.fb0, h.lb0, h.rb0, h.rc0, h.z1, h.fa1, h.la1, h.ra1, h.fb1, h.lb1, h.rb1, h.rc1, h.z2, h.fa2, h.la2, h.ra2, h.fb2, h.lb2, h.rb2, h.rc2, fun _ => ⟨rfl, d6, d13, d20⟩, h.bx, h.fin, fun _ => rfl, h.c24⟩
              · have hd := ready_dep hi rfl
                have hbi : b22 = false := hd.1
                refine wpOp_step rfl (fun K hK0 => ?_)
                have hK := Lib.hid hK0
                clear hK0 hi hd
                go_simp
                refine hK.out _ _ ?_
                exact JInv.mk b0 b1 b2 b3 b4 b5 b6 b7 b8 b9 b10 b11 b12 b13 b14 b15 b16 b17 b18 b19 b20 b21 true b23 _ _ _ _ _ _ _ _ _ _ _ _ _ _ _ _ _ _ _ _ _ _ _ ⟨below_step h.bel (below_alloc (Below.refl _ _) _), h.z0, h.fa0, h.la0, fun x y => (h.ra0 x y).below (below_alloc (Below.refl _ _) _), h.fb0, h.lb0, fun x => (h.rb0 x).below (below_alloc (Below.refl _ _) _), h.rc0, h.z1, h.fa1, h.la1, fun x y => (h.ra1 x y).below (below_alloc (Below.refl _ _) _), h.fb1, h.lb1, fun x => (h.rb1 x).below (below_alloc (Below.refl _ _) _), h.rc1, h.z2, h.fa2, h.la2, fun x y => (h.ra2 x y).below (below_alloc (Below.refl _ _) _), h.fb2, h.lb2, fun x => (h.rb2 x).below (below_alloc (Below.refl _ _) _), h.rc2, h.ag, fun _ => ⟨_, rfl, h.bel.size, fun _ => Blk.new _ _ _⟩, fun x => absurd (h.c24 x) (by rw [hbi]; decide), h.c23, fun _ => rfl⟩
              · have hd := ready_dep hi rfl
                have hbi : b23 = false := hd.1
                have d22 : b22 = true := by
                  have q := hd.2 0 _ rfl
                  exact q
                have d21 : b21 = true := by
                  have q := hd.2 1 _ rfl
                  exact q
                refine wpOp_step rfl (fun K hK0 => ?_)
                have hK := Lib.hid hK0
                clear hK0 hi hd
                obtain ⟨rfl, g6, g13, g20⟩ := h.ag d21
                obtain ⟨g, rfl, hgW, hbx⟩ := h.bx d22
                have hbk := hbx hbi
                obtain ⟨⟨x0, x1, x2⟩, f0, f1, f2⟩ := hbk.cells3
                have r0 := h.rb0 g6
                have r1 := h.rb1 g13
                have r2 := h.rb2 g20
                obtain ⟨e0, z0, q0, hq0⟩ := r0.shape
                subst hq0
                obtain ⟨e1, z1, q1, hq1⟩ := r1.shape
                subst hq1
                obtain ⟨e2, z2, q2, hq2⟩ := r2.shape
                subst hq2
                have hja := ja_store (P := comb P Q) h.bel hbk hgW r0 r1 r2
                go_simp
                refine hK.out _ _ ?_
                exact JInv.mk b0 b1 b2 b3 b4 b5 b6 b7 b8 b9 b10 b11 b12 b13 b14 b15 b16 b17 b18 b19 b20 b21 b22 true _ _ _ _ _ _ _ _ _ _ _ _ _ _ _ _ _ _ _ _ _ _ _ ⟨hja.2.1, h.z0, h.fa0, h.la0, fun x y => absurd (g6) (by rw [y]; decide), h.fb0, h.lb0, fun _ => hja.2.2.1, h.rc0, h.z1, h.fa1, h.la1, fun x y => absurd (g13) (by rw [y]; decide), h.fb1, h.lb1, fun _ => hja.2.2.2.1, h.rc1, h.z2, h.fa2, h.la2, fun x y => absurd (g20) (by rw [y]; decide), h.fb2, h.lb2, fun _ => hja.2.2.2.2, h.rc2, h.ag, fun _ => ⟨g, rfl, hgW, fun x => (by cases x)⟩, fun _ => ⟨g, _, _, _, rfl, hja⟩, fun _ => d21, fun _ => d22⟩
            case done =>
              intro l a w hI hr
              cases hI with
              | mk b0 b1 b2 b3 b4 b5 b6 b7 b8 b9 b10 b11 b12 b13 b14 b15 b16 b17 b18 b19 b20 b21 b22 b23 v42 v43 v44 v45 v46 v47 v48 v49 v50 v51 v52 v53 v54 v55 v56 v57 v58 v59 v60 v61 v62 v63 v9 h =>
              obtain rfl : b0 = true := all_done (i := 0) hr rfl rfl
              obtain rfl : b1 = true := all_done (i := 1) hr rfl rfl
              obtain rfl : b2 = true := all_done (i := 2) hr rfl rfl
              obtain rfl : b3 = true := all_done (i := 3) hr rfl rfl
              obtain rfl : b4 = true := all_done (i := 4) hr rfl rfl
              obtain rfl : b5 = true := all_done (i := 5) hr rfl rfl
              obtain rfl : b6 = true := all_done (i := 6) hr rfl rfl
              obtain rfl : b7 = true := all_done (i := 7) hr rfl rfl
              obtain rfl : b8 = true := all_done (i := 8) hr rfl rfl
              obtain rfl : b9 = true := all_done (i := 9) hr rfl rfl
              obtain rfl : b10 = true := all_done (i := 10) hr rfl rfl
              obtain rfl : b11 = true := all_done (i := 11) hr rfl rfl
              obtain rfl : b12 = true := all_done (i := 12) hr rfl rfl
              obtain rfl : b13 = true := all_done (i := 13) hr rfl rfl
              obtain rfl : b14 = true := all_done (i := 14) hr rfl rfl
              obtain rfl : b15 = true := all_done (i := 15) hr rfl rfl
              obtain rfl : b16 = true := all_done (i := 16) hr rfl rfl
              obtain rfl : b17 = true := all_done (i := 17) hr rfl rfl
              obtain rfl : b18 = true := all_done (i := 18) hr rfl rfl
              obtain rfl : b19 = true := all_done (i := 19) hr rfl rfl
              obtain rfl : b20 = true := all_done (i := 20) hr rfl rfl
              obtain rfl : b21 = true := all_done (i := 21) hr rfl rfl
              obtain rfl : b22 = true := all_done (i := 22) hr rfl rfl
              obtain rfl : b23 = true := all_done (i := 23) hr rfl rfl
              obtain ⟨X, u0, u1, u2, rfl, hja⟩ := h.fin rfl
              go_wp2_with fail
              go_meet
              exact ⟨X, u0, u1, u2, rfl, hja⟩
            /- so far -/
          case rest =>
          obtain ⟨X, u0, u1, u2, rfl, hja⟩ := hcut
          obtain ⟨V, rfl⟩ : ∃ V, V = wc := ⟨_, rfl⟩
          have HBv := Lib.hid (below_step HBw.out hja.2.1)
          obtain ⟨C0, j0, i0, C1, j1, i1, C2, j2, i2, rfl, rfl, rfl, hpr⟩ := ja_reads hja
          have HXv := Lib.hid hja.1
          have HPv := Lib.hid hpr
          clear hja hpr x0 x1 x2 y0 y1 y2
          generalize hR : parseP lj 0 0 (cutText a0 a1).size = R3 at HP3
          have hRP : R3 = ((parseT lj (cutText a0 a1).size).1, (parseT lj (cutText a0 a1).size).2.map fun x => ⟨x.1, x.2⟩) := by
            rw [← hR]
            unfold parseP
            rw [if_neg (by decide)]
          have HRP := Lib.hid hRP
          have HRf := Lib.hid (parse_fit lj (cutText a0 a1).size)
          generalize parseT lj (cutText a0 a1).size = RT at HRP HJ HRf
          clear hR hRP
          have hadd1 : ∀ w, (Op.stringOp .add a0 ⟨#[10]⟩).run Tryz.prog w = .ok (.string (a0 ++ ⟨#[10]⟩)) w := fun w => run_string_add_sum w _ _ (by have := HLa.out; have : (⟨#[10]⟩ : ByteArray).size = 1 := rfl; omega)
          have hadd2 : ∀ w, (Op.stringOp .add (a0 ++ ⟨#[10]⟩) a1).run Tryz.prog w = .ok (.string (a0 ++ ⟨#[10]⟩ ++ a1)) w := fun w => run_string_add_sum w _ _ (by rw [ByteArray.size_append]; have := HLa.out; have := HLb.out; have : (⟨#[10]⟩ : ByteArray).size = 1 := rfl; omega)
          go_wp2_with fail
          refine (HP3.out _ (HG.out.below HBv.out)).mono ?_
          rintro e V1 ⟨E0, r0, s0, E1, r1, s1', E2, r2, s2', Af, cf, rfl, hv, hdg, hb⟩
          have HX1 := Lib.hid (HXv.out.below hb)
          have HP1 := Lib.hid (HPv.out.bel hb)
          have HB1 := Lib.hid (below_step HBv.out hb)
          have HV1 := Lib.hid hv
          have HD1 := Lib.hid hdg
          clear hv hdg hb HBv HXv HPv HP3
          go_upto_region 9 with fail
          refine code_at (fun V => Blk V X #[.slice C0 j0 i0, .slice C1 j1 i1, .slice C2 j2 i2] 27 ∧ Blk V V1.heap.size #[.slice E0 r0 s0, .slice E1 r1 s1', .slice E2 r2 s2'] 27 ∧ Below V1.heap.size V1 V) ⟨HX1.out.alloc _, Blk.new _ _ _, below_alloc (Below.refl _ _) _⟩ ?_
          rintro U ⟨hx, hy, hb⟩
          obtain ⟨⟨x0, x1, x2⟩, -⟩ := hx.cells3
          obtain ⟨⟨y0, y1, y2⟩, -⟩ := hy.cells3
          have HBu := Lib.hid (below_step HB1.out hb)
          have HPu := Lib.hid (HP1.out.bel hb)
          have HVu := Lib.hid (HV1.out.bel hb)
          have HDu := Lib.hid (Kd.C_below HD1.out hb)
          clear hx hy hb HB1 HX1 HP1 HV1 HD1
          have hj := HJ.out
          have e0 := HPu.out.e0
          have e1 := HPu.out.e1
          have e2 := HPu.out.e2
          by_cases hW : Within 16 (comb P Q)
          · rw [if_pos hW] at hj
            unfold codeOf at hj
            injection hj with hj1 hj2
            have hnil : RT.2 = [] := List.map_eq_nil_iff.1 hj2
            have hR2 : R3.2 = [] := by rw [HRP.out, hnil]; rfl
            have hR1 : R3.1 = RT.1 := by rw [HRP.out]
            have hre : ReProg R3.1 (comb P Q) := by
              rw [hR1]
              exact reProg (g := fun _ => 0) _ _ HRf.out hj1.symm
            have HS := Lib.hid (same_Prog R3.1 (comb P Q) U _ _ HVu.out.v HPu.out.v hre)
            have hm0 : j0 ≤ 16 := by rw [e0]; exact hW.1
            have hm1 : j1 ≤ 16 := by rw [e1]; exact hW.2.1
            have hm2 : j2 ≤ 16 := by rw [e2]; exact hW.2.2
            clear hj1 hj2 hnil hR1 hre e0 e1 e2 hW
            have hl : R3.2.length = 0 := by rw [hR2]; rfl
            rw [hl]
            go_wp2_with fail
            all_goals
              first
              | (refine HS.out.mono ?_
                 rintro e V2 ⟨rfl, hb⟩
                 have HBf := Lib.hid (below_step HBu.out hb)
                 clear hb
                 go_wp2_with fail
                 go_ret
                 exact ⟨rfl, HBf.out⟩)
              | (exfalso; omega)
          · rw [if_neg hW] at hj
            unfold codeOf at hj
            injection hj with hj1 hj2
            have hone : ∃ m, R3.2 = [⟨m, 3⟩] := by
              rw [HRP.out]
              cases hz : RT.2 with
              | nil => rw [hz] at hj2; cases hj2
              | cons x l =>
                rw [hz] at hj2
                simp only [List.map_cons, List.cons.injEq, List.map_eq_nil_iff] at hj2
                obtain ⟨hx, rfl⟩ := hj2
                obtain ⟨m, c⟩ := x
                have hx : c = 3 := hx
                subst hx
                exact ⟨m, rfl⟩
            obtain ⟨m, hone⟩ := hone
            have hl : R3.2.length = 1 := by rw [hone]; rfl
            have hd := HDu.out
            rw [hone] at hd
            obtain ⟨af, rfl, q0, q1⟩ := diag_cells hd
            have hm : 16 < j0 ∨ 16 < j1 ∨ 16 < j2 := by
              rw [e0, e1, e2]
              unfold Within at hW
              omega
            clear hj1 hj2 hone hd e0 e1 e2 hW HDu
            rw [hl]
            go_wp2_with fail
            all_goals
              first
              | (go_ret
                 exact ⟨rfl, HBu.out⟩)
              | (exfalso; omega)
end Go.Proofs.YtmgkejobolgkmaaGreatDoor.PL
