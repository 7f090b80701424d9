/- droguelaw06.ParseBlanks: its walk, along the answers that the plain law tells. -/
import Derived.Test.YtmgkejobolgkmaaGreatDoorPaAliveM
import Derived.Test.YtmgkejobolgkmaaGreatDoorPaJoinC
import Derived.Test.YtmgkejobolgkmaaGreatDoorPaSameC
import Derived.Laws.Strings
import Derived.BigQuiet
namespace Go.Proofs.YtmgkejobolgkmaaGreatDoor.PL
open Go Go.RowKit Go.Proofs.YtmgkejobolgkmaaGreatDoorW.PrintWords Go.Proofs.YtmgkejobolgkmaaGreatDoorW.PrintLast Go.Proofs.YtmgkejobolgkmaaGreatDoorW.PrintMore
set_option linter.unusedVariables false
set_option linter.unusedSimpArgs false

theorem gap_f (x : Nat) : droguelaw06_Gap.f (x : Int) = some (gapB x) := by
  have h : Int.tmod (x : Int) 4 = ((x % 4 : Nat) : Int) := by
    rw [Int.tmod_eq_emod_of_nonneg (by omega)]
    rfl
  unfold droguelaw06_Gap.f gapB gapL
  rw [h]
  by_cases h0 : x % 4 = 0
  · rw [if_pos (by omega), if_pos h0]
  · rw [if_neg (by omega), if_neg h0]
    by_cases h1 : x % 4 = 1
    · rw [if_pos (by omega), if_pos h1]
    · rw [if_neg (by omega), if_neg h1]
      by_cases h2 : x % 4 = 2
      · rw [if_pos (by omega), if_pos h2]
      · rw [if_neg (by omega), if_neg h2]
theorem parse_two (l : List Tok) (n : Int) : (parseT l n).2 = [] ∨ ∃ m c, (parseT l n).2 = [(m, c)] := by
  unfold parseT
  simp only
  split
  · exact .inr ⟨_, _, rfl⟩
  · split
    · exact .inr ⟨_, _, rfl⟩
    · exact .inl rfl
/-- what Parse hands back, in memory, as Same reads it -/
theorem pans_prog {w w' : World} {r : SProg × List SDiag} {A0 A1 A2 : Option Addr} {n0 c0 n1 c1 n2 c2 : Nat} (h0 : RW k77 77 w' w.heap.size (.slice A0 n0 c0) r.1.f0) (h1 : RW k80 80 w' w.heap.size (.slice A1 n1 c1) r.1.f1) (h2 : RW k63 63 w' w.heap.size (.slice A2 n2 c2) r.1.f2) :
    VProg w' r.1 (.agg #[.slice A0 n0 c0, .slice A1 n1 c1, .slice A2 n2 c2]) := by
  have a := Kd.R_reads' h0
  have b := Kd.R_reads' h1
  have c := Kd.R_reads' h2
  obtain ⟨rfl, a2, a3⟩ := a
  obtain ⟨rfl, b2, b3⟩ := b
  obtain ⟨rfl, d2, d3⟩ := c
  exact ⟨A0, c0, A1, c1, A2, c2, rfl, a2, a3, b2, b3, d2, d3⟩
theorem VProg.agg {w : World} {P : SProg} {v : Value} (h : VProg w P v) : ∃ v0 v1 v2, v = .agg #[v0, v1, v2] := by
  obtain ⟨A0, c0, A1, c1, A2, c2, rfl, -⟩ := h
  exact ⟨_, _, _, rfl⟩
theorem parse_at (s : ByteArray) (l : List Tok) (d1 d2 : Int) (w : World) (hG : Globs w) (h : lex_Lex.f s = some (l, d1, d2)) (hok : Rd.Ok ⟨l, s.size, -1, -1⟩) :
    Calls Tryz.prog 8 #[.string s] w fun e w' => ∃ A0 n0 c0 A1 n1 c1 A2 n2 c2 A c, e = .returned (.tuple #[.agg #[.slice A0 n0 c0, .slice A1 n1 c1, .slice A2 n2 c2], .slice A (parseP l d1 d2 s.size).2.length c]) ∧ VProg w' (parseP l d1 d2 s.size).1 (.agg #[.slice A0 n0 c0, .slice A1 n1 c1, .slice A2 n2 c2]) ∧
      Kd.C k32 w' A (parseP l d1 d2 s.size).2.length (parseP l d1 d2 s.size).2 ∧ Below w.heap.size w w' := by
  refine (parse_calls s l d1 d2 w hG h hok).mono ?_
  rintro e w' ⟨vp, vd, rfl, A0, n0, c0, A1, n1, c1, A2, n2, c2, Ad, cd, rfl, rfl, r0, r1, r2, hd, -, hb⟩
  exact ⟨_, _, _, _, _, _, _, _, _, Ad, cd, rfl, pans_prog r0 r1 r2, hd, hb⟩
/-- what two parses that are alike answer -/
theorem two_answers {l lj : List Tok} {n nj : Int} (d1 d1' : Int) (h : codeOf (parseT lj nj) = codeOf (parseT l n)) :
    ReProg (parseP l d1 0 n).1 (parseP lj d1' 0 nj).1 ∧ (((parseP l d1 0 n).2 = [] ∧ (parseP lj d1' 0 nj).2 = []) ∨ ∃ m m' c, (parseP l d1 0 n).2 = [⟨m, c⟩] ∧ (parseP lj d1' 0 nj).2 = [⟨m', c⟩]) := by
  have e1 : parseP l d1 0 n = ((parseT l n).1, (parseT l n).2.map fun x => ⟨x.1, x.2⟩) := by
    unfold parseP
    rw [if_neg (by decide)]
  have e2 : parseP lj d1' 0 nj = ((parseT lj nj).1, (parseT lj nj).2.map fun x => ⟨x.1, x.2⟩) := by
    unfold parseP
    rw [if_neg (by decide)]
  unfold codeOf at h
  injection h with h1 h2
  rw [e1, e2]
  refine ⟨reProg _ _ (parse_fit l n) h1, ?_⟩
  rcases parse_two l n with a | ⟨m, c, a⟩
  · rw [a] at h2 ⊢
    rcases parse_two lj nj with b | ⟨m', c', b⟩
    · rw [b]
      exact .inl ⟨rfl, rfl⟩
    · rw [b] at h2
      cases h2
  · rw [a] at h2 ⊢
    rcases parse_two lj nj with b | ⟨m', c', b⟩
    · rw [b] at h2
      cases h2
    · rw [b] at h2 ⊢
      injection h2 with h2
      have h2 : c' = c := h2
      subst h2
      exact .inr ⟨m, m', c', rfl, rfl⟩
set_option maxHeartbeats 16000000 in
set_option maxRecDepth 100000 in
theorem droguelaw06_ParseBlanks.walk (a0 : ByteArray) (w : World) (hG : Globs w) : Calls Tryz.prog 4 #[.string a0] w fun e w' => e = .returned (.bool true) ∧ Below w.heap.size w w' := by
  obtain ⟨l, d1, d2, hlex, hok, hd0⟩ := lexF a0
  have HLx : Hid (∀ V, Globs V → Calls Tryz.prog 13 #[.string a0] V fun e w' => ∃ v0_ : Value, e = .returned (.tuple #[v0_, .agg #[.int .i64 d1, .int .i64 d2]]) ∧ Kd.R k42 42 w' V.heap.size (fun _ => True) v0_ l ∧ Below V.heap.size V w') := Lib.hid (fun V hV => lex_Lex.calls a0 l d1 d2 V hV hlex)
  have HLex := Lib.hid hlex
  have HOk := Lib.hid hok
  have HD0 := Lib.hid hd0
  have HG := Lib.hid hG
  clear hlex hok hd0 hG
  go_enter Tryz.func4, Tryz.ntmps4
  go_wp2_with fail
  refine (alive_calls w HG.out).mono ?_
  rintro e W0 ⟨rfl, hb0⟩
  have HB0 := Lib.hid hb0
  clear hb0
  by_cases hlong : 8000 < a0.size
  · have c1' : decide (8000 < a0.size) = true := decide_eq_true hlong
    have c2' : decide ((8000 : Int) < (a0.size : Int)) = true := decide_eq_true (by omega)
    have c3' : decide ((a0.size : Int) > 8000) = true := decide_eq_true (by omega)
    clear hlong
    go_wp2_with fail
    go_ret
    exact ⟨rfl, HB0.out⟩
  · have c1' : decide (8000 < a0.size) = false := decide_eq_false hlong
    have c2' : decide ((8000 : Int) < (a0.size : Int)) = false := decide_eq_false (by omega)
    have c3' : decide ((a0.size : Int) > 8000) = false := decide_eq_false (by omega)
    have HLong := Lib.hid hlong
    clear hlong
    go_wp2_with fail
    refine (HLx.out _ (HG.out.below HB0.out)).mono ?_
    rintro e W1 ⟨v0, rfl, hrow, hb1⟩
    obtain ⟨A, c, rfl, hlc, hC⟩ := Kd.R_reads hrow
    have HB1 := Lib.hid (below_step HB0.out hb1)
    have HC1 := Lib.hid hC
    clear hrow hb1 hlc hC HB0 HLx
    by_cases hd2 : d2 = 0
    · subst hd2
      have HL := Lib.hid (HD0.out rfl)
      clear HD0
      obtain ⟨fin, hfin⟩ : ∃ fin, fin = wideB l 0 ⟨#[]⟩ := ⟨_, rfl⟩
      have HF := Lib.hid hfin
      clear hfin
      go_upto_region 6 with fail
      refine code_at (fun V => Blk V W1.heap.size #[.int .i64 d1, .int .i64 0] 32 ∧ Below W1.heap.size W1 V) ⟨Blk.new _ _ _, below_alloc (Below.refl _ _) _⟩ ?_
      rintro V ⟨hd, hb⟩
      obtain ⟨⟨x0, x1⟩, -⟩ := hd.cells2
      have HB2 := Lib.hid (below_step HB1.out hb)
      have HC2 := Lib.hid (Kd.C_below HC1.out hb)
      clear hd hb HB1 HC1
      go_wp2_with fail
      go_loopg [5, 6] l.length (fun kq v5 v6 w' => ∃ (x : Nat) (acc : ByteArray), v5 = .string acc ∧ v6 = .int .i64 (x : Int) ∧ Aside0 (x + kq = l.length) ∧ Aside0 (wideB (l.drop x) x acc = fin ∧ acc.size ≤ x * 1000016) ∧ Aside0 (Below w.heap.size w w' ∧ Kd.C k42 w' A l.length l))
      case atStart => exact ⟨0, ⟨#[]⟩, rfl, rfl, ⟨by omega⟩, ⟨by rw [List.drop_zero]; exact HF.out.symm, Nat.zero_le _⟩, ⟨HB2.out, HC2.out⟩⟩
      case round =>
        obtain ⟨x, acc, rfl, rfl, HX, HA, HW⟩ := hrel
        clear x0 x1
        cases gk with
        | succ kk =>
          have hxl : x < l.length := by have := HX.out; omega
          have cx : decide (x < l.length) = true := decide_eq_true hxl
          have cx' : decide ((x : Int) < (l.length : Int)) = true := decide_eq_true (by omega)
          have wx : IntKind.i64.wrap ((x : Int) + 1) = ((x + 1 : Nat) : Int) := by rw [i64_w]; unfold wrap64; have h9 : l.length ≤ 100000 := HOk.out.len; omega
          obtain ⟨ad, rfl, y0, y1, y2, y3⟩ := at_T42 HW.out.2 (x : Int) (by omega) (by omega)
          have hdr : l.drop x = rd_T42 l (x : Int) :: l.drop (x + 1) := by
            rw [List.drop_eq_getElem_cons hxl]
            simp [rd_T42, List.getD, hxl]
          have HA1 := HA.out.1
          have hac := HA.out.2
          rw [hdr] at HA1
          have hqs : (rd_T42 l (x : Int)).f2.size ≤ 1000000 := (HOk.out.tok _ (List.mem_of_mem_drop (by rw [hdr]; exact List.mem_cons_self))).1
          simp only [Int.toNat_natCast] at y0 y1 y2 y3
          generalize rd_T42 l (x : Int) = q at *
          have HA2 := Lib.hid HA1
          have HGap := Lib.hid (fun V => droguelaw06_Gap.calls (x : Int) (gapB x) V (gap_f x))
          have p1 := eq_true hxl
          have p2 : (0 ≤ (x : Int)) = True := eq_true (by omega)
          have p3 : ((x : Int) < (l.length : Int)) = True := eq_true (by omega)
          have hgs := gapB_size x
          have hl9 : l.length ≤ 100000 := HOk.out.len
          have hadd1 : ∀ w, (Op.stringOp .add q.f2 (gapB x)).run Tryz.prog w = .ok (.string (q.f2 ++ gapB x)) w := fun w => run_string_add_sum w _ _ (by omega)
          have hadd2 : ∀ w, (Op.stringOp .add acc (q.f2 ++ gapB x)).run Tryz.prog w = .ok (.string (acc ++ (q.f2 ++ gapB x))) w := fun w => run_string_add_sum w _ _ (by rw [ByteArray.size_append]; omega)
          have HSz : Hid ((acc ++ (q.f2 ++ gapB x)).size ≤ (x + 1) * 1000016) := Lib.hid (by rw [ByteArray.size_append, ByteArray.size_append]; omega)
          clear hxl hdr HA1 HA hac hqs hgs hl9
          go_wp2_with fail
          go_quiet (exact Calls.quiet_of ((HGap.out _).mono (fun e W1 h => ⟨h.1, h.2.out⟩)))
          go_wp2_with fail
          go_roundg kk
          case measure => omega
          case rel => exact ⟨x + 1, _, rfl, by simp [wx], ⟨by have := HX.out; omega⟩, ⟨by rw [← HA2.out]; rfl, HSz.out⟩, ⟨pw_below_drewN HW.out.1 nq, Kd.C_below HW.out.2 (pw_below_drewN (Below.refl _ _) nq)⟩⟩
        | zero =>
          have cx : decide (x < l.length) = false := decide_eq_false (by have := HX.out; omega)
          have cx' : decide ((x : Int) < (l.length : Int)) = false := decide_eq_false (by have := HX.out; omega)
          have hacc : acc = fin := by
            have h9 := HA.out.1
            rw [List.drop_of_length_le (by have := HX.out; omega)] at h9
            exact h9
          subst hacc
          clear HA HX
          by_cases hw : 16384 < acc.size
          · have g1 : decide (16384 < acc.size) = true := decide_eq_true hw
            have g2 : decide ((16384 : Int) < (acc.size : Int)) = true := decide_eq_true (by omega)
            have g3 : decide ((acc.size : Int) > 16384) = true := decide_eq_true (by omega)
            clear hw
            go_wp2_with fail
            go_ret
            exact ⟨rfl, HW.out.1⟩
          · have g1 : decide (16384 < acc.size) = false := decide_eq_false hw
            have g2 : decide ((16384 : Int) < (acc.size : Int)) = false := decide_eq_false (by omega)
            have g3 : decide ((acc.size : Int) > 16384) = false := decide_eq_false (by omega)
            have hlw := lex_wide HL.out.2 (by rw [← HF.out]; omega)
            rw [← HF.out] at hlw
            obtain ⟨lj, hlj, hokj, hmap⟩ := hlw
            have hcode := two_answers d1 0 (parse_alike hmap HOk.out hokj)
            have HP1 := Lib.hid (fun V (hV : Globs V) => parse_at a0 l d1 0 V hV HLex.out HOk.out)
            have HP2 := Lib.hid (fun V (hV : Globs V) => parse_at acc lj 0 0 V hV hlj hokj)
            generalize parseP l d1 0 a0.size = R1 at HP1 hcode
            generalize parseP lj 0 0 acc.size = R2 at HP2 hcode
            obtain ⟨P1, D1⟩ := R1
            obtain ⟨P2, D2⟩ := R2
            simp only at HP1 HP2 hcode
            have HCode := Lib.hid hcode
            clear hw hcode hlj hokj hmap
            go_wp2_with fail
            refine (HP1.out _ (HG.out.below HW.out.1)).mono ?_
            rintro e W2 ⟨A0, n0, c0, A1, n1, c1, A2, n2, c2, Ad, cd, rfl, hv, hdg, hb⟩
            have HB3 := Lib.hid (below_alloc (below_step HW.out.1 hb) (.cells #[.slice A0 n0 c0, .slice A1 n1 c1, .slice A2 n2 c2] 27))
            have HX3 := Lib.hid (Blk.new W2 #[.slice A0 n0 c0, .slice A1 n1 c1, .slice A2 n2 c2] 27)
            have HV3 := Lib.hid hv
            have HD3 := Lib.hid hdg
            clear hv hdg hb HP1 HW
            go_wp2_with fail
            refine (HP2.out _ (HG.out.below HB3.out)).mono ?_
            rintro e W3 ⟨B0, m0, k0, B1, m1, k1, B2, m2, k2, Ae, ce, rfl, hv, hdg, hb⟩
            have hb2 := below_step (below_alloc (Below.refl W2.heap.size W2) (.cells #[.slice A0 n0 c0, .slice A1 n1 c1, .slice A2 n2 c2] 27)) hb
            have HB4 := Lib.hid (below_step HB3.out hb)
            have HX4 := Lib.hid (HX3.out.below hb)
            have HV4 := Lib.hid (HV3.out.bel hb2)
            have HD4 := Lib.hid (Kd.C_below HD3.out hb2)
            have HV5 := Lib.hid hv
            have HD5 := Lib.hid hdg
            clear hv hdg hb hb2 HP2 HB3 HX3 HV3 HD3
            go_upto_region 17 with fail
            refine code_at (fun V => Blk V W2.heap.size #[.slice A0 n0 c0, .slice A1 n1 c1, .slice A2 n2 c2] 27 ∧ Blk V W3.heap.size #[.slice B0 m0 k0, .slice B1 m1 k1, .slice B2 m2 k2] 27 ∧ Below W3.heap.size W3 V) ⟨HX4.out.alloc _, Blk.new _ _ _, below_alloc (Below.refl _ _) _⟩ ?_
            rintro U ⟨hx, hy, hb⟩
            obtain ⟨⟨x0, x1, x2⟩, -⟩ := hx.cells3
            obtain ⟨⟨y0, y1, y2⟩, -⟩ := hy.cells3
            have HB6 := Lib.hid (below_step HB4.out hb)
            have HS := Lib.hid (fun V (hV : Below U.heap.size U V) => same_Prog P1 P2 V _ _ ((HV4.out.bel hb).bel hV) ((HV5.out.bel hb).bel hV) HCode.out.1)
            have HD6 := Lib.hid (Kd.C_below HD4.out hb)
            have HD7 := Lib.hid (Kd.C_below HD5.out hb)
            clear hx hy hb HB4 HX4 HV4 HD4 HV5 HD5
            rcases HCode.out.2 with ⟨rfl, rfl⟩ | ⟨m, m', c', rfl, rfl⟩
            · clear HD6 HD7
              go_wp2_with fail
              go_quiet (fail)
              go_wp2_with fail
              refine (HS.out _ (pw_below_drewN (Below.refl _ _) nq)).mono ?_
              rintro e W5 ⟨rfl, hb⟩
              have HB7 := Lib.hid (below_step (pw_below_drewN HB6.out nq) hb)
              clear hb
              go_wp2_with fail
              go_ret
              exact ⟨rfl, HB7.out⟩
            · obtain ⟨af, rfl, q0, q1⟩ := diag_cells HD6.out
              obtain ⟨ag, rfl, r0, r1⟩ := diag_cells HD7.out
              clear HD6 HD7
              have s0 : (c' != c') = false := by simp
              go_wp2_with fail
              go_quiet (fail)
              go_wp2_with fail
              refine (HS.out _ (pw_below_drewN (Below.refl _ _) nq)).mono ?_
              rintro e W5 ⟨rfl, hb⟩
              have HB7 := Lib.hid (below_step (pw_below_drewN HB6.out nq) hb)
              clear hb
              go_wp2_with fail
              go_ret
              exact ⟨rfl, HB7.out⟩
    · have e4 : (d2 != 0) = true := bne_iff_ne.2 hd2
      clear hd2
      go_wp2_with fail
      go_ret
      exact ⟨rfl, below_alloc HB1.out _⟩
end Go.Proofs.YtmgkejobolgkmaaGreatDoor.PL
