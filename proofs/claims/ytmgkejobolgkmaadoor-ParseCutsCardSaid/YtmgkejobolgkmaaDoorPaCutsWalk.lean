/- droguelaw06.ParseCuts: its walk, along the answers that the plain law tells. -/
import Derived.Test.YtmgkejobolgkmaaDoorPaAliveM
import Derived.Test.YtmgkejobolgkmaaDoorPaSimC
import Derived.Laws.Strings
namespace Go.Proofs.YtmgkejobolgkmaaDoor.PL
open Go Go.RowKit Go.Proofs.YtmgkejobolgkmaaDoorW.PrintWords Go.Proofs.YtmgkejobolgkmaaDoorW.PrintLast Go.Proofs.YtmgkejobolgkmaaDoorW.PrintMore
set_option linter.unusedVariables false
set_option linter.unusedSimpArgs false
attribute [local go_sem high] ceqD

/-- what Lex answers of any text -/
theorem lexF (s : ByteArray) : ∃ l d1 d2, lex_Lex.f s = some (l, d1, d2) ∧ Rd.Ok ⟨l, s.size, -1, -1⟩ ∧ (d2 = 0 → s.size ≤ 16384 ∧ Lexes 0 s.data.toList (.ok l)) := by
  by_cases hs : s.size ≤ 16384
  · obtain ⟨R, hR⟩ := Lexes.total _ s.data.toList 0 (Nat.le_refl _)
    cases R with
    | ok l =>
      refine ⟨l, 0, 0, by rw [lex_of hs hR]; rfl, ⟨?_, fun t ht => ?_, ?_, .inl rfl⟩, fun _ => ⟨hs, hR⟩⟩
      · have := hR.count
        rw [size_l] at this
        show l.length ≤ 100000
        omega
      · obtain ⟨h1, h2, -⟩ := hR.like l rfl t ht
        rw [size_l] at h1
        exact ⟨by omega, by simpa using h2⟩
      · show (0 : Int) ≤ (s.size : Int)
        omega
    | error p =>
      refine ⟨[], p, 1, by rw [lex_of hs hR]; rfl, ⟨Nat.zero_le _, (fun t ht => by cases ht), ?_, .inl rfl⟩, fun e => by cases e⟩
      show (0 : Int) ≤ (s.size : Int)
      omega
  · refine ⟨[], 16384, 3, lex_long (by omega), ⟨Nat.zero_le _, (fun t ht => by cases ht), ?_, .inl rfl⟩, fun e => by cases e⟩
    show (0 : Int) ≤ (s.size : Int)
    omega
theorem prog_cnt : ∀ (k : Nat) (s : Rd) (P : SProg), cnt (Rd.program k s P).1 ≤ cnt P + k
  | 0, s, P => Nat.le_refl _
  | k + 1, s, P => by
    unfold Rd.program
    simp only
    split
    · split
      · refine Nat.le_trans (prog_cnt k _ _) ?_
        unfold cnt
        simp only [List.length_append, List.length_singleton]
        omega
      · split
        · refine Nat.le_trans (prog_cnt k _ _) ?_
          unfold cnt
          simp only [List.length_append, List.length_singleton]
          omega
        · split
          · refine Nat.le_trans (prog_cnt k _ _) ?_
            unfold cnt
            simp only [List.length_append, List.length_singleton]
            omega
          · refine Nat.le_trans (prog_cnt k _ _) ?_
            omega
    · show cnt P ≤ cnt P + (k + 1)
      omega
theorem parse_cnt (l : List Tok) (n : Int) : cnt (parseT l n).1 ≤ 100001 := by
  have h := prog_cnt rdF ⟨l, n, -1, -1⟩ prog0
  unfold parseT
  simp only
  split
  · exact Nat.zero_le _
  · split
    · exact Nat.zero_le _
    · show cnt (Rd.program rdF ⟨l, n, -1, -1⟩ prog0).1 ≤ 100001
      have h0 : cnt prog0 = 0 := rfl
      rw [h0, Nat.zero_add] at h
      exact h
theorem txt_true {s : ByteArray} {l : List UInt8} (h : s = ⟨l.toArray⟩) : (s.toList == l) = true := by
  rw [h, ByteArray.toList_eq]
  exact beq_self_eq_true l
theorem txt_false {s : ByteArray} {l : List UInt8} (h : s ≠ ⟨l.toArray⟩) : (s.toList == l) = false := by
  rw [beq_eq_false_iff_ne, ByteArray.toList_eq]
  intro e
  exact h (bytes_ext (by rw [e]))
theorem noDecl_of {t : Tok} (h1 : t.f2 ≠ ⟨#[115, 116, 114, 117, 99, 116]⟩) (h2 : t.f2 ≠ ⟨#[101, 110, 117, 109]⟩) (h3 : t.f2 ≠ ⟨#[102, 110]⟩) : noDecl t := by
  have h : ∀ x : ByteArray, t.f2 ≠ x → seesP [x] t = false := by
    intro x hx
    show ((t.f0 == 2 || t.f0 == 4) && hasT [x] t.f2) = false
    have : hasT [x] t.f2 = false := by
      unfold hasT
      simp only [List.any_cons, List.any_nil, Bool.or_false]
      rw [beq_eq_false_iff_ne, ByteArray.toList_eq, ByteArray.toList_eq]
      intro e
      exact hx (bytes_ext e)
    rw [this, Bool.and_false]
  exact ⟨h _ h1, h _ h2, h _ h3⟩
set_option maxHeartbeats 16000000 in
set_option maxRecDepth 100000 in
theorem droguelaw06_ParseCuts.walk (a0 : ByteArray) (a1 : Int) (w : World) (hG : Globs w) : Calls Tryd.prog 3 #[.string a0, .int .i64 a1] w fun e w' => e = .returned (.bool true) ∧ Below w.heap.size w w' := by
  obtain ⟨l, d1, d2, hlex, hok, hd0⟩ := lexF a0
  obtain ⟨PD, hPD⟩ : ∃ PD, PD = parseP l d1 d2 a0.size := ⟨_, rfl⟩
  have HPD := Lib.hid hPD
  have HLex := Lib.hid hlex
  have HOk := Lib.hid hok
  have HD0 := Lib.hid hd0
  have HG := Lib.hid hG
  have HPar : Hid (∀ V, Globs V → Calls Tryd.prog 5 #[.string a0] V fun e w' => ∃ vp vd, e = .returned (.tuple #[vp, vd]) ∧ PAns V w' vp vd PD) := Lib.hid (fun V hV => by rw [hPD]; exact parse_calls a0 l d1 d2 V hV hlex hok)
  have HLx : Hid (∀ V, Globs V → Calls Tryd.prog 6 #[.string a0] V fun e w' => ∃ v0_ : Value, e = .returned (.tuple #[v0_, .agg #[.int .i64 d1, .int .i64 d2]]) ∧ Kd.R k37 37 w' V.heap.size (fun _ => True) v0_ l ∧ Below V.heap.size V w') := Lib.hid (fun V hV => lex_Lex.calls a0 l d1 d2 V hV hlex)
  clear hlex hok hd0 hPD hG
  obtain ⟨P, D⟩ := PD
  go_enter Tryd.func3, Tryd.ntmps3
  go_wp2_with fail
  refine (alive_calls w HG.out).mono ?_
  rintro e W0 ⟨rfl, hb0⟩
  have HB0 := Lib.hid hb0
  clear hb0
  go_wp2_with fail
  refine (HPar.out W0 (HG.out.below HB0.out)).mono ?_
  rintro e W1 ⟨vp, vd, rfl, A0, n0, c0, A1, n1, c1, A2, n2, c2, Ad, cd, rfl, rfl, r0, r1, r2, -, -, hb1⟩
  have hn0 : n0 = P.f0.length := (Kd.R_reads' r0).1
  have hn1 : n1 = P.f1.length := (Kd.R_reads' r1).1
  have hn2 : n2 = P.f2.length := (Kd.R_reads' r2).1
  have HB1 := Lib.hid (below_alloc (below_step HB0.out hb1) (.cells #[.slice A0 n0 c0, .slice A1 n1 c1, .slice A2 n2 c2] 27))
  have HX1 := Lib.hid (Blk.new W1 #[.slice A0 n0 c0, .slice A1 n1 c1, .slice A2 n2 c2] 27)
  have HN0 := Lib.hid hn0
  have HN1 := Lib.hid hn1
  have HN2 := Lib.hid hn2
  clear r0 r1 r2 hb1 hn0 hn1 hn2 HB0 HPar
  go_wp2_with fail
  refine (HLx.out _ (HG.out.below HB1.out)).mono ?_
  rintro e W2 ⟨v0, rfl, hrow, hb2⟩
  obtain ⟨A, c, rfl, hlc, hC⟩ := Kd.R_reads hrow
  have HB2 := Lib.hid (below_step HB1.out hb2)
  have HX2 := Lib.hid (HX1.out.below hb2)
  have HC2 := Lib.hid hC
  clear hrow hb2 hlc hC HB1 HX1 HLx
  go_upto_region 5 with fail
  refine code_at (fun V => Blk V W1.heap.size #[.slice A0 n0 c0, .slice A1 n1 c1, .slice A2 n2 c2] 27 ∧ Blk V W2.heap.size #[.int .i64 d1, .int .i64 d2] 33 ∧ Kd.C k37 V A l.length l ∧ Below w.heap.size w V) ⟨HX2.out.alloc _, Blk.new _ _ _, Kd.C_below HC2.out (below_alloc (Below.refl _ _) _), below_alloc HB2.out _⟩ ?_
  rintro V ⟨hx, hd, hC, hb⟩
  have HX := Lib.hid hx
  have HC := Lib.hid hC
  have HB := Lib.hid hb
  obtain ⟨⟨x0, x1⟩, -⟩ := hd.cells2
  clear hx hd hC hb HB2 HX2 HC2
  by_cases hlong : 8000 < a0.size
  · have c1' : decide (8000 < a0.size) = true := decide_eq_true hlong
    have c2' : decide ((8000 : Int) < (a0.size : Int)) = true := decide_eq_true (by omega)
    have c3' : decide ((a0.size : Int) > 8000) = true := decide_eq_true (by omega)
    clear hlong
    go_wp2_with fail
    go_ret
    exact ⟨rfl, HB.out⟩
  · have c1' : decide (8000 < a0.size) = false := decide_eq_false hlong
    have c2' : decide ((8000 : Int) < (a0.size : Int)) = false := decide_eq_false (by omega)
    have c3' : decide ((a0.size : Int) > 8000) = false := decide_eq_false (by omega)
    have HLong := Lib.hid hlong
    clear hlong
    by_cases hD : 0 < D.length
    · have e1 : decide (0 < D.length) = true := decide_eq_true hD
      have e2 : decide ((0 : Int) < (D.length : Int)) = true := decide_eq_true (by omega)
      have e3 : decide ((D.length : Int) > 0) = true := decide_eq_true (by omega)
      clear hD
      go_wp2_with fail
      go_ret
      exact ⟨rfl, HB.out⟩
    · have e1 : decide (0 < D.length) = false := decide_eq_false hD
      have e2 : decide ((0 : Int) < (D.length : Int)) = false := decide_eq_false (by omega)
      have e3 : decide ((D.length : Int) > 0) = false := decide_eq_false (by omega)
      have hDn : D = [] := List.length_eq_zero_iff.1 (by omega)
      by_cases hd2 : d2 = 0
      · subst hd2
        have HL := Lib.hid (HD0.out rfl)
        have hPT := HPD.out
        unfold parseP at hPT
        rw [if_neg (by decide)] at hPT
        simp only [Prod.mk.injEq] at hPT
        have hpt2 : (parseT l a0.size).2 = [] := List.map_eq_nil_iff.1 (hPT.2.symm.trans hDn)
        have HPT : Hid (parseT l a0.size = (P, [])) := Lib.hid (Prod.ext hPT.1.symm hpt2)
        clear hPT hpt2 hDn hD HD0 HPD
        by_cases hneg : a1 < 0
        · have g1 : decide (a1 < 0) = true := decide_eq_true hneg
          clear hneg
          go_wp2_with fail
          go_ret
          exact ⟨rfl, HB.out⟩
        · have g1 : decide (a1 < 0) = false := decide_eq_false hneg
          by_cases hge : (l.length : Int) ≤ a1
          · have g2 : decide ((l.length : Int) ≤ a1) = true := decide_eq_true hge
            have g3 : decide (a1 ≥ (l.length : Int)) = true := decide_eq_true hge
            clear hneg hge
            go_wp2_with fail
            go_ret
            exact ⟨rfl, HB.out⟩
          · have g2 : decide ((l.length : Int) ≤ a1) = false := decide_eq_false hge
            have g3 : decide (a1 ≥ (l.length : Int)) = false := decide_eq_false hge
            obtain ⟨cu, rfl⟩ : ∃ cu : Nat, a1 = (cu : Int) := ⟨a1.toNat, by omega⟩
            have hcl : cu < l.length := by omega
            obtain ⟨t0, ht0⟩ : ∃ t0, l[cu]? = some t0 := ⟨_, List.getElem?_eq_getElem hcl⟩
            have hdrop : l.drop cu = t0 :: l.drop (cu + 1) := by
              rw [List.drop_eq_getElem_cons hcl]
              rw [List.getElem?_eq_getElem hcl] at ht0
              rw [Option.some.inj ht0]
            obtain ⟨d, hd1, hd2', hd3⟩ := HL.out.2.front l rfl cu t0 ht0
            rw [size_l] at hd2'
            rw [Nat.zero_add] at hd1
            have hlike := HL.out.2.like l rfl t0 (List.mem_of_getElem? ht0)
            have htx := take_extract a0 d
            have hfs : (a0.extract 0 d).size = d := by rw [ByteArray.size_extract]; omega
            have hlexF : lex_Lex.f (a0.extract 0 d) = some (l.take cu, 0, 0) := by
              rw [lex_of (s := a0.extract 0 d) (R := .ok (l.take cu)) (by rw [hfs]; have := HL.out.1; omega) (by rw [htx]; exact hd3)]
              rfl
            have hokF : Rd.Ok ⟨l.take cu, (a0.extract 0 d).size, -1, -1⟩ := ⟨by have := HOk.out.len; show (l.take cu).length ≤ 100000; rw [List.length_take]; have h9 : l.length ≤ 100000 := this; omega, fun t ht => HOk.out.tok t (List.mem_of_mem_take ht), by show (0 : Int) ≤ ((a0.extract 0 d).size : Int); omega, .inl rfl⟩
            have hcp := cut_plain l a0.size HOk.out cu t0 (l.drop (cu + 1)) hdrop P HPT.out
            obtain ⟨PF, hPF⟩ : ∃ PF, PF = parseT (l.take cu) t0.f1 := ⟨_, rfl⟩
            have hPFc := parse_cnt (l.take cu) t0.f1
            rw [← hPF] at hcp hPFc
            have hpp : parseP (l.take cu) 0 0 (a0.extract 0 d).size = (PF.1, PF.2.map fun x => ⟨x.1, x.2⟩) := by
              rw [hPF, hfs, hd1]
              rfl
            have HPF : Hid (∀ V, Globs V → Calls Tryd.prog 5 #[.string (a0.extract 0 d)] V fun e w' => ∃ vp vd, e = .returned (.tuple #[vp, vd]) ∧ PAns V w' vp vd (PF.1, PF.2.map fun x => ⟨x.1, x.2⟩)) := Lib.hid (fun V hV => by rw [← hpp]; exact parse_calls _ _ 0 0 V hV hlexF hokF)
            have HCp := Lib.hid hcp
            have HPFc := Lib.hid hPFc
            have HPc : Hid (cnt P ≤ 100001) := Lib.hid (by have := parse_cnt l a0.size; rw [HPT.out] at this; exact this)
            have HLike := Lib.hid hlike
            have HF1 := Lib.hid hd1
            obtain ⟨ad, rfl, y0, y1, y2, y3⟩ := at_T37 HC.out (cu : Int) (by omega) (by omega)
            have hrd : rd_T37 l (cu : Int) = t0 := by
              unfold rd_T37
              rw [Int.toNat_natCast, List.getD_eq_getElem?_getD, ht0]
              rfl
            rw [hrd] at y0 y1 y2 y3
            rw [hd1] at y1
            simp only [Int.toNat_natCast] at y0 y1 y2 y3
            have g4 : decide (l.length ≤ cu) = false := decide_eq_false (by omega)
            have g5 : (l.length ≤ cu) = False := eq_false (by omega)
            have p1 := eq_true hcl
            have p2 : (0 ≤ (cu : Int)) = True := eq_true (by omega)
            have p3 : ((cu : Int) < (l.length : Int)) = True := eq_true (by omega)
            have p4 : (0 ≤ (d : Int)) = True := eq_true (by omega)
            have p5 : ((d : Int) ≤ (a0.size : Int)) = True := eq_true (by omega)
            have p6 : (d ≤ a0.size) = True := eq_true (by omega)
            have HCu := Lib.hid (show cu < l.length from hcl)
            have HRd := Lib.hid hrd
            clear hcl hdrop hd1 hd2' hd3 hlike htx hfs hlexF hokF hcp hPF hPFc hpp hrd ht0 hneg hge
            go_wp2_with fail
            refine (HPF.out V (HG.out.below HB.out)).mono ?_
            rintro e V3 ⟨vp, vd, rfl, F0, m0, k0, F1, m1, k1, F2, m2, k2, Af, cf, rfl, rfl, r0, r1, r2, hfd, hfc, hb3⟩
            have hm0 : m0 = PF.1.f0.length := (Kd.R_reads' r0).1
            have hm1 : m1 = PF.1.f1.length := (Kd.R_reads' r1).1
            have hm2 : m2 = PF.1.f2.length := (Kd.R_reads' r2).1
            obtain ⟨nd, hnd⟩ : ∃ nd, nd = ((PF.1, PF.2.map fun x => ⟨x.1, x.2⟩) : SProg × List SDiag).2.length := ⟨_, rfl⟩
            rw [← hnd] at hfd ⊢
            have hnd2 : nd = PF.2.length := by rw [hnd]; simp
            have HM0 := Lib.hid hm0
            have HM1 := Lib.hid hm1
            have HM2 := Lib.hid hm2
            have HNd := Lib.hid hnd2
            have HB3 := Lib.hid (below_step HB.out hb3)
            have HX3 := Lib.hid (HX.out.below hb3)
            have HC3 := Lib.hid (Kd.C_below HC.out hb3)
            have HFd := Lib.hid hfd
            clear r0 r1 r2 hfd hfc hb3 hm0 hm1 hm2 hnd hnd2 HPF HX HC HB
            go_upto_region 8 with fail
            refine code_at (fun U => Blk U V3.heap.size #[.slice F0 m0 k0, .slice F1 m1 k1, .slice F2 m2 k2] 27 ∧ Blk U W1.heap.size #[.slice A0 n0 c0, .slice A1 n1 c1, .slice A2 n2 c2] 27 ∧ Kd.C k37 U (some ad) l.length l ∧ Kd.C k33 U Af nd (PF.2.map fun x => ⟨x.1, x.2⟩) ∧ Below w.heap.size w U) ⟨Blk.new _ _ _, HX3.out.alloc _, Kd.C_below HC3.out (below_alloc (Below.refl _ _) _), Kd.C_below HFd.out (below_alloc (Below.refl _ _) _), below_alloc HB3.out _⟩ ?_
            rintro U ⟨hz, hx, hc, hfd, hb⟩
            obtain ⟨⟨z0, z1, z2⟩, -⟩ := hz.cells3
            obtain ⟨⟨w0', w1', w2'⟩, -⟩ := hx.cells3
            have HBU := Lib.hid hb
            have HFU := Lib.hid hfd
            clear x0 x1 y0 y1 y2 y3
            obtain ⟨ad', ead, y0, y1, y2, y3⟩ := at_T37 hc (cu : Int) (by omega) (by have := HCu.out; omega)
            cases ead
            have hrd : rd_T37 l (cu : Int) = t0 := HRd.out
            rw [hrd] at y0 y1 y2 y3
            rw [HF1.out] at y1
            simp only [Int.toNat_natCast] at y0 y1 y2 y3
            clear hz hx hc hfd hb hrd HX3 HC3 HFd HB3
            by_cases hw : cu = 0 ∨ t0.f2 = ⟨#[115, 116, 114, 117, 99, 116]⟩ ∨ t0.f2 = ⟨#[101, 110, 117, 109]⟩ ∨ t0.f2 = ⟨#[102, 110]⟩
            · have hwd : cu = 0 ∨ declTok t0 := hw.imp id (fun e => ⟨HLike.out.2.2 e, e⟩)
              have hres := HCp.out.2 hwd
              have hnd0 : nd = 0 := by rw [HNd.out, hres.1]; rfl
              subst hnd0
              have hle : m0 + m1 + m2 ≤ n0 + n1 + n2 := by
                have h9 := hres.2
                unfold cnt at h9
                rw [HM0.out, HM1.out, HM2.out, HN0.out, HN1.out, HN2.out]
                exact h9
              have hmb : m0 + m1 + m2 ≤ 100001 := by
                have h9 := HPFc.out
                unfold cnt at h9
                rw [HM0.out, HM1.out, HM2.out]
                exact h9
              have hnb : n0 + n1 + n2 ≤ 100001 := by
                have h9 := HPc.out
                unfold cnt at h9
                rw [HN0.out, HN1.out, HN2.out]
                exact h9
              have v1 : IntKind.i64.wrap ((m0 : Int) + (m1 : Int)) = (m0 : Int) + (m1 : Int) := by rw [i64_w]; unfold wrap64; omega
              have v2 : IntKind.i64.wrap ((m0 : Int) + (m1 : Int) + (m2 : Int)) = (m0 : Int) + (m1 : Int) + (m2 : Int) := by rw [i64_w]; unfold wrap64; omega
              have v3 : IntKind.i64.wrap ((n0 : Int) + (n1 : Int)) = (n0 : Int) + (n1 : Int) := by rw [i64_w]; unfold wrap64; omega
              have v4 : IntKind.i64.wrap ((n0 : Int) + (n1 : Int) + (n2 : Int)) = (n0 : Int) + (n1 : Int) + (n2 : Int) := by rw [i64_w]; unfold wrap64; omega
              have v5 : decide ((m0 : Int) + (m1 : Int) + (m2 : Int) ≤ (n0 : Int) + (n1 : Int) + (n2 : Int)) = true := decide_eq_true (by omega)
              have v6 : ((m0 : Int) + (m1 : Int) + (m2 : Int) ≤ (n0 : Int) + (n1 : Int) + (n2 : Int)) = True := eq_true (by omega)
              clear hle hmb hnb hres hwd
              have hw4 : cu = 0 ∨ (cu ≠ 0 ∧ t0.f2 = ⟨#[115, 116, 114, 117, 99, 116]⟩) ∨ (cu ≠ 0 ∧ t0.f2 ≠ ⟨#[115, 116, 114, 117, 99, 116]⟩ ∧ t0.f2 = ⟨#[101, 110, 117, 109]⟩) ∨ (cu ≠ 0 ∧ t0.f2 ≠ ⟨#[115, 116, 114, 117, 99, 116]⟩ ∧ t0.f2 ≠ ⟨#[101, 110, 117, 109]⟩ ∧ t0.f2 = ⟨#[102, 110]⟩) := by
                by_cases a1 : cu = 0
                · exact .inl a1
                · by_cases a2 : t0.f2 = ⟨#[115, 116, 114, 117, 99, 116]⟩
                  · exact .inr (.inl ⟨a1, a2⟩)
                  · by_cases a3 : t0.f2 = ⟨#[101, 110, 117, 109]⟩
                    · exact .inr (.inr (.inl ⟨a1, a2, a3⟩))
                    · exact .inr (.inr (.inr ⟨a1, a2, a3, ((hw.resolve_left a1).resolve_left a2).resolve_left a3⟩))
              clear hw
              rcases hw4 with h0 | ⟨h0, hh⟩ | ⟨h0, nstruct, hh⟩ | ⟨h0, nstruct, nenum, hh⟩
              · have k1' : ((cu : Int) == 0) = true := by rw [h0]; rfl
                have k2' : (cu = 0) = True := eq_true h0
                have k3' : ((cu : Int) = 0) = True := eq_true (by omega)
                clear h0
                go_wp2_with fail
                go_ret
                exact ⟨rfl, HBU.out⟩
              · have k1' : ((cu : Int) == 0) = false := by rw [beq_eq_false_iff_ne]; omega
                have k2' : (cu = 0) = False := eq_false h0
                have k3' : ((cu : Int) = 0) = False := eq_false (by omega)
                have s_struct : (t0.f2.toList == ([115, 116, 114, 117, 99, 116] : List UInt8)) = true := txt_true (hh)
                clear h0 hh
                go_wp2_with fail
                go_ret
                exact ⟨rfl, HBU.out⟩
              · have k1' : ((cu : Int) == 0) = false := by rw [beq_eq_false_iff_ne]; omega
                have k2' : (cu = 0) = False := eq_false h0
                have k3' : ((cu : Int) = 0) = False := eq_false (by omega)
                have s_struct : (t0.f2.toList == ([115, 116, 114, 117, 99, 116] : List UInt8)) = false := txt_false (nstruct)
                have s_enum : (t0.f2.toList == ([101, 110, 117, 109] : List UInt8)) = true := txt_true (hh)
                clear h0 hh nstruct
                go_wp2_with fail
                go_ret
                exact ⟨rfl, HBU.out⟩
              · have k1' : ((cu : Int) == 0) = false := by rw [beq_eq_false_iff_ne]; omega
                have k2' : (cu = 0) = False := eq_false h0
                have k3' : ((cu : Int) = 0) = False := eq_false (by omega)
                have s_struct : (t0.f2.toList == ([115, 116, 114, 117, 99, 116] : List UInt8)) = false := txt_false (nstruct)
                have s_enum : (t0.f2.toList == ([101, 110, 117, 109] : List UInt8)) = false := txt_false (nenum)
                have s_fn : (t0.f2.toList == ([102, 110] : List UInt8)) = true := txt_true (hh)
                clear h0 hh nstruct nenum
                go_wp2_with fail
                go_ret
                exact ⟨rfl, HBU.out⟩
            · have h0 : cu ≠ 0 := fun e => hw (.inl e)
              have nstruct : t0.f2 ≠ ⟨#[115, 116, 114, 117, 99, 116]⟩ := fun e => hw (.inr (.inl e))
              have nenum : t0.f2 ≠ ⟨#[101, 110, 117, 109]⟩ := fun e => hw (.inr (.inr (.inl e)))
              have nfn : t0.f2 ≠ ⟨#[102, 110]⟩ := fun e => hw (.inr (.inr (.inr e)))
              have hres := HCp.out.1 h0 (noDecl_of nstruct nenum nfn)
              have hnd1 : nd = 1 := by rw [HNd.out, hres]; rfl
              subst hnd1
              have hfd := HFU.out
              rw [hres, HF1.out] at hfd
              obtain ⟨af, rfl, q0, q1⟩ := diag_cells (a := (d : Int)) (b := 2) hfd
              have k1' : ((cu : Int) == 0) = false := by rw [beq_eq_false_iff_ne]; omega
              have k2' : (cu = 0) = False := eq_false h0
              have k3' : ((cu : Int) = 0) = False := eq_false (by omega)
              have s_struct : (t0.f2.toList == ([115, 116, 114, 117, 99, 116] : List UInt8)) = false := txt_false (nstruct)
              have s_enum : (t0.f2.toList == ([101, 110, 117, 109] : List UInt8)) = false := txt_false (nenum)
              have s_fn : (t0.f2.toList == ([102, 110] : List UInt8)) = false := txt_false (nfn)
              clear h0 nstruct nenum nfn hw hres hfd
              go_wp2_with fail
              go_quiet (fail)
              go_wp2_with fail
              go_ret
              exact ⟨rfl, pw_below_drewN HBU.out nq⟩
      · have e4 : (d2 != 0) = true := bne_iff_ne.2 hd2
        have hPT := HPD.out
        unfold parseP at hPT
        rw [if_pos hd2] at hPT
        simp only [Prod.mk.injEq] at hPT
        rw [hPT.2] at hDn
        exact absurd hDn (by simp)
end Go.Proofs.YtmgkejobolgkmaaDoor.PL
