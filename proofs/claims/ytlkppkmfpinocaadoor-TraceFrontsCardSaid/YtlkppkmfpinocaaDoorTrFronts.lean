/- TraceFronts: its contract, walked by hand. -/
import Derived.Test.YtlkppkmfpinocaaDoorPTx5
import Derived.Test.YtlkppkmfpinocaaDoorTrFrontsPure
namespace Go.Proofs.YtlkppkmfpinocaaDoor.PT
open Go.RowKit Go.Proofs.YtlkppkmfpinocaaDoorW.PrintWords Go.Proofs.YtlkppkmfpinocaaDoorW.PrintLast Go.Proofs.YtlkppkmfpinocaaDoorW.PrintMore
set_option linter.unusedVariables false
set_option linter.unusedSimpArgs false

set_option maxHeartbeats 8000000 in
set_option maxRecDepth 100000 in
theorem fronts_walk (A0 : Option Addr) (c0 : Nat) (l0 : List S26) (n : Int) (w : World) (hr0 : Kd.C k26 w A0 l0.length l0) (hc0 : l0.length ≤ c0) (hi : i64s l0 = true) (hn : i64B n = true) (hG : Globs w) :
    Calls Tryd.prog 5 #[.slice A0 l0.length c0, .int .i64 n] w fun e w' => e = .returned (.bool true) ∧ Below w.heap.size w w' := by
  have HR := Aside0.mk hr0
  have HC := Aside0.mk hc0
  have HI := Lib.hid hi
  have HN := Lib.hid hn
  have HAl := Lib.hid (droguelaw20_alive.calls true w hG rfl)
  clear hr0 hc0 hi hn hG
  have hmm := @run_makeMap Tryd.prog
  by_cases c100 : (l0.length : Int) > 100
  · have d1 : decide (100 < (l0.length : Int)) = true := decide_eq_true c100
    have d2 : decide (100 < l0.length) = true := decide_eq_true (by omega)
    have d3 : decide ((l0.length : Int) > 100) = true := decide_eq_true c100
    clear c100
    go_enter Tryd.func5, Tryd.ntmps5
    go_wp2_with fail
    refine HAl.out.mono ?_
    rintro e w1 ⟨rfl, hb1⟩
    have HB := Aside0.mk hb1
    clear hb1
    go_wp2_with fail
    go_ret
    exact ⟨rfl, HB.out⟩
  · have HL := Lib.hid (show l0.length ≤ 100 by omega)
    have d1 : decide (100 < (l0.length : Int)) = false := decide_eq_false c100
    have d2 : decide (100 < l0.length) = false := decide_eq_false (by omega)
    have d3 : decide ((l0.length : Int) > 100) = false := decide_eq_false c100
    clear c100
    have HSd : Hid (∀ W, Below w.heap.size w W → Calls Tryd.prog 18 #[.slice A0 l0.length c0] W fun e w' => e = .returned (.bool (soundL l0 (fun _ => false) 0 false)) ∧ Below W.heap.size W w') :=
      Lib.hid (fun W hb => trace_Sound.calls A0 c0 l0 _ W (Kd.C_below HR.out hb) HC.out (if_pos ⟨HI.out, by have := HL.out; omega⟩))
    cases hS : soundL l0 (fun _ => false) 0 false with
    | false =>
      rw [hS] at HSd
      go_enter Tryd.func5, Tryd.ntmps5
      go_wp2_with fail
      refine HAl.out.mono ?_
      rintro e w1 ⟨rfl, hb1⟩
      have HB := Aside0.mk hb1
      clear hb1
      go_wp2_with fail
      refine (HSd.out _ HB.out).mono ?_
      rintro e w2 ⟨rfl, hb2⟩
      replace HB := Aside0.mk (below_step HB.out hb2)
      clear hb2
      go_wp2_with fail
      go_ret
      exact ⟨rfl, HB.out⟩
    | true =>
      rw [hS] at HSd
      have HF := Lib.hid (frEnd_ok l0 hS)
      have HSt := Lib.hid hS
      clear hS
      obtain ⟨T, hT⟩ : ∃ T, T = frEnd l0 := ⟨_, rfl⟩
      rw [← hT] at HF
      have HT := Lib.hid hT
      clear hT
      go_enter Tryd.func5, Tryd.ntmps5
      go_wp2_with fail
      refine HAl.out.mono ?_
      rintro e w1 ⟨rfl, hb1⟩
      have HB := Aside0.mk hb1
      clear hb1
      go_wp2_with fail
      refine (HSd.out _ HB.out).mono ?_
      rintro e w2 ⟨rfl, hb2⟩
      replace HB := Aside0.mk (below_step HB.out hb2)
      clear hb2
      have HSz := Lib.hid HB.out.size
      go_wp2_with fail
      clear hmm
      go_loopg [6, 7] l0.length (fun kq v6 v7 w' => ∃ (x : Nat) (f : Int → Option Int) (sz : Nat) (al : Int), v7 = .int .i64 (x : Int) ∧ v6 = .int .i64 al ∧ Aside0 (x + kq = l0.length) ∧ Aside0 (0 ≤ al ∧ al ≤ x ∧ sz ≤ x ∧ ∀ y, 0 ≤ (f y).getD 0 ∧ (f y).getD 0 ≤ x) ∧ Aside0 ((l0.drop x).foldl stepF (f, sz, al) = T) ∧ Aside0 (IMap 3 w' w2.heap.size x f sz) ∧ Aside0 (Below w.heap.size w w'))
      case atStart => exact ⟨0, fun _ => none, 0, 0, rfl, rfl, ⟨by omega⟩, ⟨by omega, by omega, by omega, fun y => by simp⟩, ⟨by rw [HT.out]; rfl⟩, ⟨IMap.new _ _⟩, ⟨below_alloc HB.out _⟩⟩
      case round =>
        obtain ⟨x, f, sz, al, rfl, rfl, HX, HA, HF2, HM, HB⟩ := hrel
        cases gk with
        | zero =>
          have cx : decide (x < l0.length) = false := decide_eq_false (by have := HX.out; omega)
          have cx' : decide ((x : Int) < (l0.length : Int)) = false := decide_eq_false (by have := HX.out; omega)
          have hx : l0.drop x = [] := List.drop_eq_nil_of_le (by have := HX.out; omega)
          have hT2 : (f, sz, al) = T := by
            have := HF2.out
            rw [hx] at this
            exact this
          rw [← hT2] at HF
          have HAL : Hid (0 ≤ al ∧ al ≤ 100 ∧ sz ≤ 100) := Lib.hid (by have := HA.out; have := HX.out; have := HL.out; omega)
          have HZ : Hid (∀ y ∈ liveF l0, i64B y = true) := Lib.hid (live_i64 l0 [] HI.out (by simp))
          have HZl : Hid ((liveF l0).length ≤ 100) := Lib.hid (by
            have h1 : (liveF l0).length ≤ 0 + l0.length := fold_len l0 []
            have := HL.out
            omega)
          have HLv := Lib.hid (trace_Live.calls A0 c0 l0 (liveF l0) wr (Kd.C_below HR.out HB.out) HC.out (if_pos (by have := HL.out; omega)))
          clear hx hT2 HF2 HA HT
          go_wp2_with fail
          refine HLv.out.mono ?_
          rintro e w3 ⟨v8, rfl, hR8, hb3⟩
          clear HLv
          obtain ⟨A8, c8, rfl⟩ := Kd.R_slice hR8
          have HC8 := Aside0.mk (Kd.R_reads' hR8).2.2
          have HM3 := Aside0.mk (HM.out.below hb3)
          have HB3 := Aside0.mk (below_step HB.out hb3)
          clear HM HB hb3 hR8 cx cx'
          generalize liveF l0 = zs at *
          go_wp2_with fail
          go_loopg [9] zs.length (fun kq v9 w' => ∃ y : Nat, v9 = .int .i64 (y : Int) ∧ Aside0 (y + kq = zs.length) ∧ w' = w3)
          case atStart => exact ⟨0, rfl, ⟨by omega⟩, rfl⟩
          case round =>
            obtain ⟨y, rfl, HY, rfl⟩ := hrel
            cases gk with
            | zero =>
              have cx : decide (y < zs.length) = false := decide_eq_false (by have := HY.out; omega)
              have cx' : decide ((y : Int) < (zs.length : Int)) = false := decide_eq_false (by have := HY.out; omega)
              go_wp2_with fail
              clear cx cx' HY
              go_loopg [10] al.toNat (fun kq v10 w' => ∃ z : Nat, v10 = .int .i64 (z : Int) ∧ Aside0 (1 ≤ z ∧ z + kq = al.toNat + 1) ∧ w' = wr)
              case atStart => exact ⟨1, rfl, ⟨by omega, by omega⟩, rfl⟩
              case round =>
                obtain ⟨z, rfl, HZ2, rfl⟩ := hrel
                cases gk with
                | zero =>
                  have cx : decide ((z : Int) ≤ al) = false := decide_eq_false (by have := HZ2.out; have := HAL.out; omega)
                  have hln := fun ty => HM3.out.len Tryd.underlying38 ty
                  have ws : IntKind.i64.wrap ((zs.length : Int) + (sz : Int)) = al := by
                    rw [i64_w]
                    unfold wrap64
                    have h3 : (zs.length : Int) + (sz : Int) = al := HF.out.2.2
                    have := HAL.out
                    omega
                  by_cases n0 : n < 0
                  · have e0 : decide (n < 0) = true := decide_eq_true n0
                    go_wp2_with fail
                    go_ret
                    exact ⟨rfl, HB3.out⟩
                  · have e0 : decide (n < 0) = false := decide_eq_false n0
                    obtain ⟨j, rfl⟩ : ∃ j : Nat, n = (j : Int) := ⟨n.toNat, by omega⟩
                    clear n0
                    by_cases n1 : j > l0.length
                    · have e1 : decide ((l0.length : Int) < (j : Int)) = true := decide_eq_true (by omega)
                      have e2 : decide (l0.length < j) = true := decide_eq_true n1
                      have e3 : decide ((j : Int) > (l0.length : Int)) = true := e1
                      go_wp2_with fail
                      go_ret
                      exact ⟨rfl, HB3.out⟩
                    · have e1 : decide ((l0.length : Int) < (j : Int)) = false := decide_eq_false (by omega)
                      have e2 : decide (l0.length < j) = false := decide_eq_false n1
                      have e3 : decide ((j : Int) > (l0.length : Int)) = false := e1
                      have hjl : j ≤ l0.length := by omega
                      clear n1
                      obtain ⟨i07, hi07, _, hsz7, _⟩ := info_parts info26
                      have hcut := cut_to (P := Tryd.prog) 22 26 .i64 Tryd.underlying22 hi07 A0 l0.length c0 (j : Int) (by omega) (by omega) HC.out
                      simp only [Int.toNat_natCast] at hcut
                      obtain ⟨y2, hy⟩ : ∃ y2, y2 = l0.take j := ⟨_, rfl⟩
                      have hyl : y2.length = j := by rw [hy, List.length_take]; omega
                      have hCy : ∀ W, Below w.heap.size w W → Kd.C k26 W A0 y2.length y2 := fun W hb => by
                        have h1 := Kd.C_take (m := j) (Kd.C_below HR.out hb) hjl
                        rw [← hy] at h1
                        exact h1
                      have hcy : y2.length ≤ c0 := by have := HC.out; omega
                      have HS1 : Hid (∀ W, Below w.heap.size w W → Calls Tryd.prog 18 #[.slice A0 j c0] W fun e w' => e = .returned (.bool true) ∧ Below W.heap.size W w') := Lib.hid (fun W hb => by
                        have h1 := trace_Sound.calls A0 c0 y2 true W (hCy W hb) hcy (by
                          unfold trace_Sound.f
                          rw [if_pos ⟨by rw [hy]; exact i64s_take j HI.out, by have := HL.out; omega⟩, hy, sound_take l0 j _ _ _ HSt.out])
                        rw [hyl] at h1
                        exact h1)
                      have HF1 : Hid (∀ W, Below w.heap.size w W → Calls Tryd.prog 23 #[.slice A0 j c0, .slice A0 l0.length c0] W fun e w' => e = .returned (.bool true) ∧ Drawn0 W w') := Lib.hid (fun W hb => by
                        obtain ⟨k, hk⟩ := (front_ev y2 l0 (by have := HL.out; omega)).some_of
                        rw [show frontB y2 l0 = true by rw [hy]; exact frontB_take l0 j] at hk
                        have h1 := trace_Front.calls k A0 c0 y2 A0 c0 l0 true W (hCy W hb) hcy (Kd.C_below HR.out hb) HC.out hk
                        rw [hyl] at h1
                        exact h1)
                      have HF3 : Hid (∀ W, Below w.heap.size w W → Calls Tryd.prog 23 #[.slice A0 l0.length c0, .slice A0 j c0] W fun e w' => e = .returned (.bool (decide (j = l0.length))) ∧ Drawn0 W w') := Lib.hid (fun W hb => by
                        obtain ⟨k, hk⟩ := (front_ev l0 y2 (by have := HL.out; omega)).some_of
                        rw [show frontB l0 y2 = decide (j = l0.length) by rw [hy]; exact frontB_back l0 j hjl] at hk
                        have h1 := trace_Front.calls k A0 c0 l0 A0 c0 y2 _ W (Kd.C_below HR.out hb) HC.out (hCy W hb) hcy hk
                        rw [hyl] at h1
                        exact h1)
                      clear hCy hy hyl hcy hi07 hsz7 HZ2 HF
                      have p1 : (0 ≤ (j : Int)) = True := eq_true (by omega)
                      have p2 : ((j : Int) ≤ (l0.length : Int)) = True := eq_true (by omega)
                      have p3 := eq_true hjl
                      clear hjl
                      cases hb : decide (j = l0.length) with
                      | true =>
                        rw [hb] at HF3
                        have bj : ((j : Int) == (l0.length : Int)) = true := by
                          rw [beq_iff_eq]
                          have := of_decide_eq_true hb
                          omega
                        have bj2 : (j == l0.length) = true := by simpa using hb
                        clear hb
                        go_wp2_with fail
                        refine (HS1.out _ HB3.out).mono ?_
                        rintro e w4 ⟨rfl, hb4⟩
                        have HB4 := Aside0.mk (below_step HB3.out hb4)
                        clear hb4
                        go_wp2_with fail
                        refine (HF1.out _ HB4.out).mono ?_
                        rintro e w5 ⟨rfl, m5, rfl⟩
                        have HB5 := Aside0.mk (pw_below_drewN HB4.out m5)
                        go_wp2_with fail
                        refine (HF3.out _ HB5.out).mono ?_
                        rintro e w6 ⟨rfl, m6, rfl⟩
                        have HB6 := Aside0.mk (pw_below_drewN HB5.out m6)
                        go_wp2_with fail
                        go_ret
                        exact ⟨rfl, pw_below_drewN HB4.out _⟩
                      | false =>
                        rw [hb] at HF3
                        have bj : ((j : Int) == (l0.length : Int)) = false := by
                          rw [beq_eq_false_iff_ne]
                          have := of_decide_eq_false hb
                          omega
                        have bj2 : (j == l0.length) = false := by simpa using hb
                        clear hb
                        go_wp2_with fail
                        refine (HS1.out _ HB3.out).mono ?_
                        rintro e w4 ⟨rfl, hb4⟩
                        have HB4 := Aside0.mk (below_step HB3.out hb4)
                        clear hb4
                        go_wp2_with fail
                        refine (HF1.out _ HB4.out).mono ?_
                        rintro e w5 ⟨rfl, m5, rfl⟩
                        have HB5 := Aside0.mk (pw_below_drewN HB4.out m5)
                        go_wp2_with fail
                        refine (HF3.out _ HB5.out).mono ?_
                        rintro e w6 ⟨rfl, m6, rfl⟩
                        have HB6 := Aside0.mk (pw_below_drewN HB5.out m6)
                        go_wp2_with fail
                        go_ret
                        exact ⟨rfl, pw_below_drewN HB4.out _⟩
                | succ kk =>
                  have cx : decide ((z : Int) ≤ al) = true := decide_eq_true (by have := HZ2.out; have := HAL.out; omega)
                  have wx : IntKind.i64.wrap ((z : Int) + 1) = ((z + 1 : Nat) : Int) := by rw [i64_w]; unfold wrap64; have := HAL.out; have := HZ2.out; omega
                  have hl := HM3.out.look Tryd.underlying38 Tryd.underlying3 Tryd.zeroValue3 (z : Int) (i64B_nat (by have := HAL.out; have := HZ2.out; omega))
                  have hle : (f (z : Int)).getD 0 ≤ 1 := HF.out.2.1 (z : Int)
                  generalize (f (z : Int)).getD 0 = u at hl hle
                  have cu : decide (1 < u) = false := decide_eq_false (by omega)
                  have cu' : decide (u > 1) = false := cu
                  clear hle
                  go_wp2_with fail
                  go_roundg kk
                  case measure => omega
                  case rel => exact ⟨z + 1, by simp [wx], ⟨by have := HZ2.out; omega, by have := HZ2.out; omega⟩, rfl⟩
            | succ kk =>
              have hyl : y < zs.length := by have := HY.out; omega
              have cx : decide (y < zs.length) = true := decide_eq_true hyl
              have cx' : decide ((y : Int) < (zs.length : Int)) = true := decide_eq_true (by omega)
              have wx : IntKind.i64.wrap ((y : Int) + 1) = ((y + 1 : Nat) : Int) := by rw [i64_w]; unfold wrap64; have := HZl.out; omega
              have hzr : rd zs (y : Int) = zs[y] := by simp [rd, List.getD, hyl]
              obtain ⟨ad8, e8, hx8⟩ := Kd.at_int HC8.out (y : Int) (by omega) (by omega)
              cases e8
              have hmem : zs[y] ∈ zs := List.getElem_mem hyl
              have hl := HM3.out.look Tryd.underlying38 Tryd.underlying3 Tryd.zeroValue3 (zs[y]) (HZ.out _ hmem)
              have hz0 : (f (zs[y])).getD 0 = 0 := HF.out.1 _ hmem
              rw [hz0] at hl
              clear hz0
              rw [hzr] at hx8
              simp only [Int.toNat_natCast] at hx8
              generalize zs[y] = q at *
              have p1 := eq_true hyl
              have p2 : (0 ≤ (y : Int)) = True := eq_true (by omega)
              have p3 : ((y : Int) < (zs.length : Int)) = True := eq_true (by omega)
              clear hyl hzr hmem
              go_wp2_with fail
              go_roundg kk
              case measure => omega
              case rel => exact ⟨y + 1, by simp [wx], ⟨by have := HY.out; omega⟩, rfl⟩
        | succ kk =>
          have hxl : x < l0.length := by have := HX.out; omega
          have cx : decide (x < l0.length) = true := decide_eq_true hxl
          have cx' : decide ((x : Int) < (l0.length : Int)) = true := decide_eq_true (by omega)
          have wx : IntKind.i64.wrap ((x : Int) + 1) = ((x + 1 : Nat) : Int) := by rw [i64_w]; unfold wrap64; have := HL.out; omega
          have wa : IntKind.i64.wrap (al + 1) = al + 1 := by rw [i64_w]; unfold wrap64; have := HL.out; have := HA.out; omega
          have hi := i64s_rd HI.out x hxl
          have hd := drop_rd l0 x hxl
          obtain ⟨ad, ea, hx0, hx1⟩ := at_T26 (Kd.C_below HR.out HB.out) (x : Int) (by omega) (by omega)
          cases ea
          simp only [Int.toNat_natCast] at hx0 hx1
          rw [hd] at HF2
          generalize htd : rd_T26 l0 (x : Int) = t at *
          have HXL := Lib.hid hxl
          have Hi := Lib.hid hi
          have p1 := eq_true hxl
          have p2 : (0 ≤ (x : Int)) = True := eq_true (by omega)
          have p3 : ((x : Int) < (l0.length : Int)) = True := eq_true (by omega)
          clear hxl hi hd
          obtain ⟨q0, q1⟩ := t
          simp only at hx0 hx1
          have HTd := Lib.hid htd
          clear htd
          by_cases k2 : q0 = 2
          · subst k2
            have hl := HM.out.look Tryd.underlying38 Tryd.underlying3 Tryd.zeroValue3 q1 Hi.out
            have HC2 : Hid ((l0.drop (x + 1)).foldl stepF (setI f q1 ((f q1).getD 0 + 1), (if (f q1).isSome then sz else sz + 1), al) = T) := Lib.hid (by
              have := HF2.out
              rw [List.foldl_cons] at this
              exact this)
            have hq := HA.out.2.2.2 q1
            obtain ⟨u, hu⟩ : ∃ u, u = (f q1).getD 0 := ⟨_, rfl⟩
            rw [← hu] at hl HC2 hq
            have HU := Lib.hid hq
            have wu : IntKind.i64.wrap (u + 1) = u + 1 := by rw [i64_w]; unfold wrap64; have := HL.out; have := HX.out; omega
            have HUi : Hid (i64B (u + 1) = true) := Lib.hid (by
              simp only [i64B, Bool.and_eq_true, decide_eq_true_eq]
              have := HL.out
              have := HX.out
              omega)
            clear hu hq
            go_wp2_with (at_mapUpdate; refine HM.out.put Tryd.underlying38 Tryd.underlying3 q1 (u + 1) Hi.out HUi.out (by have := HL.out; have := HX.out; omega) rfl _ _ _ rfl rfl rfl rfl ?_; intro w3 hm2 hg2; have HM2 := Aside0.mk hm2; have HB2 : Aside0 (Below w.heap.size w w3) := ⟨HB.out.grown hg2 HB.out.size (fun k e => by cases e; exact HSz.out)⟩; clear hm2 hg2; clear hx0 hx1 hl; obtain ⟨ad2, ea2, hx0, hx1⟩ := at_T26 (Kd.C_below HR.out HB2.out) (x : Int) (by have := HXL.out; omega) (by have := HXL.out; omega); cases ea2; simp only [Int.toNat_natCast] at hx0 hx1; rw [HTd.out] at hx0 hx1; simp only at hx0 hx1)
            go_roundg kk
            case measure => omega
            case rel =>
              refine ⟨x + 1, _, _, al, by simp [wx], rfl, ⟨by have := HX.out; omega⟩, ⟨by have := HA.out; omega, by have := HA.out; omega, by have := HA.out; split <;> omega, fun y => ?_⟩, ⟨HC2.out⟩, ⟨HM2.out⟩, ⟨HB2.out⟩⟩
              have := HA.out.2.2.2 y
              have := HU.out
              unfold setI
              split
              · simp only [Option.getD_some]
                omega
              · omega
          · have b2 : (q0 == 2) = false := by simpa using k2
            by_cases k1 : q0 = 1
            · subst k1
              have HC2 : Hid ((l0.drop (x + 1)).foldl stepF (f, sz, al + 1) = T) := Lib.hid (by
                have := HF2.out
                rw [List.foldl_cons] at this
                exact this)
              go_wp2_with fail
              go_roundg kk
              case measure => omega
              case rel => exact ⟨x + 1, f, sz, al + 1, by simp [wx], by first | rfl | simp [wa], ⟨by have := HX.out; omega⟩, ⟨by have := HA.out; omega, by have := HA.out; omega, by have := HA.out; omega, fun y => by have := HA.out.2.2.2 y; omega⟩, ⟨HC2.out⟩, ⟨HM.out.mono (Nat.le_succ _)⟩, ⟨HB.out⟩⟩
            · have b1 : (q0 == 1) = false := by simpa using k1
              have HC2 : Hid ((l0.drop (x + 1)).foldl stepF (f, sz, al) = T) := Lib.hid (by
                have := HF2.out
                rw [List.foldl_cons] at this
                unfold stepF at this
                rw [if_neg k2, if_neg k1] at this
                exact this)
              go_wp2_with fail
              go_roundg kk
              case measure => omega
              case rel => exact ⟨x + 1, f, sz, al, by simp [wx], rfl, ⟨by have := HX.out; omega⟩, ⟨by have := HA.out; omega, by have := HA.out; omega, by have := HA.out; omega, fun y => by have := HA.out.2.2.2 y; omega⟩, ⟨HC2.out⟩, ⟨HM.out.mono (Nat.le_succ _)⟩, ⟨HB.out⟩⟩
def droguelaw20_TraceFronts.f (k : Nat) (l : List S26) (n : Int) : Option Bool := if i64s l = true ∧ i64B n = true then some true else none
theorem droguelaw20_TraceFronts.calls (k : Nat) (A0 : Option Addr) (c0 : Nat) (l0 : List S26) (a1 : Int) (r : Bool) (w : World) (hr0 : Kd.C k26 w A0 l0.length l0) (hc0 : l0.length ≤ c0) (hG : Globs w) (h : droguelaw20_TraceFronts.f k l0 a1 = some r) :
    Calls Tryd.prog 5 #[.slice A0 l0.length c0, .int .i64 a1] w fun e w' => e = .returned (.bool r) ∧ Below w.heap.size w w' := by
  obtain ⟨⟨hi, hn⟩, rfl⟩ := of_guard h
  exact fronts_walk A0 c0 l0 a1 w hr0 hc0 hi hn hG
theorem traceFronts_pure (l : List S26) (n : Int) (hi : i64s l = true) (hn : (Lit.int .i64 n).wf = true) : ∃ k, droguelaw20_TraceFronts.f k l n = some true := by
  refine ⟨0, if_pos ⟨hi, ?_⟩⟩
  simp only [Lit.wf, Bool.and_eq_true, decide_eq_true_eq] at hn
  obtain ⟨h0, h1⟩ := hn
  simp only [i64B, Bool.and_eq_true, decide_eq_true_eq]
  exact ⟨h0, h1⟩
end Go.Proofs.YtlkppkmfpinocaaDoor.PT
