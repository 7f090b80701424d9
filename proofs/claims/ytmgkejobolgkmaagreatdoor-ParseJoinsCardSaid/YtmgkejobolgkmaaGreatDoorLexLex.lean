/- Package lex's Lex: its contract. Printed by the patched print, then turned by hand at the append. -/
import Derived.Test.YtmgkejobolgkmaaGreatDoorPLx0
import Derived.Test.YtmgkejobolgkmaaGreatDoorLexGlobs
import Derived.Test.YtmgkejobolgkmaaGreatDoorLexAid
import Derived.Test.YtmgkejobolgkmaaGreatDoorLexSkip
import Derived.Test.YtmgkejobolgkmaaGreatDoorLexToken
namespace Go.Proofs.YtmgkejobolgkmaaGreatDoor.PL
open Go.RowKit Go.Proofs.YtmgkejobolgkmaaGreatDoorW.PrintWords Go.Proofs.YtmgkejobolgkmaaGreatDoorW.PrintLast Go.Proofs.YtmgkejobolgkmaaGreatDoorW.PrintMore
attribute [local go_sem] max2_int min2_int max_two min_two max_three min_three max_four min_four   -- for this text's walks alone
set_option linter.unusedVariables false
set_option linter.unusedSimpArgs false

/-! ### lex_Lex: function 10 -/
def lex_Lex.l0 : Nat → ByteArray → List (S42) → Int → Option ((List (S42)) × Int × Int)
  | 0, _, _, _ => none
  | k + 1, x0, x4, x5 => if x5 < (x0.size : Int) then (if 0 ≤ x5 then (if x5 ≤ (x0.size : Int) then ((lex_token.f (x0.extract (x5 : Int).toNat x0.size)).bind fun bt103 => (if bt103.2.2.2.2 = true then (if x4.length < 3518437208883 then (if 0 ≤ (wrap64 (x5 + (bt103.2.2.1.size : Int))) then (if (wrap64 (x5 + (bt103.2.2.1.size : Int))) ≤ (x0.size : Int) then ((lex_skip.f (x0.extract ((wrap64 (x5 + (bt103.2.2.1.size : Int))) : Int).toNat x0.size)).bind fun t112 => (lex_Lex.l0 k x0 (x4 ++ [(⟨bt103.1, x5, bt103.2.2.1, bt103.2.2.2.1⟩ : S42)]) (wrap64 ((wrap64 (x5 + (bt103.2.2.1.size : Int))) + t112)))) else (none)) else (none)) else (none)) else (some (([] : List (S42)), x5, 1)))) else (none)) else (none)) else (some (x4, 0, 0))
def lex_Lex.g (k : Nat) (a0 : ByteArray) : Option ((List (S42)) × Int × Int) := if (a0.size : Int) > 16384 then (some (([] : List (S42)), 16384, 3)) else ((lex_skip.f a0).bind fun t102 => (lex_Lex.l0 k a0 ([] : List (S42)) t102))
theorem lex_Lex.mono_l : ∀ k, (∀ y0 y1 y2, LeO (lex_Lex.l0 k y0 y1 y2) (lex_Lex.l0 (k + 1) y0 y1 y2))
  | 0 => fun _ _ _ r h => by simp [lex_Lex.l0] at h
  | k + 1 => by
    have ih0 := lex_Lex.mono_l k
    · intro y0 y1 y2
      unfold lex_Lex.l0
      repeat' first
      | (with_reducible exact ih0 _ _ _)
      | (with_reducible exact LeO.refl _)
      | (with_reducible exact LeO.none _)
      | (with_reducible refine LeO.ite ?_ ?_)
      | (with_reducible refine LeO.bind ?_ (fun _ => ?_))
      | exact ih0 _ _ _
      | exact LeO.none _
      | refine LeO.ite ?_ ?_
      | refine LeO.bind ?_ (fun _ => ?_)
theorem lex_Lex.gmono : ∀ a0 k, LeO (lex_Lex.g k a0) (lex_Lex.g (k + 1) a0) := by
  intro a0 k
  have ih0 := lex_Lex.mono_l k
  unfold lex_Lex.g
  repeat' first
      | (with_reducible exact ih0 _ _ _)
      | (with_reducible exact LeO.refl _)
      | (with_reducible exact LeO.none _)
      | (with_reducible refine LeO.ite ?_ ?_)
      | (with_reducible refine LeO.bind ?_ (fun _ => ?_))
      | exact ih0 _ _ _
      | exact LeO.none _
      | refine LeO.ite ?_ ?_
      | refine LeO.bind ?_ (fun _ => ?_)

theorem lex_info : (Tryz.prog.info? 42).map (fun i => (i.zero, i.size, i.bytes)) = some (some (.agg #[(.int .i64 0), (.int .i64 0), (.string ⟨#[]⟩), (.int .i64 0)]), 4, 40) := by kernel_rfl
theorem lex_append {ops : Array Oper} {o : Oper} {a : Act} {Q : Exit → Act → World → Prop} {rest : List Oper} {w w17 : World} {v4 : Value} {xs : List S42} {gb : Nat} {y0 y1 : Value} (p : S42)
    (hgd : o.guard = none) (ho : o.op = .call { callee := .builtin .append, args := #[.tmp 37, .tmp 39], argTypes := #[38, 38] })
    (hs : a.eval (.tmp 37) = v4) (hx : a.eval (.tmp 39) = .slice (some ⟨w17.heap.size + 1, 0, none⟩) 1 1)
    (HO : Kd.R k42 42 w17 w.heap.size (fun _ => True) v4 xs) (HB : Below w.heap.size w w17) (BK : Blk w17 gb #[y0, y1] 32) (hl : xs.length < 3518437208883)
    (h : ∀ v1 w1, Kd.R k42 42 w1 w.heap.size (fun _ => True) v1 (xs ++ [p]) → Bel w.heap.size w w1 → Blk w1 gb #[y0, y1] 32 → Blk w1 w17.heap.size #[.int .i64 p.f0, .int .i64 p.f1, .string p.f2, .int .i64 p.f3] 42 → wpList Tryz.prog ops Q rest (a.put o.dst v1) w1) :
    wpList Tryz.prog ops Q (o :: rest) a ((w17.alloc (.cells #[.int .i64 p.f0, .int .i64 p.f1, .string p.f2, .int .i64 p.f3] 42)).alloc (.cells #[.int .i64 p.f0, .int .i64 p.f1, .string p.f2, .int .i64 p.f3] 42)) := by
  have hsz : (w17.alloc (.cells #[.int .i64 p.f0, .int .i64 p.f1, .string p.f2, .int .i64 p.f3] 42)).heap.size = w17.heap.size + 1 := by simp
  have BN := Blk.new w17 #[.int .i64 p.f0, .int .i64 p.f1, .string p.f2, .int .i64 p.f3] 42
  have BK2 := BK.alloc (.cells #[.int .i64 p.f0, .int .i64 p.f1, .string p.f2, .int .i64 p.f3] 42)
  have HB2 := below_alloc HB (.cells #[.int .i64 p.f0, .int .i64 p.f1, .string p.f2, .int .i64 p.f3] 42)
  have HO2 := Kd.R_alloc HO (.cells #[.int .i64 p.f0, .int .i64 p.f1, .string p.f2, .int .i64 p.f3] 42)
  have hlt : ∀ k, v4.ownBlock = some k → k < w17.heap.size := Kd.R_lt HO
  have HO3 : Kd.R k42 42 (w17.alloc (.cells #[.int .i64 p.f0, .int .i64 p.f1, .string p.f2, .int .i64 p.f3] 42)) w.heap.size (fun k => k ≠ w17.heap.size) v4 xs := ⟨fun k hk => Nat.ne_of_lt (hlt k hk), HO2.2⟩
  have hne : some w17.heap.size ≠ v4.ownBlock := fun e => absurd (hlt _ e.symm) (Nat.lt_irrefl _)
  have hneK : some gb ≠ v4.ownBlock := Kd.R_ne HO BK.out (by decide)
  refine Kd.R_append k42 (w0 := w) w.heap.size hgd (.tmp 37) (.tmp 39) 38 42 (.agg #[(.int .i64 0), (.int .i64 0), (.string ⟨#[]⟩), (.int .i64 0)]) 40 ho Tryz.underlying38 lex_info rfl (by decide) (by omega) v4 xs p [.int .i64 p.f0, .int .i64 p.f1, .string p.f2, .int .i64 p.f3] (fun k => k ≠ w17.heap.size) (fun _ => False) hs (by rw [hsz]; exact hx) (k42_mkM _ _ _ p) (fun _ hk => hk.elim) (fun k hk => by rw [hsz] at hk; omega) HO3 HB2 HB2.size (by omega) ?_
  intro v1 w1 ho hb hg hat
  exact h v1 w1 (Kd.R_mono ho (fun _ _ => trivial)) ⟨hb⟩ ⟨blk_grown BK2.out hg hneK⟩ ⟨blk_grown BN.out hg hne⟩

set_option maxHeartbeats 8000000 in
set_option maxRecDepth 100000 in
theorem lex_Lex.gcalls (k : Nat) (a0 : ByteArray) (r1 : List (S42)) (r2 : Int) (r3 : Int) (w : World) (hG : Globs w) (h : lex_Lex.g k a0 = some (r1, r2, r3)) :
    Calls Tryz.prog 13 #[.string a0] w fun e w' => ∃ v0_ : Value, e = .returned (.tuple #[v0_, .agg #[.int .i64 r2, .int .i64 r3]]) ∧ Kd.R k42 42 w' w.heap.size (fun _ => True) v0_ r1 ∧ Below w.heap.size w w' := by
  have hu25 := Tryz.underlying32
  have hu35 := Tryz.underlying42
  have HG := Aside0.mk hG
  clear hG
  have HB := Aside0.mk (Below.refl w.heap.size w)
  have H : (if (a0.size : Int) > 16384 then (some (([] : List (S42)), 16384, 3)) else ((lex_skip.f a0).bind fun t102 => (lex_Lex.l0 k a0 ([] : List (S42)) t102))) = some (r1, r2, r3) := h
  clear h
  by_cases c2 : (a0.size : Int) > 16384
  · rw [if_pos c2] at H
    have c2b0 : decide (16384 < (a0.size : Int)) = true := decide_eq_true c2
    have c2b1 : decide (16384 < a0.size) = true := decide_eq_true (by omega)
    clear c2
    simp only [Option.some.injEq, Prod.mk.injEq] at H
    obtain ⟨rfl, rfl, rfl⟩ := H
    go_enter Tryz.func13, Tryz.ntmps13
    go_wp2_with (first | ((with_reducible refine gate_dst (N := 3) rfl ?_); refine box_event ?hg (N := 3) ?hd (cs := #[.int .i64 0, .int .i64 0]) (t := 32) ?hr ?_; (case hd => rfl); (case hg => rfl); (case hr => first | (go_simp; done) | (go_simp; rfl)); intro gb101 hg w3 hbox hb; have n0_ := Aside0.mk (below_step (by repeat (first | (with_reducible first | exact HB.out | apply below_alloc | apply pw_below_drewN | apply below_drew1) | exact HB.out)) hb); have n1_ := Aside0.mk (hbox); have n2_ := Aside0.mk ((by rw [hg]; exact (below_size (by repeat (first | (with_reducible first | exact HB.out | apply below_alloc | apply pw_below_drewN | apply below_drew1) | exact HB.out))) : w.heap.size ≤ gb101)); have n3_ := Aside0.mk ((by rw [hg]; exact (below_size (by repeat (first | (with_reducible first | exact HB.out | apply below_alloc | apply pw_below_drewN | apply below_drew1) | exact HB.out))) : w.heap.size ≤ gb101)); clear HB; have HB := n0_; have BK101 := n1_; have GW101 := n2_; have GE101 := n3_; clear n0_ n1_ n2_ n3_; clear hb hbox hg; have hcz4_0 : w3.cell? ⟨gb101, 0, none⟩ = some (.int .i64 0) := (blk_cell BK101.out 0).trans rfl; have hcz4_1 : w3.cell? ⟨gb101, 1, none⟩ = some (.int .i64 0) := (blk_cell BK101.out 1).trans rfl; have hfz4_0 := blk_frozen BK101.out 0; have hfz4_1 := blk_frozen BK101.out 1))
    refine bodyPost_ret (results_tc rfl _ _ gb101 32 #[.int .i64 16384, .int .i64 3] (0, 0) _ rfl (by (with_reducible repeat (first | refine blk_drewN ?_ _ | refine blk_drew ?_ | refine blk_alloc ?_ _)); refine blk_put (cs := #[.int .i64 16384, .int .i64 0]) ?_ 1 _ rfl; (with_reducible repeat (first | refine blk_drewN ?_ _ | refine blk_drew ?_ | refine blk_alloc ?_ _)); refine blk_put (cs := #[.int .i64 0, .int .i64 0]) ?_ 0 _ rfl; (with_reducible repeat (first | refine blk_drewN ?_ _ | refine blk_drew ?_ | refine blk_alloc ?_ _)); exact BK101.out) Tryz.underlying32 rfl (by kernel_rfl)) rfl ?_
    exact ⟨_, by first | rfl | (simp [errW_none, errW_some] <;> rfl) | (simp [*, errW_none, errW_some] <;> rfl), by first | exact Kd.R_nil _ _ _ _ _ | exact Kd.N_nil _ _ _ _ _ | exact Kd.V_nil _ _ _ _ _ | exact Kd.Q_nil _ _ _ _ _ | exact Kd.S_nil _ _ _ _ _, by repeat (first | (with_reducible first | exact HB.out | apply below_alloc | apply pw_below_drewN | apply below_drew1 | refine below_set ?_ GE101.out) | exact HB.out)⟩
  · rw [if_neg c2] at H
    have c2b0 : decide (16384 < (a0.size : Int)) = false := decide_eq_false c2
    have c2b1 : decide (16384 < a0.size) = false := decide_eq_false (by omega)
    clear c2
    replace H := Option.bind_eq_some_iff.mp H
    obtain ⟨t102, A50, H⟩ := H
    replace H : (lex_Lex.l0 k a0 ([] : List (S42)) t102) = some (r1, r2, r3) := H
    have A5 := Aside0.mk A50
    clear A50
    have H' := Aside0.mk H
    clear H
    go_enter Tryz.func13, Tryz.ntmps13
    go_wp2_with (first | ((with_reducible refine gate_dst (N := 3) rfl ?_); refine box_event ?hg (N := 3) ?hd (cs := #[.int .i64 0, .int .i64 0]) (t := 32) ?hr ?_; (case hd => rfl); (case hg => rfl); (case hr => first | (go_simp; done) | (go_simp; rfl)); intro gb101 hg w6 hbox hb; have n0_ := Aside0.mk (below_step (by repeat (first | (with_reducible first | exact HB.out | apply below_alloc | apply pw_below_drewN | apply below_drew1) | exact HB.out)) hb); have n1_ := Aside0.mk (hbox); have n2_ := Aside0.mk ((by rw [hg]; exact (below_size (by repeat (first | (with_reducible first | exact HB.out | apply below_alloc | apply pw_below_drewN | apply below_drew1) | exact HB.out))) : w.heap.size ≤ gb101)); have n3_ := Aside0.mk ((by rw [hg]; exact (below_size (by repeat (first | (with_reducible first | exact HB.out | apply below_alloc | apply pw_below_drewN | apply below_drew1) | exact HB.out))) : w.heap.size ≤ gb101)); clear HB; have HB := n0_; have BK101 := n1_; have GW101 := n2_; have GE101 := n3_; clear n0_ n1_ n2_ n3_; clear hb hbox hg) | ((with_reducible refine gate_callee (f := 33) rfl ?_); refine goesL_ (some 13) rfl rfl Tryz.func33 (by kernel_rfl) rfl #[.string a0] rfl (by (try simp only [List.map_toArray, List.map_cons, List.map_nil]); first | done | rfl | (simp only [List.length_drop, List.length_take]; rfl)) ?_; (with_reducible refine (lex_skip.calls a0 t102 _ A5.out).mono ?_); rintro e w' ⟨rfl, ⟨nd, rfl⟩⟩; refine ⟨_, rfl, ?_⟩))
    go_loopg [4, 5] k (fun kq v4 v5 w' => ∃ (x4_1 : List (S42)) (x5_1 : Int) (x102000_1 : Int) (x102001_1 : Int), v5 = .int .i64 x5_1 ∧ Aside0 (lex_Lex.l0 kq a0 x4_1 x5_1 = some (r1, r2, r3)) ∧ Aside0 (kq ≤ k) ∧ Aside0 (Kd.R k42 42 w' w.heap.size (fun _ => True) v4 x4_1) ∧ Aside0 (w'.heap[gb101]? = some (.cells #[.int .i64 x102000_1, .int .i64 x102001_1] 32 (0, 0))) ∧ Aside0 (Below w.heap.size w w'))
    case atStart => exact ⟨(([] : List (S42))), (t102), (0), (0), (by first | rfl | (simp; done) | (simp [*]; done)), H', ⟨Nat.le_refl _⟩, ⟨by first | exact Kd.R_nil _ _ _ _ _ | exact Kd.N_nil _ _ _ _ _ | exact Kd.V_nil _ _ _ _ _ | exact Kd.Q_nil _ _ _ _ _ | exact Kd.S_nil _ _ _ _ _⟩, ⟨by (with_reducible repeat (first | refine blk_drewN ?_ _ | refine blk_drew ?_ | refine blk_alloc ?_ _)); exact BK101.out⟩, ⟨by repeat (first | (with_reducible first | exact HB.out | apply below_alloc | apply pw_below_drewN | apply below_drew1 | refine below_set ?_ GE101.out) | exact HB.out)⟩⟩
    case round =>
      clear H'
      try clear c1
      try clear c2
      try clear c2b0
      try clear c2b1
      try clear p2
      try clear hcz4_0
      try clear hcz4_1
      try clear hfz4_0
      try clear hfz4_1
      obtain ⟨x4_1, x5_1, x102000_1, x102001_1, rfl, HA, HK1, HO_4, BK101, HB⟩ := hrel
      cases gk with
      | zero => exact absurd HA.out (by simp [lex_Lex.l0])
      | succ k1 =>
        have H := HA.out
        clear HA
        simp only [lex_Lex.l0] at H
        by_cases c7 : x5_1 < (a0.size : Int)
        · rw [if_pos c7] at H
          have c7b0 : decide (x5_1 < (a0.size : Int)) = true := decide_eq_true c7
          clear c7
          by_cases c8 : 0 ≤ x5_1
          · rw [if_pos c8] at H
            have c8b0 := eq_true c8
            have c8b1 : decide (0 ≤ x5_1) = true := decide_eq_true c8
            clear c8
            by_cases c9 : x5_1 ≤ (a0.size : Int)
            · rw [if_pos c9] at H
              have c9b0 := eq_true c9
              have c9b1 : decide (x5_1 ≤ (a0.size : Int)) = true := decide_eq_true c9
              clear c9
              replace H := Option.bind_eq_some_iff.mp H
              obtain ⟨⟨t103, t104, t105, t106, t107⟩, A100, H⟩ := H
              replace H : (if t107 = true then (if x4_1.length < 3518437208883 then (if 0 ≤ (wrap64 (x5_1 + (t105.size : Int))) then (if (wrap64 (x5_1 + (t105.size : Int))) ≤ (a0.size : Int) then ((lex_skip.f (a0.extract ((wrap64 (x5_1 + (t105.size : Int))) : Int).toNat a0.size)).bind fun t112 => (lex_Lex.l0 k1 a0 (x4_1 ++ [(⟨t103, x5_1, t105, t106⟩ : S42)]) (wrap64 ((wrap64 (x5_1 + (t105.size : Int))) + t112)))) else (none)) else (none)) else (none)) else (some (([] : List (S42)), x5_1, 1))) = some (r1, r2, r3) := H
              have A10 := Aside0.mk A100
              clear A100
              by_cases c11 : t107 = true
              · subst c11
                have H1 : (if x4_1.length < 3518437208883 then (if 0 ≤ (wrap64 (x5_1 + (t105.size : Int))) then (if (wrap64 (x5_1 + (t105.size : Int))) ≤ (a0.size : Int) then ((lex_skip.f (a0.extract ((wrap64 (x5_1 + (t105.size : Int))) : Int).toNat a0.size)).bind fun t112 => (lex_Lex.l0 k1 a0 (x4_1 ++ [(⟨t103, x5_1, t105, t106⟩ : S42)]) (wrap64 ((wrap64 (x5_1 + (t105.size : Int))) + t112)))) else (none)) else (none)) else (none)) = some (r1, r2, r3) := by rw [if_pos rfl] at H; exact H
                clear H
                have H := H1
                clear H1
                by_cases c12 : x4_1.length < 3518437208883
                · rw [if_pos c12] at H
                  have LMc12 := Aside0.mk c12
                  clear c12
                  obtain ⟨y109, hy109⟩ : ∃ y_ : List (S42), y_ = (x4_1 ++ [(⟨t103, x5_1, t105, t106⟩ : S42)]) := ⟨_, rfl⟩
                  replace H : (if 0 ≤ (wrap64 (x5_1 + (t105.size : Int))) then (if (wrap64 (x5_1 + (t105.size : Int))) ≤ (a0.size : Int) then ((lex_skip.f (a0.extract ((wrap64 (x5_1 + (t105.size : Int))) : Int).toNat a0.size)).bind fun t112 => (lex_Lex.l0 k1 a0 y109 (wrap64 ((wrap64 (x5_1 + (t105.size : Int))) + t112)))) else (none)) else (none)) = some (r1, r2, r3) := by first | (rw [hy109]; with_reducible exact H) | (have H2_ := (Option.bind_some _ _).symm.trans H; rw [hy109]; with_reducible exact H2_) | (have H2_ := (Option.bind_some _ _).symm.trans H; with_reducible exact H2_) | with_reducible exact H | (rw [hy109]; exact H) | exact H
                  have Ny109 := Aside0.mk hy109
                  clear hy109
                  obtain ⟨ji13, hji13⟩ : ∃ j_ : Int, (wrap64 (x5_1 + (t105.size : Int))) = j_ := ⟨_, rfl⟩
                  replace H : (if 0 ≤ (ji13) then (if (ji13) ≤ (a0.size : Int) then ((lex_skip.f (a0.extract ((ji13) : Int).toNat a0.size)).bind fun t112 => (lex_Lex.l0 k1 a0 y109 (wrap64 ((ji13) + t112)))) else (none)) else (none)) = some (r1, r2, r3) := by first | (rw [hji13] at H; exact H) | (simp only [hji13] at H ⊢; exact H)
                  (try rw [hji13] at A10)
                  have hji13w : (IntKind.i64.wrap (x5_1 + (t105.size : Int))) = ji13 := (i64_w _).trans hji13
                  by_cases c14 : 0 ≤ (ji13)
                  · rw [if_pos c14] at H
                    have c14b0 := eq_true c14
                    have c14b1 : decide (0 ≤ (ji13)) = true := decide_eq_true c14
                    clear c14
                    by_cases c15 : (ji13) ≤ (a0.size : Int)
                    · rw [if_pos c15] at H
                      have c15b0 := eq_true c15
                      have c15b1 : decide ((ji13) ≤ (a0.size : Int)) = true := decide_eq_true c15
                      clear c15
                      replace H := Option.bind_eq_some_iff.mp H
                      obtain ⟨t112, A160, H⟩ := H
                      replace H : (lex_Lex.l0 k1 a0 y109 (wrap64 ((ji13) + t112))) = some (r1, r2, r3) := H
                      have A16 := Aside0.mk A160
                      clear A160
                      have H' := Aside0.mk H
                      clear H
                      go_wp2_with fail
                      refine (lex_token.calls (a0.extract (x5_1 : Int).toNat a0.size) t103 t104 t105 t106 true _ ?side1 A10.out).mono ?_
                      (case side1 => exact Globs.below HG.out (by repeat (first | (with_reducible first | exact HB.out | apply below_alloc | apply pw_below_drewN | apply below_drew1 | refine below_set ?_ GE101.out) | exact HB.out)))
                      rintro e w17 ⟨rfl, hb⟩
                      have n0_ := Aside0.mk (Kd.R_below (by (with_reducible repeat (first | apply Kd.R_alloc | apply Kd.R_drewN | apply Kd.R_drew)); exact HO_4.out) hb); have n1_ := Aside0.mk (blk_below (g := gb101) (o := .cells #[.int .i64 x102000_1, .int .i64 x102001_1] 32 (0, 0)) (by (with_reducible repeat (first | refine blk_drewN ?_ _ | refine blk_drew ?_ | refine blk_alloc ?_ _)); exact BK101.out) hb); have n2_ := Aside0.mk (below_step (by repeat (first | (with_reducible first | exact HB.out | apply below_alloc | apply pw_below_drewN | apply below_drew1 | refine below_set ?_ GE101.out) | exact HB.out)) hb); clear HO_4; clear BK101; clear HB; have HO_4 := n0_; have BK101 := n1_; have HB := n2_; clear n0_ n1_ n2_; (try clear hb); (try clear hb2); (try clear hk); (try clear hi)
                      have LM := LMc12.out
                      have HSK := fun W => lex_skip.calls (a0.extract ((ji13) : Int).toNat a0.size) t112 W A16.out
                      go_wp2_with ((with_reducible refine gate_builtin (b := .append) (xs := #[.tmp 37, .tmp 39]) rfl ?_); at_builtin; refine lex_append (⟨t103, x5_1, t105, t106⟩ : S42) rfl rfl rfl rfl HO_4.out HB.out ⟨BK101.out⟩ LM ?_; clear LM; intro v110 w21 ho hb hk hk2; rw [← Ny109.out] at ho; have HO111 := Aside0.mk ho; clear HO_4 BK101 HB; have HB := Aside0.mk hb.out; have BK101 := Aside0.mk hk.out; clear ho hb hk; have NB := Aside0.mk hk2.lt; obtain ⟨⟨hcz20, hcz21, hcz22, hcz23⟩, hf20, hf21, hf22, hf23⟩ := hk2.cells4; clear hk2; generalize w17.heap.size = g108 at *)
                      refine (HSK _).mono ?_
                      rintro e w' ⟨rfl, hd⟩
                      obtain ⟨nd, rfl⟩ := hd.out
                      clear hd
                      go_wp2_with fail
                      go_roundg k1
                      case measure => have := HK1.out; omega
                      case rel => exact ⟨(y109), (wrap64 ((ji13) + t112)), (x102000_1), (x102001_1), (by first | rfl | (simp; done) | (simp only [← hji13] <;> (first | rfl | simp)) | (simp [*]; done)), H', ⟨by have := HK1.out; omega⟩, ⟨by (with_reducible repeat (first | apply Kd.R_alloc | apply Kd.R_drewN | apply Kd.R_drew)); exact Kd.R_mono HO111.out (fun _ hk => trivial)⟩, ⟨by (with_reducible repeat (first | refine blk_drewN ?_ _ | refine blk_drew ?_ | refine blk_alloc ?_ _)); exact BK101.out⟩, ⟨by repeat (first | (with_reducible first | exact HB.out | apply below_alloc | apply pw_below_drewN | apply below_drew1 | refine below_set ?_ GE101.out | refine below_set ?_ GE108.out) | exact HB.out)⟩⟩
                    · rw [if_neg c15] at H
                      exact absurd H (by simp)
                  · rw [if_neg c14] at H
                    exact absurd H (by simp)
                · rw [if_neg c12] at H
                  exact absurd H (by simp)
              · replace c11 := Bool.eq_false_iff.mpr c11
                subst c11
                have H1 : (some (([] : List (S42)), x5_1, 1)) = some (r1, r2, r3) := by rw [if_neg (show ¬ (false = true) by decide)] at H; exact H
                clear H
                have H := H1
                clear H1
                simp only [Option.some.injEq, Prod.mk.injEq] at H
                obtain ⟨rfl, rfl, rfl⟩ := H
                go_wp2_with (first | ((with_reducible refine gate_callee (f := 34) rfl ?_); refine goesL_ (some 28) rfl rfl Tryz.func34 (by kernel_rfl) rfl #[.string (a0.extract (x5_1 : Int).toNat a0.size)] rfl (by (try simp only [List.map_toArray, List.map_cons, List.map_nil]); first | done | rfl | (simp only [List.length_drop, List.length_take]; rfl)) ?_; (with_reducible refine (lex_token.calls (a0.extract (x5_1 : Int).toNat a0.size) t103 t104 t105 t106 false _ ?side1 A10.out).mono ?_); (case side1 => exact Globs.below HG.out (by repeat (first | (with_reducible first | exact HB.out | apply below_alloc | apply pw_below_drewN | apply below_drew1 | refine below_set ?_ GE101.out) | exact HB.out))); rintro e w23 ⟨rfl, hb⟩; refine ⟨_, rfl, ?_⟩; have n0_ := Aside0.mk (Kd.R_below (by (with_reducible repeat (first | apply Kd.R_alloc | apply Kd.R_drewN | apply Kd.R_drew)); exact HO_4.out) hb); have n1_ := Aside0.mk (blk_below (g := gb101) (o := .cells #[.int .i64 x102000_1, .int .i64 x102001_1] 32 (0, 0)) (by (with_reducible repeat (first | refine blk_drewN ?_ _ | refine blk_drew ?_ | refine blk_alloc ?_ _)); exact BK101.out) hb); have n2_ := Aside0.mk (below_step (by repeat (first | (with_reducible first | exact HB.out | apply below_alloc | apply pw_below_drewN | apply below_drew1 | refine below_set ?_ GE101.out) | exact HB.out)) hb); clear HO_4; clear BK101; clear HB; have HO_4 := n0_; have BK101 := n1_; have HB := n2_; clear n0_ n1_ n2_; (try clear hb); (try clear hb2); (try clear hk); (try clear hi)) | ((with_reducible refine gate_dst (N := 6) rfl ?_); refine box_event ?hg (N := 6) ?hd (cs := #[.int .i64 0, .int .i64 0, .string (⟨#[]⟩ : ByteArray), .int .i64 0]) (t := 42) ?hr ?_; (case hd => rfl); (case hg => rfl); (case hr => first | (go_simp; done) | (go_simp; rfl)); intro gb108 hg w24 hbox hb; have n0_ := Aside0.mk (Kd.R_below (Kd.R_elderB (by (with_reducible repeat (first | apply Kd.R_alloc | apply Kd.R_drewN | apply Kd.R_drew)); exact HO_4.out) gb108 (Nat.le_of_eq hg.symm)) hb); have n1_ := Aside0.mk (blk_below (g := gb101) (o := .cells #[.int .i64 x102000_1, .int .i64 x102001_1] 32 (0, 0)) (by (with_reducible repeat (first | refine blk_drewN ?_ _ | refine blk_drew ?_ | refine blk_alloc ?_ _)); exact BK101.out) hb); have n2_ := Aside0.mk (below_step (by repeat (first | (with_reducible first | exact HB.out | apply below_alloc | apply pw_below_drewN | apply below_drew1 | refine below_set ?_ GE101.out) | exact HB.out)) hb); have n3_ := Aside0.mk (hbox); have n4_ := Aside0.mk ((by rw [hg]; exact (below_size (by repeat (first | (with_reducible first | exact HB.out | apply below_alloc | apply pw_below_drewN | apply below_drew1 | refine below_set ?_ GE101.out) | exact HB.out))) : w.heap.size ≤ gb108)); have n5_ := Aside0.mk ((by rw [hg]; exact (below_size (by repeat (first | (with_reducible first | exact HB.out | apply below_alloc | apply pw_below_drewN | apply below_drew1 | refine below_set ?_ GE101.out) | exact HB.out))) : w.heap.size ≤ gb108)); have n6_ := Aside0.mk ((by rw [hg]; exact Nat.ne_of_lt (blk_lt (g := gb101) (o := .cells #[.int .i64 x102000_1, .int .i64 x102001_1] 32 (0, 0)) (by (with_reducible repeat (first | refine blk_drewN ?_ _ | refine blk_drew ?_ | refine blk_alloc ?_ _)); exact BK101.out)) : gb101 ≠ gb108)); have n7_ := Aside0.mk ((by rw [hg]; exact Nat.ne_of_gt (blk_lt (g := gb101) (o := .cells #[.int .i64 x102000_1, .int .i64 x102001_1] 32 (0, 0)) (by (with_reducible repeat (first | refine blk_drewN ?_ _ | refine blk_drew ?_ | refine blk_alloc ?_ _)); exact BK101.out)) : gb108 ≠ gb101)); clear HO_4; clear BK101; clear HB; have HO_4 := n0_; have BK101 := n1_; have HB := n2_; have BK108 := n3_; have GW108 := n4_; have GE108 := n5_; have NB101_108 := n6_; have NB108_101 := n7_; clear n0_ n1_ n2_ n3_ n4_ n5_ n6_ n7_; clear hb hbox hg; have hnb25 := NB108_101.out; have hnc25 := NB101_108.out; have hcz26_0 : w24.cell? ⟨gb108, 0, none⟩ = some (.int .i64 0) := (blk_cell BK108.out 0).trans rfl; have hcz26_1 : w24.cell? ⟨gb108, 1, none⟩ = some (.int .i64 0) := (blk_cell BK108.out 1).trans rfl; have hcz26_2 : w24.cell? ⟨gb108, 2, none⟩ = some (.string (⟨#[]⟩ : ByteArray)) := (blk_cell BK108.out 2).trans rfl; have hcz26_3 : w24.cell? ⟨gb108, 3, none⟩ = some (.int .i64 0) := (blk_cell BK108.out 3).trans rfl; have hfz26_0 := blk_frozen BK108.out 0; have hfz26_1 := blk_frozen BK108.out 1; have hfz26_2 := blk_frozen BK108.out 2; have hfz26_3 := blk_frozen BK108.out 3; have hcz27_0 : w24.cell? ⟨gb101, 0, none⟩ = some (.int .i64 x102000_1) := (blk_cell BK101.out 0).trans rfl; have hcz27_1 : w24.cell? ⟨gb101, 1, none⟩ = some (.int .i64 x102001_1) := (blk_cell BK101.out 1).trans rfl; have hfz27_0 := blk_frozen BK101.out 0; have hfz27_1 := blk_frozen BK101.out 1))
                refine bodyPost_ret (results_tc rfl _ _ gb101 32 #[.int .i64 x5_1, .int .i64 1] (0, 0) _ rfl (by (with_reducible repeat (first | refine blk_drewN ?_ _ | refine blk_drew ?_ | refine blk_alloc ?_ _)); refine blk_put (cs := #[.int .i64 x5_1, .int .i64 x102001_1]) ?_ 1 _ rfl; (with_reducible repeat (first | refine blk_drewN ?_ _ | refine blk_drew ?_ | refine blk_alloc ?_ _)); refine blk_put (cs := #[.int .i64 x102000_1, .int .i64 x102001_1]) ?_ 0 _ rfl; (with_reducible repeat (first | refine blk_drewN ?_ _ | refine blk_drew ?_ | refine blk_alloc ?_ _)); refine blk_far ?_ NB101_108.out _; (with_reducible repeat (first | refine blk_drewN ?_ _ | refine blk_drew ?_ | refine blk_alloc ?_ _)); refine blk_far ?_ NB101_108.out _; (with_reducible repeat (first | refine blk_drewN ?_ _ | refine blk_drew ?_ | refine blk_alloc ?_ _)); refine blk_far ?_ NB101_108.out _; (with_reducible repeat (first | refine blk_drewN ?_ _ | refine blk_drew ?_ | refine blk_alloc ?_ _)); refine blk_far ?_ NB101_108.out _; (with_reducible repeat (first | refine blk_drewN ?_ _ | refine blk_drew ?_ | refine blk_alloc ?_ _)); exact BK101.out) Tryz.underlying32 rfl (by kernel_rfl)) rfl ?_
                exact ⟨_, by first | rfl | (simp [errW_none, errW_some] <;> rfl) | (simp [*, errW_none, errW_some] <;> rfl), by first | exact Kd.R_nil _ _ _ _ _ | exact Kd.N_nil _ _ _ _ _ | exact Kd.V_nil _ _ _ _ _ | exact Kd.Q_nil _ _ _ _ _ | exact Kd.S_nil _ _ _ _ _, by repeat (first | (with_reducible first | exact HB.out | apply below_alloc | apply pw_below_drewN | apply below_drew1 | refine below_set ?_ GE101.out | refine below_set ?_ GE108.out) | exact HB.out)⟩
            · rw [if_neg c9] at H
              exact absurd H (by simp)
          · rw [if_neg c8] at H
            exact absurd H (by simp)
        · rw [if_neg c7] at H
          have c7b0 : decide (x5_1 < (a0.size : Int)) = false := decide_eq_false c7
          clear c7
          simp only [Option.some.injEq, Prod.mk.injEq] at H
          obtain ⟨rfl, rfl, rfl⟩ := H
          have hcz28_0 : wr.cell? ⟨gb101, 0, none⟩ = some (.int .i64 x102000_1) := (blk_cell BK101.out 0).trans rfl
          have hcz28_1 : wr.cell? ⟨gb101, 1, none⟩ = some (.int .i64 x102001_1) := (blk_cell BK101.out 1).trans rfl
          have hfz28_0 := blk_frozen BK101.out 0
          have hfz28_1 := blk_frozen BK101.out 1
          go_wp2
          refine bodyPost_ret (results_tc rfl _ _ gb101 32 #[.int .i64 0, .int .i64 0] (0, 0) _ rfl (by (with_reducible repeat (first | refine blk_drewN ?_ _ | refine blk_drew ?_ | refine blk_alloc ?_ _)); refine blk_put (cs := #[.int .i64 0, .int .i64 x102001_1]) ?_ 1 _ rfl; (with_reducible repeat (first | refine blk_drewN ?_ _ | refine blk_drew ?_ | refine blk_alloc ?_ _)); refine blk_put (cs := #[.int .i64 x102000_1, .int .i64 x102001_1]) ?_ 0 _ rfl; (with_reducible repeat (first | refine blk_drewN ?_ _ | refine blk_drew ?_ | refine blk_alloc ?_ _)); exact BK101.out) Tryz.underlying32 rfl (by kernel_rfl)) rfl ?_
          exact ⟨_, by first | rfl | (simp [errW_none, errW_some] <;> rfl) | (simp [*, errW_none, errW_some] <;> rfl), by (with_reducible repeat (first | apply Kd.R_alloc | apply Kd.R_drewN | apply Kd.R_drew)); exact Kd.R_mono (Kd.R_far (p := ⟨gb101, 1, none⟩) (Kd.R_far (p := ⟨gb101, 0, none⟩) (Kd.R_types HO_4.out BK101.out (by decide)) (fun _ hk => hk.2) (.int .i64 0)) (fun _ hk => hk.2) (.int .i64 0)) (fun _ hk => trivial), by repeat (first | (with_reducible first | exact HB.out | apply below_alloc | apply pw_below_drewN | apply below_drew1 | refine below_set ?_ GE101.out) | exact HB.out)⟩

/-- enough rounds for any text -/
def lex_Lex.f (a0 : ByteArray) : Option (List S42 × Int × Int) := lex_Lex.g (a0.size + 2) a0
theorem lex_Lex.calls (a0 : ByteArray) (r1 : List (S42)) (r2 : Int) (r3 : Int) (w : World) (hG : Globs w) (h : lex_Lex.f a0 = some (r1, r2, r3)) :
    Calls Tryz.prog 13 #[.string a0] w fun e w' => ∃ v0_ : Value, e = .returned (.tuple #[v0_, .agg #[.int .i64 r2, .int .i64 r3]]) ∧ Kd.R k42 42 w' w.heap.size (fun _ => True) v0_ r1 ∧ Below w.heap.size w w' :=
  lex_Lex.gcalls (a0.size + 2) a0 r1 r2 r3 w hG h

end Go.Proofs.YtmgkejobolgkmaaGreatDoor.PL
