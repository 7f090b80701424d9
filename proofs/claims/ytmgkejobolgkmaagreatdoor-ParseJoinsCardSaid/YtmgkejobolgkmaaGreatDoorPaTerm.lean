/- Package parse's reader: term. -/
import Derived.Test.YtmgkejobolgkmaaGreatDoorPaTwo
namespace Go.Proofs.YtmgkejobolgkmaaGreatDoor.PL
open Go Go.RowKit Go.Proofs.YtmgkejobolgkmaaGreatDoorW.PrintWords Go.Proofs.YtmgkejobolgkmaaGreatDoorW.PrintLast Go.Proofs.YtmgkejobolgkmaaGreatDoorW.PrintMore
set_option linter.unusedVariables false
set_option linter.unusedSimpArgs false

theorem EtP (q : Nat) (h : q ∈ 50 :: (k50).E) : q ≠ 57 := by
  revert q
  decide
theorem EtS (q : Nat) (h : q ∈ 9 :: (Kd.string).E) : q ≠ 57 := by
  revert q
  decide
theorem EtA (q : Nat) (h : q ∈ 92 :: (k92).E) : q ≠ 57 := by
  revert q
  decide
/-- an end's box G and the result's, within the walk -/
def TX (w0 W U : World) (B G : Nat) (x : STerm) (s : Rd) : Prop := ∃ (A3 : Option Addr) (n3 c3 : Nat) (A5 : Option Addr) (n5 c5 : Nat) (A6 : Option Addr) (n6 c6 : Nat) (A7 : Option Addr) (n7 c7 : Nat), Blk U G #[.int .i64 x.f0, .int .i64 x.f1, .string x.f2.f0, .slice A3 n3 c3, .string x.f3, .slice A5 n5 c5, .slice A6 n6 c6, .slice A7 n7 c7] 57 ∧ RW Kd.string 9 U W.heap.size (.slice A3 n3 c3) x.f2.f1 ∧ RW k50 50 U W.heap.size (.slice A5 n5 c5) x.f4 ∧ RW Kd.string 9 U W.heap.size (.slice A6 n6 c6) x.f5 ∧ RW k92 92 U W.heap.size (.slice A7 n7 c7) x.f6 ∧ PS w0 W U B s ∧ Blk U W.heap.size #[.int .i64 0, .int .i64 0, .string ⟨#[]⟩, .slice none 0 0, .string ⟨#[]⟩, .slice none 0 0, .slice none 0 0, .slice none 0 0] 57
namespace TX
variable {w0 W U U' : World} {B G : Nat} {x : STerm} {s s' : Rd}
theorem p (h : TX w0 W U B G x s) : PS w0 W U B s := by
  obtain ⟨A3, n3, c3, A5, n5, c5, A6, n6, c6, A7, n7, c7, hg, r3, r5, r6, r7, hp, hr⟩ := h
  exact hp
theorem call (h : TX w0 W U B G x s) (hp' : PS w0 W U' B s') (hgr : U.grownBy U' (some B)) (hG : W.heap.size < G) : TX w0 W U' B G x s' := by
  obtain ⟨A3, n3, c3, A5, n5, c5, A6, n6, c6, A7, n7, c7, hg, r3, r5, r6, r7, hp, hr⟩ := h
  have hb := hp.b
  exact ⟨_, _, _, _, _, _, _, _, _, _, _, _, hg.ps hgr (by omega), RW.grown r3 hgr hb, RW.grown r5 hgr hb, RW.grown r6 hgr hb, RW.grown r7 hgr hb, hp', hr.ps hgr (by omega)⟩
theorem kind (h : TX w0 W U B G x s) (hG : W.heap.size < G) (k : Int) : TX w0 W (U.setCell ⟨G, 1, none⟩ (.int .i64 k)) B G {x with f1 := k} s := by
  obtain ⟨A3, n3, c3, A5, n5, c5, A6, n6, c6, A7, n7, c7, hg, r3, r5, r6, r7, hp, hr⟩ := h
  exact ⟨_, _, _, _, _, _, _, _, _, _, _, _, hg.set 1 _, RW.set r3 hg EtS 1 _, RW.set r5 hg EtP 1 _, RW.set r6 hg EtS 1 _, RW.set r7 hg EtA 1 _, hp.set (p := ⟨G, 1, none⟩) (Nat.le_of_lt hG) _, hr.far (p := ⟨G, 1, none⟩) (Nat.ne_of_lt hG) _⟩
theorem name (h : TX w0 W U B G x s) (hG : W.heap.size < G) (y : ByteArray) : TX w0 W (U.setCell ⟨G, 4, none⟩ (.string y)) B G {x with f3 := y} s := by
  obtain ⟨A3, n3, c3, A5, n5, c5, A6, n6, c6, A7, n7, c7, hg, r3, r5, r6, r7, hp, hr⟩ := h
  exact ⟨_, _, _, _, _, _, _, _, _, _, _, _, hg.set 4 _, RW.set r3 hg EtS 4 _, RW.set r5 hg EtP 4 _, RW.set r6 hg EtS 4 _, RW.set r7 hg EtA 4 _, hp.set (p := ⟨G, 4, none⟩) (Nat.le_of_lt hG) _, hr.far (p := ⟨G, 4, none⟩) (Nat.ne_of_lt hG) _⟩
theorem args (h : TX w0 W U B G x s) (hG : W.heap.size < G) {A : Option Addr} {n c : Nat} {ys : List SPlace} (hw : RW k50 50 U W.heap.size (.slice A n c) ys) : TX w0 W (U.setCell ⟨G, 5, none⟩ (.slice A n c)) B G {x with f4 := ys} s := by
  obtain ⟨A3, n3, c3, A5, n5, c5, A6, n6, c6, A7, n7, c7, hg, r3, r5, r6, r7, hp, hr⟩ := h
  exact ⟨_, _, _, _, _, _, _, _, _, _, _, _, hg.set 5 _, RW.set r3 hg EtS 5 _, RW.set hw hg EtP 5 _, RW.set r6 hg EtS 5 _, RW.set r7 hg EtA 5 _, hp.set (p := ⟨G, 5, none⟩) (Nat.le_of_lt hG) _, hr.far (p := ⟨G, 5, none⟩) (Nat.ne_of_lt hG) _⟩
theorem blocks (h : TX w0 W U B G x s) (hG : W.heap.size < G) {A : Option Addr} {n c : Nat} {ys : List ByteArray} (hw : RW Kd.string 9 U W.heap.size (.slice A n c) ys) : TX w0 W (U.setCell ⟨G, 6, none⟩ (.slice A n c)) B G {x with f5 := ys} s := by
  obtain ⟨A3, n3, c3, A5, n5, c5, A6, n6, c6, A7, n7, c7, hg, r3, r5, r6, r7, hp, hr⟩ := h
  exact ⟨_, _, _, _, _, _, _, _, _, _, _, _, hg.set 6 _, RW.set r3 hg EtS 6 _, RW.set r5 hg EtP 6 _, RW.set hw hg EtS 6 _, RW.set r7 hg EtA 6 _, hp.set (p := ⟨G, 6, none⟩) (Nat.le_of_lt hG) _, hr.far (p := ⟨G, 6, none⟩) (Nat.ne_of_lt hG) _⟩
theorem arms (h : TX w0 W U B G x s) (hG : W.heap.size < G) {A : Option Addr} {n c : Nat} {ys : List SArm} (hw : RW k92 92 U W.heap.size (.slice A n c) ys) : TX w0 W (U.setCell ⟨G, 7, none⟩ (.slice A n c)) B G {x with f6 := ys} s := by
  obtain ⟨A3, n3, c3, A5, n5, c5, A6, n6, c6, A7, n7, c7, hg, r3, r5, r6, r7, hp, hr⟩ := h
  exact ⟨_, _, _, _, _, _, _, _, _, _, _, _, hg.set 7 _, RW.set r3 hg EtS 7 _, RW.set r5 hg EtP 7 _, RW.set r6 hg EtS 7 _, RW.set hw hg EtA 7 _, hp.set (p := ⟨G, 7, none⟩) (Nat.le_of_lt hG) _, hr.far (p := ⟨G, 7, none⟩) (Nat.ne_of_lt hG) _⟩
theorem toP (h : TX w0 W U B G x s) (hG : W.heap.size < G) {A : Option Addr} {n c : Nat} (y : SPlace) (hw : RW Kd.string 9 U W.heap.size (.slice A n c) y.f1) : TX w0 W ((U.setCell ⟨G, 2, none⟩ (.string y.f0)).setCell ⟨G, 3, none⟩ (.slice A n c)) B G {x with f2 := y} s := by
  obtain ⟨A3, n3, c3, A5, n5, c5, A6, n6, c6, A7, n7, c7, hg, r3, r5, r6, r7, hp, hr⟩ := h
  have hg2 := hg.set 2 (.string y.f0)
  exact ⟨_, _, _, _, _, _, _, _, _, _, _, _, hg2.set 3 _, RW.set (RW.set hw hg EtS 2 _) hg2 EtS 3 _, RW.set (RW.set r5 hg EtP 2 _) hg2 EtP 3 _, RW.set (RW.set r6 hg EtS 2 _) hg2 EtS 3 _, RW.set (RW.set r7 hg EtA 2 _) hg2 EtA 3 _, (hp.set (p := ⟨G, 2, none⟩) (Nat.le_of_lt hG) _).set (p := ⟨G, 3, none⟩) (Nat.le_of_lt hG) _, (hr.far (p := ⟨G, 2, none⟩) (Nat.ne_of_lt hG) _).far (p := ⟨G, 3, none⟩) (Nat.ne_of_lt hG) _⟩
end TX
set_option maxHeartbeats 32000000 in
set_option maxRecDepth 100000 in
theorem term_calls (w0 W : World) (B : Nat) (s : Rd) (h : RdIn w0 W B s) (hok : s.Ok) :
    Calls Tryz.prog 139 #[.pointer (some ⟨B, 0, none⟩)] W fun e W' => ∃ (A3 : Option Addr) (n3 c3 : Nat) (A5 : Option Addr) (n5 c5 : Nat) (A6 : Option Addr) (n6 c6 : Nat) (A7 : Option Addr) (n7 c7 : Nat), e = .returned (.agg #[.int .i64 s.term.1.f0, .int .i64 s.term.1.f1, .string s.term.1.f2.f0, .slice A3 n3 c3, .string s.term.1.f3, .slice A5 n5 c5, .slice A6 n6 c6, .slice A7 n7 c7]) ∧ (RW Kd.string 9 W' W.heap.size (.slice A3 n3 c3) s.term.1.f2.f1 ∧ RW k50 50 W' W.heap.size (.slice A5 n5 c5) s.term.1.f4 ∧ RW Kd.string 9 W' W.heap.size (.slice A6 n6 c6) s.term.1.f5 ∧ RW k92 92 W' W.heap.size (.slice A7 n7 c7) s.term.1.f6) ∧ PS w0 W W' B s.term.2 := by
  have HP0 := Lib.hid (PS.start h)
  have HLt := Lib.hid h.lt
  have HOk := Lib.hid hok
  obtain ⟨fin, hfin⟩ : ∃ fin, fin = s.term := ⟨_, rfl⟩
  rw [← hfin]
  unfold Rd.term at hfin
  simp only at hfin
  obtain ⟨a, ha⟩ : ∃ a, a = s.at_ := ⟨_, rfl⟩
  have HAt := Lib.hid (fun V (hV : RdIn w0 V B s) => at_calls w0 V B s hV)
  rw [← ha] at hfin HAt
  clear h hok ha
  go_enter Tryz.func139, Tryz.ntmps139
  go_wp2_with fail
  refine at_world (fun V => Blk V W.heap.size #[.int .i64 0, .int .i64 0, .string ⟨#[]⟩, .slice none 0 0, .string ⟨#[]⟩, .slice none 0 0, .slice none 0 0, .slice none 0 0] 57 ∧ PS w0 W V B s) ⟨Blk.new _ _ _, HP0.out.alloc _⟩ ?_
  rintro V0 ⟨HRes, hp0⟩
  have HP := Lib.hid hp0
  clear hp0 HP0
  refine (HAt.out V0 HP.out.r).mono ?_
  rintro e W1 ⟨rfl, rfl⟩
  clear HAt
  have HLG : Hid (W.heap.size < V0.heap.size) := Lib.hid HRes.lt
  have hGR : (V0.heap.size = W.heap.size) = False := eq_false (by have := HLG.out; omega)
  have hRG : (W.heap.size = V0.heap.size) = False := eq_false (by have := HLG.out; omega)
  go_wp2_with fail
  refine at_world (fun V => TX w0 W V B V0.heap.size (term0 a) s) ⟨none, 0, 0, none, 0, 0, none, 0, 0, none, 0, 0, Blk.new _ _ _, RW.nil _ _ _ _, RW.nil _ _ _ _, RW.nil _ _ _ _, RW.nil _ _ _ _, HP.out.alloc _, HRes.alloc _⟩ ?_
  rintro V1 hx1
  have HX := Lib.hid hx1
  clear hx1 HRes HP
  generalize V0.heap.size = G at *
  have HE := Lib.hid (ending_at HX.out.p HOk.out)
  cases hend : s.ending with
  | false =>
    rw [hend, if_neg (by decide)] at hfin
    rw [hend] at HE
    obtain ⟨x, hx⟩ : ∃ x, x = term0 a := ⟨_, rfl⟩
    obtain ⟨s2, hs2⟩ : ∃ s2, s2 = s.fail := ⟨_, rfl⟩
    rw [← hx, ← hs2] at hfin
    rw [← hx] at HX
    have HF := Lib.hid hfin
    have HS2 := Lib.hid hs2
    clear hend hfin hx hs2
    go_wp2_with fail
    refine HE.out.mono ?_
    rintro e V2 ⟨rfl, hp2, hg2⟩
    have HX2 := Lib.hid (HX.out.call hp2 hg2 HLG.out)
    clear hp2 hg2 HE HX
    go_wp2_with fail
    refine (fail_at HX2.out.p).mono ?_
    rintro e V3 ⟨⟨v3, rfl⟩, hp3, hg3⟩
    have HX : Hid (TX w0 W V3 B G x s2) := Lib.hid (by rw [HS2.out]; exact HX2.out.call hp3 hg3 HLG.out)
    clear hp3 hg3 HX2 HS2
    obtain ⟨A3, n3, c3, A5, n5, c5, A6, n6, c6, A7, n7, c7, hg, r3, r5, r6, r7, hp, hr⟩ := HX.out
    clear HX
    obtain ⟨⟨g0, g1, g2, g3, g4, g5, g6, g7⟩, f0, f1, f2, f3, f4, f5, f6, f7⟩ := hg.cells8
    obtain ⟨⟨e0, e1, e2, e3, e4, e5, e6, e7⟩, d0, d1, d2, d3, d4, d5, d6, d7⟩ := hr.cells8
    have HR5 := Lib.hid hr
    have HP5 := Lib.hid hp
    have H3 := Lib.hid r3
    have H5 := Lib.hid r5
    have H6 := Lib.hid r6
    have H7 := Lib.hid r7
    clear hg r3 r5 r6 r7 hp hr
    go_wp2_with fail
    refine post_at (fun U => Blk U W.heap.size #[.int .i64 x.f0, .int .i64 x.f1, .string x.f2.f0, .slice A3 n3 c3, .string x.f3, .slice A5 n5 c5, .slice A6 n6 c6, .slice A7 n7 c7] 57 ∧ (RW Kd.string 9 U W.heap.size (.slice A3 n3 c3) x.f2.f1 ∧ RW k50 50 U W.heap.size (.slice A5 n5 c5) x.f4 ∧ RW Kd.string 9 U W.heap.size (.slice A6 n6 c6) x.f5 ∧ RW k92 92 U W.heap.size (.slice A7 n7 c7) x.f6) ∧ PS w0 W U B s2) ⟨?_, ⟨?_, ?_, ?_, ?_⟩, ?_⟩ ?_
    · exact HR5.out.all8 _ _ _ _ _ _ _ _
    · exact RW.over H3.out HR5.out EtS (sets8 _ _ _ _ _ _ _ _ _ _)
    · exact RW.over H5.out HR5.out EtP (sets8 _ _ _ _ _ _ _ _ _ _)
    · exact RW.over H6.out HR5.out EtS (sets8 _ _ _ _ _ _ _ _ _ _)
    · exact RW.over H7.out HR5.out EtA (sets8 _ _ _ _ _ _ _ _ _ _)
    · exact HP5.out.own (sets8 _ _ _ _ _ _ _ _ _ _) (Nat.le_refl _)
    · rintro U ⟨hbx, hrw, hps⟩
      obtain ⟨⟨z0, z1, z2, z3, z4, z5, z6, z7⟩, -⟩ := hbx.cells8
      exact bodyPost_ret (v := .agg #[.int .i64 x.f0, .int .i64 x.f1, .string x.f2.f0, .slice A3 n3 c3, .string x.f3, .slice A5 n5 c5, .slice A6 n6 c6, .slice A7 n7 c7]) (by simp [results, Tryz.results139, go_sem, z0, z1, z2, z3, z4, z5, z6, z7]) rfl ⟨A3, n3, c3, A5, n5, c5, A6, n6, c6, A7, n7, c7, by rw [HF.out], by rw [HF.out]; exact hrw, by rw [HF.out]; exact hps⟩
  | true =>
    rw [hend, if_pos rfl] at hfin
    rw [hend] at HE
    have HNe := Lib.hid (Rd.next_ne (p := endsP) hend)
    have HHd := Lib.hid (HOk.out.hd)
    have HO2 := Lib.hid (okC.tl HOk.out (Rd.next_ne (p := endsP) hend))
    obtain ⟨y, hy⟩ : ∃ y, y = s.hd.f2 := ⟨_, rfl⟩
    obtain ⟨k, hk⟩ : ∃ k, k = endsK y := ⟨_, rfl⟩
    rw [← hy, ← hk] at hfin
    have hkr : (k = 1 ∨ k = 4) ∨ k = 2 ∨ k = 3 ∨ (k = 5 ∨ k = 6) ∨ k = 7 := by
      have hn : endsK s.hd.f2 ≠ 0 := by
        have hnx : s.next endsP = true := hend
        obtain ⟨toks, b1, b2, b3⟩ := s
        cases toks with
        | nil => simp [Rd.next] at hnx
        | cons t l => simpa [Rd.next, endsP, Rd.hd] using (Bool.and_eq_true_iff.1 hnx).2
      rw [← hy] at hn
      rw [hk]
      revert hn
      unfold endsK
      repeat' split
      all_goals simp
    have HX0 := Lib.hid hy
    have HKx := Lib.hid hk
    have hfd : ∀ (W : World), (Instr.field 42 (.agg #[.int .i64 s.hd.f0, .int .i64 s.hd.f1, .string s.hd.f2, .int .i64 s.hd.f3]) 2).run Tryz.prog W = .ok (.string y) W := fun _ => by rw [hy]; kernel_rfl
    clear hend hy hk
    go_wp2_with fail
    refine HE.out.mono ?_
    rintro e V2 ⟨rfl, hp2, hg2⟩
    have HX2 := Lib.hid (HX.out.call hp2 hg2 HLG.out)
    clear hp2 hg2 HE HX
    go_wp2_with fail
    refine (ends_calls V2).mono ?_
    rintro e V3 ⟨m, rfl, ⟨n, hm⟩, hb3⟩
    have HX3 := Lib.hid (HX2.out.call (HX2.out.p.bel hb3) (grown_below hb3) HLG.out)
    have HM := Lib.hid hm
    have HmB : Hid (some m ≠ some B) := Lib.hid (fun e => by
      cases e
      obtain ⟨es, c, he⟩ := hm.isMap
      obtain ⟨A, c, hb, -⟩ := HX3.out.p.r
      rw [hb.out] at he
      cases he)
    clear hb3 HX2 hm
    go_wp2_with fail
    refine (take_at HX3.out.p HNe.out).mono ?_
    rintro e V4 ⟨rfl, hp4, hg4⟩
    have HX4 := Lib.hid (HX3.out.call hp4 hg4 HLG.out)
    have hlk : (Instr.lookup 184 (.map (some m)) (.string y) false).run Tryz.prog V4 = .ok (.int .i64 k) V4 := by
      rw [HKx.out]
      exact (HM.out.kept hg4 HmB.out).look' y (by rw [HX0.out]; exact HHd.out)
    clear hp4 hg4 HX3 HM HmB
    obtain ⟨A3, n3, c3, A5, n5, c5, A6, n6, c6, A7, n7, c7, hg, -⟩ := HX4.out
    obtain ⟨⟨g0, g1, g2, g3, g4, g5, g6, g7⟩, f0, f1, f2, f3, f4, f5, f6, f7⟩ := hg.cells8
    clear hg
    generalize s.tl = u at *
    have HX := Lib.hid (HX4.out.kind HLG.out k)
    have HZ5 : Hid ((V4.setCell ⟨G, 1, none⟩ (.int .i64 k)).heap.size = V4.heap.size) := Lib.hid (by simp)
    have HF0 := Lib.hid hfin
    clear hfin HNe HHd HX0 HKx HOk HX4
    rcases hkr with h14 | rfl | rfl | h56 | rfl
    · rcases h14 with rfl | rfl
      all_goals
        have hf := HF0.out
        rw [if_pos (by decide)] at hf
        clear HF0
        have HC := Lib.hid (names_at HX.out.p 1 (by decide))
        generalize Rd.names 1 u [] = qb at *
        obtain ⟨ys, yss⟩ := qb
        simp only at HC hf
        go_wp2_with fail
        refine HC.out.mono ?_
        rintro e V5 ⟨Ab, nb, cb, rfl, hrw, hp, hg⟩
        (try clear g0 g1 g2 g3 g4 g5 g6 g7 f0 f1 f2 f3 f4 f5 f6 f7)
        have HWb := Lib.hid (Kd.R_lower hrw HX.out.p.size)
        have HXn := Lib.hid (HX.out.call hp hg HLG.out)
        clear HX
        have HX := HXn
        clear HXn
        clear hp hg hrw HC
        obtain ⟨A3, n3, c3, A5, n5, c5, A6, n6, c6, A7, n7, c7, hg, -⟩ := HX.out
        obtain ⟨⟨g0, g1, g2, g3, g4, g5, g6, g7⟩, f0, f1, f2, f3, f4, f5, f6, f7⟩ := hg.cells8
        clear hg
        have HXn := Lib.hid (HX.out.blocks HLG.out HWb.out)
        clear HX
        have HX := HXn
        clear HXn
        have HZ : Hid ((V5.setCell ⟨G, 6, none⟩ (.slice Ab nb cb)).heap.size = V5.heap.size) := Lib.hid (by simp)
        obtain ⟨s1, hs1⟩ : ∃ s1, s1 = yss := ⟨_, rfl⟩
        obtain ⟨x, hx⟩ : ∃ x : STerm, x = fin.1 := ⟨_, rfl⟩
        have HF : Hid (fin = (x, Rd.must [⟨#[59]⟩] s1)) := Lib.hid (Prod.ext hx.symm (by rw [hf, hs1]))
        have HXn : Hid (TX w0 W (V5.setCell ⟨G, 6, none⟩ (.slice Ab nb cb)) B G x s1) := Lib.hid (by rw [hx, hs1, hf]; exact HX.out)
        clear HX
        have HX := HXn
        clear hf hs1 hx HZ5 HXn
        go_wp2_with fail
        refine (must_at' (n := V5.heap.size) HX.out.p ⟨#[59]⟩ HZ.out).mono ?_
        rintro e Vz ⟨⟨vz, rfl⟩, hpz, hgz⟩
        (try clear g0 g1 g2 g3 g4 g5 g6 g7 f0 f1 f2 f3 f4 f5 f6 f7)
        have HXz := Lib.hid (HX.out.call hpz hgz HLG.out)
        clear hpz hgz HX HZ
        have HX := HXz
        clear HXz
        generalize Rd.must [⟨#[59]⟩] s1 = s2 at *
        obtain ⟨A3, n3, c3, A5, n5, c5, A6, n6, c6, A7, n7, c7, hg, r3, r5, r6, r7, hp, hr⟩ := HX.out
        clear HX
        obtain ⟨⟨g0, g1, g2, g3, g4, g5, g6, g7⟩, f0, f1, f2, f3, f4, f5, f6, f7⟩ := hg.cells8
        obtain ⟨⟨e0, e1, e2, e3, e4, e5, e6, e7⟩, d0, d1, d2, d3, d4, d5, d6, d7⟩ := hr.cells8
        have HR5 := Lib.hid hr
        have HP5 := Lib.hid hp
        have H3 := Lib.hid r3
        have H5 := Lib.hid r5
        have H6 := Lib.hid r6
        have H7 := Lib.hid r7
        clear hg r3 r5 r6 r7 hp hr
        go_wp2_with fail
        refine post_at (fun U => Blk U W.heap.size #[.int .i64 x.f0, .int .i64 x.f1, .string x.f2.f0, .slice A3 n3 c3, .string x.f3, .slice A5 n5 c5, .slice A6 n6 c6, .slice A7 n7 c7] 57 ∧ (RW Kd.string 9 U W.heap.size (.slice A3 n3 c3) x.f2.f1 ∧ RW k50 50 U W.heap.size (.slice A5 n5 c5) x.f4 ∧ RW Kd.string 9 U W.heap.size (.slice A6 n6 c6) x.f5 ∧ RW k92 92 U W.heap.size (.slice A7 n7 c7) x.f6) ∧ PS w0 W U B s2) ⟨?_, ⟨?_, ?_, ?_, ?_⟩, ?_⟩ ?_
        · exact HR5.out.all8 _ _ _ _ _ _ _ _
        · exact RW.over H3.out HR5.out EtS (sets8 _ _ _ _ _ _ _ _ _ _)
        · exact RW.over H5.out HR5.out EtP (sets8 _ _ _ _ _ _ _ _ _ _)
        · exact RW.over H6.out HR5.out EtS (sets8 _ _ _ _ _ _ _ _ _ _)
        · exact RW.over H7.out HR5.out EtA (sets8 _ _ _ _ _ _ _ _ _ _)
        · exact HP5.out.own (sets8 _ _ _ _ _ _ _ _ _ _) (Nat.le_refl _)
        · rintro U ⟨hbx, hrw, hps⟩
          obtain ⟨⟨z0, z1, z2, z3, z4, z5, z6, z7⟩, -⟩ := hbx.cells8
          exact bodyPost_ret (v := .agg #[.int .i64 x.f0, .int .i64 x.f1, .string x.f2.f0, .slice A3 n3 c3, .string x.f3, .slice A5 n5 c5, .slice A6 n6 c6, .slice A7 n7 c7]) (by simp [results, Tryz.results139, go_sem, z0, z1, z2, z3, z4, z5, z6, z7]) rfl ⟨A3, n3, c3, A5, n5, c5, A6, n6, c6, A7, n7, c7, by rw [HF.out], by rw [HF.out]; exact hrw, by rw [HF.out]; exact hps⟩
    · have hf := HF0.out
      rw [if_neg (by decide), if_pos rfl] at hf
      clear HF0
      have HO3 := Lib.hid (okC.places 1 [] HO2.out)
      have HC := Lib.hid (places_at HX.out.p HO2.out 1 (by decide))
      generalize Rd.places 1 u [] = qp at *
      obtain ⟨ps, pss⟩ := qp
      simp only at HC hf HO3
      go_wp2_with fail
      refine HC.out.mono ?_
      rintro e V5 ⟨Ap, np, cp, rfl, hrw, hp, hg⟩
      (try clear g0 g1 g2 g3 g4 g5 g6 g7 f0 f1 f2 f3 f4 f5 f6 f7)
      have HWp := Lib.hid (Kd.R_lower hrw HX.out.p.size)
      have HXn := Lib.hid (HX.out.call hp hg HLG.out)
      clear HX
      have HX := HXn
      clear HXn
      clear hp hg hrw HC
      have HC := Lib.hid (names_at HX.out.p 2 (by decide))
      generalize Rd.names 2 pss [] = qb at *
      obtain ⟨ys, yss⟩ := qb
      simp only at HC hf
      go_wp2_with fail
      refine HC.out.mono ?_
      rintro e V6 ⟨Ab, nb, cb, rfl, hrw, hp, hg⟩
      (try clear g0 g1 g2 g3 g4 g5 g6 g7 f0 f1 f2 f3 f4 f5 f6 f7)
      have HWb := Lib.hid (Kd.R_lower hrw HX.out.p.size)
      have HWp2 := Lib.hid (RW.grown HWp.out hg HLt.out)
      have HXn := Lib.hid (HX.out.call hp hg HLG.out)
      clear HX
      have HX := HXn
      clear HXn
      clear hp hg hrw HC
      obtain ⟨A3, n3, c3, A5, n5, c5, A6, n6, c6, A7, n7, c7, hg, -⟩ := HX.out
      obtain ⟨⟨g0, g1, g2, g3, g4, g5, g6, g7⟩, f0, f1, f2, f3, f4, f5, f6, f7⟩ := hg.cells8
      clear hg
      obtain ⟨_, _, _, _, _, _, _, _, _, _, _, _, hgq, -⟩ := HX.out
      have HWb2 := Lib.hid (RW.set HWb.out hgq EtS 5 (.slice Ap np cp))
      clear hgq
      have HXn := Lib.hid (HX.out.args HLG.out HWp2.out)
      clear HX
      have HX := HXn
      clear HXn
      have HXn := Lib.hid (HX.out.blocks HLG.out HWb2.out)
      clear HX
      have HX := HXn
      clear HXn
      have HZ : Hid (((V6.setCell ⟨G, 5, none⟩ (.slice Ap np cp)).setCell ⟨G, 6, none⟩ (.slice Ab nb cb)).heap.size = V6.heap.size) := Lib.hid (by simp)
      obtain ⟨s1, hs1⟩ : ∃ s1, s1 = yss := ⟨_, rfl⟩
      obtain ⟨x, hx⟩ : ∃ x : STerm, x = fin.1 := ⟨_, rfl⟩
      have HF : Hid (fin = (x, Rd.must [⟨#[59]⟩] s1)) := Lib.hid (Prod.ext hx.symm (by rw [hf, hs1]))
      have HXn : Hid (TX w0 W ((V6.setCell ⟨G, 5, none⟩ (.slice Ap np cp)).setCell ⟨G, 6, none⟩ (.slice Ab nb cb)) B G x s1) := Lib.hid (by rw [hx, hs1, hf]; exact HX.out)
      clear HX
      have HX := HXn
      clear hf hs1 hx HZ5 HXn
      go_wp2_with fail
      refine (must_at' (n := V6.heap.size) HX.out.p ⟨#[59]⟩ HZ.out).mono ?_
      rintro e Vz ⟨⟨vz, rfl⟩, hpz, hgz⟩
      (try clear g0 g1 g2 g3 g4 g5 g6 g7 f0 f1 f2 f3 f4 f5 f6 f7)
      have HXz := Lib.hid (HX.out.call hpz hgz HLG.out)
      clear hpz hgz HX HZ
      have HX := HXz
      clear HXz
      generalize Rd.must [⟨#[59]⟩] s1 = s2 at *
      obtain ⟨A3, n3, c3, A5, n5, c5, A6, n6, c6, A7, n7, c7, hg, r3, r5, r6, r7, hp, hr⟩ := HX.out
      clear HX
      obtain ⟨⟨g0, g1, g2, g3, g4, g5, g6, g7⟩, f0, f1, f2, f3, f4, f5, f6, f7⟩ := hg.cells8
      obtain ⟨⟨e0, e1, e2, e3, e4, e5, e6, e7⟩, d0, d1, d2, d3, d4, d5, d6, d7⟩ := hr.cells8
      have HR5 := Lib.hid hr
      have HP5 := Lib.hid hp
      have H3 := Lib.hid r3
      have H5 := Lib.hid r5
      have H6 := Lib.hid r6
      have H7 := Lib.hid r7
      clear hg r3 r5 r6 r7 hp hr
      go_wp2_with fail
      refine post_at (fun U => Blk U W.heap.size #[.int .i64 x.f0, .int .i64 x.f1, .string x.f2.f0, .slice A3 n3 c3, .string x.f3, .slice A5 n5 c5, .slice A6 n6 c6, .slice A7 n7 c7] 57 ∧ (RW Kd.string 9 U W.heap.size (.slice A3 n3 c3) x.f2.f1 ∧ RW k50 50 U W.heap.size (.slice A5 n5 c5) x.f4 ∧ RW Kd.string 9 U W.heap.size (.slice A6 n6 c6) x.f5 ∧ RW k92 92 U W.heap.size (.slice A7 n7 c7) x.f6) ∧ PS w0 W U B s2) ⟨?_, ⟨?_, ?_, ?_, ?_⟩, ?_⟩ ?_
      · exact HR5.out.all8 _ _ _ _ _ _ _ _
      · exact RW.over H3.out HR5.out EtS (sets8 _ _ _ _ _ _ _ _ _ _)
      · exact RW.over H5.out HR5.out EtP (sets8 _ _ _ _ _ _ _ _ _ _)
      · exact RW.over H6.out HR5.out EtS (sets8 _ _ _ _ _ _ _ _ _ _)
      · exact RW.over H7.out HR5.out EtA (sets8 _ _ _ _ _ _ _ _ _ _)
      · exact HP5.out.own (sets8 _ _ _ _ _ _ _ _ _ _) (Nat.le_refl _)
      · rintro U ⟨hbx, hrw, hps⟩
        obtain ⟨⟨z0, z1, z2, z3, z4, z5, z6, z7⟩, -⟩ := hbx.cells8
        exact bodyPost_ret (v := .agg #[.int .i64 x.f0, .int .i64 x.f1, .string x.f2.f0, .slice A3 n3 c3, .string x.f3, .slice A5 n5 c5, .slice A6 n6 c6, .slice A7 n7 c7]) (by simp [results, Tryz.results139, go_sem, z0, z1, z2, z3, z4, z5, z6, z7]) rfl ⟨A3, n3, c3, A5, n5, c5, A6, n6, c6, A7, n7, c7, by rw [HF.out], by rw [HF.out]; exact hrw, by rw [HF.out]; exact hps⟩
    · have hf := HF0.out
      rw [if_neg (by decide), if_neg (by decide), if_pos rfl] at hf
      clear HF0
      have HO3 := Lib.hid (okC.places 1 [] HO2.out)
      have HC := Lib.hid (places_at HX.out.p HO2.out 1 (by decide))
      generalize Rd.places 1 u [] = qp at *
      obtain ⟨ps, pss⟩ := qp
      simp only at HC hf HO3
      go_wp2_with fail
      refine HC.out.mono ?_
      rintro e V5 ⟨Ap, np, cp, rfl, hrw, hp, hg⟩
      (try clear g0 g1 g2 g3 g4 g5 g6 g7 f0 f1 f2 f3 f4 f5 f6 f7)
      have HWp := Lib.hid (Kd.R_lower hrw HX.out.p.size)
      have HXn := Lib.hid (HX.out.call hp hg HLG.out)
      clear HX
      have HX := HXn
      clear HXn
      clear hp hg hrw HC
      have HC := Lib.hid (row_arm_at HX.out.p HO3.out)
      generalize Rd.row Rd.arm rdF pss [] = qb at *
      obtain ⟨ys, yss⟩ := qb
      simp only at HC hf
      go_wp2_with fail
      refine HC.out.mono ?_
      rintro e V6 ⟨Ab, nb, cb, rfl, hrw, hp, hg⟩
      (try clear g0 g1 g2 g3 g4 g5 g6 g7 f0 f1 f2 f3 f4 f5 f6 f7)
      have HWb := Lib.hid (Kd.R_lower hrw HX.out.p.size)
      have HWp2 := Lib.hid (RW.grown HWp.out hg HLt.out)
      have HXn := Lib.hid (HX.out.call hp hg HLG.out)
      clear HX
      have HX := HXn
      clear HXn
      clear hp hg hrw HC
      obtain ⟨A3, n3, c3, A5, n5, c5, A6, n6, c6, A7, n7, c7, hg, -⟩ := HX.out
      obtain ⟨⟨g0, g1, g2, g3, g4, g5, g6, g7⟩, f0, f1, f2, f3, f4, f5, f6, f7⟩ := hg.cells8
      clear hg
      obtain ⟨_, _, _, _, _, _, _, _, _, _, _, _, hgq, -⟩ := HX.out
      have HWb2 := Lib.hid (RW.set HWb.out hgq EtA 5 (.slice Ap np cp))
      clear hgq
      have HXn := Lib.hid (HX.out.args HLG.out HWp2.out)
      clear HX
      have HX := HXn
      clear HXn
      have HXn := Lib.hid (HX.out.arms HLG.out HWb2.out)
      clear HX
      have HX := HXn
      clear HXn
      have HZ : Hid (((V6.setCell ⟨G, 5, none⟩ (.slice Ap np cp)).setCell ⟨G, 7, none⟩ (.slice Ab nb cb)).heap.size = V6.heap.size) := Lib.hid (by simp)
      obtain ⟨s1, hs1⟩ : ∃ s1, s1 = yss := ⟨_, rfl⟩
      obtain ⟨x, hx⟩ : ∃ x : STerm, x = fin.1 := ⟨_, rfl⟩
      have HF : Hid (fin = (x, Rd.must [⟨#[59]⟩] s1)) := Lib.hid (Prod.ext hx.symm (by rw [hf, hs1]))
      have HXn : Hid (TX w0 W ((V6.setCell ⟨G, 5, none⟩ (.slice Ap np cp)).setCell ⟨G, 7, none⟩ (.slice Ab nb cb)) B G x s1) := Lib.hid (by rw [hx, hs1, hf]; exact HX.out)
      clear HX
      have HX := HXn
      clear hf hs1 hx HZ5 HXn
      go_wp2_with fail
      refine (must_at' (n := V6.heap.size) HX.out.p ⟨#[59]⟩ HZ.out).mono ?_
      rintro e Vz ⟨⟨vz, rfl⟩, hpz, hgz⟩
      (try clear g0 g1 g2 g3 g4 g5 g6 g7 f0 f1 f2 f3 f4 f5 f6 f7)
      have HXz := Lib.hid (HX.out.call hpz hgz HLG.out)
      clear hpz hgz HX HZ
      have HX := HXz
      clear HXz
      generalize Rd.must [⟨#[59]⟩] s1 = s2 at *
      obtain ⟨A3, n3, c3, A5, n5, c5, A6, n6, c6, A7, n7, c7, hg, r3, r5, r6, r7, hp, hr⟩ := HX.out
      clear HX
      obtain ⟨⟨g0, g1, g2, g3, g4, g5, g6, g7⟩, f0, f1, f2, f3, f4, f5, f6, f7⟩ := hg.cells8
      obtain ⟨⟨e0, e1, e2, e3, e4, e5, e6, e7⟩, d0, d1, d2, d3, d4, d5, d6, d7⟩ := hr.cells8
      have HR5 := Lib.hid hr
      have HP5 := Lib.hid hp
      have H3 := Lib.hid r3
      have H5 := Lib.hid r5
      have H6 := Lib.hid r6
      have H7 := Lib.hid r7
      clear hg r3 r5 r6 r7 hp hr
      go_wp2_with fail
      refine post_at (fun U => Blk U W.heap.size #[.int .i64 x.f0, .int .i64 x.f1, .string x.f2.f0, .slice A3 n3 c3, .string x.f3, .slice A5 n5 c5, .slice A6 n6 c6, .slice A7 n7 c7] 57 ∧ (RW Kd.string 9 U W.heap.size (.slice A3 n3 c3) x.f2.f1 ∧ RW k50 50 U W.heap.size (.slice A5 n5 c5) x.f4 ∧ RW Kd.string 9 U W.heap.size (.slice A6 n6 c6) x.f5 ∧ RW k92 92 U W.heap.size (.slice A7 n7 c7) x.f6) ∧ PS w0 W U B s2) ⟨?_, ⟨?_, ?_, ?_, ?_⟩, ?_⟩ ?_
      · exact HR5.out.all8 _ _ _ _ _ _ _ _
      · exact RW.over H3.out HR5.out EtS (sets8 _ _ _ _ _ _ _ _ _ _)
      · exact RW.over H5.out HR5.out EtP (sets8 _ _ _ _ _ _ _ _ _ _)
      · exact RW.over H6.out HR5.out EtS (sets8 _ _ _ _ _ _ _ _ _ _)
      · exact RW.over H7.out HR5.out EtA (sets8 _ _ _ _ _ _ _ _ _ _)
      · exact HP5.out.own (sets8 _ _ _ _ _ _ _ _ _ _) (Nat.le_refl _)
      · rintro U ⟨hbx, hrw, hps⟩
        obtain ⟨⟨z0, z1, z2, z3, z4, z5, z6, z7⟩, -⟩ := hbx.cells8
        exact bodyPost_ret (v := .agg #[.int .i64 x.f0, .int .i64 x.f1, .string x.f2.f0, .slice A3 n3 c3, .string x.f3, .slice A5 n5 c5, .slice A6 n6 c6, .slice A7 n7 c7]) (by simp [results, Tryz.results139, go_sem, z0, z1, z2, z3, z4, z5, z6, z7]) rfl ⟨A3, n3, c3, A5, n5, c5, A6, n6, c6, A7, n7, c7, by rw [HF.out], by rw [HF.out]; exact hrw, by rw [HF.out]; exact hps⟩
    · rcases h56 with rfl | rfl
      all_goals
        have hf := HF0.out
        rw [if_neg (by decide), if_neg (by decide), if_neg (by decide), if_pos (by decide)] at hf
        clear HF0
        have HO3 := Lib.hid (okC.place HO2.out)
        have HC := Lib.hid (place_at HX.out.p HO2.out)
        generalize u.place = q at *
        obtain ⟨p, u1⟩ := q
        simp only at HC hf HO3
        go_wp2_with fail
        refine HC.out.mono ?_
        rintro e V5 ⟨Ap, np, cp, rfl, hrw, hp, hg⟩
        (try clear g0 g1 g2 g3 g4 g5 g6 g7 f0 f1 f2 f3 f4 f5 f6 f7)
        have HWp := Lib.hid (Kd.R_lower hrw HX.out.p.size)
        have HXn := Lib.hid (HX.out.call hp hg HLG.out)
        clear HX
        have HX := HXn
        clear HXn
        clear hp hg hrw HC
        obtain ⟨A3, n3, c3, A5, n5, c5, A6, n6, c6, A7, n7, c7, hg, -⟩ := HX.out
        obtain ⟨⟨g0, g1, g2, g3, g4, g5, g6, g7⟩, f0, f1, f2, f3, f4, f5, f6, f7⟩ := hg.cells8
        clear hg
        have HXn := Lib.hid (HX.out.toP HLG.out p HWp.out)
        clear HX
        have HX := HXn
        clear HXn
        have HZ : Hid (((V5.setCell ⟨G, 2, none⟩ (.string p.f0)).setCell ⟨G, 3, none⟩ (.slice Ap np cp)).heap.size = V5.heap.size) := Lib.hid (by simp)
        have HC := Lib.hid (must_at' (n := V5.heap.size) HX.out.p ⟨#[61]⟩ HZ.out)
        have HO4 := Lib.hid (okC.must [⟨#[61]⟩] HO3.out)
        generalize Rd.must [⟨#[61]⟩] u1 = u2 at *
        go_wp2_with fail
        refine HC.out.mono ?_
        rintro e V6 ⟨⟨v6, rfl⟩, hp, hg⟩
        (try clear g0 g1 g2 g3 g4 g5 g6 g7 f0 f1 f2 f3 f4 f5 f6 f7)
        have HXn := Lib.hid (HX.out.call hp hg HLG.out)
        clear HX
        have HX := HXn
        clear HXn
        clear hp hg HC HZ HWp
        have HO5 := Lib.hid (okC.name HO4.out)
        have HC := Lib.hid (name_at HX.out.p)
        generalize u2.name = q at *
        obtain ⟨nm, u3⟩ := q
        simp only at HC hf HO5
        go_wp2_with fail
        refine HC.out.mono ?_
        rintro e V7 ⟨rfl, hp, hg⟩
        have HXn := Lib.hid (HX.out.call hp hg HLG.out)
        clear HX
        have HX := HXn
        clear HXn
        clear hp hg HC
        have HO6 := Lib.hid (okC.args HO5.out)
        have HC := Lib.hid (args_at HX.out.p HO5.out)
        generalize u3.args = qa at *
        obtain ⟨as_, as_s⟩ := qa
        simp only at HC hf HO6
        go_wp2_with fail
        refine HC.out.mono ?_
        rintro e V8 ⟨Aa, na, ca, rfl, hrw, hp, hg⟩
        (try clear g0 g1 g2 g3 g4 g5 g6 g7 f0 f1 f2 f3 f4 f5 f6 f7)
        have HWa := Lib.hid (Kd.R_lower hrw HX.out.p.size)
        have HXn := Lib.hid (HX.out.call hp hg HLG.out)
        clear HX
        have HX := HXn
        clear HXn
        clear hp hg hrw HC
        have HC := Lib.hid (names_at HX.out.p 1 (by decide))
        generalize Rd.names 1 as_s [] = qb at *
        obtain ⟨ys, yss⟩ := qb
        simp only at HC hf
        go_wp2_with fail
        refine HC.out.mono ?_
        rintro e V9 ⟨Ab, nb, cb, rfl, hrw, hp, hg⟩
        (try clear g0 g1 g2 g3 g4 g5 g6 g7 f0 f1 f2 f3 f4 f5 f6 f7)
        have HWb := Lib.hid (Kd.R_lower hrw HX.out.p.size)
        have HWa2 := Lib.hid (RW.grown HWa.out hg HLt.out)
        have HXn := Lib.hid (HX.out.call hp hg HLG.out)
        clear HX
        have HX := HXn
        clear HXn
        clear hp hg hrw HC
        obtain ⟨A3, n3, c3, A5, n5, c5, A6, n6, c6, A7, n7, c7, hg, -⟩ := HX.out
        obtain ⟨⟨g0, g1, g2, g3, g4, g5, g6, g7⟩, f0, f1, f2, f3, f4, f5, f6, f7⟩ := hg.cells8
        clear hg
        obtain ⟨_, _, _, _, _, _, _, _, _, _, _, _, hgq, -⟩ := HX.out
        have HWb2 := Lib.hid (RW.set (RW.set HWb.out hgq EtS 4 (.string nm)) (hgq.set 4 (.string nm)) EtS 5 (.slice Aa na ca))
        have HWa3 := Lib.hid (RW.set HWa2.out hgq EtP 4 (.string nm))
        clear hgq
        have HXn := Lib.hid (HX.out.name HLG.out nm)
        clear HX
        have HX := HXn
        clear HXn
        have HXn := Lib.hid (HX.out.args HLG.out HWa3.out)
        clear HX
        have HX := HXn
        clear HXn
        have HXn := Lib.hid (HX.out.blocks HLG.out HWb2.out)
        clear HX
        have HX := HXn
        clear HXn
        have HZ : Hid ((((V9.setCell ⟨G, 4, none⟩ (.string nm)).setCell ⟨G, 5, none⟩ (.slice Aa na ca)).setCell ⟨G, 6, none⟩ (.slice Ab nb cb)).heap.size = V9.heap.size) := Lib.hid (by simp)
        obtain ⟨s1, hs1⟩ : ∃ s1, s1 = yss := ⟨_, rfl⟩
        obtain ⟨x, hx⟩ : ∃ x : STerm, x = fin.1 := ⟨_, rfl⟩
        have HF : Hid (fin = (x, Rd.must [⟨#[59]⟩] s1)) := Lib.hid (Prod.ext hx.symm (by rw [hf, hs1]))
        have HXn : Hid (TX w0 W (((V9.setCell ⟨G, 4, none⟩ (.string nm)).setCell ⟨G, 5, none⟩ (.slice Aa na ca)).setCell ⟨G, 6, none⟩ (.slice Ab nb cb)) B G x s1) := Lib.hid (by rw [hx, hs1, hf]; exact HX.out)
        clear HX
        have HX := HXn
        clear hf hx hs1 HZ5 HXn
        go_wp2_with fail
        refine (must_at' (n := V9.heap.size) HX.out.p ⟨#[59]⟩ HZ.out).mono ?_
        rintro e Vz ⟨⟨vz, rfl⟩, hpz, hgz⟩
        (try clear g0 g1 g2 g3 g4 g5 g6 g7 f0 f1 f2 f3 f4 f5 f6 f7)
        have HXz := Lib.hid (HX.out.call hpz hgz HLG.out)
        clear hpz hgz HX HZ
        have HX := HXz
        clear HXz
        generalize Rd.must [⟨#[59]⟩] s1 = s2 at *
        obtain ⟨A3, n3, c3, A5, n5, c5, A6, n6, c6, A7, n7, c7, hg, r3, r5, r6, r7, hp, hr⟩ := HX.out
        clear HX
        obtain ⟨⟨g0, g1, g2, g3, g4, g5, g6, g7⟩, f0, f1, f2, f3, f4, f5, f6, f7⟩ := hg.cells8
        obtain ⟨⟨e0, e1, e2, e3, e4, e5, e6, e7⟩, d0, d1, d2, d3, d4, d5, d6, d7⟩ := hr.cells8
        have HR5 := Lib.hid hr
        have HP5 := Lib.hid hp
        have H3 := Lib.hid r3
        have H5 := Lib.hid r5
        have H6 := Lib.hid r6
        have H7 := Lib.hid r7
        clear hg r3 r5 r6 r7 hp hr
        go_wp2_with fail
        refine post_at (fun U => Blk U W.heap.size #[.int .i64 x.f0, .int .i64 x.f1, .string x.f2.f0, .slice A3 n3 c3, .string x.f3, .slice A5 n5 c5, .slice A6 n6 c6, .slice A7 n7 c7] 57 ∧ (RW Kd.string 9 U W.heap.size (.slice A3 n3 c3) x.f2.f1 ∧ RW k50 50 U W.heap.size (.slice A5 n5 c5) x.f4 ∧ RW Kd.string 9 U W.heap.size (.slice A6 n6 c6) x.f5 ∧ RW k92 92 U W.heap.size (.slice A7 n7 c7) x.f6) ∧ PS w0 W U B s2) ⟨?_, ⟨?_, ?_, ?_, ?_⟩, ?_⟩ ?_
        · exact HR5.out.all8 _ _ _ _ _ _ _ _
        · exact RW.over H3.out HR5.out EtS (sets8 _ _ _ _ _ _ _ _ _ _)
        · exact RW.over H5.out HR5.out EtP (sets8 _ _ _ _ _ _ _ _ _ _)
        · exact RW.over H6.out HR5.out EtS (sets8 _ _ _ _ _ _ _ _ _ _)
        · exact RW.over H7.out HR5.out EtA (sets8 _ _ _ _ _ _ _ _ _ _)
        · exact HP5.out.own (sets8 _ _ _ _ _ _ _ _ _ _) (Nat.le_refl _)
        · rintro U ⟨hbx, hrw, hps⟩
          obtain ⟨⟨z0, z1, z2, z3, z4, z5, z6, z7⟩, -⟩ := hbx.cells8
          exact bodyPost_ret (v := .agg #[.int .i64 x.f0, .int .i64 x.f1, .string x.f2.f0, .slice A3 n3 c3, .string x.f3, .slice A5 n5 c5, .slice A6 n6 c6, .slice A7 n7 c7]) (by simp [results, Tryz.results139, go_sem, z0, z1, z2, z3, z4, z5, z6, z7]) rfl ⟨A3, n3, c3, A5, n5, c5, A6, n6, c6, A7, n7, c7, by rw [HF.out], by rw [HF.out]; exact hrw, by rw [HF.out]; exact hps⟩
    · have hf := HF0.out
      rw [if_neg (by decide), if_neg (by decide), if_neg (by decide), if_neg (by decide), if_pos rfl] at hf
      clear HF0
      have HC := Lib.hid (places_at HX.out.p HO2.out 1 (by decide))
      generalize Rd.places 1 u [] = qp at *
      obtain ⟨ps, pss⟩ := qp
      simp only at HC hf
      go_wp2_with fail
      refine HC.out.mono ?_
      rintro e V5 ⟨Ap, np, cp, rfl, hrw, hp, hg⟩
      (try clear g0 g1 g2 g3 g4 g5 g6 g7 f0 f1 f2 f3 f4 f5 f6 f7)
      have HWp := Lib.hid (Kd.R_lower hrw HX.out.p.size)
      have HXn := Lib.hid (HX.out.call hp hg HLG.out)
      clear HX
      have HX := HXn
      clear HXn
      clear hp hg hrw HC
      obtain ⟨A3, n3, c3, A5, n5, c5, A6, n6, c6, A7, n7, c7, hg, -⟩ := HX.out
      obtain ⟨⟨g0, g1, g2, g3, g4, g5, g6, g7⟩, f0, f1, f2, f3, f4, f5, f6, f7⟩ := hg.cells8
      clear hg
      have HXn := Lib.hid (HX.out.args HLG.out HWp.out)
      clear HX
      have HX := HXn
      clear HXn
      have HZ : Hid ((V5.setCell ⟨G, 5, none⟩ (.slice Ap np cp)).heap.size = V5.heap.size) := Lib.hid (by simp)
      obtain ⟨s1, hs1⟩ : ∃ s1, s1 = pss := ⟨_, rfl⟩
      obtain ⟨x, hx⟩ : ∃ x : STerm, x = fin.1 := ⟨_, rfl⟩
      have HF : Hid (fin = (x, Rd.must [⟨#[59]⟩] s1)) := Lib.hid (Prod.ext hx.symm (by rw [hf, hs1]))
      have HXn : Hid (TX w0 W (V5.setCell ⟨G, 5, none⟩ (.slice Ap np cp)) B G x s1) := Lib.hid (by rw [hx, hs1, hf]; exact HX.out)
      clear HX
      have HX := HXn
      clear hf hs1 hx HZ5 HXn
      go_wp2_with fail
      refine (must_at' (n := V5.heap.size) HX.out.p ⟨#[59]⟩ HZ.out).mono ?_
      rintro e Vz ⟨⟨vz, rfl⟩, hpz, hgz⟩
      (try clear g0 g1 g2 g3 g4 g5 g6 g7 f0 f1 f2 f3 f4 f5 f6 f7)
      have HXz := Lib.hid (HX.out.call hpz hgz HLG.out)
      clear hpz hgz HX HZ
      have HX := HXz
      clear HXz
      generalize Rd.must [⟨#[59]⟩] s1 = s2 at *
      obtain ⟨A3, n3, c3, A5, n5, c5, A6, n6, c6, A7, n7, c7, hg, r3, r5, r6, r7, hp, hr⟩ := HX.out
      clear HX
      obtain ⟨⟨g0, g1, g2, g3, g4, g5, g6, g7⟩, f0, f1, f2, f3, f4, f5, f6, f7⟩ := hg.cells8
      obtain ⟨⟨e0, e1, e2, e3, e4, e5, e6, e7⟩, d0, d1, d2, d3, d4, d5, d6, d7⟩ := hr.cells8
      have HR5 := Lib.hid hr
      have HP5 := Lib.hid hp
      have H3 := Lib.hid r3
      have H5 := Lib.hid r5
      have H6 := Lib.hid r6
      have H7 := Lib.hid r7
      clear hg r3 r5 r6 r7 hp hr
      go_wp2_with fail
      refine post_at (fun U => Blk U W.heap.size #[.int .i64 x.f0, .int .i64 x.f1, .string x.f2.f0, .slice A3 n3 c3, .string x.f3, .slice A5 n5 c5, .slice A6 n6 c6, .slice A7 n7 c7] 57 ∧ (RW Kd.string 9 U W.heap.size (.slice A3 n3 c3) x.f2.f1 ∧ RW k50 50 U W.heap.size (.slice A5 n5 c5) x.f4 ∧ RW Kd.string 9 U W.heap.size (.slice A6 n6 c6) x.f5 ∧ RW k92 92 U W.heap.size (.slice A7 n7 c7) x.f6) ∧ PS w0 W U B s2) ⟨?_, ⟨?_, ?_, ?_, ?_⟩, ?_⟩ ?_
      · exact HR5.out.all8 _ _ _ _ _ _ _ _
      · exact RW.over H3.out HR5.out EtS (sets8 _ _ _ _ _ _ _ _ _ _)
      · exact RW.over H5.out HR5.out EtP (sets8 _ _ _ _ _ _ _ _ _ _)
      · exact RW.over H6.out HR5.out EtS (sets8 _ _ _ _ _ _ _ _ _ _)
      · exact RW.over H7.out HR5.out EtA (sets8 _ _ _ _ _ _ _ _ _ _)
      · exact HP5.out.own (sets8 _ _ _ _ _ _ _ _ _ _) (Nat.le_refl _)
      · rintro U ⟨hbx, hrw, hps⟩
        obtain ⟨⟨z0, z1, z2, z3, z4, z5, z6, z7⟩, -⟩ := hbx.cells8
        exact bodyPost_ret (v := .agg #[.int .i64 x.f0, .int .i64 x.f1, .string x.f2.f0, .slice A3 n3 c3, .string x.f3, .slice A5 n5 c5, .slice A6 n6 c6, .slice A7 n7 c7]) (by simp [results, Tryz.results139, go_sem, z0, z1, z2, z3, z4, z5, z6, z7]) rfl ⟨A3, n3, c3, A5, n5, c5, A6, n6, c6, A7, n7, c7, by rw [HF.out], by rw [HF.out]; exact hrw, by rw [HF.out]; exact hps⟩
theorem term_at {w0 W0 W : World} {B : Nat} {s : Rd} (h : PS w0 W0 W B s) (hok : s.Ok) :
    Calls Tryz.prog 139 #[.pointer (some ⟨B, 0, none⟩)] W fun e W' => ∃ (A3 : Option Addr) (n3 c3 : Nat) (A5 : Option Addr) (n5 c5 : Nat) (A6 : Option Addr) (n6 c6 : Nat) (A7 : Option Addr) (n7 c7 : Nat), e = .returned (.agg #[.int .i64 s.term.1.f0, .int .i64 s.term.1.f1, .string s.term.1.f2.f0, .slice A3 n3 c3, .string s.term.1.f3, .slice A5 n5 c5, .slice A6 n6 c6, .slice A7 n7 c7]) ∧ (RW Kd.string 9 W' W.heap.size (.slice A3 n3 c3) s.term.1.f2.f1 ∧ RW k50 50 W' W.heap.size (.slice A5 n5 c5) s.term.1.f4 ∧ RW Kd.string 9 W' W.heap.size (.slice A6 n6 c6) s.term.1.f5 ∧ RW k92 92 W' W.heap.size (.slice A7 n7 c7) s.term.1.f6) ∧ PS w0 W0 W' B s.term.2 ∧ W.grownBy W' (some B) := by
  refine (term_calls w0 W B s h.r hok).mono ?_
  rintro e W' ⟨A3, n3, c3, A5, n5, c5, A6, n6, c6, A7, n7, c7, he, hr, hp⟩
  exact ⟨A3, n3, c3, A5, n5, c5, A6, n6, c6, A7, n7, c7, he, hr, h.on hp, hp.g⟩
end Go.Proofs.YtmgkejobolgkmaaGreatDoor.PL
