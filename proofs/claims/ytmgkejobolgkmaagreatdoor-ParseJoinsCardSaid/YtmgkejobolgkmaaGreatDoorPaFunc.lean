/- Package parse's reader: function. -/
import Derived.Test.YtmgkejobolgkmaaGreatDoorPaBlock
import Derived.Deep.DeepCutAuto
namespace Go.Proofs.YtmgkejobolgkmaaGreatDoor.PL
open Go Go.RowKit Go.Proofs.YtmgkejobolgkmaaGreatDoorW.PrintWords Go.Proofs.YtmgkejobolgkmaaGreatDoorW.PrintLast Go.Proofs.YtmgkejobolgkmaaGreatDoorW.PrintMore
set_option linter.unusedVariables false
set_option linter.unusedSimpArgs false

theorem EfV (q : Nat) (h : q ∈ 99 :: (k99).E) : q ≠ 63 := by
  revert q
  decide
theorem EfB (q : Nat) (h : q ∈ 59 :: (k59).E) : q ≠ 63 := by
  revert q
  decide
theorem EfBV (q : Nat) (h : q ∈ 59 :: (k59).E) : q ≠ 99 := by
  revert q
  decide
theorem EfVB (q : Nat) (h : q ∈ 99 :: (k99).E) : q ≠ 59 := by
  revert q
  decide
theorem EfVonly (q : Nat) (h : q ∈ 99 :: (k99).E) : q = 99 := by
  revert q
  decide
theorem infoBlock : (Tryz.prog.info? 59).map (fun i => (i.zero, i.size, i.bytes)) = some (some (.agg #[.int .i64 0, .string ⟨#[]⟩, .slice none 0 0, .int .i64 0, .int .i64 0, .string ⟨#[]⟩, .slice none 0 0, .string ⟨#[]⟩, .slice none 0 0, .slice none 0 0, .slice none 0 0]), 11, 192) := by kernel_rfl
theorem Rd.row_len {α : Type} (one : Rd → α × Rd) : ∀ (k : Nat) (s : Rd) (out : List α), (Rd.row one k s out).1.length ≤ out.length + k
  | 0, s, out => Nat.le_refl _
  | k + 1, s, out => by
    unfold Rd.row
    split
    · have h := Rd.row_len one k ((one (s.limit out.length 16)).2.may ⟨#[44]⟩).2 (out ++ [(one (s.limit out.length 16)).1])
      rw [List.length_append] at h
      simp at h
      omega
    · show (out ++ [_]).length ≤ _
      rw [List.length_append]
      simp
theorem Rd.block_prog {s : Rd} (h : s.Ok) {n : Nat} (hn : s.toks.length ≤ n) : s.block.2.bad ≠ -1 ∨ s.block.2.toks.length < n :=
  (progC n).term ((progC n).stmts _ _ ((progC n).must _ (Rd.name_prog h hn)))
theorem Rd.blocks_out (kq : Nat) (s : Rd) (out : List SBlock) (hb : ¬ (s.bad = -1 ∧ (out = [] ∨ s.sees [⟨#[125]⟩] = false))) : Rd.blocks kq s out = (out, s) := by
  cases kq with
  | zero => rfl
  | succ k =>
    unfold Rd.blocks
    rw [if_neg hb]
/-- an own row is over which another one is written -/
theorem RW.over' {α : Type} {d : Kd α} {e base : Nat} {W W1 : World} {v u : Value} {xs : List α} (h : RW d e W base v xs) (hg : W.grownBy W1 u.ownBlock) (hne : ∀ k, u.ownBlock = some k → ∃ cs t, Blk W k cs t ∧ ∀ q, q ∈ e :: d.E → q ≠ t) : RW d e W1 base v xs :=
  Kd.R_mono (Kd.R_move (Kd.R_bound h) (fun k hk => hg.block k hk.2.2.1 (fun e => by
    obtain ⟨cs, t, hb, ht⟩ := hne k e.symm
    obtain ⟨-, -, -, q, hq, cells, hc⟩ := hk
    rw [hb.out] at hc
    cases hc
    exact ht _ hq rfl))) (fun _ _ => trivial)
theorem RW.typed {α : Type} {d : Kd α} {e base : Nat} {W : World} {v : Value} {xs : List α} (h : RW d e W base v xs) : ∀ k, v.ownBlock = some k → ∃ cs t, Blk W k cs t ∧ t = e := fun k hk => by
  obtain ⟨cells, hc⟩ := Kd.R_typed h k hk
  exact ⟨cells, e, ⟨hc⟩, rfl⟩
/-- a function's box G and the result's, within the walk -/
def FX (w0 W U : World) (B G : Nat) (x : SFunc) (s : Rd) : Prop := ∃ (M : Nat) (A2 : Option Addr) (n2 c2 : Nat) (A3 : Option Addr) (n3 c3 : Nat) (A5 : Option Addr) (n5 c5 : Nat), W.heap.size ≤ M ∧ M ≤ U.heap.size ∧ Blk U G #[.int .i64 x.f0, .string x.f1, .slice A2 n2 c2, .slice A3 n3 c3, .string x.f4, .slice A5 n5 c5] 63 ∧ (k99).R 99 U W.heap.size (fun k => k < M) (.slice A2 n2 c2) x.f2 ∧ RW k99 99 U M (.slice A3 n3 c3) x.f3 ∧ RW k59 59 U W.heap.size (.slice A5 n5 c5) x.f5 ∧ PS w0 W U B s ∧ Blk U W.heap.size #[.int .i64 0, .string ⟨#[]⟩, .slice none 0 0, .slice none 0 0, .string ⟨#[]⟩, .slice none 0 0] 63
namespace FX
variable {w0 W U U' : World} {B G : Nat} {x : SFunc} {s s' : Rd}
theorem p (h : FX w0 W U B G x s) : PS w0 W U B s := by
  obtain ⟨M, A2, n2, c2, A3, n3, c3, A5, n5, c5, hM, hM2, hg, r2, r3, r5, hp, hr⟩ := h
  exact hp
theorem r2_grown {M : Nat} {v : Value} {xs : List SVar} (h : (k99).R 99 U W.heap.size (fun k => k < M) v xs) {row : Option Nat} (hg : U.grownBy U' row) (hne : ∀ k, W.heap.size ≤ k → k < M → (∃ cells, U.heap[k]? = some (.cells cells 99 (0, 0))) → some k ≠ row) : (k99).R 99 U' W.heap.size (fun k => k < M) v xs :=
  Kd.R_mono (Kd.R_move (Kd.R_bound h) (fun k hk => hg.block k hk.2.2.1 (hne k hk.2.1 hk.1 (by
    obtain ⟨-, -, -, q, hq, cells, hc⟩ := hk
    have hq2 := EfVonly q hq
    subst hq2
    exact ⟨cells, hc⟩)))) (fun _ hk => hk.1)
theorem call (h : FX w0 W U B G x s) (hp' : PS w0 W U' B s') (hgr : U.grownBy U' (some B)) (hG : W.heap.size < G) : FX w0 W U' B G x s' := by
  obtain ⟨M, A2, n2, c2, A3, n3, c3, A5, n5, c5, hM, hM2, hg, r2, r3, r5, hp, hr⟩ := h
  have hb := hp.b
  exact ⟨_, _, _, _, _, _, _, _, _, _, hM, Nat.le_trans hM2 hgr.size, hg.ps hgr (by omega), r2_grown r2 hgr (fun k h1 _ _ e => by cases e; omega), RW.grown r3 hgr (by omega), RW.grown r5 hgr hb, hp', hr.ps hgr (by omega)⟩
theorem result (h : FX w0 W U B G x s) (hG : W.heap.size < G) (y : ByteArray) : FX w0 W (U.setCell ⟨G, 4, none⟩ (.string y)) B G {x with f4 := y} s := by
  obtain ⟨M, A2, n2, c2, A3, n3, c3, A5, n5, c5, hM, hM2, hg, r2, r3, r5, hp, hr⟩ := h
  exact ⟨_, _, _, _, _, _, _, _, _, _, hM, by simpa using hM2, hg.set 4 _, r2_grown r2 (grown_set U ⟨G, 4, none⟩ _) (fun k _ _ ht e => by
    cases e
    obtain ⟨cells, hc⟩ := ht
    rw [hg.out] at hc
    cases hc), RW.set r3 hg EfV 4 _, RW.set r5 hg EfB 4 _, hp.set (p := ⟨G, 4, none⟩) (Nat.le_of_lt hG) _, hr.far (p := ⟨G, 4, none⟩) (Nat.ne_of_lt hG) _⟩
end FX
set_option maxHeartbeats 32000000 in
set_option maxRecDepth 100000 in
theorem function_calls (w0 W : World) (B : Nat) (s : Rd) (h : RdIn w0 W B s) (hok : s.Ok) :
    Calls Tryz.prog 56 #[.pointer (some ⟨B, 0, none⟩)] W fun e W' => ∃ A2 n2 c2 A3 n3 c3 A5 n5 c5, e = .returned (.agg #[.int .i64 s.function.1.f0, .string s.function.1.f1, .slice A2 n2 c2, .slice A3 n3 c3, .string s.function.1.f4, .slice A5 n5 c5]) ∧ RW k99 99 W' W.heap.size (.slice A2 n2 c2) s.function.1.f2 ∧ RW k99 99 W' W.heap.size (.slice A3 n3 c3) s.function.1.f3 ∧ RW k59 59 W' W.heap.size (.slice A5 n5 c5) s.function.1.f5 ∧ PS w0 W W' B s.function.2 := by
  have HP0 := Lib.hid (PS.start h)
  have HLt := Lib.hid h.lt
  obtain ⟨fin, hfin⟩ : ∃ fin, fin = s.function := ⟨_, rfl⟩
  rw [← hfin]
  unfold Rd.function Rd.function1 at hfin
  simp only at hfin
  obtain ⟨a, ha⟩ : ∃ a, a = s.at_ := ⟨_, rfl⟩
  have HAt := Lib.hid (fun V (hV : RdIn w0 V B s) => at_calls w0 V B s hV)
  rw [← ha] at hfin HAt
  have HO1 := Lib.hid (okC.must [⟨#[102, 110]⟩] hok)
  clear h hok ha
  go_enter Tryz.func56, Tryz.ntmps56
  go_wp2_with fail
  refine at_world (fun V => Blk V W.heap.size #[.int .i64 0, .string ⟨#[]⟩, .slice none 0 0, .slice none 0 0, .string ⟨#[]⟩, .slice none 0 0] 63 ∧ PS w0 W V B s) ⟨Blk.new _ _ _, HP0.out.alloc _⟩ ?_
  rintro V0 ⟨HRes, hp0⟩
  have HP := Lib.hid hp0
  clear hp0 HP0
  refine (HAt.out V0 HP.out.r).mono ?_
  rintro e W1 ⟨rfl, rfl⟩
  clear HAt
  have HRB : Hid (W.heap.size ≠ B) := Lib.hid (fun e => by have := HLt.out; omega)
  have HLG : Hid (W.heap.size < V0.heap.size) := Lib.hid HRes.lt
  have HGB : Hid (V0.heap.size ≠ B) := Lib.hid (fun e => by have := HLt.out; have := HLG.out; omega)
  have HRG : Hid (W.heap.size ≠ V0.heap.size) := Lib.hid (fun e => by have := HLG.out; omega)
  have hGR : (V0.heap.size = W.heap.size) = False := eq_false (by have := HLG.out; omega)
  have hRG : (W.heap.size = V0.heap.size) = False := eq_false (by have := HLG.out; omega)
  have HLe : Hid (W.heap.size ≤ V0.heap.size) := Lib.hid (Nat.le_of_lt HLG.out)
  have HR1 := Lib.hid (HRes.alloc (.cells #[.int .i64 a, .string ⟨#[]⟩, .slice none 0 0, .slice none 0 0, .string ⟨#[]⟩, .slice none 0 0] 63))
  have HG1 := Lib.hid (Blk.new V0 #[.int .i64 a, .string ⟨#[]⟩, .slice none 0 0, .slice none 0 0, .string ⟨#[]⟩, .slice none 0 0] 63)
  have HP1 := Lib.hid (HP.out.alloc (.cells #[.int .i64 a, .string ⟨#[]⟩, .slice none 0 0, .slice none 0 0, .string ⟨#[]⟩, .slice none 0 0] 63))
  clear HRes HP
  have HM := Lib.hid (must_at' (n := V0.heap.size + 1) HP1.out ⟨#[102, 110]⟩ (by simp))
  generalize Rd.must [⟨#[102, 110]⟩] s = s1 at *
  go_wp2_with fail
  refine HM.out.mono ?_
  rintro e V1 ⟨⟨v1, rfl⟩, hp1, hg1⟩
  have HR2 := Lib.hid (HR1.out.ps hg1 HRB.out)
  have HG2 := Lib.hid (HG1.out.ps hg1 HGB.out)
  have HP2 := Lib.hid hp1
  clear hp1 hg1 HR1 HG1 HP1 HM
  generalize V0.heap.size = G at *
  have HO2 := Lib.hid (okC.name HO1.out)
  have HN := Lib.hid (name_at HP2.out)
  generalize s1.name = q at *
  obtain ⟨nm, s2⟩ := q
  simp only at HN HO2 hfin
  go_wp2_with fail
  refine HN.out.mono ?_
  rintro e V4 ⟨rfl, hp1, hg1⟩
  have hg5 := HG2.out.ps hg1 HGB.out
  have HR5 := Lib.hid ((HR2.out.ps hg1 HRB.out).far (p := ⟨G, 1, none⟩) HRG.out (.string nm))
  have HG5 : Hid (Blk (V4.setCell ⟨G, 1, none⟩ (.string nm)) G #[.int .i64 a, .string nm, .slice none 0 0, .slice none 0 0, .string ⟨#[]⟩, .slice none 0 0] 63) := Lib.hid (hg5.set 1 _)
  have HP5 := Lib.hid (hp1.set (p := ⟨G, 1, none⟩) HLe.out (.string nm))
  have HZ5 : Hid ((V4.setCell ⟨G, 1, none⟩ (.string nm)).heap.size = V4.heap.size) := Lib.hid (by simp)
  obtain ⟨⟨g0, g1, g2, g3, g4, g5⟩, f0, f1, f2, f3, f4, f5⟩ := hg5.cells6
  clear hp1 hg1 HR2 HG2 HP2 HN hg5
  have HM := Lib.hid (must_at' (n := V4.heap.size) HP5.out ⟨#[40]⟩ HZ5.out)
  have HO3 := Lib.hid (okC.must [⟨#[40]⟩] HO2.out)
  generalize Rd.must [⟨#[40]⟩] s2 = u at *
  go_wp2_with fail
  refine HM.out.mono ?_
  rintro e V5 ⟨⟨v5, rfl⟩, hp1, hg1⟩
  (try clear g0 g1 g2 g3 g4 g5 f0 f1 f2 f3 f4 f5)
  have HR6 := Lib.hid (HR5.out.ps hg1 HRB.out)
  have HG6 := Lib.hid (HG5.out.ps hg1 HGB.out)
  have HP6 := Lib.hid hp1
  clear hp1 hg1 HR5 HG5 HP5 HM HZ5
  have HS := Lib.hid (see_at HP6.out ⟨#[41]⟩)
  have HRow := Lib.hid (fun V (hV : PS w0 W V B u) => row_param_at hV HO3.out)
  obtain ⟨pp, hpp⟩ : ∃ pp, pp = (if u.sees [⟨#[41]⟩] then ([], u) else Rd.row Rd.param rdF u []) := ⟨_, rfl⟩
  rw [← hpp] at hfin
  have HPl : Hid (pp.1.length ≤ 100001) := Lib.hid (by
    rw [hpp]
    split
    · exact Nat.zero_le _
    · exact Nat.le_trans (Rd.row_len _ _ _ _) (by simp))
  have HOp : Hid pp.2.Ok := Lib.hid (by
    rw [hpp]
    split
    · exact HO3.out
    · exact okC.row okC.param _ _ HO3.out)
  have HPp := Lib.hid hpp
  have HF0 := Lib.hid hfin
  clear hfin hpp
  obtain ⟨b, hb⟩ : ∃ b, b = u.sees [⟨#[41]⟩] := ⟨_, rfl⟩
  rw [← hb] at HS HPp
  clear hb
  go_wp2_with fail
  refine HS.out.mono ?_
  rintro e V6 ⟨rfl, hp1, hg1⟩
  have HR7 := Lib.hid (HR6.out.ps hg1 HRB.out)
  have HG7 := Lib.hid (HG6.out.ps hg1 HGB.out)
  have HP7 := Lib.hid hp1
  clear hp1 hg1 HR6 HG6 HP6 HS
  go_upto_if 19 with fail
  go_cut [] from 20 to 24 (fun W9 => FX w0 W W9 B G ⟨a, nm, pp.1, [], ⟨#[]⟩, []⟩ pp.2)
  case first =>
    cases b with
    | true =>
      go_wp2_with fail
      go_meet
      have hpe : pp = ([], u) := by rw [HPp.out]; rfl
      rw [hpe]
      exact ⟨V6.heap.size, none, 0, 0, none, 0, 0, none, 0, 0, HP7.out.size, Nat.le_refl _, HG7.out, Kd.R_nil _ _ _ _ _, RW.nil _ _ _ _, RW.nil _ _ _ _, HP7.out, HR7.out⟩
    | false =>
      obtain ⟨⟨g0, g1, g2, g3, g4, g5⟩, f0, f1, f2, f3, f4, f5⟩ := HG7.out.cells6
      go_wp2_with fail
      refine (HRow.out _ HP7.out).mono ?_
      rintro e V8 ⟨A2, n2, c2, rfl, hrw, hp1, hg1⟩
      clear g0 g1 g2 g3 g4 g5 f0 f1 f2 f3 f4 f5
      have hpe : pp = Rd.row Rd.param rdF u [] := by rw [HPp.out]; rfl
      have HHp := Lib.hid hpe
      have hg8 := HG7.out.ps hg1 HGB.out
      have HG8 := Lib.hid hg8
      have HR8 := Lib.hid (HR7.out.ps hg1 HRB.out)
      have HP8 := Lib.hid hp1
      have HW8 := Lib.hid (Kd.R_lower hrw HP7.out.size)
      obtain ⟨⟨g0, g1, g2, g3, g4, g5⟩, f0, f1, f2, f3, f4, f5⟩ := hg8.cells6
      clear hpe hg8 hp1 hg1 hrw HG7 HR7 HP7
      go_wp2_with fail
      go_meet
      rw [HHp.out]
      exact ⟨V8.heap.size, A2, n2, c2, none, 0, 0, none, 0, 0, HP8.out.size, by simp, HG8.out.set 2 _, Kd.R_mono (Kd.R_bound (RW.set HW8.out HG8.out EfV 2 _)) (fun k hk => by have := hk.2.2.1; simpa using this), RW.nil _ _ _ _, RW.nil _ _ _ _, HP8.out.set (p := ⟨G, 2, none⟩) HLe.out _, HR8.out.far (p := ⟨G, 2, none⟩) HRG.out _⟩
  case rest =>
  clear HPp HRow HR7 HG7 HP7 HO3
  have HX := Lib.hid hcut
  clear hcut
  obtain ⟨ps, u2⟩ := pp
  simp only at HX HPl HOp HF0
  have HM := Lib.hid (must_at HX.out.p ⟨#[41]⟩)
  have HO4 := Lib.hid (okC.must [⟨#[41]⟩] HOp.out)
  generalize Rd.must [⟨#[41]⟩] u2 = u3 at *
  go_wp2_with fail
  refine HM.out.mono ?_
  rintro e V8 ⟨⟨v8, rfl⟩, hp, hg⟩
  have HXn := Lib.hid (HX.out.call hp hg HLG.out)
  clear HX
  have HX := HXn
  clear HXn
  clear hp hg HM
  have HO5 := Lib.hid (okC.plain HO4.out)
  have HN := Lib.hid (plain_at HX.out.p HO4.out)
  generalize u3.plain = q at *
  obtain ⟨rs, u4⟩ := q
  simp only at HN HO5 HF0
  go_wp2_with fail
  refine HN.out.mono ?_
  rintro e V9 ⟨rfl, hp, hg⟩
  have HXn := Lib.hid (HX.out.call hp hg HLG.out)
  clear HX
  have HX := HXn
  clear HXn
  clear hp hg HN
  obtain ⟨_, A2, n2, c2, A3, n3, c3, A5, n5, c5, -, -, hgq, -⟩ := HX.out
  obtain ⟨⟨g0, g1, g2, g3, g4, g5⟩, f0, f1, f2, f3, f4, f5⟩ := hgq.cells6
  clear hgq
  have HXn := Lib.hid (HX.out.result HLG.out rs)
  clear HX
  have HX := HXn
  clear HXn
  have HZ : Hid ((V9.setCell ⟨G, 4, none⟩ (.string rs)).heap.size = V9.heap.size) := Lib.hid (by simp)
  have HM := Lib.hid (must_at' (n := V9.heap.size) HX.out.p ⟨#[123]⟩ HZ.out)
  have HO6 := Lib.hid (okC.must [⟨#[123]⟩] HO5.out)
  generalize Rd.must [⟨#[123]⟩] u4 = v at *
  go_wp2_with fail
  refine HM.out.mono ?_
  rintro e V10 ⟨⟨v10, rfl⟩, hp, hg⟩
  clear g0 g1 g2 g3 g4 g5 f0 f1 f2 f3 f4 f5
  have HXn := Lib.hid (HX.out.call hp hg HLG.out)
  clear HX
  have HX := HXn
  clear HXn
  clear hp hg HM HZ
  obtain ⟨F, hF⟩ : ∃ F, F = rdF := ⟨_, rfl⟩
  have hf := HF0.out
  rw [← hF] at hf
  have HFF : Hid (F = 100001) := Lib.hid hF
  obtain ⟨lt, hlt⟩ : ∃ lt, lt = Rd.lets (ps.length : Int) F v [] := ⟨_, rfl⟩
  rw [← hlt] at hf
  have HL := Lib.hid hlt
  have HF := Lib.hid hf
  clear HF0 hf hF hlt
  go_wp2_with fail
  go_loopg [] F (fun kq w' => ∃ (s' : Rd) (out : List SVar), Aside0 (out.length + kq = F ∧ s'.Ok) ∧ Aside0 (s'.toks.length < kq) ∧ Aside0 (Rd.lets (ps.length : Int) kq s' out = lt) ∧ Aside0 (FX w0 W w' B G ⟨a, nm, ps, out, rs, []⟩ s'))
  case atStart => exact ⟨v, [], ⟨by simp, HO6.out⟩, ⟨by have := HO6.out.len; have := HFF.out; omega⟩, ⟨HL.out.symm⟩, ⟨HX.out⟩⟩
  case round =>
    clear HX HL HO6 HO5 HO4 HOp HO2 HO1
    obtain ⟨s', out, HI, HLn, HB, HX⟩ := hrel
    cases gk with
    | zero => exact absurd HLn.out (by omega)
    | succ kk =>
      have hb := HB.out
      unfold Rd.lets at hb
      simp only at hb
      have HMl : Hid ((s'.may ⟨#[108, 101, 116]⟩).1 = true → (s'.may ⟨#[108, 101, 116]⟩).2.toks.length < s'.toks.length) := Lib.hid Rd.may_lt
      have HM := Lib.hid (may_at HX.out.p ⟨#[108, 101, 116]⟩)
      have HO1 := Lib.hid (okC.may ⟨#[108, 101, 116]⟩ HI.out.2)
      clear HB
      generalize s'.may ⟨#[108, 101, 116]⟩ = r at *
      obtain ⟨b2, s1⟩ := r
      simp only at hb HM HMl HO1
      cases b2 with
      | true =>
        rw [if_pos rfl] at hb
        have HMl2 := Lib.hid (HMl.out rfl)
        clear HMl
        go_wp2_with fail
        refine HM.out.mono ?_
        rintro e V11 ⟨rfl, hp, hg⟩
        have HX2 := Lib.hid (HX.out.call hp hg HLG.out)
        clear hp hg HM HX
        obtain ⟨_, A2, n2, c2, A3, n3, c3, A5, n5, c5, -, -, hgq, r2, r3, -⟩ := HX2.out
        obtain ⟨hn2, -⟩ := Kd.R_reads' r2
        obtain ⟨hn3, -⟩ := Kd.R_reads' r3
        simp only at hn2 hn3
        subst hn2 hn3
        obtain ⟨⟨g0, g1, g2, g3, g4, g5⟩, f0, f1, f2, f3, f4, f5⟩ := hgq.cells6
        clear hgq r2 r3
        have wk : IntKind.i64.wrap ((ps.length : Int) + (out.length : Int)) = (ps.length : Int) + (out.length : Int) := by rw [i64_w]; unfold wrap64; have := HI.out.1; have := HFF.out; have := HPl.out; omega
        have HLi := Lib.hid (limit_at HX2.out.p ((ps.length : Int) + (out.length : Int)) 24)
        have HO2 := Lib.hid (okC.limit ((ps.length : Int) + (out.length : Int)) 24 HO1.out)
        have HLl : Hid ((s1.limit ((ps.length : Int) + (out.length : Int)) 24).toks.length = s1.toks.length) := Lib.hid (by rw [Rd.limit_toks])
        generalize s1.limit ((ps.length : Int) + (out.length : Int)) 24 = s2 at *
        go_wp2_with fail
        refine HLi.out.mono ?_
        rintro e V12 ⟨⟨v12, rfl⟩, hp, hg⟩
        clear g0 g1 g2 g3 g4 g5 f0 f1 f2 f3 f4 f5 wk
        have HX3 := Lib.hid (HX2.out.call hp hg HLG.out)
        clear hp hg HLi HX2
        obtain ⟨M, A2, n2, c2, A3, n3, c3, A5, n5, c5, hM, hM2, hgq, r2, r3, r5, hp, hr⟩ := HX3.out
        clear HX3
        have HG4 := Lib.hid hgq
        have HR4 := Lib.hid hr
        have HP4 := Lib.hid hp
        have H2 := Lib.hid r2
        have H3 := Lib.hid r3
        have H5 := Lib.hid r5
        have HMa := Lib.hid hM
        have HMb := Lib.hid hM2
        have HVl := Lib.hid (Kd.R_lt r3)
        obtain ⟨⟨g0, g1, g2, g3, g4, g5⟩, f0, f1, f2, f3, f4, f5⟩ := hgq.cells6
        clear g0 g1 g2 g4 g5 f0 f1 f2 f3 f4 f5 hgq r2 r3 r5 hp hr hM hM2
        have HPa := Lib.hid (param_at (HP4.out.bel (below_drew (Below.refl _ _))) HO2.out)
        have HO3 := Lib.hid (okC.param HO2.out)
        have HLp : Hid (s2.param.2.toks.length ≤ s2.toks.length) := Lib.hid ((lenC s2.toks.length).param (Nat.le_refl _))
        generalize s2.param = q at *
        obtain ⟨y, s3⟩ := q
        simp only at hb HPa HO3 HLp
        have HB := Lib.hid hb
        clear hb
        have HO4 := Lib.hid (okC.must [⟨#[59]⟩] HO3.out)
        have HLm : Hid ((Rd.must [⟨#[59]⟩] s3).toks.length ≤ s3.toks.length) := Lib.hid ((lenC s3.toks.length).must _ (Nat.le_refl _))
        go_wp2_with fail
        go_region_law (first
          | (go_simp; refine HPa.out.mono ?_; rintro e V5 ⟨rfl, hp5, hg5⟩; have hg5' := grown_trans (grown_below (below_drew (Below.refl V12.heap.size V12))) hg5; have HP5 := Lib.hid hp5; have HM5 := Lib.hid (k99_mkM V5 V12.heap.size (fun _ => True) y); have HR5 := Lib.hid (HR4.out.ps hg5' HRB.out); have HG5 := Lib.hid (HG4.out.ps hg5' HGB.out); have H25 := Lib.hid (FX.r2_grown H2.out hg5' (fun k h1 _ _ e => by cases e; have := HLt.out; omega)); have H35 := Lib.hid (RW.grown H3.out hg5' (by have := HLt.out; have := HMa.out; omega)); have H55 := Lib.hid (RW.grown H5.out hg5' HLt.out); have HSz5 : Hid (V12.heap.size ≤ V5.heap.size) := Lib.hid hg5'.size; have HMc : Hid (_ ≤ V5.heap.size) := Lib.hid (Nat.le_trans HMb.out HSz5.out); have q1 := HG5.out.cells6.1.2.2.2.1; have q2 := fun o => cell_al HG5.out.cells6.1.2.2.2.1 o; clear hp5 hg5 hg5')
          | (refine row_append_step k99 M V12.heap.size rfl (.tmp 46) (.tmp 49) 60 99 _ 32 rfl Tryz.underlying60 infoVar rfl (by decide) (by decide) _ out y _ rfl rfl HM5.out H35.out HVl.out HMb.out HMc.out (by have := HI.out.1; have := HFF.out; omega) ?_; intro v6 V6 hw6 hg6 hb6; obtain ⟨A6, n6, c6, rfl⟩ := RW.slice hw6; have HP6 := Lib.hid (HP5.out.app hg6 (fun q e => Nat.le_trans HMa.out (hb6 q e))); have HG6 := Lib.hid (HG5.out.grown hg6 (H35.out.far HG5.out (by decide))); have HR6 := Lib.hid (HR5.out.grown hg6 (H35.out.far HR5.out (by decide))); have H26 := Lib.hid (FX.r2_grown H25.out hg6 (fun k _ h2 _ e => by have := hb6 k e.symm; omega)); have H36 := Lib.hid hw6; have H56 := Lib.hid (RW.over' H55.out hg6 (fun k hk => by obtain ⟨cs, t, hb, ht⟩ := RW.typed H35.out k hk; exact ⟨cs, t, hb, fun q hq => by rw [ht]; exact EfBV q hq⟩)); have HMd : Hid (M ≤ V6.heap.size) := Lib.hid (Nat.le_trans HMc.out hg6.size); clear hw6 hg6 hb6; obtain ⟨⟨e0, e1, e2, e3, e4, e5⟩, d0, d1, d2, d3, d4, d5⟩ := HG6.out.cells6))
        all_goals
          have HXs : Hid (FX w0 W (V6.setCell ⟨G, 3, none⟩ (.slice A6 n6 c6)) B G ⟨a, nm, ps, out ++ [y], rs, []⟩ s3) := Lib.hid ⟨M, A2, n2, c2, A6, n6, c6, A5, n5, c5, HMa.out, by simpa using HMd.out, HG6.out.set 3 _, FX.r2_grown H26.out (grown_set V6 ⟨G, 3, none⟩ _) (fun k _ _ ht e => by
            cases e
            obtain ⟨cells, hc⟩ := ht
            rw [HG6.out.out] at hc
            cases hc), RW.set H36.out HG6.out EfV 3 _, RW.set H56.out HG6.out EfB 3 _, HP6.out.set (p := ⟨G, 3, none⟩) HLe.out _, HR6.out.far (p := ⟨G, 3, none⟩) HRG.out _⟩
          have HZ : Hid ((V6.setCell ⟨G, 3, none⟩ (.slice A6 n6 c6)).heap.size = V6.heap.size) := Lib.hid (by simp)
          have HM := Lib.hid (must_at' (n := V6.heap.size) HXs.out.p ⟨#[59]⟩ HZ.out)
          clear HP6 HR6 H26 H36 H56 HP5 HR5 H25 H35 H55
          go_wp2_with fail
          refine HM.out.mono ?_
          rintro e V13 ⟨⟨v13, rfl⟩, hp, hg⟩
          have HX4 := Lib.hid (HXs.out.call hp hg HLG.out)
          clear hp hg HM HXs HZ
          go_wp2_with fail
          go_roundg kk
          case measure => omega
          case rel => exact ⟨_, out ++ [y], ⟨by rw [List.length_append]; have := HI.out.1; simp; omega, HO4.out⟩, ⟨by have := HLm.out; have := HLp.out; have := HLl.out; have := HMl2.out; have := HLn.out; omega⟩, ⟨HB.out⟩, ⟨HX4.out⟩⟩
      | false =>
        rw [if_neg (by decide)] at hb
        have hf := HF.out
        rw [← hb] at hf
        simp only at hf
        clear HF hb HMl
        obtain ⟨bl, hbl⟩ : ∃ bl, bl = Rd.blocks F s1 [] := ⟨_, rfl⟩
        rw [← hbl] at hf
        have HF := Lib.hid hf
        have HBl := Lib.hid hbl
        clear hf hbl
        have HPs := Lib.hid (HI.out.1)
        go_wp2_with fail
        refine HM.out.mono ?_
        rintro e V11 ⟨rfl, hp, hg⟩
        have HX2 := Lib.hid (HX.out.call hp hg HLG.out)
        clear hp hg HM HX HI HLn
        have HO7 := Lib.hid HO1.out
        generalize hlo : out = ls at *
        clear hlo
        clear HO1
        go_wp2_with fail
        go_loopg [] F (fun kq w' => ∃ (s' : Rd) (out : List SBlock), Aside0 (out.length + kq = F ∧ s'.Ok) ∧ Aside0 (s'.bad ≠ -1 ∨ s'.toks.length < kq) ∧ Aside0 (Rd.blocks kq s' out = bl) ∧ Aside0 (FX w0 W w' B G ⟨a, nm, ps, ls, rs, out⟩ s'))
        case atStart => exact ⟨s1, [], ⟨by simp, HO7.out⟩, ⟨.inr (by have := HO7.out.len; have := HFF.out; omega)⟩, ⟨HBl.out.symm⟩, ⟨HX2.out⟩⟩
        case round =>
          clear HX2 HBl HO7
          obtain ⟨s', out, HI, HLn, HB, HX⟩ := hrel
          obtain ⟨A', c', ⟨d0, d1, d2, d3⟩, -⟩ := HX.out.p.cells
          clear d0 d1 d3
          obtain ⟨_, A2, n2, c2, A3, n3, c3, A5, n5, c5, -, -, hgq, -, -, r5, -⟩ := HX.out
          obtain ⟨hn5, -⟩ := Kd.R_reads' r5
          simp only at hn5
          subst hn5
          obtain ⟨⟨g0, g1, g2, g3, g4, g5⟩, f0, f1, f2, f3, f4, f5⟩ := hgq.cells6
          clear hgq r5
          have HSee := Lib.hid (see_at HX.out.p ⟨#[125]⟩)
          by_cases hbad : s'.bad = -1
          · have hb1 : (s'.bad == -1) = true := by rw [hbad]; rfl
            by_cases hgo : out = [] ∨ s'.sees [⟨#[125]⟩] = false
            · cases gk with
              | zero => exact absurd (HLn.out.resolve_left (fun hn => hn hbad)) (by omega)
              | succ kk =>
                have HL0 : Hid (s'.toks.length ≤ kk) := Lib.hid (by have := HLn.out.resolve_left (fun hn => hn hbad); omega)
                have hf := HB.out
                unfold Rd.blocks at hf
                rw [if_pos ⟨hbad, hgo⟩] at hf
                have HF2 := Lib.hid hf
                have HGo := Lib.hid hgo
                have HLi : Hid (∀ V, PS w0 W V B s' → Calls Tryz.prog 53 #[.pointer (some ⟨B, 0, none⟩), .int .i64 (out.length : Int), .int .i64 64] V fun e W' => (∃ v, e = .returned v) ∧ PS w0 W W' B (s'.limit out.length 64) ∧ V.grownBy W' (some B)) := Lib.hid (fun V hV => limit_at hV out.length 64)
                have HO2 := Lib.hid (okC.limit out.length 64 HI.out.2)
                have HPr : Hid ((s'.limit out.length 64).block.2.bad ≠ -1 ∨ (s'.limit out.length 64).block.2.toks.length < kk) := Lib.hid (Rd.block_prog HO2.out (by rw [Rd.limit_toks]; exact HL0.out))
                clear hf HB hgo hbad
                generalize s'.limit out.length 64 = s2 at *
                by_cases hlen : out = []
                · have hl1 : ((out.length : Int) == 0) = true := by rw [hlen]; rfl
                  have hl2 : ((out.length : Int) = 0) = True := eq_true (by rw [hlen]; rfl)
                  have hl3 : (out.length = 0) = True := eq_true (by rw [hlen]; rfl)
                  have hl4 : (out = []) = True := eq_true hlen
                  have HX5 := Lib.hid HX.out
                  clear hlen HSee HX
                  go_wp2_with fail
                  refine (HLi.out _ HX5.out.p).mono ?_
                  rintro e V14 ⟨⟨v14, rfl⟩, hp, hg⟩
                  have HX6 := Lib.hid (HX5.out.call hp hg HLG.out)
                  clear hp hg HLi HX5
                  (try clear g0 g1 g2 g3 g4 g5 f0 f1 f2 f3 f4 f5)
                  obtain ⟨M, A2, n2, c2, A3, n3, c3, A5, n5, c5, hM, hM2, hgq, r2, r3, r5, hp, hr⟩ := HX6.out
                  clear HX6
                  have HG4 := Lib.hid hgq
                  have HR4 := Lib.hid hr
                  have HP4 := Lib.hid hp
                  have H2 := Lib.hid r2
                  have H3 := Lib.hid r3
                  have H5 := Lib.hid r5
                  have HMa := Lib.hid hM
                  have HMb := Lib.hid hM2
                  have HVl := Lib.hid (Kd.R_lt r5)
                  obtain ⟨⟨g0, g1, g2, g3, g4, g5⟩, f0, f1, f2, f3, f4, f5⟩ := hgq.cells6
                  clear g0 g1 g2 g3 g4 f0 f1 f2 f3 f4 f5 hgq r2 r3 r5 hp hr hM hM2
                  have HPa := Lib.hid (block_at (HP4.out.bel (below_drew (Below.refl _ _))) HO2.out)
                  have HO3 := Lib.hid (okC.block HO2.out)
                  generalize s2.block = q at *
                  obtain ⟨y, s3⟩ := q
                  simp only at HF2 HPa HO3 HPr
                  go_wp2_with fail
                  go_region_law (first
                    | (go_simp; refine HPa.out.mono ?_; rintro e V5 ⟨B1, m1, k1, B3, m3, k3, B5, m5, k5, B6, m6, k6, B7, m7, k7, rfl, hm5, hp5, hg5⟩; have hg5' := grown_trans (grown_below (below_drew (Below.refl V14.heap.size V14))) hg5; have HP5 := Lib.hid hp5; have HM5 := Lib.hid hm5; have HR5 := Lib.hid (HR4.out.ps hg5' HRB.out); have HG5 := Lib.hid (HG4.out.ps hg5' HGB.out); have H25 := Lib.hid (FX.r2_grown H2.out hg5' (fun k h1 _ _ e => by cases e; have := HLt.out; omega)); have H35 := Lib.hid (RW.grown H3.out hg5' (by have := HLt.out; have := HMa.out; omega)); have H55 := Lib.hid (RW.grown H5.out hg5' HLt.out); have HSz5 : Hid (W.heap.size ≤ V5.heap.size) := Lib.hid hp5.size; have HSw5 : Hid (W.heap.size ≤ V14.heap.size) := Lib.hid HP4.out.size; have HMc : Hid (M ≤ V5.heap.size) := Lib.hid (Nat.le_trans HMb.out hg5'.size); have q1 := HG5.out.cells6.1.2.2.2.2.2; have q2 := fun o => cell_al HG5.out.cells6.1.2.2.2.2.2 o; clear hp5 hg5 hg5' hm5)
                    | (refine row_append_step k59 W.heap.size V14.heap.size rfl (.tmp 78) (.tmp 81) 61 59 _ 192 rfl Tryz.underlying61 infoBlock rfl (by decide) (by decide) _ out y _ rfl rfl HM5.out H55.out HVl.out HSw5.out HSz5.out (by have := HI.out.1; have := HFF.out; omega) ?_; intro v6 V6 hw6 hg6 hb6; obtain ⟨A6, n6, c6, rfl⟩ := RW.slice hw6; have HP6 := Lib.hid (HP5.out.app hg6 hb6); have HG6 := Lib.hid (HG5.out.grown hg6 (H55.out.far HG5.out (by decide))); have HR6 := Lib.hid (HR5.out.grown hg6 (H55.out.far HR5.out (by decide))); have H26 := Lib.hid (FX.r2_grown H25.out hg6 (fun k _ _ ht e => by obtain ⟨cells, hc⟩ := ht; obtain ⟨cs, t, hb, hte⟩ := RW.typed H55.out k e.symm; rw [hb.out] at hc; cases hc; exact absurd hte (by decide))); have H56 := Lib.hid hw6; have H36 := Lib.hid (RW.over' H35.out hg6 (fun k hk => by obtain ⟨cs, t, hb, ht⟩ := RW.typed H55.out k hk; exact ⟨cs, t, hb, fun q hq => by rw [ht]; exact EfVB q hq⟩)); have HMd : Hid (M ≤ V6.heap.size) := Lib.hid (Nat.le_trans HMc.out hg6.size); clear hw6 hg6 hb6; obtain ⟨⟨e0, e1, e2, e3, e4, e5⟩, d0, d1, d2, d3, d4, d5⟩ := HG6.out.cells6))
                  all_goals
                    have HXs : Hid (FX w0 W (V6.setCell ⟨G, 5, none⟩ (.slice A6 n6 c6)) B G ⟨a, nm, ps, ls, rs, out ++ [y]⟩ s3) := Lib.hid ⟨M, A2, n2, c2, A3, n3, c3, A6, n6, c6, HMa.out, by simpa using HMd.out, HG6.out.set 5 _, FX.r2_grown H26.out (grown_set V6 ⟨G, 5, none⟩ _) (fun k _ _ ht e => by
                      cases e
                      obtain ⟨cells, hc⟩ := ht
                      rw [HG6.out.out] at hc
                      cases hc), RW.set H36.out HG6.out EfV 5 _, RW.set H56.out HG6.out EfB 5 _, HP6.out.set (p := ⟨G, 5, none⟩) HLe.out _, HR6.out.far (p := ⟨G, 5, none⟩) HRG.out _⟩
                    clear HP6 HR6 H26 H36 H56 HP5 HR5 H25 H35 H55
                    go_wp2_with fail
                    go_roundg kk
                    case measure => omega
                    case rel => exact ⟨s3, out ++ [y], ⟨by rw [List.length_append]; have := HI.out.1; simp; omega, HO3.out⟩, ⟨HPr.out⟩, ⟨HF2.out⟩, ⟨HXs.out⟩⟩
                · have hl0 : out.length ≠ 0 := fun e => hlen (List.length_eq_zero_iff.1 e)
                  have hl1 : ((out.length : Int) == 0) = false := by rw [beq_eq_false_iff_ne]; omega
                  have hl2 : ((out.length : Int) = 0) = False := eq_false (by omega)
                  have hl3 : (out.length = 0) = False := eq_false hl0
                  have hl4 : (out = []) = False := eq_false hlen
                  have hse : s'.sees [⟨#[125]⟩] = false := HGo.out.resolve_left hlen
                  rw [hse] at HSee
                  clear hlen hse hl0
                  go_wp2_with fail
                  refine HSee.out.mono ?_
                  rintro e V11b ⟨rfl, hp, hg⟩
                  have HX5 := Lib.hid (HX.out.call hp hg HLG.out)
                  clear hp hg HSee HX g0 g1 g2 g3 g4 g5 f0 f1 f2 f3 f4 f5
                  obtain ⟨_, A2', n2', c2', A3', n3', c3', A5', n5', c5', -, -, hgq, -, -, r5, -⟩ := HX5.out
                  obtain ⟨hn5, -⟩ := Kd.R_reads' r5
                  simp only at hn5
                  subst hn5
                  obtain ⟨⟨g0, g1, g2, g3, g4, g5⟩, f0, f1, f2, f3, f4, f5⟩ := hgq.cells6
                  clear hgq r5
                  go_wp2_with fail
                  refine (HLi.out _ HX5.out.p).mono ?_
                  rintro e V14 ⟨⟨v14, rfl⟩, hp, hg⟩
                  have HX6 := Lib.hid (HX5.out.call hp hg HLG.out)
                  clear hp hg HLi HX5
                  (try clear g0 g1 g2 g3 g4 g5 f0 f1 f2 f3 f4 f5)
                  obtain ⟨M, A2, n2, c2, A3, n3, c3, A5, n5, c5, hM, hM2, hgq, r2, r3, r5, hp, hr⟩ := HX6.out
                  clear HX6
                  have HG4 := Lib.hid hgq
                  have HR4 := Lib.hid hr
                  have HP4 := Lib.hid hp
                  have H2 := Lib.hid r2
                  have H3 := Lib.hid r3
                  have H5 := Lib.hid r5
                  have HMa := Lib.hid hM
                  have HMb := Lib.hid hM2
                  have HVl := Lib.hid (Kd.R_lt r5)
                  obtain ⟨⟨g0, g1, g2, g3, g4, g5⟩, f0, f1, f2, f3, f4, f5⟩ := hgq.cells6
                  clear g0 g1 g2 g3 g4 f0 f1 f2 f3 f4 f5 hgq r2 r3 r5 hp hr hM hM2
                  have HPa := Lib.hid (block_at (HP4.out.bel (below_drew (Below.refl _ _))) HO2.out)
                  have HO3 := Lib.hid (okC.block HO2.out)
                  generalize s2.block = q at *
                  obtain ⟨y, s3⟩ := q
                  simp only at HF2 HPa HO3 HPr
                  go_wp2_with fail
                  go_region_law (first
                    | (go_simp; refine HPa.out.mono ?_; rintro e V5 ⟨B1, m1, k1, B3, m3, k3, B5, m5, k5, B6, m6, k6, B7, m7, k7, rfl, hm5, hp5, hg5⟩; have hg5' := grown_trans (grown_below (below_drew (Below.refl V14.heap.size V14))) hg5; have HP5 := Lib.hid hp5; have HM5 := Lib.hid hm5; have HR5 := Lib.hid (HR4.out.ps hg5' HRB.out); have HG5 := Lib.hid (HG4.out.ps hg5' HGB.out); have H25 := Lib.hid (FX.r2_grown H2.out hg5' (fun k h1 _ _ e => by cases e; have := HLt.out; omega)); have H35 := Lib.hid (RW.grown H3.out hg5' (by have := HLt.out; have := HMa.out; omega)); have H55 := Lib.hid (RW.grown H5.out hg5' HLt.out); have HSz5 : Hid (W.heap.size ≤ V5.heap.size) := Lib.hid hp5.size; have HSw5 : Hid (W.heap.size ≤ V14.heap.size) := Lib.hid HP4.out.size; have HMc : Hid (M ≤ V5.heap.size) := Lib.hid (Nat.le_trans HMb.out hg5'.size); have q1 := HG5.out.cells6.1.2.2.2.2.2; have q2 := fun o => cell_al HG5.out.cells6.1.2.2.2.2.2 o; clear hp5 hg5 hg5' hm5)
                    | (refine row_append_step k59 W.heap.size V14.heap.size rfl (.tmp 78) (.tmp 81) 61 59 _ 192 rfl Tryz.underlying61 infoBlock rfl (by decide) (by decide) _ out y _ rfl rfl HM5.out H55.out HVl.out HSw5.out HSz5.out (by have := HI.out.1; have := HFF.out; omega) ?_; intro v6 V6 hw6 hg6 hb6; obtain ⟨A6, n6, c6, rfl⟩ := RW.slice hw6; have HP6 := Lib.hid (HP5.out.app hg6 hb6); have HG6 := Lib.hid (HG5.out.grown hg6 (H55.out.far HG5.out (by decide))); have HR6 := Lib.hid (HR5.out.grown hg6 (H55.out.far HR5.out (by decide))); have H26 := Lib.hid (FX.r2_grown H25.out hg6 (fun k _ _ ht e => by obtain ⟨cells, hc⟩ := ht; obtain ⟨cs, t, hb, hte⟩ := RW.typed H55.out k e.symm; rw [hb.out] at hc; cases hc; exact absurd hte (by decide))); have H56 := Lib.hid hw6; have H36 := Lib.hid (RW.over' H35.out hg6 (fun k hk => by obtain ⟨cs, t, hb, ht⟩ := RW.typed H55.out k hk; exact ⟨cs, t, hb, fun q hq => by rw [ht]; exact EfVB q hq⟩)); have HMd : Hid (M ≤ V6.heap.size) := Lib.hid (Nat.le_trans HMc.out hg6.size); clear hw6 hg6 hb6; obtain ⟨⟨e0, e1, e2, e3, e4, e5⟩, d0, d1, d2, d3, d4, d5⟩ := HG6.out.cells6))
                  all_goals
                    have HXs : Hid (FX w0 W (V6.setCell ⟨G, 5, none⟩ (.slice A6 n6 c6)) B G ⟨a, nm, ps, ls, rs, out ++ [y]⟩ s3) := Lib.hid ⟨M, A2, n2, c2, A3, n3, c3, A6, n6, c6, HMa.out, by simpa using HMd.out, HG6.out.set 5 _, FX.r2_grown H26.out (grown_set V6 ⟨G, 5, none⟩ _) (fun k _ _ ht e => by
                      cases e
                      obtain ⟨cells, hc⟩ := ht
                      rw [HG6.out.out] at hc
                      cases hc), RW.set H36.out HG6.out EfV 5 _, RW.set H56.out HG6.out EfB 5 _, HP6.out.set (p := ⟨G, 5, none⟩) HLe.out _, HR6.out.far (p := ⟨G, 5, none⟩) HRG.out _⟩
                    clear HP6 HR6 H26 H36 H56 HP5 HR5 H25 H35 H55
                    go_wp2_with fail
                    go_roundg kk
                    case measure => omega
                    case rel => exact ⟨s3, out ++ [y], ⟨by rw [List.length_append]; have := HI.out.1; simp; omega, HO3.out⟩, ⟨HPr.out⟩, ⟨HF2.out⟩, ⟨HXs.out⟩⟩
            · have hst := Rd.blocks_out gk s' out (fun e => hgo e.2)
              have hl : out ≠ [] := fun e => hgo (.inl e)
              have hl0 : out.length ≠ 0 := fun e => hl (List.length_eq_zero_iff.1 e)
              have hl1 : ((out.length : Int) == 0) = false := by rw [beq_eq_false_iff_ne]; omega
              have hl2 : ((out.length : Int) = 0) = False := eq_false (by omega)
              have hl3 : (out.length = 0) = False := eq_false hl0
              have hl4 : (out = []) = False := eq_false hl
              have hse : s'.sees [⟨#[125]⟩] = true := by
                cases hs : s'.sees [⟨#[125]⟩] with
                | true => rfl
                | false => exact absurd (.inr hs) hgo
              rw [hse] at HSee
              clear hse hl hl0 hgo hbad HI HLn
              go_wp2_with fail
              refine HSee.out.mono ?_
              rintro e V11b ⟨rfl, hpv, hgv⟩
              clear g0 g1 g2 g3 g4 g5 f0 f1 f2 f3 f4 f5
              have HX3 := Lib.hid (HX.out.call hpv hgv HLG.out)
              have HM := Lib.hid (must_at HX3.out.p ⟨#[125]⟩)
              obtain ⟨s5, hs5⟩ : ∃ s5, s5 = Rd.must [⟨#[125]⟩] s' := ⟨_, rfl⟩
              rw [← hs5] at HM
              have hf := HF.out
              rw [← HB.out, hst] at hf
              simp only at hf
              rw [← hs5] at hf
              have HF' := Lib.hid hf
              clear hf hs5 HF HB hst
              go_wp2_with fail
              refine HM.out.mono ?_
              rintro e V13 ⟨⟨v13, rfl⟩, hp, hg⟩
              have HX4 := Lib.hid (HX3.out.call hp hg HLG.out)
              clear hp hg HM HX3
              obtain ⟨M, A2, n2, c2, A3, n3, c3, A5, n5, c5, hM, hM2, hgq, r2, r3, r5, hp, hr⟩ := HX4.out
              clear HX4
              have HR5 := Lib.hid hr
              have HP5 := Lib.hid hp
              have H2 := Lib.hid (Kd.R_mono (ok' := fun _ => True) r2 (fun _ _ => trivial))
              have H3 := Lib.hid (Kd.R_lower r3 hM)
              have H5 := Lib.hid r5
              obtain ⟨⟨g0, g1, g2, g3, g4, g5⟩, f0, f1, f2, f3, f4, f5⟩ := hgq.cells6
              obtain ⟨⟨e0, e1, e2, e3, e4, e5⟩, d0, d1, d2, d3, d4, d5⟩ := hr.cells6
              clear hgq hM hM2 r2 r3 r5 hp hr
              go_wp2_with fail
              refine post_at (fun U => Blk U W.heap.size #[.int .i64 a, .string nm, .slice A2 n2 c2, .slice A3 n3 c3, .string rs, .slice A5 n5 c5] 63 ∧ RW k99 99 U W.heap.size (.slice A2 n2 c2) ps ∧ RW k99 99 U W.heap.size (.slice A3 n3 c3) ls ∧ RW k59 59 U W.heap.size (.slice A5 n5 c5) out ∧ PS w0 W U B s5) ⟨?_, ?_, ?_, ?_, ?_⟩ ?_
              · exact HR5.out.all6 _ _ _ _ _ _
              · exact RW.over H2.out HR5.out EfV (sets6 _ _ _ _ _ _ _ _)
              · exact RW.over H3.out HR5.out EfV (sets6 _ _ _ _ _ _ _ _)
              · exact RW.over H5.out HR5.out EfB (sets6 _ _ _ _ _ _ _ _)
              · exact HP5.out.own (sets6 _ _ _ _ _ _ _ _) (Nat.le_refl _)
              · rintro U ⟨hbx, hw2, hw3, hw5, hps⟩
                obtain ⟨⟨z0, z1, z2, z3, z4, z5⟩, -⟩ := hbx.cells6
                exact bodyPost_ret (v := .agg #[.int .i64 a, .string nm, .slice A2 n2 c2, .slice A3 n3 c3, .string rs, .slice A5 n5 c5]) (by simp [results, Tryz.results56, go_sem, z0, z1, z2, z3, z4, z5]) rfl ⟨A2, n2, c2, A3, n3, c3, A5, n5, c5, by rw [HF'.out], by rw [HF'.out]; exact hw2, by rw [HF'.out]; exact hw3, by rw [HF'.out]; exact hw5, by rw [HF'.out]; exact hps⟩
          · have hb1 : (s'.bad == -1) = false := by rw [beq_eq_false_iff_ne]; exact hbad
            have hst := Rd.blocks_out gk s' out (fun e => hbad e.1)
            clear hbad HSee HI HLn g0 g1 g2 g3 g4 g5 f0 f1 f2 f3 f4 f5
            have HX3 := Lib.hid (HX.out)
            have HM := Lib.hid (must_at HX3.out.p ⟨#[125]⟩)
            obtain ⟨s5, hs5⟩ : ∃ s5, s5 = Rd.must [⟨#[125]⟩] s' := ⟨_, rfl⟩
            rw [← hs5] at HM
            have hf := HF.out
            rw [← HB.out, hst] at hf
            simp only at hf
            rw [← hs5] at hf
            have HF' := Lib.hid hf
            clear hf hs5 HF HB hst
            go_wp2_with fail
            refine HM.out.mono ?_
            rintro e V13 ⟨⟨v13, rfl⟩, hp, hg⟩
            have HX4 := Lib.hid (HX3.out.call hp hg HLG.out)
            clear hp hg HM HX3
            obtain ⟨M, A2, n2, c2, A3, n3, c3, A5, n5, c5, hM, hM2, hgq, r2, r3, r5, hp, hr⟩ := HX4.out
            clear HX4
            have HR5 := Lib.hid hr
            have HP5 := Lib.hid hp
            have H2 := Lib.hid (Kd.R_mono (ok' := fun _ => True) r2 (fun _ _ => trivial))
            have H3 := Lib.hid (Kd.R_lower r3 hM)
            have H5 := Lib.hid r5
            obtain ⟨⟨g0, g1, g2, g3, g4, g5⟩, f0, f1, f2, f3, f4, f5⟩ := hgq.cells6
            obtain ⟨⟨e0, e1, e2, e3, e4, e5⟩, d0, d1, d2, d3, d4, d5⟩ := hr.cells6
            clear hgq hM hM2 r2 r3 r5 hp hr
            go_wp2_with fail
            refine post_at (fun U => Blk U W.heap.size #[.int .i64 a, .string nm, .slice A2 n2 c2, .slice A3 n3 c3, .string rs, .slice A5 n5 c5] 63 ∧ RW k99 99 U W.heap.size (.slice A2 n2 c2) ps ∧ RW k99 99 U W.heap.size (.slice A3 n3 c3) ls ∧ RW k59 59 U W.heap.size (.slice A5 n5 c5) out ∧ PS w0 W U B s5) ⟨?_, ?_, ?_, ?_, ?_⟩ ?_
            · exact HR5.out.all6 _ _ _ _ _ _
            · exact RW.over H2.out HR5.out EfV (sets6 _ _ _ _ _ _ _ _)
            · exact RW.over H3.out HR5.out EfV (sets6 _ _ _ _ _ _ _ _)
            · exact RW.over H5.out HR5.out EfB (sets6 _ _ _ _ _ _ _ _)
            · exact HP5.out.own (sets6 _ _ _ _ _ _ _ _) (Nat.le_refl _)
            · rintro U ⟨hbx, hw2, hw3, hw5, hps⟩
              obtain ⟨⟨z0, z1, z2, z3, z4, z5⟩, -⟩ := hbx.cells6
              exact bodyPost_ret (v := .agg #[.int .i64 a, .string nm, .slice A2 n2 c2, .slice A3 n3 c3, .string rs, .slice A5 n5 c5]) (by simp [results, Tryz.results56, go_sem, z0, z1, z2, z3, z4, z5]) rfl ⟨A2, n2, c2, A3, n3, c3, A5, n5, c5, by rw [HF'.out], by rw [HF'.out]; exact hw2, by rw [HF'.out]; exact hw3, by rw [HF'.out]; exact hw5, by rw [HF'.out]; exact hps⟩
theorem function_at {w0 W0 W : World} {B : Nat} {s : Rd} (h : PS w0 W0 W B s) (hok : s.Ok) :
    Calls Tryz.prog 56 #[.pointer (some ⟨B, 0, none⟩)] W fun e W' => ∃ A2 n2 c2 A3 n3 c3 A5 n5 c5, e = .returned (.agg #[.int .i64 s.function.1.f0, .string s.function.1.f1, .slice A2 n2 c2, .slice A3 n3 c3, .string s.function.1.f4, .slice A5 n5 c5]) ∧ MW k63 W' W.heap.size s.function.1 [.int .i64 s.function.1.f0, .string s.function.1.f1, .slice A2 n2 c2, .slice A3 n3 c3, .string s.function.1.f4, .slice A5 n5 c5] ∧ PS w0 W0 W' B s.function.2 ∧ W.grownBy W' (some B) := by
  refine (function_calls w0 W B s h.r hok).mono ?_
  rintro e W' ⟨A2, n2, c2, A3, n3, c3, A5, n5, c5, he, h2, h3, h5, hp⟩
  exact ⟨A2, n2, c2, A3, n3, c3, A5, n5, c5, he, k63_mkM W' _ _ _ h2 h3 h5, h.on hp, hp.g⟩
end Go.Proofs.YtmgkejobolgkmaaGreatDoor.PL
