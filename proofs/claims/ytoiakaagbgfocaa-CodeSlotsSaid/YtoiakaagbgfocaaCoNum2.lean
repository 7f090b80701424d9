/- Package code: numbers: its iterator's contract. -/
import Derived.Test.YtoiakaagbgfocaaCoNum
import Derived.Test.YtoiakaagbgfocaaCoImg
namespace Go.Proofs.Ytoiakaagbgfocaa.PC
open Go.RowKit Go.Proofs.YtoiakaagbgfocaaW.PrintWords Go.Proofs.YtoiakaagbgfocaaW.PrintLast Go.Proofs.YtoiakaagbgfocaaW.PrintMore
open Go.Proofs.Ytoiakaagbgfocaa.RG
set_option linter.unusedVariables false
set_option linter.unusedSimpArgs false
attribute [local go_sem] Oper.semAt_some

def partN (p : S73) : List Int := [p.f0, p.f1]
def glueN (g : S48) : List Int := [g.f0, g.f1, g.f2, (g.f3.length : Int)] ++ g.f3.flatMap partN
def instN (x : S42) : List Int := [x.f0, x.f1, x.f2, x.f3]
def padN (x : S66) : List Int := [x.f0, x.f1, x.f2]
def codeN (c : S40) : List Int := [c.f0, c.f1, c.f2, (c.f3.length : Int)] ++ (c.f3.flatMap instN ++ ([(c.f4.length : Int)] ++ c.f4.flatMap padN))
def codesN (cs : List S40) : List Int := [(cs.length : Int)] ++ cs.flatMap codeN
/-- an image's numbers, in order -/
def imgN (gs : List S48) (cs : List S40) (m : Int) : List Int := [m, (gs.length : Int)] ++ (gs.flatMap glueN ++ codesN cs)

section
variable {l n₀ : Nat} {L : List Int} {J Jx : List Int → World → Prop}
/-- what yield does, at each number of L in turn -/
def YldL (l n₀ : Nat) (L : List Int) (J Jx : List Int → World → Prop) : Prop :=
  ∀ (pre : List Int) (x : Int) (W : World), n₀ ≤ W.heap.size → J pre W → L[pre.length]? = some x → YieldAt Fence.wide 0 Try.prog l #[.int .i64 x] W fun e W' =>
    (e = .returned (.bool true) ∧ J (pre ++ [x]) W' ∧ Kp tsB n₀ W W') ∨ (e = .returned (.bool false) ∧ Jx (pre ++ [x]) W')
theorem YldL.row (h : YldL l n₀ L J Jx) {pre xs rest : List Int} (hL : pre ++ (xs ++ rest) = L) : YldN l xs n₀ (fun k W => J (pre ++ xs.take k) W) (fun W => ∃ p, Jx p W) := by
  intro k W hk hn hj
  have hx : rd xs (k : Int) = xs[k] := by simp [rd, List.getD, hk]
  have h1 : L[(pre ++ xs.take k).length]? = some (rd xs (k : Int)) := by
    rw [← hL, hx, List.length_append, List.length_take, Nat.min_eq_left (Nat.le_of_lt hk), List.getElem?_append_right (by omega), Nat.add_sub_cancel_left, List.getElem?_append_left hk]
    exact List.getElem?_eq_getElem hk
  refine (h _ _ W hn hj h1).mono fun e W' hr => ?_
  rcases hr with ⟨he, hj', hk'⟩ | ⟨he, hj'⟩
  · refine .inl ⟨he, ?_, hk'⟩
    show J (pre ++ xs.take (k + 1)) W'
    rw [List.take_succ_eq_append_getElem hk, ← List.append_assoc, ← hx]
    exact hj'
  · exact .inr ⟨he, _, hj'⟩
end
theorem C4_of {W : World} {g t : Nat} {a b c d : Int} (h : Blk W g #[.int .i64 a, .int .i64 b, .int .i64 c, .int .i64 d] t) : Kd.C (Kd.int .i64) W (some ⟨g, 0, none⟩) 4 [a, b, c, d] :=
  C_of (l := [a, b, c, d]) h (by simp) (fun i x hx => by
    match i, hx with
    | 0, hx => simp at hx; simp [hx]
    | 1, hx => simp at hx; simp [hx]
    | 2, hx => simp at hx; simp [hx]
    | 3, hx => simp at hx; simp [hx]
    | i + 4, hx => simp at hx)
theorem cell_bl {w W : World} {a : Addr} {v : Value} (hb : Below w.heap.size w W) (h : w.cell? a = some v) : W.cell? a = some v := (Below.cell hb (World.block_lt_of_cell? w _ h)).trans h
/-- where the iterator is: the image's box, yield's box, and what was kept -/
structure NS (m : Im) (l M Y : Nat) (w W : World) : Prop where mk ::
  (kp : Kp tsB w.heap.size w W) (bm : Blk W M m.cells 25) (by_ : Blk W Y #[.func (.yield l) #[] #[]] 67)
namespace NS
variable {m : Im} {l M Y : Nat} {w W W' : World}
theorem alloc (h : NS m l M Y w W) (o : Obj) : NS m l M Y w (W.alloc o) := ⟨h.kp.alloc (Nat.le_refl _) o, h.bm.alloc o, h.by_.alloc o⟩
theorem go (h : NS m l M Y w W) (hk : Kp tsB w.heap.size W W') : NS m l M Y w W' := ⟨h.kp.trans hk, h.bm.kp hk rfl, h.by_.kp hk rfl⟩
end NS
set_option maxHeartbeats 16000000 in
set_option maxRecDepth 100000 in
theorem numbers1_in (n l M : Nat) (m : Im) (J Jx : List Int → World → Prop) (w0 W : World) (hkp : Kp tsB w0.heap.size w0 W) (hIn : m.In w0) (hgl : m.g.length ≤ 1000000) (hcl : m.cs.length ≤ 1000000) (hsl : ∀ g ∈ m.g, g.f3.length ≤ 1000000) (hil : ∀ c ∈ m.cs, c.f3.length ≤ 1000000 ∧ c.f4.length ≤ 1000000)
    (hJa : ∀ s A o, J s A → J s (A.alloc o)) (hY : YldL l w0.heap.size (imgN m.g m.cs m.m) J Jx) (hM : Blk W M m.cells 25) (hJ : J [] W) :
    CallsIn Fence.wide n Try.prog 31 #[.func (.yield l) #[] #[], .pointer (some ⟨M, 0, none⟩)] W fun e W' => (∃ v, e = .returned v) ∧ ((∃ ys, ys = imgN m.g m.cs m.m ∧ J ys W') ∨ (∃ pre, Jx pre W')) := by
  refine callsIn_of_wp Try.func31 rfl trivial ?_ rfl
  simp only [Try.ntmps31, List.size_toArray, List.length_cons, List.length_nil, Nat.reduceAdd, Nat.reduceSub, Array.replicate_succ, Array.replicate_zero, List.push_toArray, List.append_toArray, List.nil_append, List.cons_append]
  have HIn := Lib.hid hIn
  have HGL := Lib.hid hgl
  have HCL := Lib.hid hcl
  have HSL := Lib.hid hsl
  have HIL := Lib.hid hil
  have HJa := Lib.hid hJa
  have HY := Lib.hid hY
  have HJ := Lib.hid (hJa _ _ (.cells #[.func (.yield l) #[] #[]] 67) hJ)
  have HS : NS m l M W.heap.size w0 (W.alloc (.cells #[.func (.yield l) #[] #[]] 67)) := ⟨hkp.alloc (Nat.le_refl _) _, hM.alloc _, Blk.new _ _ _⟩
  have d0 := fun o => cell_al hM.cells3.1.1 o
  have d1 := fun o => cell_al hM.cells3.1.2.1 o
  have d2 := fun o => cell_al hM.cells3.1.2.2 o
  clear hkp hIn hgl hcl hsl hil hJa hY hJ hM
  obtain ⟨A0, c0, gs, A1, c1, cs, mm⟩ := m
  simp only at HGL HCL HSL HIL HY
  have HI0 : Hid (Kd.C k48 w0 A0 gs.length gs) := Lib.hid HIn.out.h0
  have HI1 : Hid (Kd.C k40 w0 A1 cs.length cs) := Lib.hid HIn.out.h1
  clear HIn
  gi_wp2_with fail
  refine call_in ?_
  refine at_world (fun V => NS ⟨A0, c0, gs, A1, c1, cs, mm⟩ l M W.heap.size w0 V ∧ Blk V (W.heap.size + 1) #[.int .i64 mm, .int .i64 (gs.length : Int)] 3 ∧ Aside0 (J [] V)) ⟨HS.alloc _, Blk.new' (by simp) _ _, ⟨HJa.out _ _ _ HJ.out⟩⟩ ?_
  clear HS HJ d0 d1 d2
  rintro V0 ⟨HS, HL, HJ⟩
  refine (allN_calls l W.heap.size (W.heap.size + 1) _ 2 [mm, (gs.length : Int)] (by simp) _ _ _ _ (HY.out.row (pre := []) (xs := [mm, (gs.length : Int)]) (rest := gs.flatMap glueN ++ codesN cs) rfl) (fun W' h => C2_of h) V0 HS.kp.size HS.by_ HL (by simpa using HJ.out)).mono ?_
  generalize W.heap.size = Y at *
  rintro e V1 (⟨rfl, hj, hk⟩ | ⟨rfl, hj⟩)
  · replace HS := HS.go hk
    replace HJ := Aside0.mk hj
    clear hj hk HL V0
    obtain ⟨⟨d0, d1, d2⟩, -⟩ := HS.bm.cells3
    gi_wp2_with fail
    clear d0 d1 d2
    gi_loopw [27] (fun v27 V => ∃ (x : Nat) (pre : List Int), v27 = .int .i64 (x : Int) ∧ Aside0 (x ≤ gs.length) ∧ Aside0 (pre ++ ((gs.drop x).flatMap glueN ++ codesN cs) = imgN gs cs mm) ∧ NS ⟨A0, c0, gs, A1, c1, cs, mm⟩ l M Y w0 V ∧ Aside0 (J pre V)) (fun v27 _ => gs.length - (intOf v27).toNat)
    case atStart => exact ⟨0, _, rfl, ⟨Nat.zero_le _⟩, ⟨rfl⟩, HS, HJ⟩
    case round =>
      clear HS HJ
      obtain ⟨x, pre, rfl, HX, HP, HS, HJ⟩ := hrel
      obtain ⟨⟨d0, d1, d2⟩, -⟩ := HS.bm.cells3
      by_cases hxl : x < gs.length
      · have cx : decide (x < gs.length) = true := decide_eq_true hxl
        have cx' : decide ((x : Int) < (gs.length : Int)) = true := decide_eq_true (by omega)
        have wx : IntKind.i64.wrap ((x : Int) + 1) = ((x + 1 : Nat) : Int) := by rw [i64_w]; unfold wrap64; have := HGL.out; omega
        have p1 := eq_true hxl
        have p2 : (0 ≤ (x : Int)) = True := eq_true (by omega)
        have p3 : ((x : Int) < (gs.length : Int)) = True := eq_true (by omega)
        obtain ⟨ad, A3, c3, ea, hx0, hx1, hx2, hx3, hb3, hc3⟩ := at_T48 HI0.out (x : Int) (by omega) (by omega)
        simp only [Int.toNat_natCast] at hx0 hx1 hx2 hx3
        have y0 := cell_bl HS.kp.below hx0
        have y1 := cell_bl HS.kp.below hx1
        have y2 := cell_bl HS.kp.below hx2
        have y3 := cell_bl HS.kp.below hx3
        have hd : gs.drop x = rd_T48 gs (x : Int) :: gs.drop (x + 1) := by
          rw [List.drop_eq_getElem_cons hxl]
          simp [rd_T48, List.getD, hxl]
        have hsl : (rd_T48 gs (x : Int)).f3.length ≤ 1000000 := HSL.out _ (by simp [rd_T48, List.getD, hxl])
        rw [hd, List.flatMap_cons] at HP
        generalize rd_T48 gs (x : Int) = q at *
        have HC3 := Lib.hid hc3
        have HSl := Lib.hid hsl
        have HXl := Lib.hid hxl
        have HEa := Lib.hid ea
        rw [ea] at d0 ⊢
        clear hx0 hx1 hx2 hx3 hb3 hc3 hd hsl hxl ea
        gi_wp2_with fail
        refine call_in ?_
        refine at_world (fun V => NS ⟨A0, c0, gs, A1, c1, cs, mm⟩ l M Y w0 V ∧ Blk V wr.heap.size #[.int .i64 q.f0, .int .i64 q.f1, .int .i64 q.f2, .slice A3 q.f3.length c3] 48 ∧ Blk V (wr.heap.size + 1) #[.int .i64 q.f0, .int .i64 q.f1, .int .i64 q.f2, .int .i64 (q.f3.length : Int)] 3 ∧ Aside0 (J pre V)) ⟨(HS.alloc _).alloc _, (Blk.new _ _ _).alloc _, Blk.new' (by simp) _ _, ⟨HJa.out _ _ _ (HJa.out _ _ _ HJ.out)⟩⟩ ?_
        clear HS HJ d0 d1 d2 y0 y1 y2 y3 p1 p2 p3
        generalize wr.heap.size = G
        clear wr
        rintro V0 ⟨HS, HG, HL, HJ⟩
        refine (allN_calls l Y (G + 1) _ 4 [q.f0, q.f1, q.f2, (q.f3.length : Int)] (by simp) _ _ _ _ (HY.out.row (pre := pre) (xs := [q.f0, q.f1, q.f2, (q.f3.length : Int)]) (rest := q.f3.flatMap partN ++ ((gs.drop (x + 1)).flatMap glueN ++ codesN cs)) (by rw [← HP.out]; simp [glueN])) (fun W' h => C4_of h) V0 HS.kp.size HS.by_ HL (by simpa using HJ.out)).mono ?_
        rintro e V1 (⟨rfl, hj, hk⟩ | ⟨rfl, hj⟩)
        · replace HS := HS.go hk
          replace HG := HG.kp hk rfl
          replace HJ := Aside0.mk hj
          clear hj hk HL V0
          obtain ⟨⟨g0, g1, g2, g3⟩, -⟩ := HG.cells4
          gi_wp2_with fail
          clear g0 g1 g2 g3 HG
          gi_loopw [47] (fun v47 V => ∃ (y : Nat) (pre : List Int), v47 = .int .i64 (y : Int) ∧ Aside0 (y ≤ q.f3.length) ∧ Aside0 (pre ++ ((q.f3.drop y).flatMap partN ++ ((gs.drop (x + 1)).flatMap glueN ++ codesN cs)) = imgN gs cs mm) ∧ NS ⟨A0, c0, gs, A1, c1, cs, mm⟩ l M Y w0 V ∧ Aside0 (J pre V)) (fun v47 _ => q.f3.length - (intOf v47).toNat)
          case atStart => exact ⟨0, _, rfl, ⟨Nat.zero_le _⟩, ⟨by rw [← HP.out]; simp [glueN]⟩, HS, HJ⟩
          case round =>
            clear HS HJ HP
            obtain ⟨y, pre, rfl, HYl, HP, HS, HJ⟩ := hrel
            by_cases hyl : y < q.f3.length
            · have cy : decide (y < q.f3.length) = true := decide_eq_true hyl
              have cy' : decide ((y : Int) < (q.f3.length : Int)) = true := decide_eq_true (by omega)
              have wy : IntKind.i64.wrap ((y : Int) + 1) = ((y + 1 : Nat) : Int) := by rw [i64_w]; unfold wrap64; have := HSl.out; omega
              have p1 := eq_true hyl
              have p2 : (0 ≤ (y : Int)) = True := eq_true (by omega)
              have p3 : ((y : Int) < (q.f3.length : Int)) = True := eq_true (by omega)
              obtain ⟨ad2, ea2, hx0, hx1⟩ := at_T73 HC3.out (y : Int) (by omega) (by omega)
              simp only [Int.toNat_natCast] at hx0 hx1
              have y0 := cell_bl HS.kp.below hx0
              have y1 := cell_bl HS.kp.below hx1
              have hd : q.f3.drop y = rd_T73 q.f3 (y : Int) :: q.f3.drop (y + 1) := by
                rw [List.drop_eq_getElem_cons hyl]
                simp [rd_T73, List.getD, hyl]
              rw [hd, List.flatMap_cons] at HP
              generalize rd_T73 q.f3 (y : Int) = r at *
              have HYL := Lib.hid hyl
              rw [ea2]
              clear hx0 hx1 hd hyl ea2
              gi_wp2_with fail
              refine call_in ?_
              refine at_world (fun V => NS ⟨A0, c0, gs, A1, c1, cs, mm⟩ l M Y w0 V ∧ Blk V (wr.heap.size + 1) #[.int .i64 r.f0, .int .i64 r.f1] 3 ∧ Aside0 (J pre V)) ⟨(HS.alloc _).alloc _, Blk.new' (by simp) _ _, ⟨HJa.out _ _ _ (HJa.out _ _ _ HJ.out)⟩⟩ ?_
              clear HS HJ y0 y1 p1 p2 p3
              generalize wr.heap.size = G
              clear wr
              rintro V0 ⟨HS, HL, HJ⟩
              refine (allN_calls l Y (G + 1) _ 2 [r.f0, r.f1] (by simp) _ _ _ _ (HY.out.row (pre := pre) (xs := [r.f0, r.f1]) (rest := (q.f3.drop (y + 1)).flatMap partN ++ ((gs.drop (x + 1)).flatMap glueN ++ codesN cs)) (by rw [← HP.out]; simp [partN])) (fun W' h => C2_of h) V0 HS.kp.size HS.by_ HL (by simpa using HJ.out)).mono ?_
              rintro e V1 (⟨rfl, hj, hk⟩ | ⟨rfl, hj⟩)
              · replace HS := HS.go hk
                replace HJ := Aside0.mk hj
                clear hj hk HL V0
                gi_wp2_with fail
                go_roundw
                case rel => exact ⟨y + 1, _, by simp [wy], ⟨HYL.out⟩, ⟨by rw [← HP.out]; simp [partN]⟩, HS, HJ⟩
                case measure => have := HYL.out; simp [intOf, wy]; omega
              · have HJ1 := Aside0.mk hj
                clear hj HS HL HJ
                gi_wp2
                refine bodyPost_ret (results_none rfl _ _ _) rfl ?_
                exact ⟨⟨_, rfl⟩, .inr HJ1.out⟩
            · have cy : decide (y < q.f3.length) = false := decide_eq_false hyl
              have cy' : decide ((y : Int) < (q.f3.length : Int)) = false := decide_eq_false (by omega)
              have hd : Hid (q.f3.drop y = []) := Lib.hid (List.drop_eq_nil_of_le (by omega))
              clear hyl
              gi_wp2_with fail
              rw [← HEa.out]
              go_roundw
              case rel => exact ⟨x + 1, pre, by simp [wx], ⟨HXl.out⟩, ⟨by rw [← HP.out, hd.out]; simp⟩, HS, HJ⟩
              case measure => have := HXl.out; simp [intOf, wx]; omega
        · have HJ1 := Aside0.mk hj
          clear hj HS HL HJ HG
          gi_wp2
          refine bodyPost_ret (results_none rfl _ _ _) rfl ?_
          exact ⟨⟨_, rfl⟩, .inr HJ1.out⟩
      · have cx : decide (x < gs.length) = false := decide_eq_false hxl
        have cx' : decide ((x : Int) < (gs.length : Int)) = false := decide_eq_false (by omega)
        have hP : Aside0 (pre ++ codesN cs = imgN gs cs mm) := ⟨by rw [← HP.out, List.drop_eq_nil_of_le (by omega)]; simp⟩
        clear hxl HP
        gi_wp2_with fail
        refine call_in ?_
        refine at_world (fun V => NS ⟨A0, c0, gs, A1, c1, cs, mm⟩ l M Y w0 V ∧ Blk V wr.heap.size #[.int .i64 (cs.length : Int)] 3 ∧ Aside0 (J pre V)) ⟨HS.alloc _, Blk.new _ _ _, ⟨HJa.out _ _ _ HJ.out⟩⟩ ?_
        clear HS HJ d0 d1 d2 cx cx'
        generalize wr.heap.size = G
        clear wr
        rintro V0 ⟨HS, HL, HJ⟩
        refine (allN_calls l Y G _ 1 [(cs.length : Int)] (by simp) _ _ _ _ (HY.out.row (pre := pre) (xs := [(cs.length : Int)]) (rest := cs.flatMap codeN) (by rw [← hP.out]; simp [codesN])) (fun W' h => C1_of h) V0 HS.kp.size HS.by_ HL (by simpa using HJ.out)).mono ?_
        rintro e V1 (⟨rfl, hj, hk⟩ | ⟨rfl, hj⟩)
        · replace HS := HS.go hk
          replace HJ := Aside0.mk hj
          clear hj hk HL V0
          obtain ⟨⟨d0, d1, d2⟩, -⟩ := HS.bm.cells3
          gi_wp2_with fail
          clear d0 d1 d2
          gi_loopw [71] (fun v71 V => ∃ (x : Nat) (pre : List Int), v71 = .int .i64 (x : Int) ∧ Aside0 (x ≤ cs.length) ∧ Aside0 (pre ++ (cs.drop x).flatMap codeN = imgN gs cs mm) ∧ NS ⟨A0, c0, gs, A1, c1, cs, mm⟩ l M Y w0 V ∧ Aside0 (J pre V)) (fun v71 _ => cs.length - (intOf v71).toNat)
          case atStart => exact ⟨0, _, rfl, ⟨Nat.zero_le _⟩, ⟨by rw [← hP.out]; simp [codesN]⟩, HS, HJ⟩
          case round =>
            clear HS HJ hP HX
            clear pre
            obtain ⟨x, pre, rfl, HX, HP, HS, HJ⟩ := hrel
            obtain ⟨⟨d0, d1, d2⟩, -⟩ := HS.bm.cells3
            by_cases hxl : x < cs.length
            · have cx : decide (x < cs.length) = true := decide_eq_true hxl
              have cx' : decide ((x : Int) < (cs.length : Int)) = true := decide_eq_true (by omega)
              have wx : IntKind.i64.wrap ((x : Int) + 1) = ((x + 1 : Nat) : Int) := by rw [i64_w]; unfold wrap64; have := HCL.out; omega
              have p1 := eq_true hxl
              have p2 : (0 ≤ (x : Int)) = True := eq_true (by omega)
              have p3 : ((x : Int) < (cs.length : Int)) = True := eq_true (by omega)
              obtain ⟨ad, A3, c3, A4, c4, ea, hx0, hx1, hx2, hx3, hx4, hb3, hc3, hb4, hc4⟩ := at_T40 HI1.out (x : Int) (by omega) (by omega)
              simp only [Int.toNat_natCast] at hx0 hx1 hx2 hx3 hx4
              have y0 := cell_bl HS.kp.below hx0
              have y1 := cell_bl HS.kp.below hx1
              have y2 := cell_bl HS.kp.below hx2
              have y3 := cell_bl HS.kp.below hx3
              have y4 := cell_bl HS.kp.below hx4
              have hd : cs.drop x = rd_T40 cs (x : Int) :: cs.drop (x + 1) := by
                rw [List.drop_eq_getElem_cons hxl]
                simp [rd_T40, List.getD, hxl]
              have hil : (rd_T40 cs (x : Int)).f3.length ≤ 1000000 ∧ (rd_T40 cs (x : Int)).f4.length ≤ 1000000 := HIL.out _ (by simp [rd_T40, List.getD, hxl])
              rw [hd, List.flatMap_cons] at HP
              generalize rd_T40 cs (x : Int) = q at *
              have HC3 := Lib.hid hc3
              have HC4 := Lib.hid hc4
              have HIl := Lib.hid hil
              have HXl := Lib.hid hxl
              have HEa := Lib.hid ea
              rw [ea] at d1 ⊢
              clear hx0 hx1 hx2 hx3 hx4 hb3 hc3 hb4 hc4 hd hil hxl ea
              gi_wp2_with fail
              refine call_in ?_
              refine at_world (fun V => NS ⟨A0, c0, gs, A1, c1, cs, mm⟩ l M Y w0 V ∧ Blk V wr.heap.size #[.int .i64 q.f0, .int .i64 q.f1, .int .i64 q.f2, .slice A3 q.f3.length c3, .slice A4 q.f4.length c4] 40 ∧ Blk V (wr.heap.size + 1) #[.int .i64 q.f0, .int .i64 q.f1, .int .i64 q.f2, .int .i64 (q.f3.length : Int)] 3 ∧ Aside0 (J pre V)) ⟨(HS.alloc _).alloc _, (Blk.new _ _ _).alloc _, Blk.new' (by simp) _ _, ⟨HJa.out _ _ _ (HJa.out _ _ _ HJ.out)⟩⟩ ?_
              clear HS HJ d0 d1 d2 y0 y1 y2 y3 y4 p1 p2 p3
              generalize wr.heap.size = G
              clear wr
              rintro V0 ⟨HS, HG, HL, HJ⟩
              refine (allN_calls l Y (G + 1) _ 4 [q.f0, q.f1, q.f2, (q.f3.length : Int)] (by simp) _ _ _ _ (HY.out.row (pre := pre) (xs := [q.f0, q.f1, q.f2, (q.f3.length : Int)]) (rest := q.f3.flatMap instN ++ ([(q.f4.length : Int)] ++ (q.f4.flatMap padN ++ (cs.drop (x + 1)).flatMap codeN))) (by rw [← HP.out]; simp [codeN])) (fun W' h => C4_of h) V0 HS.kp.size HS.by_ HL (by simpa using HJ.out)).mono ?_
              rintro e V1 (⟨rfl, hj, hk⟩ | ⟨rfl, hj⟩)
              · replace HS := HS.go hk
                replace HG := HG.kp hk rfl
                replace HJ := Aside0.mk hj
                clear hj hk HL V0
                obtain ⟨⟨g0, g1, g2, g3, g4⟩, -⟩ := HG.cells5
                gi_wp2_with fail
                clear g0 g1 g2 g3 g4
                gi_loopw [91] (fun v91 V => ∃ (y : Nat) (pre : List Int), v91 = .int .i64 (y : Int) ∧ Aside0 (y ≤ q.f3.length) ∧ Aside0 (pre ++ ((q.f3.drop y).flatMap instN ++ ([(q.f4.length : Int)] ++ (q.f4.flatMap padN ++ (cs.drop (x + 1)).flatMap codeN))) = imgN gs cs mm) ∧ NS ⟨A0, c0, gs, A1, c1, cs, mm⟩ l M Y w0 V ∧ Blk V G #[.int .i64 q.f0, .int .i64 q.f1, .int .i64 q.f2, .slice A3 q.f3.length c3, .slice A4 q.f4.length c4] 40 ∧ Aside0 (J pre V)) (fun v91 _ => q.f3.length - (intOf v91).toNat)
                case atStart => exact ⟨0, _, rfl, ⟨Nat.zero_le _⟩, ⟨by rw [← HP.out]; simp [codeN]⟩, HS, HG, HJ⟩
                case round =>
                  clear HS HJ HP HG
                  clear pre
                  obtain ⟨y, pre, rfl, HYl, HP, HS, HG, HJ⟩ := hrel
                  by_cases hyl : y < q.f3.length
                  · have cy : decide (y < q.f3.length) = true := decide_eq_true hyl
                    have cy' : decide ((y : Int) < (q.f3.length : Int)) = true := decide_eq_true (by omega)
                    have wy : IntKind.i64.wrap ((y : Int) + 1) = ((y + 1 : Nat) : Int) := by rw [i64_w]; unfold wrap64; have := HIl.out; omega
                    have p1 := eq_true hyl
                    have p2 : (0 ≤ (y : Int)) = True := eq_true (by omega)
                    have p3 : ((y : Int) < (q.f3.length : Int)) = True := eq_true (by omega)
                    obtain ⟨ad2, ea2, hx0, hx1, hx2, hx3⟩ := at_T42 HC3.out (y : Int) (by omega) (by omega)
                    simp only [Int.toNat_natCast] at hx0 hx1 hx2 hx3
                    have y0 := cell_bl HS.kp.below hx0
                    have y1 := cell_bl HS.kp.below hx1
                    have y2 := cell_bl HS.kp.below hx2
                    have y3 := cell_bl HS.kp.below hx3
                    have hd : q.f3.drop y = rd_T42 q.f3 (y : Int) :: q.f3.drop (y + 1) := by
                      rw [List.drop_eq_getElem_cons hyl]
                      simp [rd_T42, List.getD, hyl]
                    rw [hd, List.flatMap_cons] at HP
                    generalize rd_T42 q.f3 (y : Int) = r at *
                    have HYL := Lib.hid hyl
                    have HEa2 := Lib.hid ea2
                    rw [ea2]
                    clear hx0 hx1 hx2 hx3 hd hyl ea2
                    have cY := fun o => cell_al HS.by_.cells1.1 o
                    obtain ⟨fn0, tm0, as0, bd0, hy0, hR0⟩ := yield_any (m := n - 1) (HY.out pre r.f0 (wr.alloc (.cells #[.int .i64 r.f0, .int .i64 r.f1, .int .i64 r.f2, .int .i64 r.f3] 42)) (HS.alloc _).kp.size (HJa.out _ _ _ HJ.out) (by rw [← HP.out]; simp [instN]))
                    have HR0 := Lib.hid hR0
                    clear hR0
                    gi_wp2
                    clear hy0 cY y0 y1 y2 y3 p1 p2 p3
                    refine ⟨(fun h => (by cases h)), HR0.out.mono ?_⟩
                    replace HS := HS.alloc (.cells #[.int .i64 r.f0, .int .i64 r.f1, .int .i64 r.f2, .int .i64 r.f3] 42)
                    replace HG := HG.alloc (.cells #[.int .i64 r.f0, .int .i64 r.f1, .int .i64 r.f2, .int .i64 r.f3] 42)
                    have HX := Blk.new wr #[.int .i64 r.f0, .int .i64 r.f1, .int .i64 r.f2, .int .i64 r.f3] 42
                    clear HR0 HJ
                    generalize wr.heap.size = X at *
                    rintro e V0 (⟨rfl, hj, hk⟩ | ⟨rfl, hj⟩)
                    · replace HS := HS.go hk
                      replace HG := HG.kp hk rfl
                      replace HX := HX.kp hk rfl
                      have HJ := Aside0.mk hj
                      clear hj hk
                      obtain ⟨cY, -⟩ := HS.by_.cells1
                      obtain ⟨⟨x0, x1, x2, x3⟩, -⟩ := HX.cells4
                      obtain ⟨fn1, tm1, as1, bd1, hy1, hR1⟩ := yield_any (m := n - 1) (HY.out (pre ++ [r.f0]) r.f1 V0 HS.kp.size HJ.out (by rw [← HP.out]; simp [instN]))
                      have HR1 := Lib.hid hR1
                      clear hR1
                      gi_wp2
                      clear hy1 cY x0 x1 x2 x3
                      refine ⟨(fun h => (by cases h)), HR1.out.mono ?_⟩
                      clear HR1 HJ
                      rintro e V1 (⟨rfl, hj, hk⟩ | ⟨rfl, hj⟩)
                      · replace HS := HS.go hk
                        replace HG := HG.kp hk rfl
                        replace HX := HX.kp hk rfl
                        have HJ := Aside0.mk hj
                        clear hj hk
                        obtain ⟨cY, -⟩ := HS.by_.cells1
                        obtain ⟨⟨x0, x1, x2, x3⟩, -⟩ := HX.cells4
                        obtain ⟨fn2, tm2, as2, bd2, hy2, hR2⟩ := yield_any (m := n - 1) (HY.out (pre ++ [r.f0] ++ [r.f1]) r.f2 V1 HS.kp.size HJ.out (by rw [← HP.out]; simp [instN]))
                        have HR2 := Lib.hid hR2
                        clear hR2
                        gi_wp2
                        clear hy2 cY x0 x1 x2 x3
                        refine ⟨(fun h => (by cases h)), HR2.out.mono ?_⟩
                        clear HR2 HJ
                        rintro e V2 (⟨rfl, hj, hk⟩ | ⟨rfl, hj⟩)
                        · replace HS := HS.go hk
                          replace HG := HG.kp hk rfl
                          replace HX := HX.kp hk rfl
                          have HJ := Aside0.mk hj
                          clear hj hk
                          obtain ⟨cY, -⟩ := HS.by_.cells1
                          obtain ⟨⟨x0, x1, x2, x3⟩, -⟩ := HX.cells4
                          obtain ⟨fn3, tm3, as3, bd3, hy3, hR3⟩ := yield_any (m := n - 1) (HY.out (pre ++ [r.f0] ++ [r.f1] ++ [r.f2]) r.f3 V2 HS.kp.size HJ.out (by rw [← HP.out]; simp [instN]))
                          have HR3 := Lib.hid hR3
                          clear hR3
                          gi_wp2
                          clear hy3 cY x0 x1 x2 x3
                          refine ⟨(fun h => (by cases h)), HR3.out.mono ?_⟩
                          clear HR3 HJ
                          rintro e V3 (⟨rfl, hj, hk⟩ | ⟨rfl, hj⟩)
                          · replace HS := HS.go hk
                            replace HG := HG.kp hk rfl
                            replace HX := HX.kp hk rfl
                            have HJ := Aside0.mk hj
                            clear hj hk
                            gi_wp2
                            rw [← HEa2.out]
                            go_roundw
                            case rel => exact ⟨y + 1, _, by simp [wy], ⟨HYL.out⟩, ⟨by rw [← HP.out]; simp [instN]⟩, HS, HG, HJ⟩
                            case measure => have := HYL.out; simp [intOf, wy]; omega
                          · have HJ1 := Aside0.mk hj
                            clear hj HS HG HX
                            gi_wp2
                            refine bodyPost_ret (results_none rfl _ _ _) rfl ?_
                            exact ⟨⟨_, rfl⟩, .inr ⟨_, HJ1.out⟩⟩
                        · have HJ1 := Aside0.mk hj
                          clear hj HS HG HX
                          gi_wp2
                          repeat (refine ⟨(fun f h => by cases h), ?_⟩; gi_wp2)
                          refine bodyPost_ret (results_none rfl _ _ _) rfl ?_
                          exact ⟨⟨_, rfl⟩, .inr ⟨_, HJ1.out⟩⟩
                      · have HJ1 := Aside0.mk hj
                        clear hj HS HG HX
                        gi_wp2
                        repeat (refine ⟨(fun f h => by cases h), ?_⟩; gi_wp2)
                        refine bodyPost_ret (results_none rfl _ _ _) rfl ?_
                        exact ⟨⟨_, rfl⟩, .inr ⟨_, HJ1.out⟩⟩
                    · have HJ1 := Aside0.mk hj
                      clear hj HS HG HX
                      gi_wp2
                      repeat (refine ⟨(fun f h => by cases h), ?_⟩; gi_wp2)
                      refine bodyPost_ret (results_none rfl _ _ _) rfl ?_
                      exact ⟨⟨_, rfl⟩, .inr ⟨_, HJ1.out⟩⟩
                  · have cy : decide (y < q.f3.length) = false := decide_eq_false hyl
                    have cy' : decide ((y : Int) < (q.f3.length : Int)) = false := decide_eq_false (by omega)
                    have hP : Aside0 (pre ++ ([(q.f4.length : Int)] ++ (q.f4.flatMap padN ++ (cs.drop (x + 1)).flatMap codeN)) = imgN gs cs mm) := ⟨by rw [← HP.out, show q.f3.drop y = [] from List.drop_eq_nil_of_le (by omega)]; simp⟩
                    obtain ⟨⟨g0, g1, g2, g3, g4⟩, -⟩ := HG.cells5
                    clear hyl HP
                    gi_wp2_with fail
                    refine call_in ?_
                    refine at_world (fun V => NS ⟨A0, c0, gs, A1, c1, cs, mm⟩ l M Y w0 V ∧ Blk V G #[.int .i64 q.f0, .int .i64 q.f1, .int .i64 q.f2, .slice A3 q.f3.length c3, .slice A4 q.f4.length c4] 40 ∧ Blk V wr.heap.size #[.int .i64 (q.f4.length : Int)] 3 ∧ Aside0 (J pre V)) ⟨HS.alloc _, HG.alloc _, Blk.new _ _ _, ⟨HJa.out _ _ _ HJ.out⟩⟩ ?_
                    clear HS HJ HG g0 g1 g2 g3 g4 cy cy'
                    generalize wr.heap.size = G2
                    clear wr
                    rintro V0 ⟨HS, HG, HL, HJ⟩
                    refine (allN_calls l Y G2 _ 1 [(q.f4.length : Int)] (by simp) _ _ _ _ (HY.out.row (pre := pre) (xs := [(q.f4.length : Int)]) (rest := q.f4.flatMap padN ++ (cs.drop (x + 1)).flatMap codeN) (by rw [← hP.out])) (fun W' h => C1_of h) V0 HS.kp.size HS.by_ HL (by simpa using HJ.out)).mono ?_
                    rintro e V1 (⟨rfl, hj, hk⟩ | ⟨rfl, hj⟩)
                    · replace HS := HS.go hk
                      replace HG := HG.kp hk rfl
                      replace HJ := Aside0.mk hj
                      clear hj hk HL V0
                      obtain ⟨⟨g0, g1, g2, g3, g4⟩, -⟩ := HG.cells5
                      gi_wp2_with fail
                      clear g0 g1 g2 g3 g4 HG
                      gi_loopw [132] (fun v132 V => ∃ (y : Nat) (pre : List Int), v132 = .int .i64 (y : Int) ∧ Aside0 (y ≤ q.f4.length) ∧ Aside0 (pre ++ ((q.f4.drop y).flatMap padN ++ (cs.drop (x + 1)).flatMap codeN) = imgN gs cs mm) ∧ NS ⟨A0, c0, gs, A1, c1, cs, mm⟩ l M Y w0 V ∧ Aside0 (J pre V)) (fun v132 _ => q.f4.length - (intOf v132).toNat)
                      case atStart => exact ⟨0, _, rfl, ⟨Nat.zero_le _⟩, ⟨by rw [← hP.out]; simp⟩, HS, HJ⟩
                      case round =>
                        clear HS HJ hP HYl
                        clear pre
                        obtain ⟨z, pre, rfl, HZl, HP, HS, HJ⟩ := hrel
                        by_cases hzl : z < q.f4.length
                        · have cz : decide (z < q.f4.length) = true := decide_eq_true hzl
                          have cz' : decide ((z : Int) < (q.f4.length : Int)) = true := decide_eq_true (by omega)
                          have wz : IntKind.i64.wrap ((z : Int) + 1) = ((z + 1 : Nat) : Int) := by rw [i64_w]; unfold wrap64; have := HIl.out; omega
                          have p1 := eq_true hzl
                          have p2 : (0 ≤ (z : Int)) = True := eq_true (by omega)
                          have p3 : ((z : Int) < (q.f4.length : Int)) = True := eq_true (by omega)
                          obtain ⟨ad2, ea2, hx0, hx1, hx2⟩ := at_T66 HC4.out (z : Int) (by omega) (by omega)
                          simp only [Int.toNat_natCast] at hx0 hx1 hx2
                          have y0 := cell_bl HS.kp.below hx0
                          have y1 := cell_bl HS.kp.below hx1
                          have y2 := cell_bl HS.kp.below hx2
                          have hd : q.f4.drop z = rd_T66 q.f4 (z : Int) :: q.f4.drop (z + 1) := by
                            rw [List.drop_eq_getElem_cons hzl]
                            simp [rd_T66, List.getD, hzl]
                          rw [hd, List.flatMap_cons] at HP
                          generalize rd_T66 q.f4 (z : Int) = r at *
                          have HZL := Lib.hid hzl
                          rw [ea2]
                          clear hx0 hx1 hx2 hd hzl ea2
                          gi_wp2_with fail
                          refine call_in ?_
                          refine at_world (fun V => NS ⟨A0, c0, gs, A1, c1, cs, mm⟩ l M Y w0 V ∧ Blk V (wr.heap.size + 1) #[.int .i64 r.f0, .int .i64 r.f1, .int .i64 r.f2] 3 ∧ Aside0 (J pre V)) ⟨(HS.alloc _).alloc _, Blk.new' (by simp) _ _, ⟨HJa.out _ _ _ (HJa.out _ _ _ HJ.out)⟩⟩ ?_
                          clear HS HJ y0 y1 y2 p1 p2 p3
                          generalize wr.heap.size = G3
                          clear wr
                          rintro V0 ⟨HS, HL, HJ⟩
                          refine (allN_calls l Y (G3 + 1) _ 3 [r.f0, r.f1, r.f2] (by simp) _ _ _ _ (HY.out.row (pre := pre) (xs := [r.f0, r.f1, r.f2]) (rest := (q.f4.drop (z + 1)).flatMap padN ++ (cs.drop (x + 1)).flatMap codeN) (by rw [← HP.out]; simp [padN])) (fun W' h => C3_of h) V0 HS.kp.size HS.by_ HL (by simpa using HJ.out)).mono ?_
                          rintro e V1 (⟨rfl, hj, hk⟩ | ⟨rfl, hj⟩)
                          · replace HS := HS.go hk
                            replace HJ := Aside0.mk hj
                            clear hj hk HL V0
                            gi_wp2_with fail
                            go_roundw
                            case rel => exact ⟨z + 1, _, by simp [wz], ⟨HZL.out⟩, ⟨by rw [← HP.out]; simp [padN]⟩, HS, HJ⟩
                            case measure => have := HZL.out; simp [intOf, wz]; omega
                          · have HJ1 := Aside0.mk hj
                            clear hj HS HL HJ
                            gi_wp2
                            refine bodyPost_ret (results_none rfl _ _ _) rfl ?_
                            exact ⟨⟨_, rfl⟩, .inr HJ1.out⟩
                        · have cz : decide (z < q.f4.length) = false := decide_eq_false hzl
                          have cz' : decide ((z : Int) < (q.f4.length : Int)) = false := decide_eq_false (by omega)
                          have hd : Hid (q.f4.drop z = []) := Lib.hid (List.drop_eq_nil_of_le (by omega))
                          clear hzl
                          gi_wp2_with fail
                          rw [← HEa.out]
                          go_roundw
                          case rel => exact ⟨x + 1, pre, by simp [wx], ⟨HXl.out⟩, ⟨by rw [← HP.out, hd.out]; simp⟩, HS, HJ⟩
                          case measure => have := HXl.out; simp [intOf, wx]; omega
                    · have HJ1 := Aside0.mk hj
                      clear hj HS HL HJ HG
                      gi_wp2
                      refine bodyPost_ret (results_none rfl _ _ _) rfl ?_
                      exact ⟨⟨_, rfl⟩, .inr HJ1.out⟩
              · have HJ1 := Aside0.mk hj
                clear hj HS HL HJ HG
                gi_wp2
                refine bodyPost_ret (results_none rfl _ _ _) rfl ?_
                exact ⟨⟨_, rfl⟩, .inr HJ1.out⟩
            · have cx : decide (x < cs.length) = false := decide_eq_false hxl
              have cx' : decide ((x : Int) < (cs.length : Int)) = false := decide_eq_false (by omega)
              have hP : Aside0 (pre = imgN gs cs mm) := ⟨by rw [← HP.out, List.drop_eq_nil_of_le (by omega)]; simp⟩
              clear hxl HP d0 d1 d2
              gi_wp2
              go_end0
              exact ⟨⟨_, rfl⟩, .inl (hP.out ▸ HJ.out)⟩
        · have HJ1 := Aside0.mk hj
          clear hj HS HL HJ
          gi_wp2
          refine bodyPost_ret (results_none rfl _ _ _) rfl ?_
          exact ⟨⟨_, rfl⟩, .inr HJ1.out⟩
  · have HJ1 := Aside0.mk hj
    clear hj HS HL HJ
    gi_wp2
    refine bodyPost_ret (results_none rfl _ _ _) rfl ?_
    exact ⟨⟨_, rfl⟩, .inr HJ1.out⟩
end Go.Proofs.Ytoiakaagbgfocaa.PC
