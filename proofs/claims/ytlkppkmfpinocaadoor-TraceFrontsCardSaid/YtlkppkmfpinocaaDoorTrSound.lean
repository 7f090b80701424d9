/- Package trace: Sound: its contract. -/
import Derived.Test.YtlkppkmfpinocaaDoorTrMaps
namespace Go.Proofs.YtlkppkmfpinocaaDoor.PT
open Go.RowKit Go.Proofs.YtlkppkmfpinocaaDoorW.PrintWords Go.Proofs.YtlkppkmfpinocaaDoorW.PrintLast Go.Proofs.YtlkppkmfpinocaaDoorW.PrintMore
set_option linter.unusedVariables false
set_option linter.unusedSimpArgs false

/-- is a trace sound, from a state on: what was freed, how many allocations, is there a panic -/
def soundL : List S26 → (Int → Bool) → Int → Bool → Bool
  | [], _, _, _ => true
  | e :: l, fr, al, pa =>
    evB e.f0 e.f1 && (
      if e.f0 = 1 then decide (e.f1 = al + 1) && soundL l fr (al + 1) pa
      else if e.f0 = 2 then decide (e.f1 ≤ al) && (!fr e.f1 && soundL l (setB fr e.f1) al pa)
      else if e.f0 = 5 then soundL l fr al true
      else if e.f0 = 6 then pa && soundL l fr al false
      else if e.f0 = 7 then l.isEmpty && soundL l fr al pa
      else soundL l fr al pa)
def trace_Sound.f (l : List S26) : Option Bool := if i64s l = true ∧ l.length ≤ 100000 then some (soundL l (fun _ => false) 0 false) else none
theorem drop_rd (l : List S26) (x : Nat) (h : x < l.length) : l.drop x = rd_T26 l (x : Int) :: l.drop (x + 1) := by
  rw [List.drop_eq_getElem_cons h]
  simp [rd_T26, List.getD, h]
theorem BMap.mono {w : World} {b n m : Nat} {fr : Int → Bool} (h : BMap w b n fr) (hm : n ≤ m) : BMap w b m fr := by
  obtain ⟨D, h1, h2⟩ := h
  exact ⟨D, h1.mono hm, h2⟩
set_option maxHeartbeats 8000000 in
set_option maxRecDepth 100000 in
theorem trace_Sound.calls (A0 : Option Addr) (c0 : Nat) (l0 : List S26) (r : Bool) (w : World) (hr0 : Kd.C k26 w A0 l0.length l0) (hc0 : l0.length ≤ c0) (h : trace_Sound.f l0 = some r) :
    Calls Tryd.prog 18 #[.slice A0 l0.length c0] w fun e w' => e = .returned (.bool r) ∧ Below w.heap.size w w' := by
  obtain ⟨hh, hrr⟩ := of_guard h
  have HI := Aside0.mk hh
  have HR := Aside0.mk hr0
  have HS0 := Lib.hid hrr
  clear h hh hr0 hrr
  have hmm := @run_makeMap Tryd.prog
  go_enter Tryd.func18, Tryd.ntmps18
  go_wp2_with fail
  clear hmm
  go_loopg [4, 5, 12] l0.length (fun kq v4 v5 v12 w' => ∃ (x : Nat) (al : Int) (pa : Bool) (fr : Int → Bool), v12 = .int .i64 (x : Int) ∧ v4 = .int .i64 al ∧ v5 = .bool pa ∧ Aside0 (x + kq = l0.length) ∧ Aside0 (0 ≤ al ∧ al ≤ x) ∧ Aside0 (soundL (l0.drop x) fr al pa = r) ∧ Aside0 (BMap w' w.heap.size x fr) ∧ Aside0 (Below w.heap.size w w'))
  case atStart => exact ⟨0, 0, false, fun _ => false, rfl, rfl, rfl, ⟨by omega⟩, ⟨by omega, by omega⟩, ⟨HS0.out⟩, ⟨BMap.new _⟩, ⟨below_alloc (Below.refl _ _) _⟩⟩
  case round =>
    clear HS0
    obtain ⟨x, al, pa, fr, rfl, rfl, rfl, HX, HA, HS, HM, HB⟩ := hrel
    cases gk with
    | zero =>
      have cx : decide (x < l0.length) = false := decide_eq_false (by have := HX.out; omega)
      have hx : l0.drop x = [] := List.drop_eq_nil_of_le (by have := HX.out; omega)
      rw [hx] at HS
      clear hx
      go_wp2
      go_ret
      exact ⟨by rw [← HS.out]; rfl, HB.out⟩
    | succ kk =>
      have hxl : x < l0.length := by have := HX.out; omega
      have cx : decide (x < l0.length) = true := decide_eq_true hxl
      have cx' : decide ((x : Int) < (l0.length : Int)) = true := decide_eq_true (by omega)
      have wx : IntKind.i64.wrap ((x : Int) + 1) = ((x + 1 : Nat) : Int) := by rw [i64_w]; unfold wrap64; have := HI.out.2; omega
      have wa : IntKind.i64.wrap (al + 1) = al + 1 := by rw [i64_w]; unfold wrap64; have := HI.out.2; have := HA.out; omega
      have wl : IntKind.i64.wrap ((l0.length : Int) - 1) = (l0.length : Int) - 1 := by rw [i64_w]; unfold wrap64; have := HI.out.2; omega
      have hi := i64s_rd HI.out.1 x hxl
      have hd := drop_rd l0 x hxl
      obtain ⟨ad, ea, hx0, hx1⟩ := at_T26 (Kd.C_below HR.out HB.out) (x : Int) (by omega) (by omega)
      cases ea
      simp only [Int.toNat_natCast] at hx0 hx1
      generalize rd_T26 l0 (x : Int) = t at *
      rw [hd] at HS
      have hrt := fun W => trace_Right.calls 2 t.f0 t.f1 _ W (right_f t.f0 t.f1 hi 0)
      have HRt := Lib.hid hrt
      have Hi := Lib.hid hi
      have p1 := eq_true hxl
      have p2 : (0 ≤ (x : Int)) = True := eq_true (by omega)
      have p3 : ((x : Int) < (l0.length : Int)) = True := eq_true (by omega)
      clear hxl hrt hi hd
      have HSt := HS.out
      obtain ⟨q0, q1⟩ := t
      simp only at hx0 hx1 HSt
      clear HS
      have HS := Lib.hid HSt
      clear HSt
      by_cases k1 : q0 = 1
      · subst k1
        cases he : evB 1 q1 with
        | false =>
          rw [he] at HRt
          have hr : r = false := by
            rw [← HS.out]
            simp [soundL, he]
          subst hr
          clear HS
          go_wp2_with fail
          refine at_world (fun W => Blk W wr.heap.size #[.int .i64 1, .int .i64 q1] 26 ∧ Aside0 (BMap W w.heap.size x fr) ∧ Aside0 (Below w.heap.size w W)) ⟨Blk.new _ _ _, ⟨HM.out.below (below_alloc (Below.refl _ _) _)⟩, ⟨below_alloc HB.out _⟩⟩ ?_
          clear HM HB hx0 hx1
          rintro W ⟨B7, HM, HB⟩
          generalize wr.heap.size = g7 at *
          refine (HRt.out W).mono ?_
          rintro e w1 ⟨rfl, hb1⟩
          replace B7 := B7.below hb1
          replace HM := Aside0.mk (HM.out.below hb1)
          replace HB := Aside0.mk (below_step HB.out hb1)
          clear hb1
          have e0 := B7.cells2.1.1
          have e1 := B7.cells2.1.2
          go_wp2_with fail
          go_ret
          exact ⟨rfl, HB.out⟩
        | true =>
          rw [he] at HRt
          by_cases c : q1 = al + 1
          · have b1 : (q1 == al + 1) = true := beq_iff_eq.2 c
            have HC : Hid (soundL (l0.drop (x + 1)) fr (al + 1) pa = r) := Lib.hid (by
              rw [← HS.out]
              rw [c] at he ⊢
              simp [soundL, he])
            clear HS c
            go_wp2_with fail
            refine at_world (fun W => Blk W wr.heap.size #[.int .i64 1, .int .i64 q1] 26 ∧ Aside0 (BMap W w.heap.size x fr) ∧ Aside0 (Below w.heap.size w W)) ⟨Blk.new _ _ _, ⟨HM.out.below (below_alloc (Below.refl _ _) _)⟩, ⟨below_alloc HB.out _⟩⟩ ?_
            clear HM HB hx0 hx1
            rintro W ⟨B7, HM, HB⟩
            generalize wr.heap.size = g7 at *
            refine (HRt.out W).mono ?_
            rintro e w1 ⟨rfl, hb1⟩
            replace B7 := B7.below hb1
            replace HM := Aside0.mk (HM.out.below hb1)
            replace HB := Aside0.mk (below_step HB.out hb1)
            clear hb1
            have e0 := B7.cells2.1.1
            have e1 := B7.cells2.1.2
            go_wp2_with fail
            go_roundg kk
            case measure => omega
            case rel => exact ⟨x + 1, (al + 1), pa, fr, by simp [wx], by first | rfl | simp [wa], rfl, ⟨by have := HX.out; omega⟩, ⟨by have := HA.out; omega, by have := HA.out; omega⟩, ⟨HC.out⟩, ⟨HM.out.mono (Nat.le_succ x)⟩, ⟨HB.out⟩⟩
          · have b1 : (q1 == al + 1) = false := beq_eq_false_iff_ne.2 c
            have hr : r = false := by
              rw [← HS.out]
              simp [soundL, he, c]
            subst hr
            clear HS
            go_wp2_with fail
            refine at_world (fun W => Blk W wr.heap.size #[.int .i64 1, .int .i64 q1] 26 ∧ Aside0 (BMap W w.heap.size x fr) ∧ Aside0 (Below w.heap.size w W)) ⟨Blk.new _ _ _, ⟨HM.out.below (below_alloc (Below.refl _ _) _)⟩, ⟨below_alloc HB.out _⟩⟩ ?_
            clear HM HB hx0 hx1
            rintro W ⟨B7, HM, HB⟩
            generalize wr.heap.size = g7 at *
            refine (HRt.out W).mono ?_
            rintro e w1 ⟨rfl, hb1⟩
            replace B7 := B7.below hb1
            replace HM := Aside0.mk (HM.out.below hb1)
            replace HB := Aside0.mk (below_step HB.out hb1)
            clear hb1
            have e0 := B7.cells2.1.1
            have e1 := B7.cells2.1.2
            go_wp2_with fail
            go_ret
            exact ⟨rfl, HB.out⟩
      by_cases k2 : q0 = 2
      · subst k2
        cases he : evB 2 q1 with
        | false =>
          rw [he] at HRt
          have hr : r = false := by
            rw [← HS.out]
            simp [soundL, he]
          subst hr
          clear HS
          go_wp2_with fail
          refine at_world (fun W => Blk W wr.heap.size #[.int .i64 2, .int .i64 q1] 26 ∧ Aside0 (BMap W w.heap.size x fr) ∧ Aside0 (Below w.heap.size w W)) ⟨Blk.new _ _ _, ⟨HM.out.below (below_alloc (Below.refl _ _) _)⟩, ⟨below_alloc HB.out _⟩⟩ ?_
          clear HM HB hx0 hx1
          rintro W ⟨B7, HM, HB⟩
          generalize wr.heap.size = g7 at *
          refine (HRt.out W).mono ?_
          rintro e w1 ⟨rfl, hb1⟩
          replace B7 := B7.below hb1
          replace HM := Aside0.mk (HM.out.below hb1)
          replace HB := Aside0.mk (below_step HB.out hb1)
          clear hb1
          have e0 := B7.cells2.1.1
          have e1 := B7.cells2.1.2
          go_wp2_with (at_mapUpdate; refine HM.out.put q1 Hi.out (by have := HI.out.2; have := HX.out; omega) rfl _ _ _ rfl rfl rfl rfl ?_; intro w2 hm2 hg2; have HM2 := Aside0.mk hm2; have HB2 : Aside0 (Below w.heap.size w w2) := ⟨HB.out.grown hg2 HB.out.size (fun k e => by cases e; exact Nat.le_refl _)⟩; clear hm2 hg2)
          go_ret
          exact ⟨rfl, HB2.out⟩
        | true =>
          rw [he] at HRt
          by_cases c : q1 ≤ al
          · have b1 : decide (q1 ≤ al) = true := decide_eq_true c
            cases hf : fr q1 with
            | false =>
              have HC : Hid (soundL (l0.drop (x + 1)) (setB fr q1) al pa = r) := Lib.hid (by
                rw [← HS.out]
                simp [soundL, he, c, hf])
              clear HS
              go_wp2_with fail
              refine at_world (fun W => Blk W wr.heap.size #[.int .i64 2, .int .i64 q1] 26 ∧ Aside0 (BMap W w.heap.size x fr) ∧ Aside0 (Below w.heap.size w W)) ⟨Blk.new _ _ _, ⟨HM.out.below (below_alloc (Below.refl _ _) _)⟩, ⟨below_alloc HB.out _⟩⟩ ?_
              clear HM HB hx0 hx1
              rintro W ⟨B7, HM, HB⟩
              generalize wr.heap.size = g7 at *
              refine (HRt.out W).mono ?_
              rintro e w1 ⟨rfl, hb1⟩
              replace B7 := B7.below hb1
              replace HM := Aside0.mk (HM.out.below hb1)
              replace HB := Aside0.mk (below_step HB.out hb1)
              clear hb1
              have e0 := B7.cells2.1.1
              have e1 := B7.cells2.1.2
              have hl := HM.out.look q1 Hi.out
              rw [hf] at hl
              go_wp2_with (at_mapUpdate; refine HM.out.put q1 Hi.out (by have := HI.out.2; have := HX.out; omega) rfl _ _ _ rfl rfl rfl rfl ?_; intro w2 hm2 hg2; have HM2 := Aside0.mk hm2; have HB2 : Aside0 (Below w.heap.size w w2) := ⟨HB.out.grown hg2 HB.out.size (fun k e => by cases e; exact Nat.le_refl _)⟩; clear hm2 hg2)
              go_roundg kk
              case measure => omega
              case rel => exact ⟨x + 1, al, pa, (setB fr q1), by simp [wx], by first | rfl | simp [wa], rfl, ⟨by have := HX.out; omega⟩, ⟨by have := HA.out; omega, by have := HA.out; omega⟩, ⟨HC.out⟩, ⟨HM2.out⟩, ⟨HB2.out⟩⟩
            | true =>
              have hr : r = false := by
                rw [← HS.out]
                simp [soundL, he, c, hf]
              subst hr
              clear HS
              go_wp2_with fail
              refine at_world (fun W => Blk W wr.heap.size #[.int .i64 2, .int .i64 q1] 26 ∧ Aside0 (BMap W w.heap.size x fr) ∧ Aside0 (Below w.heap.size w W)) ⟨Blk.new _ _ _, ⟨HM.out.below (below_alloc (Below.refl _ _) _)⟩, ⟨below_alloc HB.out _⟩⟩ ?_
              clear HM HB hx0 hx1
              rintro W ⟨B7, HM, HB⟩
              generalize wr.heap.size = g7 at *
              refine (HRt.out W).mono ?_
              rintro e w1 ⟨rfl, hb1⟩
              replace B7 := B7.below hb1
              replace HM := Aside0.mk (HM.out.below hb1)
              replace HB := Aside0.mk (below_step HB.out hb1)
              clear hb1
              have e0 := B7.cells2.1.1
              have e1 := B7.cells2.1.2
              have hl := HM.out.look q1 Hi.out
              rw [hf] at hl
              go_wp2_with (at_mapUpdate; refine HM.out.put q1 Hi.out (by have := HI.out.2; have := HX.out; omega) rfl _ _ _ rfl rfl rfl rfl ?_; intro w2 hm2 hg2; have HM2 := Aside0.mk hm2; have HB2 : Aside0 (Below w.heap.size w w2) := ⟨HB.out.grown hg2 HB.out.size (fun k e => by cases e; exact Nat.le_refl _)⟩; clear hm2 hg2)
              go_ret
              exact ⟨rfl, HB2.out⟩
          · have b1 : decide (q1 ≤ al) = false := decide_eq_false c
            have hr : r = false := by
              rw [← HS.out]
              simp [soundL, he, c]
            subst hr
            clear HS
            go_wp2_with fail
            refine at_world (fun W => Blk W wr.heap.size #[.int .i64 2, .int .i64 q1] 26 ∧ Aside0 (BMap W w.heap.size x fr) ∧ Aside0 (Below w.heap.size w W)) ⟨Blk.new _ _ _, ⟨HM.out.below (below_alloc (Below.refl _ _) _)⟩, ⟨below_alloc HB.out _⟩⟩ ?_
            clear HM HB hx0 hx1
            rintro W ⟨B7, HM, HB⟩
            generalize wr.heap.size = g7 at *
            refine (HRt.out W).mono ?_
            rintro e w1 ⟨rfl, hb1⟩
            replace B7 := B7.below hb1
            replace HM := Aside0.mk (HM.out.below hb1)
            replace HB := Aside0.mk (below_step HB.out hb1)
            clear hb1
            have e0 := B7.cells2.1.1
            have e1 := B7.cells2.1.2
            go_wp2_with (at_mapUpdate; refine HM.out.put q1 Hi.out (by have := HI.out.2; have := HX.out; omega) rfl _ _ _ rfl rfl rfl rfl ?_; intro w2 hm2 hg2; have HM2 := Aside0.mk hm2; have HB2 : Aside0 (Below w.heap.size w w2) := ⟨HB.out.grown hg2 HB.out.size (fun k e => by cases e; exact Nat.le_refl _)⟩; clear hm2 hg2)
            go_ret
            exact ⟨rfl, HB2.out⟩
      by_cases k3 : q0 = 3
      · subst k3
        cases he : evB 3 q1 with
        | false =>
          rw [he] at HRt
          have hr : r = false := by
            rw [← HS.out]
            simp [soundL, he]
          subst hr
          clear HS
          go_wp2_with fail
          refine at_world (fun W => Blk W wr.heap.size #[.int .i64 3, .int .i64 q1] 26 ∧ Aside0 (BMap W w.heap.size x fr) ∧ Aside0 (Below w.heap.size w W)) ⟨Blk.new _ _ _, ⟨HM.out.below (below_alloc (Below.refl _ _) _)⟩, ⟨below_alloc HB.out _⟩⟩ ?_
          clear HM HB hx0 hx1
          rintro W ⟨B7, HM, HB⟩
          generalize wr.heap.size = g7 at *
          refine (HRt.out W).mono ?_
          rintro e w1 ⟨rfl, hb1⟩
          replace B7 := B7.below hb1
          replace HM := Aside0.mk (HM.out.below hb1)
          replace HB := Aside0.mk (below_step HB.out hb1)
          clear hb1
          have e0 := B7.cells2.1.1
          have e1 := B7.cells2.1.2
          go_wp2_with fail
          go_ret
          exact ⟨rfl, HB.out⟩
        | true =>
          rw [he] at HRt
          have HC : Hid (soundL (l0.drop (x + 1)) fr al pa = r) := Lib.hid (by
            rw [← HS.out]
            simp [soundL, he])
          clear HS
          go_wp2_with fail
          refine at_world (fun W => Blk W wr.heap.size #[.int .i64 3, .int .i64 q1] 26 ∧ Aside0 (BMap W w.heap.size x fr) ∧ Aside0 (Below w.heap.size w W)) ⟨Blk.new _ _ _, ⟨HM.out.below (below_alloc (Below.refl _ _) _)⟩, ⟨below_alloc HB.out _⟩⟩ ?_
          clear HM HB hx0 hx1
          rintro W ⟨B7, HM, HB⟩
          generalize wr.heap.size = g7 at *
          refine (HRt.out W).mono ?_
          rintro e w1 ⟨rfl, hb1⟩
          replace B7 := B7.below hb1
          replace HM := Aside0.mk (HM.out.below hb1)
          replace HB := Aside0.mk (below_step HB.out hb1)
          clear hb1
          have e0 := B7.cells2.1.1
          have e1 := B7.cells2.1.2
          go_wp2_with fail
          go_roundg kk
          case measure => omega
          case rel => exact ⟨x + 1, al, pa, fr, by simp [wx], by first | rfl | simp [wa], rfl, ⟨by have := HX.out; omega⟩, ⟨by have := HA.out; omega, by have := HA.out; omega⟩, ⟨HC.out⟩, ⟨HM.out.mono (Nat.le_succ x)⟩, ⟨HB.out⟩⟩
      by_cases k4 : q0 = 4
      · subst k4
        cases he : evB 4 q1 with
        | false =>
          rw [he] at HRt
          have hr : r = false := by
            rw [← HS.out]
            simp [soundL, he]
          subst hr
          clear HS
          go_wp2_with fail
          refine at_world (fun W => Blk W wr.heap.size #[.int .i64 4, .int .i64 q1] 26 ∧ Aside0 (BMap W w.heap.size x fr) ∧ Aside0 (Below w.heap.size w W)) ⟨Blk.new _ _ _, ⟨HM.out.below (below_alloc (Below.refl _ _) _)⟩, ⟨below_alloc HB.out _⟩⟩ ?_
          clear HM HB hx0 hx1
          rintro W ⟨B7, HM, HB⟩
          generalize wr.heap.size = g7 at *
          refine (HRt.out W).mono ?_
          rintro e w1 ⟨rfl, hb1⟩
          replace B7 := B7.below hb1
          replace HM := Aside0.mk (HM.out.below hb1)
          replace HB := Aside0.mk (below_step HB.out hb1)
          clear hb1
          have e0 := B7.cells2.1.1
          have e1 := B7.cells2.1.2
          go_wp2_with fail
          go_ret
          exact ⟨rfl, HB.out⟩
        | true =>
          rw [he] at HRt
          have HC : Hid (soundL (l0.drop (x + 1)) fr al pa = r) := Lib.hid (by
            rw [← HS.out]
            simp [soundL, he])
          clear HS
          go_wp2_with fail
          refine at_world (fun W => Blk W wr.heap.size #[.int .i64 4, .int .i64 q1] 26 ∧ Aside0 (BMap W w.heap.size x fr) ∧ Aside0 (Below w.heap.size w W)) ⟨Blk.new _ _ _, ⟨HM.out.below (below_alloc (Below.refl _ _) _)⟩, ⟨below_alloc HB.out _⟩⟩ ?_
          clear HM HB hx0 hx1
          rintro W ⟨B7, HM, HB⟩
          generalize wr.heap.size = g7 at *
          refine (HRt.out W).mono ?_
          rintro e w1 ⟨rfl, hb1⟩
          replace B7 := B7.below hb1
          replace HM := Aside0.mk (HM.out.below hb1)
          replace HB := Aside0.mk (below_step HB.out hb1)
          clear hb1
          have e0 := B7.cells2.1.1
          have e1 := B7.cells2.1.2
          go_wp2_with fail
          go_roundg kk
          case measure => omega
          case rel => exact ⟨x + 1, al, pa, fr, by simp [wx], by first | rfl | simp [wa], rfl, ⟨by have := HX.out; omega⟩, ⟨by have := HA.out; omega, by have := HA.out; omega⟩, ⟨HC.out⟩, ⟨HM.out.mono (Nat.le_succ x)⟩, ⟨HB.out⟩⟩
      by_cases k5 : q0 = 5
      · subst k5
        cases he : evB 5 q1 with
        | false =>
          rw [he] at HRt
          have hr : r = false := by
            rw [← HS.out]
            simp [soundL, he]
          subst hr
          clear HS
          go_wp2_with fail
          refine at_world (fun W => Blk W wr.heap.size #[.int .i64 5, .int .i64 q1] 26 ∧ Aside0 (BMap W w.heap.size x fr) ∧ Aside0 (Below w.heap.size w W)) ⟨Blk.new _ _ _, ⟨HM.out.below (below_alloc (Below.refl _ _) _)⟩, ⟨below_alloc HB.out _⟩⟩ ?_
          clear HM HB hx0 hx1
          rintro W ⟨B7, HM, HB⟩
          generalize wr.heap.size = g7 at *
          refine (HRt.out W).mono ?_
          rintro e w1 ⟨rfl, hb1⟩
          replace B7 := B7.below hb1
          replace HM := Aside0.mk (HM.out.below hb1)
          replace HB := Aside0.mk (below_step HB.out hb1)
          clear hb1
          have e0 := B7.cells2.1.1
          have e1 := B7.cells2.1.2
          go_wp2_with fail
          go_ret
          exact ⟨rfl, HB.out⟩
        | true =>
          rw [he] at HRt
          have HC : Hid (soundL (l0.drop (x + 1)) fr al true = r) := Lib.hid (by
            rw [← HS.out]
            simp [soundL, he])
          clear HS
          go_wp2_with fail
          refine at_world (fun W => Blk W wr.heap.size #[.int .i64 5, .int .i64 q1] 26 ∧ Aside0 (BMap W w.heap.size x fr) ∧ Aside0 (Below w.heap.size w W)) ⟨Blk.new _ _ _, ⟨HM.out.below (below_alloc (Below.refl _ _) _)⟩, ⟨below_alloc HB.out _⟩⟩ ?_
          clear HM HB hx0 hx1
          rintro W ⟨B7, HM, HB⟩
          generalize wr.heap.size = g7 at *
          refine (HRt.out W).mono ?_
          rintro e w1 ⟨rfl, hb1⟩
          replace B7 := B7.below hb1
          replace HM := Aside0.mk (HM.out.below hb1)
          replace HB := Aside0.mk (below_step HB.out hb1)
          clear hb1
          have e0 := B7.cells2.1.1
          have e1 := B7.cells2.1.2
          go_wp2_with fail
          go_roundg kk
          case measure => omega
          case rel => exact ⟨x + 1, al, true, fr, by simp [wx], by first | rfl | simp [wa], rfl, ⟨by have := HX.out; omega⟩, ⟨by have := HA.out; omega, by have := HA.out; omega⟩, ⟨HC.out⟩, ⟨HM.out.mono (Nat.le_succ x)⟩, ⟨HB.out⟩⟩
      by_cases k6 : q0 = 6
      · subst k6
        cases he : evB 6 q1 with
        | false =>
          rw [he] at HRt
          have hr : r = false := by
            rw [← HS.out]
            simp [soundL, he]
          subst hr
          clear HS
          go_wp2_with fail
          refine at_world (fun W => Blk W wr.heap.size #[.int .i64 6, .int .i64 q1] 26 ∧ Aside0 (BMap W w.heap.size x fr) ∧ Aside0 (Below w.heap.size w W)) ⟨Blk.new _ _ _, ⟨HM.out.below (below_alloc (Below.refl _ _) _)⟩, ⟨below_alloc HB.out _⟩⟩ ?_
          clear HM HB hx0 hx1
          rintro W ⟨B7, HM, HB⟩
          generalize wr.heap.size = g7 at *
          refine (HRt.out W).mono ?_
          rintro e w1 ⟨rfl, hb1⟩
          replace B7 := B7.below hb1
          replace HM := Aside0.mk (HM.out.below hb1)
          replace HB := Aside0.mk (below_step HB.out hb1)
          clear hb1
          have e0 := B7.cells2.1.1
          have e1 := B7.cells2.1.2
          go_wp2_with fail
          go_ret
          exact ⟨rfl, HB.out⟩
        | true =>
          rw [he] at HRt
          cases pa with
          | true =>
            have HC : Hid (soundL (l0.drop (x + 1)) fr al false = r) := Lib.hid (by
              rw [← HS.out]
              simp [soundL, he])
            clear HS
            go_wp2_with fail
            refine at_world (fun W => Blk W wr.heap.size #[.int .i64 6, .int .i64 q1] 26 ∧ Aside0 (BMap W w.heap.size x fr) ∧ Aside0 (Below w.heap.size w W)) ⟨Blk.new _ _ _, ⟨HM.out.below (below_alloc (Below.refl _ _) _)⟩, ⟨below_alloc HB.out _⟩⟩ ?_
            clear HM HB hx0 hx1
            rintro W ⟨B7, HM, HB⟩
            generalize wr.heap.size = g7 at *
            refine (HRt.out W).mono ?_
            rintro e w1 ⟨rfl, hb1⟩
            replace B7 := B7.below hb1
            replace HM := Aside0.mk (HM.out.below hb1)
            replace HB := Aside0.mk (below_step HB.out hb1)
            clear hb1
            have e0 := B7.cells2.1.1
            have e1 := B7.cells2.1.2
            go_wp2_with fail
            go_roundg kk
            case measure => omega
            case rel => exact ⟨x + 1, al, false, fr, by simp [wx], by first | rfl | simp [wa], rfl, ⟨by have := HX.out; omega⟩, ⟨by have := HA.out; omega, by have := HA.out; omega⟩, ⟨HC.out⟩, ⟨HM.out.mono (Nat.le_succ x)⟩, ⟨HB.out⟩⟩
          | false =>
            have hr : r = false := by
              rw [← HS.out]
              simp [soundL, he]
            subst hr
            clear HS
            go_wp2_with fail
            refine at_world (fun W => Blk W wr.heap.size #[.int .i64 6, .int .i64 q1] 26 ∧ Aside0 (BMap W w.heap.size x fr) ∧ Aside0 (Below w.heap.size w W)) ⟨Blk.new _ _ _, ⟨HM.out.below (below_alloc (Below.refl _ _) _)⟩, ⟨below_alloc HB.out _⟩⟩ ?_
            clear HM HB hx0 hx1
            rintro W ⟨B7, HM, HB⟩
            generalize wr.heap.size = g7 at *
            refine (HRt.out W).mono ?_
            rintro e w1 ⟨rfl, hb1⟩
            replace B7 := B7.below hb1
            replace HM := Aside0.mk (HM.out.below hb1)
            replace HB := Aside0.mk (below_step HB.out hb1)
            clear hb1
            have e0 := B7.cells2.1.1
            have e1 := B7.cells2.1.2
            go_wp2_with fail
            go_ret
            exact ⟨rfl, HB.out⟩
      by_cases k7 : q0 = 7
      · subst k7
        cases he : evB 7 q1 with
        | false =>
          rw [he] at HRt
          have hr : r = false := by
            rw [← HS.out]
            simp [soundL, he]
          subst hr
          clear HS
          go_wp2_with fail
          refine at_world (fun W => Blk W wr.heap.size #[.int .i64 7, .int .i64 q1] 26 ∧ Aside0 (BMap W w.heap.size x fr) ∧ Aside0 (Below w.heap.size w W)) ⟨Blk.new _ _ _, ⟨HM.out.below (below_alloc (Below.refl _ _) _)⟩, ⟨below_alloc HB.out _⟩⟩ ?_
          clear HM HB hx0 hx1
          rintro W ⟨B7, HM, HB⟩
          generalize wr.heap.size = g7 at *
          refine (HRt.out W).mono ?_
          rintro e w1 ⟨rfl, hb1⟩
          replace B7 := B7.below hb1
          replace HM := Aside0.mk (HM.out.below hb1)
          replace HB := Aside0.mk (below_step HB.out hb1)
          clear hb1
          have e0 := B7.cells2.1.1
          have e1 := B7.cells2.1.2
          go_wp2_with fail
          go_ret
          exact ⟨rfl, HB.out⟩
        | true =>
          rw [he] at HRt
          by_cases c : x + 1 = l0.length
          · have b1 : ((x : Int) == (l0.length : Int) - 1) = true := beq_iff_eq.2 (by omega)
            have hdn : l0.drop (x + 1) = [] := List.drop_eq_nil_of_le (by omega)
            have HC : Hid (soundL (l0.drop (x + 1)) fr al pa = r) := Lib.hid (by
              rw [← HS.out]
              simp [soundL, he, hdn])
            clear HS hdn c
            go_wp2_with fail
            refine at_world (fun W => Blk W wr.heap.size #[.int .i64 7, .int .i64 q1] 26 ∧ Aside0 (BMap W w.heap.size x fr) ∧ Aside0 (Below w.heap.size w W)) ⟨Blk.new _ _ _, ⟨HM.out.below (below_alloc (Below.refl _ _) _)⟩, ⟨below_alloc HB.out _⟩⟩ ?_
            clear HM HB hx0 hx1
            rintro W ⟨B7, HM, HB⟩
            generalize wr.heap.size = g7 at *
            refine (HRt.out W).mono ?_
            rintro e w1 ⟨rfl, hb1⟩
            replace B7 := B7.below hb1
            replace HM := Aside0.mk (HM.out.below hb1)
            replace HB := Aside0.mk (below_step HB.out hb1)
            clear hb1
            have e0 := B7.cells2.1.1
            have e1 := B7.cells2.1.2
            go_wp2_with fail
            go_roundg kk
            case measure => omega
            case rel => exact ⟨x + 1, al, pa, fr, by simp [wx], by first | rfl | simp [wa], rfl, ⟨by have := HX.out; omega⟩, ⟨by have := HA.out; omega, by have := HA.out; omega⟩, ⟨HC.out⟩, ⟨HM.out.mono (Nat.le_succ x)⟩, ⟨HB.out⟩⟩
          · have b1 : ((x : Int) == (l0.length : Int) - 1) = false := beq_eq_false_iff_ne.2 (by omega)
            have hdn : (l0.drop (x + 1)).isEmpty = false := by
              cases hd : l0.drop (x + 1) with
              | nil => exact absurd (List.drop_eq_nil_iff.1 hd) (by have := HX.out; omega)
              | cons a l => rfl
            have hr : r = false := by
              rw [← HS.out]
              simp [soundL, he, hdn]
            subst hr
            clear HS hdn c
            go_wp2_with fail
            refine at_world (fun W => Blk W wr.heap.size #[.int .i64 7, .int .i64 q1] 26 ∧ Aside0 (BMap W w.heap.size x fr) ∧ Aside0 (Below w.heap.size w W)) ⟨Blk.new _ _ _, ⟨HM.out.below (below_alloc (Below.refl _ _) _)⟩, ⟨below_alloc HB.out _⟩⟩ ?_
            clear HM HB hx0 hx1
            rintro W ⟨B7, HM, HB⟩
            generalize wr.heap.size = g7 at *
            refine (HRt.out W).mono ?_
            rintro e w1 ⟨rfl, hb1⟩
            replace B7 := B7.below hb1
            replace HM := Aside0.mk (HM.out.below hb1)
            replace HB := Aside0.mk (below_step HB.out hb1)
            clear hb1
            have e0 := B7.cells2.1.1
            have e1 := B7.cells2.1.2
            go_wp2_with fail
            go_ret
            exact ⟨rfl, HB.out⟩
      have he : evB q0 q1 = false := by
        cases he : evB q0 q1 with
        | false => rfl
        | true => rcases evB_cases he with h | h | h | h | h | h | h <;> omega
      rw [he] at HRt
      have d1 : (q0 == 1) = false := beq_eq_false_iff_ne.2 k1
      have d2 : (q0 == 2) = false := beq_eq_false_iff_ne.2 k2
      have d3 : (q0 == 3) = false := beq_eq_false_iff_ne.2 k3
      have d4 : (q0 == 4) = false := beq_eq_false_iff_ne.2 k4
      have d5 : (q0 == 5) = false := beq_eq_false_iff_ne.2 k5
      have d6 : (q0 == 6) = false := beq_eq_false_iff_ne.2 k6
      have d7 : (q0 == 7) = false := beq_eq_false_iff_ne.2 k7
      have hr : r = false := by
        rw [← HS.out]
        simp [soundL, he]
      subst hr
      clear HS k1 k2 k3 k4 k5 k6 k7
      go_wp2_with fail
      refine at_world (fun W => Blk W wr.heap.size #[.int .i64 q0, .int .i64 q1] 26 ∧ Aside0 (BMap W w.heap.size x fr) ∧ Aside0 (Below w.heap.size w W)) ⟨Blk.new _ _ _, ⟨HM.out.below (below_alloc (Below.refl _ _) _)⟩, ⟨below_alloc HB.out _⟩⟩ ?_
      clear HM HB hx0 hx1
      rintro W ⟨B7, HM, HB⟩
      generalize wr.heap.size = g7 at *
      refine (HRt.out W).mono ?_
      rintro e w1 ⟨rfl, hb1⟩
      replace B7 := B7.below hb1
      replace HM := Aside0.mk (HM.out.below hb1)
      replace HB := Aside0.mk (below_step HB.out hb1)
      clear hb1
      have e0 := B7.cells2.1.1
      have e1 := B7.cells2.1.2
      go_wp2_with fail
      go_ret
      exact ⟨rfl, HB.out⟩
end Go.Proofs.YtlkppkmfpinocaaDoor.PT
