/- Package parse: the words of statements and of ends, as maps; what asks them. Package parse's reader: next at the closures of value and ending; ending. Package parse's reader: value. Package parse's reader: stmt. -/
import Derived.Test.YtmgkejobolgkmaaGreatDoorPaOne
import Derived.Maps.OwnSet
import Derived.Maps.OwnOps
import Derived.Maps.Views
import Derived.Carry
namespace Go.Proofs.YtmgkejobolgkmaaGreatDoor.PL
section
open Go Go.RowKit Go.Proofs.YtmgkejobolgkmaaGreatDoorW.PrintWords Go.Proofs.YtmgkejobolgkmaaGreatDoorW.PrintLast Go.Proofs.YtmgkejobolgkmaaGreatDoorW.PrintMore
open Go.Maps
set_option linter.unusedVariables false
set_option linter.unusedSimpArgs false

theorem below_put {A C D : World} (h : Below A.heap.size A C) (k : C.grownBy D (some A.heap.size)) : Below A.heap.size A D :=
  ⟨k.os.trans h.os, k.tape.trans h.tape, k.output.trans h.output, Nat.le_trans h.size k.size, fun q hq => (k.block q (Nat.lt_of_lt_of_le hq h.size) (fun e => by cases e; exact absurd hq (Nat.lt_irrefl _))).trans (h.block q hq)⟩
theorem keyS {s : ByteArray} (h : s.size ≤ 1000000) : keyOf Tryz.prog 9 (.string s) = some (.string s.data.toList) := by
  have : s.size ≤ maxLen := by unfold maxLen; omega
  simp [keyOf, Tryz.underlying9, mapKey, this]
theorem keyLitS (x : List UInt8) : WideAt.IsKeyLit (.string x) := by trivial
theorem i64_wf {x : Int} (h0 : -9223372036854775808 ≤ x) (h1 : x ≤ 9223372036854775807) : (Lit.int .i64 x).wf = true := by
  simp only [Lit.wf, Bool.and_eq_true, decide_eq_true_eq]
  exact ⟨h0, h1⟩
/-- numbers by texts -/
def SMap (w : World) (b n : Nat) (f : List UInt8 → Int) : Prop :=
  ∃ D : DataW Unit, w.ownsMap Tryz.prog 9 (plainElem Tryz.prog 3) b n D ∧ ∀ x, D.atKey (.string x) (.lit (.int .i64 0)) = .lit (.int .i64 (f x))
theorem SMap.new (w : World) : SMap (w.alloc (.map #[] 0)) w.heap.size 0 (fun _ => 0) := ⟨_, World.ownsMap_made _ _ _ _, fun x => rfl⟩
theorem SMap.below {w w' : World} {b n : Nat} {f : List UInt8 → Int} (h : SMap w b n f) (hb : Below w.heap.size w w') : SMap w' b n f := by
  obtain ⟨D, h1, h2⟩ := h
  exact ⟨D, h1.kept (row := none) ⟨hb.os, hb.tape, hb.output, hb.size, fun k hk _ => hb.block k hk⟩ (by simp), h2⟩
theorem SMap.kept {w w' : World} {b n : Nat} {f : List UInt8 → Int} {row : Option Nat} (h : SMap w b n f) (hg : w.grownBy w' row) (hne : some b ≠ row) : SMap w' b n f := by
  obtain ⟨D, h1, h2⟩ := h
  exact ⟨D, h1.kept hg hne, h2⟩
theorem SMap.lt {w : World} {b n : Nat} {f : List UInt8 → Int} (h : SMap w b n f) : b < w.heap.size := by
  obtain ⟨D, h1, h2⟩ := h
  exact h1.lt
theorem SMap.isMap {w : World} {b n : Nat} {f : List UInt8 → Int} (h : SMap w b n f) : ∃ es c, w.heap[b]? = some (.map es c) := by
  obtain ⟨D, ⟨es, c, h1, _⟩, h2⟩ := h
  exact ⟨es, c, h1⟩
theorem SMap.congr {w : World} {b n : Nat} {f g : List UInt8 → Int} (h : SMap w b n f) (hfg : ∀ l, f l = g l) : SMap w b n g := by
  obtain ⟨D, h1, h2⟩ := h
  exact ⟨D, h1, fun x => by rw [← hfg x]; exact h2 x⟩
theorem SMap.look {w : World} {b n : Nat} {f : List UInt8 → Int} (h : SMap w b n f) (s : ByteArray) (hs : s.size ≤ 1000000) :
    (Instr.lookup 184 (.map (some b)) (.string s) false).run Tryz.prog w = .ok (.int .i64 (f s.data.toList)) w := by
  obtain ⟨D, h1, h2⟩ := h
  obtain ⟨c, hrun, hat, _⟩ := h1.lookup_int (string_keyed Tryz.underlying9) Tryz.underlying184 Tryz.underlying3 (Tryz.zeroValue3 w) (keyS hs)
  rw [h2 s.data.toList] at hat
  simp only [DataW.lit.injEq, Lit.int.injEq, true_and] at hat
  rw [hrun, hat]
def setS (f : List UInt8 → Int) (x : List UInt8) (y : Int) : List UInt8 → Int := fun z => if z = x then y else f z
theorem SMap.store {w : World} {b n : Nat} {f : List UInt8 → Int} (h : SMap w b n f) (x : ByteArray) (y : Int) (hx : x.size ≤ 1000000) (hy : -9223372036854775808 ≤ y ∧ y ≤ 9223372036854775807) (hn : n < 1000000) :
    ∃ w', (Instr.mapUpdate 184 (.map (some b)) (.string x) (.int .i64 y)).run Tryz.prog w = .ok () w' ∧ SMap w' b (n + 1) (setS f x.data.toList y) ∧ w.grownBy w' (some b) := by
  obtain ⟨D, h1, h2⟩ := h
  obtain ⟨w', hr, ho, hg⟩ := h1.update (string_keyed Tryz.underlying9) Tryz.underlying184 (by unfold maxLen; omega) (keyS hx) (plainElem_int Tryz.underlying3 (i64_wf hy.1 hy.2))
  refine ⟨w', hr, ⟨_, ho, fun z => ?_⟩, hg⟩
  unfold setS
  by_cases hz : z = x.data.toList
  · subst hz
    rw [if_pos rfl]
    exact atKey_put_same h1.isMap (keyLitS _) _ _
  · rw [if_neg hz]
    have hne : (Lit.string z) ≠ (Lit.string x.data.toList) := by intro e; cases e; exact hz rfl
    rw [atKey_put_other hne]
    exact h2 z
theorem ends_fun (l : List UInt8) : (setS (setS (setS (setS (setS (setS (setS (fun _ => 0) [103, 111, 116, 111] 1) [105, 102] 2) [109, 97, 116, 99, 104] 3) [99, 104, 101, 99, 107] 4) [99, 97, 108, 108] 5) [99, 97, 116, 99, 104] 6) [114, 101, 116, 117, 114, 110] 7) l = endsK ⟨l.toArray⟩ := by
  have e : (⟨l.toArray⟩ : ByteArray).data.toList = l := rfl
  unfold endsK setS
  rw [e]
  by_cases c1 : l = [103, 111, 116, 111]
  · subst c1; decide
  by_cases c2 : l = [105, 102]
  · subst c2; decide
  by_cases c3 : l = [109, 97, 116, 99, 104]
  · subst c3; decide
  by_cases c4 : l = [99, 104, 101, 99, 107]
  · subst c4; decide
  by_cases c5 : l = [99, 97, 108, 108]
  · subst c5; decide
  by_cases c6 : l = [99, 97, 116, 99, 104]
  · subst c6; decide
  by_cases c7 : l = [114, 101, 116, 117, 114, 110]
  · subst c7; decide
  simp only [c1, c2, c3, c4, c5, c6, c7, if_false]
set_option maxHeartbeats 4000000 in
set_option maxRecDepth 100000 in
theorem ends_calls (W : World) : Calls Tryz.prog 163 #[] W fun e W' => ∃ m, e = .returned (.map (some m)) ∧ (∃ n, SMap W' m n (fun l => endsK ⟨l.toArray⟩)) ∧ Below W.heap.size W W' := by
  have h0 := SMap.new W
  have g0 := below_alloc (Below.refl W.heap.size W) (.map #[] 0)
  generalize hw0 : W.alloc (.map #[] 0) = w0 at h0 g0
  obtain ⟨w1, r1, h1, g1⟩ := h0.store ⟨#[103, 111, 116, 111]⟩ 1 (by decide) (by decide) (by decide)
  obtain ⟨w2, r2, h2, g2⟩ := h1.store ⟨#[105, 102]⟩ 2 (by decide) (by decide) (by decide)
  obtain ⟨w3, r3, h3, g3⟩ := h2.store ⟨#[109, 97, 116, 99, 104]⟩ 3 (by decide) (by decide) (by decide)
  obtain ⟨w4, r4, h4, g4⟩ := h3.store ⟨#[99, 104, 101, 99, 107]⟩ 4 (by decide) (by decide) (by decide)
  obtain ⟨w5, r5, h5, g5⟩ := h4.store ⟨#[99, 97, 108, 108]⟩ 5 (by decide) (by decide) (by decide)
  obtain ⟨w6, r6, h6, g6⟩ := h5.store ⟨#[99, 97, 116, 99, 104]⟩ 6 (by decide) (by decide) (by decide)
  obtain ⟨w7, r7, h7, g7⟩ := h6.store ⟨#[114, 101, 116, 117, 114, 110]⟩ 7 (by decide) (by decide) (by decide)
  have HB := Lib.hid (show Below W.heap.size W w7 from below_put g0 (grown_trans (grown_trans (grown_trans (grown_trans (grown_trans (grown_trans (g1) g2) g3) g4) g5) g6) g7))
  have HM := Lib.hid h7
  have hmm := @run_makeMap Tryz.prog
  rw [← hw0] at r1
  clear hw0 h0 g0 h1 h2 h3 h4 h5 h6 h7 g1 g2 g3 g4 g5 g6 g7
  go_enter Tryz.func163, Tryz.ntmps163
  go_wp2_with fail
  go_ret
  exact ⟨_, rfl, ⟨_, HM.out.congr ends_fun⟩, HB.out⟩
theorem made_fun (l : List UInt8) : (setS (setS (setS (setS (setS (setS (setS (setS (setS (fun _ => 0) [97, 100, 100] 2) [115, 117, 98] 3) [108, 101, 115, 115] 4) [117, 115, 101] 5) [98, 111, 120] 6) [110, 101, 119] 7) [116, 97, 103] 8) [114, 101, 102] 9) [109, 117, 116] 10) l = madeK ⟨l.toArray⟩ := by
  have e : (⟨l.toArray⟩ : ByteArray).data.toList = l := rfl
  unfold madeK setS
  rw [e]
  by_cases c2 : l = [97, 100, 100]
  · subst c2; decide
  by_cases c3 : l = [115, 117, 98]
  · subst c3; decide
  by_cases c4 : l = [108, 101, 115, 115]
  · subst c4; decide
  by_cases c5 : l = [117, 115, 101]
  · subst c5; decide
  by_cases c6 : l = [98, 111, 120]
  · subst c6; decide
  by_cases c7 : l = [110, 101, 119]
  · subst c7; decide
  by_cases c8 : l = [116, 97, 103]
  · subst c8; decide
  by_cases c9 : l = [114, 101, 102]
  · subst c9; decide
  by_cases c10 : l = [109, 117, 116]
  · subst c10; decide
  simp only [c2, c3, c4, c5, c6, c7, c8, c9, c10, if_false]
set_option maxHeartbeats 4000000 in
set_option maxRecDepth 100000 in
theorem made_calls (W : World) : Calls Tryz.prog 190 #[] W fun e W' => ∃ m, e = .returned (.map (some m)) ∧ (∃ n, SMap W' m n (fun l => madeK ⟨l.toArray⟩)) ∧ Below W.heap.size W W' := by
  have h0 := SMap.new W
  have g0 := below_alloc (Below.refl W.heap.size W) (.map #[] 0)
  generalize hw0 : W.alloc (.map #[] 0) = w0 at h0 g0
  obtain ⟨w1, r1, h1, g1⟩ := h0.store ⟨#[97, 100, 100]⟩ 2 (by decide) (by decide) (by decide)
  obtain ⟨w2, r2, h2, g2⟩ := h1.store ⟨#[115, 117, 98]⟩ 3 (by decide) (by decide) (by decide)
  obtain ⟨w3, r3, h3, g3⟩ := h2.store ⟨#[108, 101, 115, 115]⟩ 4 (by decide) (by decide) (by decide)
  obtain ⟨w4, r4, h4, g4⟩ := h3.store ⟨#[117, 115, 101]⟩ 5 (by decide) (by decide) (by decide)
  obtain ⟨w5, r5, h5, g5⟩ := h4.store ⟨#[98, 111, 120]⟩ 6 (by decide) (by decide) (by decide)
  obtain ⟨w6, r6, h6, g6⟩ := h5.store ⟨#[110, 101, 119]⟩ 7 (by decide) (by decide) (by decide)
  obtain ⟨w7, r7, h7, g7⟩ := h6.store ⟨#[116, 97, 103]⟩ 8 (by decide) (by decide) (by decide)
  obtain ⟨w8, r8, h8, g8⟩ := h7.store ⟨#[114, 101, 102]⟩ 9 (by decide) (by decide) (by decide)
  obtain ⟨w9, r9, h9, g9⟩ := h8.store ⟨#[109, 117, 116]⟩ 10 (by decide) (by decide) (by decide)
  have HB := Lib.hid (show Below W.heap.size W w9 from below_put g0 (grown_trans (grown_trans (grown_trans (grown_trans (grown_trans (grown_trans (grown_trans (grown_trans (g1) g2) g3) g4) g5) g6) g7) g8) g9))
  have HM := Lib.hid h9
  have hmm := @run_makeMap Tryz.prog
  rw [← hw0] at r1
  clear hw0 h0 g0 h1 h2 h3 h4 h5 h6 h7 h8 h9 g1 g2 g3 g4 g5 g6 g7 g8 g9
  go_enter Tryz.func190, Tryz.ntmps190
  go_wp2_with fail
  go_ret
  exact ⟨_, rfl, ⟨_, HM.out.congr made_fun⟩, HB.out⟩
set_option maxRecDepth 100000 in
theorem value1_calls (t : Tok) (W : World) : Calls Tryz.prog 188 #[t.val] W fun e W' => e = .returned (.bool (numP t)) ∧ Below W.heap.size W W' := by
  go_enter Tryz.func188, Tryz.ntmps188
  go_wp2_with fail
  go_ret
  exact ⟨rfl, below_alloc (Below.refl _ _) _⟩
set_option maxHeartbeats 2000000 in
set_option maxRecDepth 100000 in
theorem ending1_calls (t : Tok) (W : World) (ht : t.f2.size ≤ 1000000) : Calls Tryz.prog 162 #[t.val] W fun e W' => e = .returned (.bool (endsP t)) ∧ Below W.heap.size W W' := by
  have HT := Lib.hid ht
  clear ht
  go_enter Tryz.func162, Tryz.ntmps162
  go_wp2_with fail
  refine code_at (fun V => Blk V W.heap.size #[.int .i64 t.f0, .int .i64 t.f1, .string t.f2, .int .i64 t.f3] 42 ∧ Below W.heap.size W V) ⟨Blk.new _ _ _, below_alloc (Below.refl _ _) _⟩ ?_
  rintro V ⟨HB, hb⟩
  have HBl := Lib.hid hb
  obtain ⟨⟨b0, b1, b2, b3⟩, -⟩ := HB.cells4
  have HK := Lib.hid HB
  clear hb HB
  go_region_law (first
    | (go_simp; refine (ends_calls _).mono ?_; rintro e V1 ⟨m, rfl, ⟨n, hm⟩, hb1⟩; have hlk := hm.look t.f2 HT.out; have b2' : V1.cell? ⟨W.heap.size, 2, none⟩ = some (.string t.f2) := (HK.out.drew.below hb1).cells4.1.2.2.1; have HBl1 := Lib.hid (below_step HBl.out.drew hb1); clear hm hb1))
  all_goals
    go_wp2_with fail
    go_ret
    exact ⟨rfl, HBl1.out⟩

set_option maxHeartbeats 2000000 in
set_option maxRecDepth 100000 in
theorem value2_calls (t : Tok) (W : World) (ht : t.f2.size ≤ 1000000) : Calls Tryz.prog 189 #[t.val] W fun e W' => e = .returned (.bool (madeP t)) ∧ Below W.heap.size W W' := by
  have HT := Lib.hid ht
  clear ht
  go_enter Tryz.func189, Tryz.ntmps189
  go_wp2_with fail
  refine code_at (fun V => Blk V W.heap.size #[.int .i64 t.f0, .int .i64 t.f1, .string t.f2, .int .i64 t.f3] 42 ∧ Below W.heap.size W V) ⟨Blk.new _ _ _, below_alloc (Below.refl _ _) _⟩ ?_
  rintro V ⟨HB, hb⟩
  have HBl := Lib.hid hb
  obtain ⟨⟨b0, b1, b2, b3⟩, -⟩ := HB.cells4
  have HK := Lib.hid HB
  clear hb HB
  go_region_law (first
    | (go_simp; refine (made_calls _).mono ?_; rintro e V1 ⟨m, rfl, ⟨n, hm⟩, hb1⟩; have hlk := hm.look t.f2 HT.out; have b2' : V1.cell? ⟨W.heap.size, 2, none⟩ = some (.string t.f2) := (HK.out.drew.below hb1).cells4.1.2.2.1; have HBl1 := Lib.hid (below_step HBl.out.drew hb1); clear hm hb1))
  all_goals
    go_wp2_with fail
    go_ret
    exact ⟨rfl, HBl1.out⟩
end
section
open Go Go.RowKit Go.Proofs.YtmgkejobolgkmaaGreatDoorW.PrintWords Go.Proofs.YtmgkejobolgkmaaGreatDoorW.PrintLast Go.Proofs.YtmgkejobolgkmaaGreatDoorW.PrintMore
set_option linter.unusedVariables false
set_option linter.unusedSimpArgs false

set_option maxHeartbeats 2000000 in
set_option maxRecDepth 100000 in
theorem next_value1 (p : Tok → Bool) (w0 W : World) (B : Nat) (s : Rd) (h : RdIn w0 W B s) (hS : ∀ (t : Tok), t ∈ s.toks → Calls Tryz.prog 188 #[t.val] W fun e W' => e = .returned (.bool (p t)) ∧ Below W.heap.size W W') :
    Calls Tryz.prog 94 #[.pointer (some ⟨B, 0, none⟩), .func (.func 188) #[] #[]] W fun e W' => e = .returned (.bool (s.next p)) ∧ Below W.heap.size W W' := by
  obtain ⟨A, c, hb, hC, hc, hbl, hB, hl⟩ := h
  obtain ⟨r, hr⟩ : ∃ r, r = s.next p := ⟨_, rfl⟩
  rw [← hr]
  obtain ⟨toks, fin, bad, much⟩ := s
  unfold Rd.next at hr
  simp only at hr
  obtain ⟨⟨d0, d1, d2, d3⟩, -⟩ := hb.cells4
  have HSx := Lib.hid hS
  clear hS
  by_cases hbad : bad = -1
  · subst hbad
    cases toks with
    | nil =>
      have HR : Hid (r = false) := Lib.hid (by rw [hr]; rfl)
      clear hb hC hc hbl hB hl hr
      go_enter Tryz.func94, Tryz.ntmps94
      go_wp2_with fail
      go_ret
      exact ⟨by rw [HR.out]; rfl, Below.refl _ _⟩
    | cons t l =>
      have HR : Hid (r = p t) := Lib.hid (by rw [hr]; rfl)
      obtain ⟨ad, rfl, x0, x1, x2, x3⟩ := RdIn.head hC hbl
      obtain ⟨n, hn⟩ : ∃ n, n = (t :: l).length := ⟨_, rfl⟩
      have hpos : 0 < n := by rw [hn]; simp
      simp only at d0
      rw [← hn] at d0
      have q1 : decide ((n : Int) > 0) = true := decide_eq_true (by omega)
      have q4 : decide ((0 : Int) < (n : Int)) = true := decide_eq_true (by omega)
      have q5 : decide (0 < n) = true := decide_eq_true hpos
      have q2 : ((0 : Int) < (n : Int)) = True := eq_true (by omega)
      have q3 : (0 < n) = True := eq_true hpos
      clear hb hC hc hbl hB hl hn hpos hr
      go_enter Tryz.func94, Tryz.ntmps94
      go_wp2_with fail
      refine (HSx.out t List.mem_cons_self).mono ?_
      rintro e W1 ⟨rfl, hb⟩
      go_wp2_with fail
      go_ret
      exact ⟨by rw [HR.out]; rfl, hb⟩
  · have HR : Hid (r = false) := Lib.hid (by rw [hr, decide_eq_false hbad]; rfl)
    have hb1 : (bad == -1) = false := by rw [beq_eq_false_iff_ne]; omega
    clear hb hC hc hbl hB hl hr hbad
    go_enter Tryz.func94, Tryz.ntmps94
    go_wp2_with fail
    go_ret
    exact ⟨by rw [HR.out]; rfl, Below.refl _ _⟩
set_option maxHeartbeats 2000000 in
set_option maxRecDepth 100000 in
theorem next_value2 (p : Tok → Bool) (w0 W : World) (B : Nat) (s : Rd) (h : RdIn w0 W B s) (hS : ∀ (t : Tok), t ∈ s.toks → Calls Tryz.prog 189 #[t.val] W fun e W' => e = .returned (.bool (p t)) ∧ Below W.heap.size W W') :
    Calls Tryz.prog 94 #[.pointer (some ⟨B, 0, none⟩), .func (.func 189) #[] #[]] W fun e W' => e = .returned (.bool (s.next p)) ∧ Below W.heap.size W W' := by
  obtain ⟨A, c, hb, hC, hc, hbl, hB, hl⟩ := h
  obtain ⟨r, hr⟩ : ∃ r, r = s.next p := ⟨_, rfl⟩
  rw [← hr]
  obtain ⟨toks, fin, bad, much⟩ := s
  unfold Rd.next at hr
  simp only at hr
  obtain ⟨⟨d0, d1, d2, d3⟩, -⟩ := hb.cells4
  have HSx := Lib.hid hS
  clear hS
  by_cases hbad : bad = -1
  · subst hbad
    cases toks with
    | nil =>
      have HR : Hid (r = false) := Lib.hid (by rw [hr]; rfl)
      clear hb hC hc hbl hB hl hr
      go_enter Tryz.func94, Tryz.ntmps94
      go_wp2_with fail
      go_ret
      exact ⟨by rw [HR.out]; rfl, Below.refl _ _⟩
    | cons t l =>
      have HR : Hid (r = p t) := Lib.hid (by rw [hr]; rfl)
      obtain ⟨ad, rfl, x0, x1, x2, x3⟩ := RdIn.head hC hbl
      obtain ⟨n, hn⟩ : ∃ n, n = (t :: l).length := ⟨_, rfl⟩
      have hpos : 0 < n := by rw [hn]; simp
      simp only at d0
      rw [← hn] at d0
      have q1 : decide ((n : Int) > 0) = true := decide_eq_true (by omega)
      have q4 : decide ((0 : Int) < (n : Int)) = true := decide_eq_true (by omega)
      have q5 : decide (0 < n) = true := decide_eq_true hpos
      have q2 : ((0 : Int) < (n : Int)) = True := eq_true (by omega)
      have q3 : (0 < n) = True := eq_true hpos
      clear hb hC hc hbl hB hl hn hpos hr
      go_enter Tryz.func94, Tryz.ntmps94
      go_wp2_with fail
      refine (HSx.out t List.mem_cons_self).mono ?_
      rintro e W1 ⟨rfl, hb⟩
      go_wp2_with fail
      go_ret
      exact ⟨by rw [HR.out]; rfl, hb⟩
  · have HR : Hid (r = false) := Lib.hid (by rw [hr, decide_eq_false hbad]; rfl)
    have hb1 : (bad == -1) = false := by rw [beq_eq_false_iff_ne]; omega
    clear hb hC hc hbl hB hl hr hbad
    go_enter Tryz.func94, Tryz.ntmps94
    go_wp2_with fail
    go_ret
    exact ⟨by rw [HR.out]; rfl, Below.refl _ _⟩
set_option maxHeartbeats 2000000 in
set_option maxRecDepth 100000 in
theorem next_ending1 (p : Tok → Bool) (w0 W : World) (B : Nat) (s : Rd) (h : RdIn w0 W B s) (hS : ∀ (t : Tok), t ∈ s.toks → Calls Tryz.prog 162 #[t.val] W fun e W' => e = .returned (.bool (p t)) ∧ Below W.heap.size W W') :
    Calls Tryz.prog 94 #[.pointer (some ⟨B, 0, none⟩), .func (.func 162) #[] #[]] W fun e W' => e = .returned (.bool (s.next p)) ∧ Below W.heap.size W W' := by
  obtain ⟨A, c, hb, hC, hc, hbl, hB, hl⟩ := h
  obtain ⟨r, hr⟩ : ∃ r, r = s.next p := ⟨_, rfl⟩
  rw [← hr]
  obtain ⟨toks, fin, bad, much⟩ := s
  unfold Rd.next at hr
  simp only at hr
  obtain ⟨⟨d0, d1, d2, d3⟩, -⟩ := hb.cells4
  have HSx := Lib.hid hS
  clear hS
  by_cases hbad : bad = -1
  · subst hbad
    cases toks with
    | nil =>
      have HR : Hid (r = false) := Lib.hid (by rw [hr]; rfl)
      clear hb hC hc hbl hB hl hr
      go_enter Tryz.func94, Tryz.ntmps94
      go_wp2_with fail
      go_ret
      exact ⟨by rw [HR.out]; rfl, Below.refl _ _⟩
    | cons t l =>
      have HR : Hid (r = p t) := Lib.hid (by rw [hr]; rfl)
      obtain ⟨ad, rfl, x0, x1, x2, x3⟩ := RdIn.head hC hbl
      obtain ⟨n, hn⟩ : ∃ n, n = (t :: l).length := ⟨_, rfl⟩
      have hpos : 0 < n := by rw [hn]; simp
      simp only at d0
      rw [← hn] at d0
      have q1 : decide ((n : Int) > 0) = true := decide_eq_true (by omega)
      have q4 : decide ((0 : Int) < (n : Int)) = true := decide_eq_true (by omega)
      have q5 : decide (0 < n) = true := decide_eq_true hpos
      have q2 : ((0 : Int) < (n : Int)) = True := eq_true (by omega)
      have q3 : (0 < n) = True := eq_true hpos
      clear hb hC hc hbl hB hl hn hpos hr
      go_enter Tryz.func94, Tryz.ntmps94
      go_wp2_with fail
      refine (HSx.out t List.mem_cons_self).mono ?_
      rintro e W1 ⟨rfl, hb⟩
      go_wp2_with fail
      go_ret
      exact ⟨by rw [HR.out]; rfl, hb⟩
  · have HR : Hid (r = false) := Lib.hid (by rw [hr, decide_eq_false hbad]; rfl)
    have hb1 : (bad == -1) = false := by rw [beq_eq_false_iff_ne]; omega
    clear hb hC hc hbl hB hl hr hbad
    go_enter Tryz.func94, Tryz.ntmps94
    go_wp2_with fail
    go_ret
    exact ⟨by rw [HR.out]; rfl, Below.refl _ _⟩
theorem num_at {w0 W0 W : World} {B : Nat} {s : Rd} (h : PS w0 W0 W B s) (hok : s.Ok) : Calls Tryz.prog 94 #[.pointer (some ⟨B, 0, none⟩), .func (.func 188) #[] #[]] W fun e W' => e = .returned (.bool (s.next numP)) ∧ PS w0 W0 W' B s ∧ W.grownBy W' (some B) := by
  refine (next_value1 numP w0 W B s h.r (fun t _ => value1_calls t W)).mono ?_
  rintro e W' ⟨he, hb⟩
  exact ⟨he, h.bel hb, grown_below hb⟩
theorem made_at {w0 W0 W : World} {B : Nat} {s : Rd} (h : PS w0 W0 W B s) (hok : s.Ok) : Calls Tryz.prog 94 #[.pointer (some ⟨B, 0, none⟩), .func (.func 189) #[] #[]] W fun e W' => e = .returned (.bool (s.next madeP)) ∧ PS w0 W0 W' B s ∧ W.grownBy W' (some B) := by
  refine (next_value2 madeP w0 W B s h.r (fun t ht => value2_calls t W (hok.tok t ht).1)).mono ?_
  rintro e W' ⟨he, hb⟩
  exact ⟨he, h.bel hb, grown_below hb⟩
theorem endw_at {w0 W0 W : World} {B : Nat} {s : Rd} (h : PS w0 W0 W B s) (hok : s.Ok) : Calls Tryz.prog 94 #[.pointer (some ⟨B, 0, none⟩), .func (.func 162) #[] #[]] W fun e W' => e = .returned (.bool (s.next endsP)) ∧ PS w0 W0 W' B s ∧ W.grownBy W' (some B) := by
  refine (next_ending1 endsP w0 W B s h.r (fun t ht => ending1_calls t W (hok.tok t ht).1)).mono ?_
  rintro e W' ⟨he, hb⟩
  exact ⟨he, h.bel hb, grown_below hb⟩
theorem ending_at {w0 W0 W : World} {B : Nat} {s : Rd} (h : PS w0 W0 W B s) (hok : s.Ok) : Calls Tryz.prog 137 #[.pointer (some ⟨B, 0, none⟩)] W fun e W' => e = .returned (.bool s.ending) ∧ PS w0 W0 W' B s ∧ W.grownBy W' (some B) := by
  have HN := Lib.hid (endw_at h hok)
  clear h hok
  obtain ⟨r, hr⟩ : ∃ r, r = s.ending := ⟨_, rfl⟩
  rw [← hr]
  have HR := Lib.hid hr
  clear hr
  go_enter Tryz.func137, Tryz.ntmps137
  go_wp2_with fail
  refine HN.out.mono ?_
  rintro e W1 ⟨rfl, hb⟩
  go_wp2_with fail
  go_ret
  exact ⟨by rw [HR.out]; rfl, hb⟩
end
section
open Go Go.RowKit Go.Proofs.YtmgkejobolgkmaaGreatDoorW.PrintWords Go.Proofs.YtmgkejobolgkmaaGreatDoorW.PrintLast Go.Proofs.YtmgkejobolgkmaaGreatDoorW.PrintMore
set_option linter.unusedVariables false
set_option linter.unusedSimpArgs false

theorem Blk.cells8 {W : World} {g t : Nat} {a b c d e f i j : Value} (h : Blk W g #[a, b, c, d, e, f, i, j] t) : (W.cell? ⟨g, 0, none⟩ = some a ∧ W.cell? ⟨g, 1, none⟩ = some b ∧ W.cell? ⟨g, 2, none⟩ = some c ∧ W.cell? ⟨g, 3, none⟩ = some d ∧ W.cell? ⟨g, 4, none⟩ = some e ∧ W.cell? ⟨g, 5, none⟩ = some f ∧ W.cell? ⟨g, 6, none⟩ = some i ∧ W.cell? ⟨g, 7, none⟩ = some j) ∧ W.frozen? ⟨g, 0, none⟩ = false ∧ W.frozen? ⟨g, 1, none⟩ = false ∧ W.frozen? ⟨g, 2, none⟩ = false ∧ W.frozen? ⟨g, 3, none⟩ = false ∧ W.frozen? ⟨g, 4, none⟩ = false ∧ W.frozen? ⟨g, 5, none⟩ = false ∧ W.frozen? ⟨g, 6, none⟩ = false ∧ W.frozen? ⟨g, 7, none⟩ = false :=
  ⟨⟨h.cell 0, h.cell 1, h.cell 2, h.cell 3, h.cell 4, h.cell 5, h.cell 6, h.cell 7⟩, h.frozen 0, h.frozen 1, h.frozen 2, h.frozen 3, h.frozen 4, h.frozen 5, h.frozen 6, h.frozen 7⟩
/-- all that lay in W, but B and G, lies as it lay -/
structure Two (W W' : World) (B G : Nat) : Prop where mk :: (size : W.heap.size ≤ W'.heap.size) (block : ∀ k, k < W.heap.size → k ≠ B → k ≠ G → W'.heap[k]? = W.heap[k]?)
namespace Two
variable {W W1 W2 : World} {B G : Nat}
theorem refl (W : World) (B G : Nat) : Two W W B G := ⟨Nat.le_refl _, fun _ _ _ _ => rfl⟩
theorem app (h : Two W W1 B G) {row : Option Nat} (hg : W1.grownBy W2 row) (hr : ∀ q, row = some q → q = B ∨ q = G ∨ W.heap.size ≤ q) : Two W W2 B G :=
  ⟨Nat.le_trans h.size hg.size, fun k hk hB hG => (hg.block k (Nat.lt_of_lt_of_le hk h.size) (fun e => by rcases hr k e.symm with h1 | h1 | h1; · exact hB h1
                                                                                                          · exact hG h1
                                                                                                          · omega)).trans (h.block k hk hB hG)⟩
theorem call (h : Two W W1 B G) (hg : W1.grownBy W2 (some B)) : Two W W2 B G := h.app hg (fun q e => by cases e; exact .inl rfl)
theorem set (h : Two W W1 B G) (j : Nat) (u : Value) : Two W (W1.setCell ⟨G, j, none⟩ u) B G := h.app (grown_set W1 ⟨G, j, none⟩ u) (fun q e => by cases e; exact .inr (.inl rfl))
theorem blk (h : Two W W1 B G) {g t : Nat} {cs : Array Value} (hb : Blk W g cs t) (h1 : g ≠ B) (h2 : g ≠ G) : Blk W1 g cs t := ⟨(h.block g hb.lt h1 h2).trans hb.out⟩
theorem row (h : Two W W1 B G) {α : Type} {d : Kd α} {e base : Nat} {v : Value} {xs : List α} (hv : RW d e W base v xs) (hB : B < base) {t : Nat} {cs : Array Value} (hG : Blk W G cs t) (ht : ∀ q, q ∈ e :: d.E → q ≠ t) : RW d e W1 base v xs :=
  Kd.R_mono (Kd.R_move (Kd.R_bound hv) (fun k hk => h.block k hk.2.2.1 (fun e => by have := hk.2.1; omega) (fun e => by
    subst e
    obtain ⟨-, -, -, q, hq, cells, hc⟩ := hk
    rw [hG.out] at hc
    cases hc
    exact ht _ hq rfl))) (fun _ _ => trivial)
end Two
/-- a statement's box, its places own -/
def SBox (W0 W : World) (G : Nat) (vs : Value) (x : SStmt) : Prop := ∃ A n c, Blk W G #[.int .i64 x.f0, .int .i64 x.f1, .string x.f2.f0, vs, .int .i64 x.f3, .string x.f4, .string x.f5, .slice A n c] 53 ∧ RW k50 50 W W0.heap.size (.slice A n c) x.f6
theorem E_place (q : Nat) (h : q ∈ 50 :: (k50).E) : q ≠ 53 := by
  revert q
  decide
theorem Rd.limit_next (s : Rd) (m n : Int) (p : Tok → Bool) : (s.limit m n).next p = s.next p := by
  unfold Rd.limit Rd.more
  split <;> rfl
theorem Rd.limit_toks (s : Rd) (m n : Int) : (s.limit m n).toks = s.toks := by
  unfold Rd.limit Rd.more
  split <;> rfl
theorem Rd.name_lt {s : Rd} (h : s.named = true) : s.name.2.toks.length < s.toks.length := by
  unfold Rd.name
  rw [if_pos h]
  exact Rd.tl_lt (Rd.next_ne h)
theorem Rd.place_len (s : Rd) : s.place.2.toks.length ≤ s.name.2.toks.length :=
  (lenC s.name.2.toks.length).more _ _ ((lenC s.name.2.toks.length).steps _ _ (Nat.le_refl _))
theorem Rd.place_lt {s : Rd} (m n : Int) (h : s.named = true) : (s.limit m n).place.2.toks.length < s.toks.length := by
  have h1 : (s.limit m n).named = true := (s.limit_next m n namedP).trans h
  have h2 := Rd.name_lt h1
  have h3 := Rd.place_len (s.limit m n)
  rw [s.limit_toks m n] at h2
  omega
theorem SMap.look' {W : World} {m n : Nat} {f : ByteArray → Int} (h : SMap W m n (fun l => f ⟨l.toArray⟩)) (s : ByteArray) (hs : s.size ≤ 1000000) :
    (Instr.lookup 184 (.map (some m)) (.string s) false).run Tryz.prog W = .ok (.int .i64 (f s)) W := h.look s hs
set_option maxHeartbeats 16000000 in
set_option maxRecDepth 100000 in
theorem value_calls (w0 W0 W : World) (B G : Nat) (s : Rd) (h : PS w0 W0 W B s) (hok : s.Ok) (a : Int) (p : SPlace) (A3 : Option Addr) (n3 c3 : Nat) (hG0 : W0.heap.size ≤ G)
    (hG : Blk W G #[.int .i64 a, .int .i64 0, .string p.f0, .slice A3 n3 c3, .int .i64 0, .string ⟨#[]⟩, .string ⟨#[]⟩, .slice none 0 0] 53) :
    Calls Tryz.prog 166 #[.pointer (some ⟨B, 0, none⟩), .pointer (some ⟨G, 0, none⟩)] W fun e W' => (∃ v, e = .returned v) ∧ SBox W0 W' G (.slice A3 n3 c3) (s.value {stmt0 a with f2 := p}).1 ∧ PS w0 W0 W' B (s.value {stmt0 a with f2 := p}).2 ∧ Two W W' B G := by
  obtain ⟨fin, hfin⟩ : ∃ fin, fin = s.value {stmt0 a with f2 := p} := ⟨_, rfl⟩
  rw [← hfin]
  unfold Rd.value at hfin
  simp only at hfin
  have HP := Lib.hid h
  have HOk := Lib.hid hok
  have HLt := Lib.hid h.b
  have HG0 := Lib.hid hG0
  have HGB : Hid (G ≠ B) := Lib.hid (fun e => by have := h.b; omega)
  have HG := Lib.hid hG
  have HGW := Lib.hid hG.lt
  have HZ := Lib.hid h.size
  have HBW : Hid (B < W.heap.size) := Lib.hid (Nat.lt_of_lt_of_le h.b h.size)
  have HN := Lib.hid (num_at h hok)
  clear h hok hG0 hG
  go_enter Tryz.func166, Tryz.ntmps166
  cases hnum : s.next numP with
  | true =>
    rw [hnum, if_pos rfl] at hfin
    rw [hnum] at HN
    have HNe := Lib.hid (Rd.next_ne hnum)
    have HF := Lib.hid hfin
    have hfd : ∀ (W : World), (Instr.field 42 (.agg #[.int .i64 s.hd.f0, .int .i64 s.hd.f1, .string s.hd.f2, .int .i64 s.hd.f3]) 3).run Tryz.prog W = .ok (.int .i64 s.hd.f3) W := fun _ => by kernel_rfl
    clear hnum hfin
    go_wp2_with fail
    refine HN.out.mono ?_
    rintro e W1 ⟨rfl, hp1, hg1⟩
    have HP1 := Lib.hid hp1
    have HG1 := Lib.hid (HG.out.ps hg1 HGB.out)
    have HT1 := Lib.hid ((Two.refl W B G).call hg1)
    clear hp1 hg1 HN HP HG
    go_wp2_with fail
    refine (take_at HP1.out HNe.out).mono ?_
    rintro e W2 ⟨rfl, hp2, hg2⟩
    have HP2 := Lib.hid hp2
    have HG2 := Lib.hid (HG1.out.ps hg2 HGB.out)
    have HT2 := Lib.hid (HT1.out.call hg2)
    clear hp2 hg2 HP1 HG1 HT1
    obtain ⟨⟨g0, g1, g2, g3, g4, g5, g6, g7⟩, f0, f1, f2, f3, f4, f5, f6, f7⟩ := HG2.out.cells8
    go_wp2_with fail
    (try simp only [Exit.inBlock, Exit.then])
    refine bodyPost_ret (results_none rfl _ _ _) rfl ?_
    refine ⟨⟨_, rfl⟩, ?_, ?_, (HT2.out.set 1 _).set 4 _⟩
    · rw [HF.out]
      exact ⟨none, 0, 0, (HG2.out.set 1 _).set 4 _, RW.nil _ _ _ _⟩
    · rw [HF.out]
      exact (HP2.out.set (p := ⟨G, 1, none⟩) HG0.out _).set (p := ⟨G, 4, none⟩) HG0.out _
  | false =>
    rw [hnum, if_neg (by decide)] at hfin
    rw [hnum] at HN
    clear hnum
    go_wp2_with fail
    refine HN.out.mono ?_
    rintro e W1 ⟨rfl, hp1, hg1⟩
    have HP1 := Lib.hid hp1
    have HG1 := Lib.hid (HG.out.ps hg1 HGB.out)
    have HT1 := Lib.hid ((Two.refl W B G).call hg1)
    clear hp1 hg1 HN HP HG
    have HN := Lib.hid (made_at HP1.out HOk.out)
    cases hmade : s.next madeP with
    | false =>
      rw [hmade, if_neg (by decide)] at hfin
      rw [hmade] at HN
      have HF := Lib.hid hfin
      clear hmade hfin
      go_wp2_with fail
      refine HN.out.mono ?_
      rintro e W2 ⟨rfl, hp2, hg2⟩
      have HP2 := Lib.hid hp2
      have HG2 := Lib.hid (HG1.out.ps hg2 HGB.out)
      have HT2 := Lib.hid (HT1.out.call hg2)
      clear hp2 hg2 HP1 HG1 HT1 HN
      go_wp2_with fail
      refine (fail_at HP2.out).mono ?_
      rintro e W3 ⟨⟨v3, rfl⟩, hp3, hg3⟩
      go_wp2_with fail
      (try simp only [Exit.inBlock, Exit.then])
      refine bodyPost_ret (results_none rfl _ _ _) rfl ?_
      refine ⟨⟨_, rfl⟩, ?_, ?_, HT2.out.call hg3⟩
      · rw [HF.out]
        exact ⟨none, 0, 0, HG2.out.ps hg3 HGB.out, RW.nil _ _ _ _⟩
      · rw [HF.out]
        exact hp3
    | true =>
      rw [hmade, if_pos rfl] at hfin
      rw [hmade] at HN
      have HNe := Lib.hid (Rd.next_ne hmade)
      have HHd := Lib.hid (HOk.out.hd)
      have HO2 := Lib.hid (okC.tl HOk.out (Rd.next_ne hmade))
      obtain ⟨x, hx⟩ : ∃ x, x = s.hd.f2 := ⟨_, rfl⟩
      obtain ⟨k, hk⟩ : ∃ k, k = madeK x := ⟨_, rfl⟩
      rw [← hx, ← hk] at hfin
      have HX := Lib.hid hx
      have HKx := Lib.hid hk
      have hfd : ∀ (W : World), (Instr.field 42 (.agg #[.int .i64 s.hd.f0, .int .i64 s.hd.f1, .string s.hd.f2, .int .i64 s.hd.f3]) 2).run Tryz.prog W = .ok (.string x) W := fun _ => by rw [hx]; kernel_rfl
      clear hmade hx hk
      go_wp2_with fail
      refine HN.out.mono ?_
      rintro e W2 ⟨rfl, hp2, hg2⟩
      have HP2 := Lib.hid hp2
      have HG2 := Lib.hid (HG1.out.ps hg2 HGB.out)
      have HT2 := Lib.hid (HT1.out.call hg2)
      clear hp2 hg2 HP1 HG1 HT1 HN
      go_wp2_with fail
      refine (made_calls W2).mono ?_
      rintro e W3 ⟨m, rfl, ⟨n, hm⟩, hb3⟩
      have HP3 := Lib.hid (HP2.out.bel hb3)
      have HG3 := Lib.hid (HG2.out.below hb3)
      have HT3 := Lib.hid (HT2.out.call (grown_below hb3))
      have HM := Lib.hid hm
      have HmB : Hid (some m ≠ some B) := Lib.hid (fun e => by
        cases e
        obtain ⟨es, c, he⟩ := hm.isMap
        obtain ⟨A, c, hb, -⟩ := HP3.out.r
        rw [hb.out] at he
        cases he)
      clear hb3 HP2 HG2 HT2 hm
      go_wp2_with fail
      refine (take_at HP3.out HNe.out).mono ?_
      rintro e W4 ⟨rfl, hp4, hg4⟩
      have HP4 := Lib.hid hp4
      have HG4 := Lib.hid (HG3.out.ps hg4 HGB.out)
      have HT4 := Lib.hid (HT3.out.call hg4)
      have hlk : (Instr.lookup 184 (.map (some m)) (.string x) false).run Tryz.prog W4 = .ok (.int .i64 k) W4 := by
        rw [HKx.out]
        exact (HM.out.kept hg4 HmB.out).look' x (by rw [HX.out]; exact HHd.out)
      clear hp4 hg4 HP3 HG3 HT3 HM HmB
      obtain ⟨⟨g0, g1, g2, g3, g4, g5, g6, g7⟩, f0, f1, f2, f3, f4, f5, f6, f7⟩ := HG4.out.cells8
      generalize s.tl = u at *
      have HF := Lib.hid hfin
      clear hfin HNe HHd HX HKx HOk
      have HG5 : Hid (Blk (W4.setCell ⟨G, 1, none⟩ (.int .i64 k)) G #[.int .i64 a, .int .i64 k, .string p.f0, .slice A3 n3 c3, .int .i64 0, .string ⟨#[]⟩, .string ⟨#[]⟩, .slice none 0 0] 53) := Lib.hid (HG4.out.set 1 _)
      have HP5 := Lib.hid (HP4.out.set (p := ⟨G, 1, none⟩) HG0.out (.int .i64 k))
      have HT5 := Lib.hid (HT4.out.set 1 (.int .i64 k))
      have HSz5 : Hid (W0.heap.size ≤ (W4.setCell ⟨G, 1, none⟩ (.int .i64 k)).heap.size) := Lib.hid HP5.out.size
      by_cases h234 : k = 2 ∨ k = 3 ∨ k = 4
      · have hf := HF.out
        rw [if_pos h234] at hf
        clear HF
        have HF := Lib.hid hf
        clear hf HG4 HP4 HT4
        rcases h234 with rfl | rfl | rfl
        all_goals
          have HPl := Lib.hid (places_at HP5.out HO2.out 2 (by decide))
          have HF' := Lib.hid HF.out
          clear HF
          generalize Rd.places 2 u [] = q at *
          go_wp2_with fail
          refine HPl.out.mono ?_
          rintro e W6 ⟨A6, n6, c6, rfl, hrw, hp6, hg6⟩
          have HRW := Lib.hid (Kd.R_lower hrw HSz5.out)
          have HP6 := Lib.hid hp6
          have HG6 := Lib.hid (HG5.out.ps hg6 HGB.out)
          have HT6 := Lib.hid (HT5.out.call hg6)
          clear hrw hp6 hg6 HP5 HG5 HT5 HPl HSz5
          obtain ⟨⟨g0, g1, g2, g3, g4, g5, g6, g7⟩, f0, f1, f2, f3, f4, f5, f6, f7⟩ := HG6.out.cells8
          go_wp2_with fail
          go_end0
          refine ⟨⟨_, rfl⟩, ?_, ?_, HT6.out.set 7 _⟩
          · rw [HF'.out]
            exact ⟨A6, n6, c6, HG6.out.set 7 _, RW.set HRW.out HG6.out E_place 7 _⟩
          · rw [HF'.out]
            exact HP6.out.set (p := ⟨G, 7, none⟩) HG0.out _
      · have hf := HF.out
        rw [if_neg h234] at hf
        clear HF
        have HF := Lib.hid hf
        clear hf
        have k2 : (k == 2) = false := by rw [beq_eq_false_iff_ne]; omega
        have k3 : (k == 3) = false := by rw [beq_eq_false_iff_ne]; omega
        have k4 : (k == 4) = false := by rw [beq_eq_false_iff_ne]; omega
        by_cases h7 : k = 7
        · have hf := HF.out
          rw [if_pos h7] at hf
          clear HF
          have HF := Lib.hid hf
          clear hf k2 k3 k4 h234 HG4 HP4 HT4
          subst h7
          have HN := Lib.hid (name_at HP5.out)
          have HO6 := Lib.hid (okC.name HO2.out)
          obtain ⟨F, hF⟩ : ∃ F, F = rdF := ⟨_, rfl⟩
          have hf := HF.out
          rw [← hF] at hf
          have HFF : Hid (F = 100001) := Lib.hid hF
          clear HF hF
          generalize u.name = q at *
          obtain ⟨y, s1⟩ := q
          simp only at HN HO6 hf
          obtain ⟨mp, hmp⟩ : ∃ mp, mp = Rd.more_places F s1 [] := ⟨_, rfl⟩
          have hmp2 : Rd.more_places F s1 ({stmt0 a with f2 := p} : SStmt).f6 = mp := hmp.symm
          simp only [stmt0] at hf hmp2
          rw [hmp2] at hf
          have HF := Lib.hid hf
          have HMp := Lib.hid hmp
          clear hf hmp hmp2
          go_wp2_with fail
          refine HN.out.mono ?_
          rintro e W6 ⟨rfl, hp6, hg6⟩
          have HG6 := Lib.hid (HG5.out.ps hg6 HGB.out)
          obtain ⟨⟨g0, g1, g2, g3, g4, g5, g6, g7⟩, f0, f1, f2, f3, f4, f5, f6, f7⟩ := HG6.out.cells8
          have HG7 : Hid (Blk (W6.setCell ⟨G, 5, none⟩ (.string y)) G #[.int .i64 a, .int .i64 7, .string p.f0, .slice A3 n3 c3, .int .i64 0, .string y, .string ⟨#[]⟩, .slice none 0 0] 53) := Lib.hid (HG6.out.set 5 _)
          have HP7 := Lib.hid (hp6.set (p := ⟨G, 5, none⟩) HG0.out (.string y))
          have HT7 := Lib.hid ((HT5.out.call hg6).set 5 (.string y))
          clear hp6 hg6 HP5 HG5 HT5 HN HG6 HSz5
          go_wp2_with fail
          clear g0 g1 g2 g3 g4 g5 g6 g7 f0 f1 f2 f3 f4 f5 f6 f7
          go_loopg [] F (fun kq w' => ∃ (s' : Rd) (out : List SPlace) (A : Option Addr) (n c : Nat), Aside0 (n = out.length) ∧ Aside0 (out.length + kq = F ∧ s'.Ok) ∧ Aside0 (s'.toks.length < kq) ∧ Aside0 (Rd.more_places kq s' out = mp) ∧ Aside0 (Blk w' G #[.int .i64 a, .int .i64 7, .string p.f0, .slice A3 n3 c3, .int .i64 0, .string y, .string ⟨#[]⟩, .slice A n c] 53) ∧ Aside0 (RW k50 50 w' W.heap.size (.slice A n c) out) ∧ Aside0 (PS w0 W0 w' B s') ∧ Aside0 (Two W w' B G))
          case atStart => exact ⟨s1, [], none, 0, 0, ⟨rfl⟩, ⟨by simp, HO6.out⟩, ⟨by have := HO6.out.len; have := HFF.out; omega⟩, ⟨HMp.out.symm⟩, ⟨HG7.out⟩, ⟨RW.nil _ _ _ _⟩, ⟨HP7.out⟩, ⟨HT7.out⟩⟩
          case round =>
            clear HP7 HG7 HT7 HMp HO6 hlk hfd
            obtain ⟨s', out, A, nn, c, HNl, HI, HLn, HB, HG, HW, HPS, HT⟩ := hrel
            obtain rfl := HNl.out
            clear HNl
            cases gk with
            | zero => exact absurd HLn.out (by omega)
            | succ kk =>
              have hb := HB.out
              unfold Rd.more_places at hb
              have HN := Lib.hid (named_at HPS.out)
              clear HB
              cases hnm : s'.named with
              | false =>
                rw [hnm, if_neg (by decide)] at hb
                rw [hnm] at HN
                have hf := HF.out
                rw [← hb] at hf
                have HF' := Lib.hid hf
                clear hf hb hnm HF
                go_wp2_with fail
                refine HN.out.mono ?_
                rintro e W8 ⟨rfl, hp8, hg8⟩
                go_wp2_with fail
                go_end0
                refine ⟨⟨_, rfl⟩, ?_, ?_, HT.out.call hg8⟩
                · rw [HF'.out]
                  exact ⟨A, out.length, c, HG.out.ps hg8 HGB.out, Kd.R_lower (RW.grown HW.out hg8 HBW.out) HZ.out⟩
                · rw [HF'.out]
                  exact hp8
              | true =>
                have HLt2 := Lib.hid (Rd.place_lt out.length 16 hnm)
                rw [hnm, if_pos rfl] at hb
                rw [hnm] at HN
                have HO1 := Lib.hid (okC.limit out.length 16 HI.out.2)
                clear hnm
                go_wp2_with fail
                refine HN.out.mono ?_
                rintro e W8 ⟨rfl, hp8, hg8⟩
                have HP8 := Lib.hid hp8
                have HG8 := Lib.hid (HG.out.ps hg8 HGB.out)
                have HT8 := Lib.hid (HT.out.call hg8)
                have HW8 := Lib.hid (RW.grown HW.out hg8 HBW.out)
                clear hp8 hg8 HG HW HPS HT HN
                obtain ⟨⟨g0, g1, g2, g3, g4, g5, g6, g7⟩, f0, f1, f2, f3, f4, f5, f6, f7⟩ := HG8.out.cells8
                have HLi := Lib.hid (limit_at HP8.out out.length 16)
                generalize s'.limit out.length 16 = s2 at *
                go_wp2_with fail
                refine HLi.out.mono ?_
                rintro e W9 ⟨⟨v9, rfl⟩, hp9, hg9⟩
                have HP9 := Lib.hid hp9
                have HG9 := Lib.hid (HG8.out.ps hg9 HGB.out)
                have HT9 := Lib.hid (HT8.out.call hg9)
                have HW9 := Lib.hid (RW.grown HW8.out hg9 HBW.out)
                have HVl := Lib.hid (Kd.R_lt HW9.out)
                clear hp9 hg9 HG8 HW8 HP8 HT8 HLi g0 g1 g2 g3 g4 g5 g6 g7 f0 f1 f2 f3 f4 f5 f6 f7
                obtain ⟨⟨g0, g1, g2, g3, g4, g5, g6, g7⟩, f0, f1, f2, f3, f4, f5, f6, f7⟩ := HG9.out.cells8
                have HPl := Lib.hid (place_at (HP9.out.bel (below_drew (Below.refl _ _))) HO1.out)
                have HO2' := Lib.hid (okC.place HO1.out)
                generalize s2.place = q at *
                obtain ⟨x2, s3⟩ := q
                simp only at hb HPl HO2' HLt2
                have HB := Lib.hid hb
                clear hb
                go_wp2_with fail
                go_region_law (first
                  | (go_simp; refine HPl.out.mono ?_; rintro e V5 ⟨A5, n5, c5, rfl, hrw5, hp5, hg5⟩; have hg5' := grown_trans (grown_below (below_drew (Below.refl W9.heap.size W9))) hg5; have HP5 := Lib.hid hp5; have HM5 := Lib.hid (k50_mkM V5 _ (fun _ => True) x2 hrw5); have HG5 := Lib.hid (HG9.out.ps hg5' HGB.out); have HT5 := Lib.hid (HT9.out.call hg5'); have HW5 := Lib.hid (RW.grown HW9.out hg5' HBW.out); have HSz5 : Hid (W.heap.size ≤ V5.heap.size) := Lib.hid HT5.out.size; have HSw5 : Hid (W.heap.size ≤ W9.heap.size) := Lib.hid HT9.out.size; have q1 := HG5.out.cells8.1.2.2.2.2.2.2.2; have q2 := fun o => cell_al HG5.out.cells8.1.2.2.2.2.2.2.2 o; clear hp5 hg5 hg5' hrw5)
                  | (refine row_append_step k50 W.heap.size W9.heap.size rfl (.tmp 66) (.tmp 69) 51 50 _ 40 rfl Tryz.underlying51 infoPlace rfl (by decide) (by decide) _ out x2 [.string x2.f0, .slice A5 n5 c5] rfl rfl HM5.out HW5.out HVl.out HSw5.out HSz5.out (by have := HI.out.1; have := HFF.out; omega) ?_; intro v6 V6 hw6 hg6 hb6; obtain ⟨A6, c6, e6⟩ := Kd.R_slice hw6; obtain ⟨n6, hn6⟩ : ∃ n6, n6 = (out ++ [x2]).length := ⟨_, rfl⟩; rw [← hn6] at e6; subst e6; have HN6 := Lib.hid hn6; clear hn6; have HW6 := Lib.hid hw6; have HP6 := Lib.hid (HP5.out.app hg6 (fun q e => Nat.le_trans HZ.out (hb6 q e))); have HG6 := Lib.hid (HG5.out.grown hg6 (HW5.out.far HG5.out (by decide))); have HT6 := Lib.hid (HT5.out.app hg6 (fun q e => .inr (.inr (hb6 q e)))); clear hw6 hg6 hb6; obtain ⟨⟨e0, e1, e2, e3, e4, e5, e6, e7⟩, d0, d1, d2, d3, d4, d5, d6, d7⟩ := HG6.out.cells8))
                all_goals
                  go_wp2_with fail
                  go_roundg kk
                  case measure => omega
                  case rel => exact ⟨s3, out ++ [x2], A6, n6, c6, ⟨HN6.out⟩, ⟨by rw [List.length_append]; have := HI.out.1; simp; omega, HO2'.out⟩, ⟨by have := HLt2.out; have := HLn.out; omega⟩, ⟨HB.out⟩, ⟨HG6.out.set 7 _⟩, ⟨RW.set HW6.out HG6.out E_place 7 _⟩, ⟨HP6.out.set (p := ⟨G, 7, none⟩) HG0.out _⟩, ⟨HT6.out.set 7 _⟩⟩
        · have hf := HF.out
          rw [if_neg h7] at hf
          clear HF
          have HF := Lib.hid hf
          have k7 : (k == 7) = false := by rw [beq_eq_false_iff_ne]; exact h7
          clear hf
          by_cases h8 : k = 8
          · have hf := HF.out
            rw [if_pos h8] at hf
            clear HF k2 k3 k4 k7 h234 h7 HG4 HP4 HT4
            subst h8
            have HN := Lib.hid (name_at HP5.out)
            have HO6 := Lib.hid (okC.name HO2.out)
            generalize u.name = q at *
            obtain ⟨y, s1⟩ := q
            simp only at HN HO6 hf
            have HF := Lib.hid hf
            clear hf
            go_wp2_with fail
            refine HN.out.mono ?_
            rintro e W6 ⟨rfl, hp6, hg6⟩
            have HG6 := Lib.hid (HG5.out.ps hg6 HGB.out)
            obtain ⟨⟨g0, g1, g2, g3, g4, g5, g6, g7⟩, f0, f1, f2, f3, f4, f5, f6, f7⟩ := HG6.out.cells8
            have HG7 : Hid (Blk (W6.setCell ⟨G, 5, none⟩ (.string y)) G #[.int .i64 a, .int .i64 8, .string p.f0, .slice A3 n3 c3, .int .i64 0, .string y, .string ⟨#[]⟩, .slice none 0 0] 53) := Lib.hid (HG6.out.set 5 _)
            have HP7 := Lib.hid (hp6.set (p := ⟨G, 5, none⟩) HG0.out (.string y))
            have HT7 := Lib.hid ((HT5.out.call hg6).set 5 (.string y))
            have HZ7 : Hid ((W6.setCell ⟨G, 5, none⟩ (.string y)).heap.size = W6.heap.size) := Lib.hid (by simp)
            clear hp6 hg6 HP5 HG5 HT5 HN HG6 HSz5
            have HM := Lib.hid (must_at' (n := W6.heap.size) HP7.out ⟨#[46]⟩ HZ7.out)
            have HO7 := Lib.hid (okC.must [⟨#[46]⟩] HO6.out)
            have HO8 := Lib.hid (okC.name HO7.out)
            generalize Rd.must [⟨#[46]⟩] s1 = s2 at *
            go_wp2_with fail
            refine HM.out.mono ?_
            rintro e W8 ⟨⟨v8, rfl⟩, hp8, hg8⟩
            have HG8 := Lib.hid (HG7.out.ps hg8 HGB.out)
            have HP8 := Lib.hid hp8
            have HT8 := Lib.hid (HT7.out.call hg8)
            clear hp8 hg8 HP7 HG7 HT7 HM HZ7 g0 g1 g2 g3 g4 g5 g6 g7 f0 f1 f2 f3 f4 f5 f6 f7
            have HN := Lib.hid (name_at HP8.out)
            generalize s2.name = q at *
            obtain ⟨z, s3⟩ := q
            simp only at HN HO8 HF
            go_wp2_with fail
            refine HN.out.mono ?_
            rintro e W9 ⟨rfl, hp9, hg9⟩
            have HG9 := Lib.hid (HG8.out.ps hg9 HGB.out)
            obtain ⟨⟨g0, g1, g2, g3, g4, g5, g6, g7⟩, f0, f1, f2, f3, f4, f5, f6, f7⟩ := HG9.out.cells8
            have HGa : Hid (Blk (W9.setCell ⟨G, 6, none⟩ (.string z)) G #[.int .i64 a, .int .i64 8, .string p.f0, .slice A3 n3 c3, .int .i64 0, .string y, .string z, .slice none 0 0] 53) := Lib.hid (HG9.out.set 6 _)
            have HPa := Lib.hid (hp9.set (p := ⟨G, 6, none⟩) HG0.out (.string z))
            have HTa := Lib.hid ((HT8.out.call hg9).set 6 (.string z))
            clear hp9 hg9 HP8 HG8 HT8 HN HG9
            have HN := Lib.hid (named_at HPa.out)
            cases hnm : s3.named with
            | false =>
              have hf := HF.out
              rw [hnm, if_neg (by decide)] at hf
              rw [hnm] at HN
              have HF' := Lib.hid hf
              clear hf hnm HF
              go_wp2_with fail
              refine HN.out.mono ?_
              rintro e Wb ⟨rfl, hpb, hgb⟩
              go_wp2_with fail
              go_end0
              refine ⟨⟨_, rfl⟩, ?_, ?_, HTa.out.call hgb⟩
              · rw [HF'.out]
                exact ⟨none, 0, 0, HGa.out.ps hgb HGB.out, RW.nil _ _ _ _⟩
              · rw [HF'.out]
                exact hpb
            | true =>
              have hf := HF.out
              rw [hnm, if_pos rfl] at hf
              rw [hnm] at HN
              have HF' := Lib.hid hf
              clear hf hnm HF
              go_wp2_with fail
              refine HN.out.mono ?_
              rintro e Wb ⟨rfl, hpb, hgb⟩
              have HGb := Lib.hid (HGa.out.ps hgb HGB.out)
              have HPb := Lib.hid hpb
              have HTb := Lib.hid (HTa.out.call hgb)
              clear hpb hgb HGa HPa HTa HN g0 g1 g2 g3 g4 g5 g6 g7 f0 f1 f2 f3 f4 f5 f6 f7
              have HPl := Lib.hid (places_at HPb.out HO8.out 1 (by decide))
              generalize Rd.places 1 s3 [] = q at *
              go_wp2_with fail
              refine HPl.out.mono ?_
              rintro e Wc ⟨A6, n6, c6, rfl, hrw, hpc, hgc⟩
              have HRW := Lib.hid (Kd.R_lower hrw HPb.out.size)
              have HPc := Lib.hid hpc
              have HGc := Lib.hid (HGb.out.ps hgc HGB.out)
              have HTc := Lib.hid (HTb.out.call hgc)
              clear hrw hpc hgc HPb HGb HTb HPl
              obtain ⟨⟨g0, g1, g2, g3, g4, g5, g6, g7⟩, f0, f1, f2, f3, f4, f5, f6, f7⟩ := HGc.out.cells8
              go_wp2_with fail
              go_end0
              refine ⟨⟨_, rfl⟩, ?_, ?_, HTc.out.set 7 _⟩
              · rw [HF'.out]
                exact ⟨A6, n6, c6, HGc.out.set 7 _, RW.set HRW.out HGc.out E_place 7 _⟩
              · rw [HF'.out]
                exact HPc.out.set (p := ⟨G, 7, none⟩) HG0.out _
          · have hf := HF.out
            rw [if_neg h8] at hf
            have k8 : (k == 8) = false := by rw [beq_eq_false_iff_ne]; exact h8
            have HPl := Lib.hid (places_at HP5.out HO2.out 1 (by decide))
            clear HF h8 h7 h234 HG4 HP4 HT4
            generalize Rd.places 1 u [] = q at *
            have HF' := Lib.hid hf
            clear hf
            go_wp2_with fail
            refine HPl.out.mono ?_
            rintro e W6 ⟨A6, n6, c6, rfl, hrw, hp6, hg6⟩
            have HRW := Lib.hid (Kd.R_lower hrw HSz5.out)
            have HP6 := Lib.hid hp6
            have HG6 := Lib.hid (HG5.out.ps hg6 HGB.out)
            have HT6 := Lib.hid (HT5.out.call hg6)
            clear hrw hp6 hg6 HP5 HG5 HT5 HPl HSz5
            obtain ⟨⟨g0, g1, g2, g3, g4, g5, g6, g7⟩, f0, f1, f2, f3, f4, f5, f6, f7⟩ := HG6.out.cells8
            go_wp2_with fail
            go_end0
            refine ⟨⟨_, rfl⟩, ?_, ?_, HT6.out.set 7 _⟩
            · rw [HF'.out]
              exact ⟨A6, n6, c6, HG6.out.set 7 _, RW.set HRW.out HG6.out E_place 7 _⟩
            · rw [HF'.out]
              exact HP6.out.set (p := ⟨G, 7, none⟩) HG0.out _
end
section
open Go Go.RowKit Go.Proofs.YtmgkejobolgkmaaGreatDoorW.PrintWords Go.Proofs.YtmgkejobolgkmaaGreatDoorW.PrintLast Go.Proofs.YtmgkejobolgkmaaGreatDoorW.PrintMore
set_option linter.unusedVariables false
set_option linter.unusedSimpArgs false

theorem Rd.value_f2 (s : Rd) (x : SStmt) : (s.value x).1.f2 = x.f2 := by
  unfold Rd.value
  simp only
  repeat' split
  all_goals rfl
theorem sets3 (W : World) (R : Nat) (a0 a1 a2 : Value) : W.grownBy (((W.setCell ⟨R, 0, none⟩ a0).setCell ⟨R, 1, none⟩ a1).setCell ⟨R, 2, none⟩ a2) (some R) := grown_trans (grown_trans (grown_set W ⟨R, 0, none⟩ a0) (grown_set _ ⟨R, 1, none⟩ a1)) (grown_set _ ⟨R, 2, none⟩ a2)
theorem sets5 (W : World) (R : Nat) (a0 a1 a2 a3 a4 : Value) : W.grownBy (((((W.setCell ⟨R, 0, none⟩ a0).setCell ⟨R, 1, none⟩ a1).setCell ⟨R, 2, none⟩ a2).setCell ⟨R, 3, none⟩ a3).setCell ⟨R, 4, none⟩ a4) (some R) := grown_trans (grown_trans (grown_trans (grown_trans (grown_set W ⟨R, 0, none⟩ a0) (grown_set _ ⟨R, 1, none⟩ a1)) (grown_set _ ⟨R, 2, none⟩ a2)) (grown_set _ ⟨R, 3, none⟩ a3)) (grown_set _ ⟨R, 4, none⟩ a4)
theorem sets6 (W : World) (R : Nat) (a0 a1 a2 a3 a4 a5 : Value) : W.grownBy ((((((W.setCell ⟨R, 0, none⟩ a0).setCell ⟨R, 1, none⟩ a1).setCell ⟨R, 2, none⟩ a2).setCell ⟨R, 3, none⟩ a3).setCell ⟨R, 4, none⟩ a4).setCell ⟨R, 5, none⟩ a5) (some R) := grown_trans (grown_trans (grown_trans (grown_trans (grown_trans (grown_set W ⟨R, 0, none⟩ a0) (grown_set _ ⟨R, 1, none⟩ a1)) (grown_set _ ⟨R, 2, none⟩ a2)) (grown_set _ ⟨R, 3, none⟩ a3)) (grown_set _ ⟨R, 4, none⟩ a4)) (grown_set _ ⟨R, 5, none⟩ a5)
theorem sets8 (W : World) (R : Nat) (a0 a1 a2 a3 a4 a5 a6 a7 : Value) : W.grownBy ((((((((W.setCell ⟨R, 0, none⟩ a0).setCell ⟨R, 1, none⟩ a1).setCell ⟨R, 2, none⟩ a2).setCell ⟨R, 3, none⟩ a3).setCell ⟨R, 4, none⟩ a4).setCell ⟨R, 5, none⟩ a5).setCell ⟨R, 6, none⟩ a6).setCell ⟨R, 7, none⟩ a7) (some R) := grown_trans (grown_trans (grown_trans (grown_trans (grown_trans (grown_trans (grown_trans (grown_set W ⟨R, 0, none⟩ a0) (grown_set _ ⟨R, 1, none⟩ a1)) (grown_set _ ⟨R, 2, none⟩ a2)) (grown_set _ ⟨R, 3, none⟩ a3)) (grown_set _ ⟨R, 4, none⟩ a4)) (grown_set _ ⟨R, 5, none⟩ a5)) (grown_set _ ⟨R, 6, none⟩ a6)) (grown_set _ ⟨R, 7, none⟩ a7)
theorem sets11 (W : World) (R : Nat) (a0 a1 a2 a3 a4 a5 a6 a7 a8 a9 a10 : Value) : W.grownBy (((((((((((W.setCell ⟨R, 0, none⟩ a0).setCell ⟨R, 1, none⟩ a1).setCell ⟨R, 2, none⟩ a2).setCell ⟨R, 3, none⟩ a3).setCell ⟨R, 4, none⟩ a4).setCell ⟨R, 5, none⟩ a5).setCell ⟨R, 6, none⟩ a6).setCell ⟨R, 7, none⟩ a7).setCell ⟨R, 8, none⟩ a8).setCell ⟨R, 9, none⟩ a9).setCell ⟨R, 10, none⟩ a10) (some R) := grown_trans (grown_trans (grown_trans (grown_trans (grown_trans (grown_trans (grown_trans (grown_trans (grown_trans (grown_trans (grown_set W ⟨R, 0, none⟩ a0) (grown_set _ ⟨R, 1, none⟩ a1)) (grown_set _ ⟨R, 2, none⟩ a2)) (grown_set _ ⟨R, 3, none⟩ a3)) (grown_set _ ⟨R, 4, none⟩ a4)) (grown_set _ ⟨R, 5, none⟩ a5)) (grown_set _ ⟨R, 6, none⟩ a6)) (grown_set _ ⟨R, 7, none⟩ a7)) (grown_set _ ⟨R, 8, none⟩ a8)) (grown_set _ ⟨R, 9, none⟩ a9)) (grown_set _ ⟨R, 10, none⟩ a10)
theorem RW.over {α : Type} {d : Kd α} {e base : Nat} {W W1 : World} {v : Value} {xs : List α} (h : RW d e W base v xs) {R t : Nat} {cs : Array Value} (hR : Blk W R cs t) (ht : ∀ q, q ∈ e :: d.E → q ≠ t) (hg : W.grownBy W1 (some R)) : RW d e W1 base v xs :=
  Kd.R_mono (Kd.R_move (Kd.R_bound h) (fun k hk => hg.block k hk.2.2.1 (fun e => by
    cases e
    obtain ⟨-, -, -, q, hq, cells, hc⟩ := hk
    rw [hR.out] at hc
    cases hc
    exact ht _ hq rfl))) (fun _ _ => trivial)
theorem PS.own {w0 W0 W W' : World} {B R : Nat} {s : Rd} (h : PS w0 W0 W B s) (hg : W.grownBy W' (some R)) (hR : W0.heap.size ≤ R) : PS w0 W0 W' B s := h.app hg (fun q e => by cases e; exact hR)
theorem Blk.all8 {W : World} {R t : Nat} {v0 v1 v2 v3 v4 v5 v6 v7 : Value} (h : Blk W R #[v0, v1, v2, v3, v4, v5, v6, v7] t) (a0 a1 a2 a3 a4 a5 a6 a7 : Value) : Blk ((((((((W.setCell ⟨R, 0, none⟩ a0).setCell ⟨R, 1, none⟩ a1).setCell ⟨R, 2, none⟩ a2).setCell ⟨R, 3, none⟩ a3).setCell ⟨R, 4, none⟩ a4).setCell ⟨R, 5, none⟩ a5).setCell ⟨R, 6, none⟩ a6).setCell ⟨R, 7, none⟩ a7) R #[a0, a1, a2, a3, a4, a5, a6, a7] t := by
  have h0 : Blk (W.setCell ⟨R, 0, none⟩ a0) R #[a0, v1, v2, v3, v4, v5, v6, v7] t := h.set 0 a0
  have h1 : Blk ((W.setCell ⟨R, 0, none⟩ a0).setCell ⟨R, 1, none⟩ a1) R #[a0, a1, v2, v3, v4, v5, v6, v7] t := h0.set 1 a1
  have h2 : Blk (((W.setCell ⟨R, 0, none⟩ a0).setCell ⟨R, 1, none⟩ a1).setCell ⟨R, 2, none⟩ a2) R #[a0, a1, a2, v3, v4, v5, v6, v7] t := h1.set 2 a2
  have h3 : Blk ((((W.setCell ⟨R, 0, none⟩ a0).setCell ⟨R, 1, none⟩ a1).setCell ⟨R, 2, none⟩ a2).setCell ⟨R, 3, none⟩ a3) R #[a0, a1, a2, a3, v4, v5, v6, v7] t := h2.set 3 a3
  have h4 : Blk (((((W.setCell ⟨R, 0, none⟩ a0).setCell ⟨R, 1, none⟩ a1).setCell ⟨R, 2, none⟩ a2).setCell ⟨R, 3, none⟩ a3).setCell ⟨R, 4, none⟩ a4) R #[a0, a1, a2, a3, a4, v5, v6, v7] t := h3.set 4 a4
  have h5 : Blk ((((((W.setCell ⟨R, 0, none⟩ a0).setCell ⟨R, 1, none⟩ a1).setCell ⟨R, 2, none⟩ a2).setCell ⟨R, 3, none⟩ a3).setCell ⟨R, 4, none⟩ a4).setCell ⟨R, 5, none⟩ a5) R #[a0, a1, a2, a3, a4, a5, v6, v7] t := h4.set 5 a5
  have h6 : Blk (((((((W.setCell ⟨R, 0, none⟩ a0).setCell ⟨R, 1, none⟩ a1).setCell ⟨R, 2, none⟩ a2).setCell ⟨R, 3, none⟩ a3).setCell ⟨R, 4, none⟩ a4).setCell ⟨R, 5, none⟩ a5).setCell ⟨R, 6, none⟩ a6) R #[a0, a1, a2, a3, a4, a5, a6, v7] t := h5.set 6 a6
  have h7 : Blk ((((((((W.setCell ⟨R, 0, none⟩ a0).setCell ⟨R, 1, none⟩ a1).setCell ⟨R, 2, none⟩ a2).setCell ⟨R, 3, none⟩ a3).setCell ⟨R, 4, none⟩ a4).setCell ⟨R, 5, none⟩ a5).setCell ⟨R, 6, none⟩ a6).setCell ⟨R, 7, none⟩ a7) R #[a0, a1, a2, a3, a4, a5, a6, a7] t := h6.set 7 a7
  exact h7
theorem E_str (q : Nat) (h : q ∈ 9 :: (Kd.string).E) : q ≠ 53 := by
  revert q
  decide
set_option maxHeartbeats 16000000 in
set_option maxRecDepth 100000 in
theorem stmt_calls (w0 W : World) (B : Nat) (s : Rd) (h : RdIn w0 W B s) (hok : s.Ok) :
    Calls Tryz.prog 138 #[.pointer (some ⟨B, 0, none⟩)] W fun e W' => ∃ A3 n3 c3 A7 n7 c7, e = .returned (.agg #[.int .i64 s.stmt.1.f0, .int .i64 s.stmt.1.f1, .string s.stmt.1.f2.f0, .slice A3 n3 c3, .int .i64 s.stmt.1.f3, .string s.stmt.1.f4, .string s.stmt.1.f5, .slice A7 n7 c7]) ∧ RW Kd.string 9 W' W.heap.size (.slice A3 n3 c3) s.stmt.1.f2.f1 ∧ RW k50 50 W' W.heap.size (.slice A7 n7 c7) s.stmt.1.f6 ∧ PS w0 W W' B s.stmt.2 := by
  have HP0 := Lib.hid (PS.start h)
  have HLt := Lib.hid h.lt
  have HOk := Lib.hid hok
  obtain ⟨fin, hfin⟩ : ∃ fin, fin = s.stmt := ⟨_, rfl⟩
  rw [← hfin]
  unfold Rd.stmt at hfin
  simp only at hfin
  obtain ⟨a, ha⟩ : ∃ a, a = s.at_ := ⟨_, rfl⟩
  have HAt := Lib.hid (fun V (hV : RdIn w0 V B s) => at_calls w0 V B s hV)
  rw [← ha] at hfin HAt
  clear h hok ha
  go_enter Tryz.func138, Tryz.ntmps138
  go_wp2_with fail
  refine at_world (fun V => Blk V W.heap.size #[.int .i64 0, .int .i64 0, .string ⟨#[]⟩, .slice none 0 0, .int .i64 0, .string ⟨#[]⟩, .string ⟨#[]⟩, .slice none 0 0] 53 ∧ PS w0 W V B s) ⟨Blk.new _ _ _, HP0.out.alloc _⟩ ?_
  rintro V0 ⟨HRes, hp0⟩
  have HP := Lib.hid hp0
  clear hp0 HP0
  refine (HAt.out V0 HP.out.r).mono ?_
  rintro e W1 ⟨rfl, rfl⟩
  clear HAt
  go_wp2_with fail
  have HRB : Hid (W.heap.size ≠ B) := Lib.hid (fun e => by have := HLt.out; omega)
  have HLG : Hid (W.heap.size < V0.heap.size) := Lib.hid HRes.lt
  have HGB : Hid (V0.heap.size ≠ B) := Lib.hid (fun e => by have := HLt.out; have := HLG.out; omega)
  have HRG : Hid (W.heap.size ≠ V0.heap.size) := Lib.hid (fun e => by have := HLG.out; omega)
  have hGR : (V0.heap.size = W.heap.size) = False := eq_false (by have := HLG.out; omega)
  have hRG : (W.heap.size = V0.heap.size) = False := eq_false (by have := HLG.out; omega)
  have HLe : Hid (W.heap.size ≤ V0.heap.size) := Lib.hid (Nat.le_of_lt HLG.out)
  refine at_world (fun V => Blk V W.heap.size #[.int .i64 0, .int .i64 0, .string ⟨#[]⟩, .slice none 0 0, .int .i64 0, .string ⟨#[]⟩, .string ⟨#[]⟩, .slice none 0 0] 53 ∧ Blk V V0.heap.size #[.int .i64 a, .int .i64 0, .string ⟨#[]⟩, .slice none 0 0, .int .i64 0, .string ⟨#[]⟩, .string ⟨#[]⟩, .slice none 0 0] 53 ∧ PS w0 W V B s) ⟨HRes.alloc _, Blk.new _ _ _, HP.out.alloc _⟩ ?_
  rintro V1 ⟨hr1, hg1, hp1⟩
  have HR1 := Lib.hid hr1
  have HG1 := Lib.hid hg1
  have HP1 := Lib.hid hp1
  clear hr1 hg1 hp1 HRes HP
  generalize V0.heap.size = G at *
  have HM := Lib.hid (may_at HP1.out ⟨#[111, 117, 116]⟩)
  have HO1 := Lib.hid (okC.may ⟨#[111, 117, 116]⟩ HOk.out)
  generalize s.may ⟨#[111, 117, 116]⟩ = r at *
  obtain ⟨b, s1⟩ := r
  simp only at HM HO1 hfin
  refine HM.out.mono ?_
  rintro e V2 ⟨rfl, hp2, hg2⟩
  have HR2 := Lib.hid (HR1.out.ps hg2 HRB.out)
  have HG2 := Lib.hid (HG1.out.ps hg2 HGB.out)
  have HP2 := Lib.hid hp2
  clear hp2 hg2 HR1 HG1 HP1 HM
  cases b with
  | true =>
    rw [if_pos rfl] at hfin
    have HPl := Lib.hid (places_at HP2.out HO1.out 1 (by decide))
    generalize Rd.places 1 s1 [] = q at *
    obtain ⟨y, s2⟩ := q
    simp only at HPl hfin
    have HF := Lib.hid hfin
    clear hfin
    go_wp2_with fail
    refine HPl.out.mono ?_
    rintro e V3 ⟨A7, n7, c7, rfl, hrw, hp3, hg3⟩
    have HR3 := Lib.hid (HR2.out.ps hg3 HRB.out)
    have HG3 := Lib.hid (HG2.out.ps hg3 HGB.out)
    have HW3 := Lib.hid (Kd.R_lower hrw HP2.out.size)
    have HP3 := Lib.hid hp3
    clear hrw hp3 hg3 HR2 HG2 HP2 HPl
    obtain ⟨⟨g0, g1, g2, g3, g4, g5, g6, g7⟩, f0, f1, f2, f3, f4, f5, f6, f7⟩ := HG3.out.cells8
    obtain ⟨x, hx⟩ : ∃ x : SStmt, x = {stmt0 a with f1 := 11, f6 := y} := ⟨_, rfl⟩
    have HF' : Hid (fin = (x, Rd.must [⟨#[59]⟩] s2)) := Lib.hid (by rw [HF.out, hx])
    have HG4 : Hid (Blk ((V3.setCell ⟨G, 1, none⟩ (.int .i64 11)).setCell ⟨G, 7, none⟩ (.slice A7 n7 c7)) G #[.int .i64 x.f0, .int .i64 x.f1, .string x.f2.f0, .slice none 0 0, .int .i64 x.f3, .string x.f4, .string x.f5, .slice A7 n7 c7] 53) := Lib.hid (by rw [hx]; exact (HG3.out.set 1 _).set 7 _)
    have HR4 : Hid (Blk ((V3.setCell ⟨G, 1, none⟩ (.int .i64 11)).setCell ⟨G, 7, none⟩ (.slice A7 n7 c7)) W.heap.size #[.int .i64 0, .int .i64 0, .string ⟨#[]⟩, .slice none 0 0, .int .i64 0, .string ⟨#[]⟩, .string ⟨#[]⟩, .slice none 0 0] 53) := Lib.hid ((HR3.out.far (p := ⟨G, 1, none⟩) HRG.out _).far (p := ⟨G, 7, none⟩) HRG.out _)
    have HP4 : Hid (PS w0 W ((V3.setCell ⟨G, 1, none⟩ (.int .i64 11)).setCell ⟨G, 7, none⟩ (.slice A7 n7 c7)) B s2) := Lib.hid ((HP3.out.set (p := ⟨G, 1, none⟩) HLe.out _).set (p := ⟨G, 7, none⟩) HLe.out _)
    have HW4 : Hid (RW k50 50 ((V3.setCell ⟨G, 1, none⟩ (.int .i64 11)).setCell ⟨G, 7, none⟩ (.slice A7 n7 c7)) W.heap.size (.slice A7 n7 c7) x.f6) := Lib.hid (by rw [hx]; exact RW.set (RW.set HW3.out HG3.out E_place 1 _) (HG3.out.set 1 _) E_place 7 _)
    have HV4 : Hid (RW Kd.string 9 ((V3.setCell ⟨G, 1, none⟩ (.int .i64 11)).setCell ⟨G, 7, none⟩ (.slice A7 n7 c7)) W.heap.size (.slice none 0 0) x.f2.f1) := Lib.hid (by rw [hx]; exact RW.nil _ _ _ _)
    have HZ4 : Hid (((V3.setCell ⟨G, 1, none⟩ (.int .i64 11)).setCell ⟨G, 7, none⟩ (.slice A7 n7 c7)).heap.size = V3.heap.size) := Lib.hid (by simp)
    clear hx HF HG3 HR3 HP3 HW3
    go_wp2_with fail
    refine (must_at' (n := V3.heap.size) HP4.out ⟨#[59]⟩ HZ4.out).mono ?_
    rintro e V5 ⟨⟨v5, rfl⟩, hp5, hg5⟩
    clear g0 g1 g2 g3 g4 g5 g6 g7 f0 f1 f2 f3 f4 f5 f6 f7
    have HR5 := Lib.hid (HR4.out.ps hg5 HRB.out)
    have HG5 := Lib.hid (HG4.out.ps hg5 HGB.out)
    have HW5 := Lib.hid (RW.grown HW4.out hg5 HLt.out)
    have HV5 := Lib.hid (RW.grown HV4.out hg5 HLt.out)
    have HP5 := Lib.hid hp5
    clear hp5 hg5 HR4 HG4 HW4 HV4 HP4 HZ4
    obtain ⟨⟨g0, g1, g2, g3, g4, g5, g6, g7⟩, f0, f1, f2, f3, f4, f5, f6, f7⟩ := HG5.out.cells8
    obtain ⟨⟨e0, e1, e2, e3, e4, e5, e6, e7⟩, d0, d1, d2, d3, d4, d5, d6, d7⟩ := HR5.out.cells8
    go_wp2_with fail
    refine post_at (fun U => Blk U W.heap.size #[.int .i64 x.f0, .int .i64 x.f1, .string x.f2.f0, .slice none 0 0, .int .i64 x.f3, .string x.f4, .string x.f5, .slice A7 n7 c7] 53 ∧ RW Kd.string 9 U W.heap.size (.slice none 0 0) x.f2.f1 ∧ RW k50 50 U W.heap.size (.slice A7 n7 c7) x.f6 ∧ PS w0 W U B (Rd.must [⟨#[59]⟩] s2)) ⟨?_, ?_, ?_, ?_⟩ ?_
    · exact HR5.out.all8 _ _ _ _ _ _ _ _
    · exact RW.over HV5.out HR5.out E_str (sets8 _ _ _ _ _ _ _ _ _ _)
    · exact RW.over HW5.out HR5.out E_place (sets8 _ _ _ _ _ _ _ _ _ _)
    · exact HP5.out.own (sets8 _ _ _ _ _ _ _ _ _ _) (Nat.le_refl _)
    · rintro U ⟨hbx, hv, hw, hps⟩
      obtain ⟨⟨z0, z1, z2, z3, z4, z5, z6, z7⟩, -⟩ := hbx.cells8
      exact bodyPost_ret (v := .agg #[.int .i64 x.f0, .int .i64 x.f1, .string x.f2.f0, .slice none 0 0, .int .i64 x.f3, .string x.f4, .string x.f5, .slice A7 n7 c7]) (by simp [results, Tryz.results138, go_sem, z0, z1, z2, z3, z4, z5, z6, z7]) rfl ⟨none, 0, 0, A7, n7, c7, by rw [HF'.out], by rw [HF'.out]; exact hv, by rw [HF'.out]; exact hw, by rw [HF'.out]; exact hps⟩
  | false =>
    rw [if_neg (by decide)] at hfin
    have HPl := Lib.hid (place_at HP2.out HO1.out)
    have HO2 := Lib.hid (okC.place HO1.out)
    generalize s1.place = q at *
    obtain ⟨p, s2'⟩ := q
    simp only at HPl hfin HO2
    have HF := Lib.hid hfin
    clear hfin
    go_wp2_with fail
    refine HPl.out.mono ?_
    rintro e V3 ⟨A3, n3, c3, rfl, hrw, hp3, hg3⟩
    have HR3 := Lib.hid (HR2.out.ps hg3 HRB.out)
    have HG3 := Lib.hid (HG2.out.ps hg3 HGB.out)
    have HV3 := Lib.hid (Kd.R_lower hrw HP2.out.size)
    have HP3 := Lib.hid hp3
    clear hrw hp3 hg3 HR2 HG2 HP2 HPl
    obtain ⟨⟨g0, g1, g2, g3, g4, g5, g6, g7⟩, f0, f1, f2, f3, f4, f5, f6, f7⟩ := HG3.out.cells8
    have HG4 : Hid (Blk ((V3.setCell ⟨G, 2, none⟩ (.string p.f0)).setCell ⟨G, 3, none⟩ (.slice A3 n3 c3)) G #[.int .i64 a, .int .i64 0, .string p.f0, .slice A3 n3 c3, .int .i64 0, .string ⟨#[]⟩, .string ⟨#[]⟩, .slice none 0 0] 53) := Lib.hid ((HG3.out.set 2 _).set 3 _)
    have HR4 : Hid (Blk ((V3.setCell ⟨G, 2, none⟩ (.string p.f0)).setCell ⟨G, 3, none⟩ (.slice A3 n3 c3)) W.heap.size #[.int .i64 0, .int .i64 0, .string ⟨#[]⟩, .slice none 0 0, .int .i64 0, .string ⟨#[]⟩, .string ⟨#[]⟩, .slice none 0 0] 53) := Lib.hid ((HR3.out.far (p := ⟨G, 2, none⟩) HRG.out _).far (p := ⟨G, 3, none⟩) HRG.out _)
    have HP4 : Hid (PS w0 W ((V3.setCell ⟨G, 2, none⟩ (.string p.f0)).setCell ⟨G, 3, none⟩ (.slice A3 n3 c3)) B s2') := Lib.hid ((HP3.out.set (p := ⟨G, 2, none⟩) HLe.out _).set (p := ⟨G, 3, none⟩) HLe.out _)
    have HV4 : Hid (RW Kd.string 9 ((V3.setCell ⟨G, 2, none⟩ (.string p.f0)).setCell ⟨G, 3, none⟩ (.slice A3 n3 c3)) W.heap.size (.slice A3 n3 c3) p.f1) := Lib.hid (RW.set (RW.set HV3.out HG3.out E_str 2 _) (HG3.out.set 2 _) E_str 3 _)
    have HZ4 : Hid (((V3.setCell ⟨G, 2, none⟩ (.string p.f0)).setCell ⟨G, 3, none⟩ (.slice A3 n3 c3)).heap.size = V3.heap.size) := Lib.hid (by simp)
    have HM := Lib.hid (must_at' (n := V3.heap.size) HP4.out ⟨#[61]⟩ HZ4.out)
    have HO3 := Lib.hid (okC.must [⟨#[61]⟩] HO2.out)
    clear HG3 HR3 HP3 HV3
    go_wp2_with fail
    refine HM.out.mono ?_
    rintro e V4 ⟨⟨v4, rfl⟩, hp4, hg4⟩
    clear g0 g1 g2 g3 g4 g5 g6 g7 f0 f1 f2 f3 f4 f5 f6 f7
    generalize Rd.must [⟨#[61]⟩] s2' = s3 at *
    have HR4b := Lib.hid (HR4.out.ps hg4 HRB.out)
    have HG4b := Lib.hid (HG4.out.ps hg4 HGB.out)
    have HV4b := Lib.hid (RW.grown HV4.out hg4 HLt.out)
    have HP4b := Lib.hid hp4
    clear hp4 hg4 HR4 HG4 HV4 HP4 HZ4 HM
    have HVal := Lib.hid (value_calls w0 W V4 B G s3 HP4b.out HO3.out a p A3 n3 c3 HLe.out HG4b.out)
    have HF2 := Lib.hid (Rd.value_f2 s3 {stmt0 a with f2 := p})
    generalize s3.value {stmt0 a with f2 := p} = q at *
    obtain ⟨x, s2⟩ := q
    simp only at HVal HF
    have HXf : Hid (x.f2 = p) := Lib.hid HF2.out
    have HF' := Lib.hid HF.out
    clear HF HF2
    go_wp2_with fail
    refine HVal.out.mono ?_
    rintro e V4c ⟨⟨v4c, rfl⟩, ⟨A7, n7, c7, hgx, hw⟩, hps, htwo⟩
    have HV4c := Lib.hid (htwo.row HV4b.out HLt.out HG4b.out E_str)
    have HR4c := Lib.hid (htwo.blk HR4b.out HRB.out HRG.out)
    have HG4c := Lib.hid hgx
    have HP4c := Lib.hid hps
    have HW4c := Lib.hid hw
    clear hgx hw hps htwo HVal HR4b HG4b HV4b HP4b
    go_wp2_with fail
    refine (must_at HP4c.out ⟨#[59]⟩).mono ?_
    rintro e V5 ⟨⟨v5, rfl⟩, hp5, hg5⟩
    have HR5 := Lib.hid (HR4c.out.ps hg5 HRB.out)
    have HG5 := Lib.hid (HG4c.out.ps hg5 HGB.out)
    have HW5 := Lib.hid (RW.grown HW4c.out hg5 HLt.out)
    have HV5 : Hid (RW Kd.string 9 V5 W.heap.size (.slice A3 n3 c3) x.f2.f1) := Lib.hid (by rw [HXf.out]; exact RW.grown HV4c.out hg5 HLt.out)
    have HP5 := Lib.hid hp5
    clear hp5 hg5 HR4c HG4c HW4c HV4c HP4c
    obtain ⟨⟨g0, g1, g2, g3, g4, g5, g6, g7⟩, f0, f1, f2, f3, f4, f5, f6, f7⟩ := HG5.out.cells8
    obtain ⟨⟨e0, e1, e2, e3, e4, e5, e6, e7⟩, d0, d1, d2, d3, d4, d5, d6, d7⟩ := HR5.out.cells8
    go_wp2_with fail
    refine post_at (fun U => Blk U W.heap.size #[.int .i64 x.f0, .int .i64 x.f1, .string x.f2.f0, .slice A3 n3 c3, .int .i64 x.f3, .string x.f4, .string x.f5, .slice A7 n7 c7] 53 ∧ RW Kd.string 9 U W.heap.size (.slice A3 n3 c3) x.f2.f1 ∧ RW k50 50 U W.heap.size (.slice A7 n7 c7) x.f6 ∧ PS w0 W U B (Rd.must [⟨#[59]⟩] s2)) ⟨?_, ?_, ?_, ?_⟩ ?_
    · exact HR5.out.all8 _ _ _ _ _ _ _ _
    · exact RW.over HV5.out HR5.out E_str (sets8 _ _ _ _ _ _ _ _ _ _)
    · exact RW.over HW5.out HR5.out E_place (sets8 _ _ _ _ _ _ _ _ _ _)
    · exact HP5.out.own (sets8 _ _ _ _ _ _ _ _ _ _) (Nat.le_refl _)
    · rintro U ⟨hbx, hv, hw, hps⟩
      obtain ⟨⟨z0, z1, z2, z3, z4, z5, z6, z7⟩, -⟩ := hbx.cells8
      exact bodyPost_ret (v := .agg #[.int .i64 x.f0, .int .i64 x.f1, .string x.f2.f0, .slice A3 n3 c3, .int .i64 x.f3, .string x.f4, .string x.f5, .slice A7 n7 c7]) (by simp [results, Tryz.results138, go_sem, z0, z1, z2, z3, z4, z5, z6, z7]) rfl ⟨A3, n3, c3, A7, n7, c7, by rw [HF'.out], by rw [HF'.out]; exact hv, by rw [HF'.out]; exact hw, by rw [HF'.out]; exact hps⟩
theorem stmt_at {w0 W0 W : World} {B : Nat} {s : Rd} (h : PS w0 W0 W B s) (hok : s.Ok) :
    Calls Tryz.prog 138 #[.pointer (some ⟨B, 0, none⟩)] W fun e W' => ∃ A3 n3 c3 A7 n7 c7, e = .returned (.agg #[.int .i64 s.stmt.1.f0, .int .i64 s.stmt.1.f1, .string s.stmt.1.f2.f0, .slice A3 n3 c3, .int .i64 s.stmt.1.f3, .string s.stmt.1.f4, .string s.stmt.1.f5, .slice A7 n7 c7]) ∧ MW k53 W' W.heap.size s.stmt.1 [.int .i64 s.stmt.1.f0, .int .i64 s.stmt.1.f1, .string s.stmt.1.f2.f0, .slice A3 n3 c3, .int .i64 s.stmt.1.f3, .string s.stmt.1.f4, .string s.stmt.1.f5, .slice A7 n7 c7] ∧ PS w0 W0 W' B s.stmt.2 ∧ W.grownBy W' (some B) := by
  refine (stmt_calls w0 W B s h.r hok).mono ?_
  rintro e W' ⟨A3, n3, c3, A7, n7, c7, he, hv, hw, hp⟩
  exact ⟨A3, n3, c3, A7, n7, c7, he, k53_mkM W' _ _ _ hv hw, h.on hp, hp.g⟩
end
end Go.Proofs.YtmgkejobolgkmaaGreatDoor.PL
