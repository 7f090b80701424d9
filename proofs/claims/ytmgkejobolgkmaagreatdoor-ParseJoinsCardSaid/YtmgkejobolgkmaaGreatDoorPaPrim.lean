/- Package parse's reader: what it is, and its smallest functions: at, fail, take. -/
import Derived.Test.YtmgkejobolgkmaaGreatDoorLexAid
import Derived.Lib.Hide
import Derived.Deep.QuietTactic
import Derived.BigQuiet
namespace Go.Proofs.YtmgkejobolgkmaaGreatDoor.PL
open Go Go.RowKit Go.Proofs.YtmgkejobolgkmaaGreatDoorW.PrintWords Go.Proofs.YtmgkejobolgkmaaGreatDoorW.PrintLast Go.Proofs.YtmgkejobolgkmaaGreatDoorW.PrintMore
set_option linter.unusedVariables false
set_option linter.unusedSimpArgs false

abbrev Tok := S42
/-- a reader -/
structure Rd where
  toks : List Tok
  fin : Int
  bad : Int
  much : Int
abbrev Rd.cells (s : Rd) (A : Option Addr) (c : Nat) : Array Value := #[.slice A s.toks.length c, .int .i64 s.fin, .int .i64 s.bad, .int .i64 s.much]
/-- a reader in memory: its box B, and its tokens, which lay in a world w0 ahead of it -/
def RdIn (w0 W : World) (B : Nat) (s : Rd) : Prop := ∃ A c, Blk W B (s.cells A c) 66 ∧ Kd.C k42 w0 A s.toks.length s.toks ∧ s.toks.length ≤ c ∧ Below w0.heap.size w0 W ∧ w0.heap.size ≤ B ∧ s.toks.length ≤ 100000
theorem cell_bel {B : Nat} {w W : World} {a : Addr} {v : Value} (hB : B = w.heap.size) (hb : Below B w W) (h : w.cell? a = some v) : W.cell? a = some v := by
  subst hB
  exact (Below.cell hb (World.block_lt_of_cell? _ _ h)).trans h
theorem below_step {w W w2 : World} (h : Below w.heap.size w W) (k : Below W.heap.size W w2) : Below w.heap.size w w2 := below_then h h.size k
theorem RdIn.below {w0 W W' : World} {B : Nat} {s : Rd} (h : RdIn w0 W B s) (hb : Below W.heap.size W W') : RdIn w0 W' B s := by
  obtain ⟨A, c, h1, h2, h3, h4, h5, h6⟩ := h
  exact ⟨A, c, h1.below hb, h2, h3, below_step h4 hb, h5, h6⟩
theorem RdIn.lt {w0 W : World} {B : Nat} {s : Rd} (h : RdIn w0 W B s) : B < W.heap.size := by
  obtain ⟨A, c, h1, _⟩ := h
  exact h1.lt
/-- the place of the next token -/
def Rd.at_ (s : Rd) : Int := match s.toks with | [] => s.fin | t :: _ => t.f1
/-- the next token can't stand here -/
def Rd.fail (s : Rd) : Rd := ⟨[], if s.bad = -1 then s.at_ else s.bad, if s.bad = -1 then s.at_ else s.bad, s.much⟩
def Rd.hd (s : Rd) : Tok := match s.toks with | [] => z42 | t :: _ => t
def Rd.tl (s : Rd) : Rd := ⟨s.toks.tail, s.fin, s.bad, s.much⟩
def Rd.next (s : Rd) (p : Tok → Bool) : Bool := decide (s.bad = -1) && (match s.toks with | [] => false | t :: _ => p t)
/-- a reader whose next token is t -/
theorem RdIn.head {w0 W : World} {A : Option Addr} {t : Tok} {l : List Tok} (hC : Kd.C k42 w0 A (t :: l).length (t :: l)) (hbl : Below w0.heap.size w0 W) :
    ∃ ad, A = some ad ∧ W.cell? ad = some (.int .i64 t.f0) ∧ W.cell? ⟨ad.block, ad.off + 1, none⟩ = some (.int .i64 t.f1) ∧ W.cell? ⟨ad.block, ad.off + 2, none⟩ = some (.string t.f2) ∧ W.cell? ⟨ad.block, ad.off + 3, none⟩ = some (.int .i64 t.f3) := by
  obtain ⟨ad, ea, x0, x1, x2, x3⟩ := at_T42 hC 0 (by omega) (by simp)
  have e : ad.add (Int.toNat 0 * 4) = ad := by simp [Addr.add]
  rw [e] at x0 x1 x2 x3
  exact ⟨ad, ea, cell_bel rfl hbl x0, cell_bel rfl hbl x1, cell_bel rfl hbl x2, cell_bel rfl hbl x3⟩
theorem grown_refl (w : World) (r : Option Nat) : w.grownBy w r := ⟨rfl, rfl, rfl, Nat.le_refl _, fun _ _ _ => rfl⟩
theorem grown_set (w : World) (a : Addr) (v : Value) : w.grownBy (w.setCell a v) (some a.block) :=
  have h := (Below.refl 0 w).setCell (p := a) (Nat.zero_le _) v
  ⟨h.os, h.tape, h.output, h.size, fun k hk hne => Below.heap_setCell w a v k (fun e => hne (by rw [e]))⟩
theorem grown_trans {A B C : World} {r : Option Nat} (h : A.grownBy B r) (k : B.grownBy C r) : A.grownBy C r :=
  ⟨k.os.trans h.os, k.tape.trans h.tape, k.output.trans h.output, Nat.le_trans h.size k.size, fun i hi hne => (k.block i (Nat.lt_of_lt_of_le hi h.size) hne).trans (h.block i hi hne)⟩
theorem grown_new {A C : World} {r : Option Nat} (h : A.grownBy C r) {p : Addr} (hp : A.heap.size ≤ p.block) (u : Value) : A.grownBy (C.setCell p u) r :=
  ⟨h.os, h.tape, h.output, Nat.le_trans h.size ((Below.refl 0 C).setCell (p := p) (Nat.zero_le _) u).size, fun k hk hne => (Below.heap_setCell C p u k (by omega)).trans (h.block k hk hne)⟩
theorem grown_below {A B : World} {r : Option Nat} (h : Below A.heap.size A B) : A.grownBy B r := ⟨h.os, h.tape, h.output, h.size, fun k hk _ => h.block k hk⟩
set_option maxHeartbeats 2000000 in
set_option maxRecDepth 100000 in
theorem at_calls (w0 W : World) (B : Nat) (s : Rd) (h : RdIn w0 W B s) : Calls Tryz.prog 97 #[.pointer (some ⟨B, 0, none⟩)] W fun e W' => e = .returned (.int .i64 s.at_) ∧ W = W' := by
  obtain ⟨A, c, hb, hC, hc, hbl, hB, hl⟩ := h
  obtain ⟨toks, fin, bad, much⟩ := s
  obtain ⟨⟨d0, d1, d2, d3⟩, -⟩ := hb.cells4
  cases toks with
  | nil =>
    clear hb hC hc hbl hB hl
    go_enter Tryz.func97, Tryz.ntmps97
    go_wp2_with fail
    go_ret
    exact ⟨rfl, rfl⟩
  | cons t l =>
    obtain ⟨ad, rfl, x0, x1, x2, x3⟩ := RdIn.head hC hbl
    obtain ⟨n, hn⟩ : ∃ n, n = (t :: l).length := ⟨_, rfl⟩
    have hpos : 0 < n := by rw [hn]; simp
    simp only at d0
    rw [← hn] at d0
    have q1 : ((n : Int) == 0) = false := by rw [beq_eq_false_iff_ne]; omega
    have q2 : ((0 : Int) < (n : Int)) = True := eq_true (by omega)
    have q3 : (0 < n) = True := eq_true hpos
    clear hb hC hc hbl hB hl hn hpos
    go_enter Tryz.func97, Tryz.ntmps97
    go_wp2_with fail
    go_ret
    exact ⟨rfl, rfl⟩
set_option maxHeartbeats 2000000 in
set_option maxRecDepth 100000 in
theorem fail_calls (w0 W : World) (B : Nat) (s : Rd) (h : RdIn w0 W B s) : Calls Tryz.prog 57 #[.pointer (some ⟨B, 0, none⟩)] W fun e W' => (∃ v, e = .returned v) ∧ RdIn w0 W' B s.fail ∧ W.grownBy W' (some B) := by
  have HAt := Lib.hid (at_calls w0 W B s h)
  obtain ⟨A, c, hb, hC, hc, hbl, hB, hl⟩ := h
  obtain ⟨a, ha⟩ : ∃ a, a = s.at_ := ⟨_, rfl⟩
  rw [← ha] at HAt
  have HA := Lib.hid ha
  have HF : Hid (s.fail = ⟨[], if s.bad = -1 then a else s.bad, if s.bad = -1 then a else s.bad, s.much⟩) := Lib.hid (by rw [ha]; rfl)
  obtain ⟨toks, fin, bad, much⟩ := s
  obtain ⟨⟨d0, d1, d2, d3⟩, f0, f1, f2, f3⟩ := hb.cells4
  have HBk := Lib.hid hb
  have HBl := Lib.hid hbl
  have HBB := Lib.hid hB
  clear ha hb hC hc hbl hB hl
  by_cases hbad : bad = -1
  · subst hbad
    go_enter Tryz.func57, Tryz.ntmps57
    go_wp2_with fail
    refine HAt.out.mono ?_
    rintro e W2 ⟨rfl, rfl⟩
    go_wp2_with fail
    go_end0
    refine ⟨⟨_, rfl⟩, ?_, ?_⟩
    · rw [HF.out]
      simp only [if_true]
      exact ⟨none, 0, ((HBk.out.set 2 _).set 0 _).set 1 _, ⟨rfl, Nat.zero_le _, fun h => absurd h (by simp)⟩, Nat.le_refl _, ((HBl.out.setCell (p := ⟨B, 2, none⟩) HBB.out _).setCell (p := ⟨B, 0, none⟩) HBB.out _).setCell (p := ⟨B, 1, none⟩) HBB.out _, HBB.out, Nat.zero_le _⟩
    · exact grown_trans (grown_trans (grown_set _ ⟨B, 2, none⟩ _) (grown_set _ ⟨B, 0, none⟩ _)) (grown_set _ ⟨B, 1, none⟩ _)
  · have hb1 : (bad == -1) = false := by rw [beq_eq_false_iff_ne]; omega
    go_enter Tryz.func57, Tryz.ntmps57
    go_wp2_with fail
    go_end0
    refine ⟨⟨_, rfl⟩, ?_, ?_⟩
    · rw [HF.out, if_neg hbad]
      exact ⟨none, 0, (HBk.out.set 0 _).set 1 _, ⟨rfl, Nat.zero_le _, fun h => absurd h (by simp)⟩, Nat.le_refl _, (HBl.out.setCell (p := ⟨B, 0, none⟩) HBB.out _).setCell (p := ⟨B, 1, none⟩) HBB.out _, HBB.out, Nat.zero_le _⟩
    · exact grown_trans (grown_set _ ⟨B, 0, none⟩ _) (grown_set _ ⟨B, 1, none⟩ _)
theorem infoTok : (Tryz.prog.info? 42).map (fun i => (i.zero, i.size, i.bytes)) = some (some (.agg #[(.int .i64 0), (.int .i64 0), (.string ⟨#[]⟩), (.int .i64 0)]), 4, 40) := by kernel_rfl
theorem blk_alloc_set {W : World} {B : Nat} {cs : Array Value} {t : TypeId} (h : Blk W B cs t) (o o' : Obj) : Blk ((W.alloc o).alloc o') B cs t := (h.alloc o).alloc o'
set_option maxHeartbeats 2000000 in
set_option maxRecDepth 100000 in
theorem take_calls (w0 W : World) (B : Nat) (s : Rd) (h : RdIn w0 W B s) (hne : s.toks ≠ []) : Calls Tryz.prog 135 #[.pointer (some ⟨B, 0, none⟩)] W fun e W' => e = .returned (.agg #[.int .i64 s.hd.f0, .int .i64 s.hd.f1, .string s.hd.f2, .int .i64 s.hd.f3]) ∧ RdIn w0 W' B s.tl ∧ W.grownBy W' (some B) := by
  obtain ⟨A, c, hb, hC, hc, hbl, hB, hl⟩ := h
  obtain ⟨toks, fin, bad, much⟩ := s
  cases toks with
  | nil => exact absurd rfl hne
  | cons t l =>
    clear hne
    obtain ⟨⟨d0, d1, d2, d3⟩, f0, f1, f2, f3⟩ := hb.cells4
    obtain ⟨ad, rfl, x0, x1, x2, x3⟩ := RdIn.head hC hbl
    obtain ⟨i0, hi, _, hsz, _⟩ := info_parts infoTok
    have hcut := cut_from (P := Tryz.prog) 38 42 .i64 Tryz.underlying38 hi 4 hsz (some ad) (t :: l).length c 1 (by omega) (by simp; omega)
    rw [show (1 : Int).toNat = 1 from rfl] at hcut
    have hdr := Kd.C_drop (m := 1) hC (by simp) hc
    have hsz4 : (k42).sz = 4 := rfl
    rw [hsz4] at hdr
    have hn1 : (t :: l).length - 1 = l.length := by simp
    rw [hn1] at hcut
    have hd1 : ((t :: l).drop 1).length = l.length := rfl
    rw [hd1] at hdr
    have hc2 : l.length ≤ c - 1 := by simp at hc; omega
    generalize (if c = 1 then some ad else (some ad).map (fun x => x.add (1 * 4))) = A2 at hcut hdr
    generalize c - 1 = c2 at hcut hc2
    obtain ⟨n, hn⟩ : ∃ n, n = (t :: l).length := ⟨_, rfl⟩
    have hpos : 0 < n := by rw [hn]; simp
    simp only at d0
    rw [← hn] at d0 hcut
    have q2 : ((0 : Int) < (n : Int)) = True := eq_true (by omega)
    have q3 : (0 < n) = True := eq_true hpos
    have y0 := fun o => cell_bel rfl (below_alloc (Below.refl W.heap.size W) o) x0
    have y1 := fun o => cell_bel rfl (below_alloc (Below.refl W.heap.size W) o) x1
    have y2 := fun o => cell_bel rfl (below_alloc (Below.refl W.heap.size W) o) x2
    have y3 := fun o => cell_bel rfl (below_alloc (Below.refl W.heap.size W) o) x3
    have hlt := hb.lt
    have n1 : (B = W.heap.size) = False := eq_false (by omega)
    have n2 : (B = W.heap.size + 1) = False := eq_false (by omega)
    have n3 : (W.heap.size = B) = False := eq_false (by omega)
    have n4 : (W.heap.size + 1 = B) = False := eq_false (by omega)
    clear hlt
    have b1 := fun o => cell_bel rfl (below_alloc (Below.refl W.heap.size W) o) d0
    have b0 := fun o o' => (blk_alloc_set hb o o').cells4.1.1
    have g0 := fun o o' => (blk_alloc_set hb o o').cells4.2.1
    simp only at b0
    rw [← hn] at b0
    have HBk := Lib.hid hb
    have HBl := Lib.hid hbl
    have HBB := Lib.hid hB
    have HDr := Lib.hid hdr
    have HC2 := Lib.hid hc2
    have HLl : Hid (l.length ≤ 100000) := Lib.hid (by simp at hl; omega)
    clear hb hC hc hbl hB hl hn hpos hdr hc2 hi hsz hn1 hd1 hsz4
    go_enter Tryz.func135, Tryz.ntmps135
    go_wp2_with fail
    refine post_at (fun U => Blk U W.heap.size #[.int .i64 t.f0, .int .i64 t.f1, .string t.f2, .int .i64 t.f3] 42 ∧ RdIn w0 U B ⟨l, fin, bad, much⟩ ∧ W.grownBy U (some B)) ⟨?_, ?_, ?_⟩ ?_
    · exact ((((((Blk.new W _ _).alloc _).far (p := ⟨B, 0, none⟩) (by show W.heap.size ≠ B; simp [n3]) _).set 0 _).set 1 _).set 2 _).set 3 _
    · have hw := HBl.out.size
      exact ⟨A2, c2, (((((blk_alloc_set HBk.out _ _).set 0 _).far (p := ⟨W.heap.size, 0, none⟩) (by show B ≠ W.heap.size; simp [n1]) _).far (p := ⟨W.heap.size, 1, none⟩) (by show B ≠ W.heap.size; simp [n1]) _).far (p := ⟨W.heap.size, 2, none⟩) (by show B ≠ W.heap.size; simp [n1]) _).far (p := ⟨W.heap.size, 3, none⟩) (by show B ≠ W.heap.size; simp [n1]) _,
        HDr.out, HC2.out, (((((below_alloc (below_alloc HBl.out _) _).setCell (p := ⟨B, 0, none⟩) HBB.out _).setCell (p := ⟨W.heap.size, 0, none⟩) hw _).setCell (p := ⟨W.heap.size, 1, none⟩) hw _).setCell (p := ⟨W.heap.size, 2, none⟩) hw _).setCell (p := ⟨W.heap.size, 3, none⟩) hw _, HBB.out, HLl.out⟩
    · exact grown_new (grown_new (grown_new (grown_new (grown_trans (grown_below (below_alloc (below_alloc (Below.refl _ _) _) _)) (grown_set _ ⟨B, 0, none⟩ _)) (p := ⟨W.heap.size, 0, none⟩) (Nat.le_refl _) _) (p := ⟨W.heap.size, 1, none⟩) (Nat.le_refl _) _) (p := ⟨W.heap.size, 2, none⟩) (Nat.le_refl _) _) (p := ⟨W.heap.size, 3, none⟩) (Nat.le_refl _) _
    · rintro U ⟨hbx, hrd, hgr⟩
      obtain ⟨⟨z0, z1, z2, z3⟩, -⟩ := hbx.cells4
      exact bodyPost_ret (v := .agg #[.int .i64 t.f0, .int .i64 t.f1, .string t.f2, .int .i64 t.f3]) (by simp [results, Tryz.results135, go_sem, z0, z1, z2, z3]) rfl ⟨rfl, hrd, hgr⟩
end Go.Proofs.YtmgkejobolgkmaaGreatDoor.PL
