/- Package parse's reader: next, and what it is asked by: sees, named, may, must, name, limit. -/
import Derived.Test.YtmgkejobolgkmaaGreatDoorPaPrim
import Derived.Test.YtmgkejobolgkmaaGreatDoorPLx2
namespace Go.Proofs.YtmgkejobolgkmaaGreatDoor.PL
open Go Go.RowKit Go.Proofs.YtmgkejobolgkmaaGreatDoorW.PrintWords Go.Proofs.YtmgkejobolgkmaaGreatDoorW.PrintLast Go.Proofs.YtmgkejobolgkmaaGreatDoorW.PrintMore
set_option linter.unusedVariables false
set_option linter.unusedSimpArgs false

theorem index_texts (s : ByteArray) (l : List ByteArray) : ∀ (d : Nat) (i : Nat) (k : Nat), i ≤ l.length → l.length - i = d → d < k → l.length ≤ 100000 →
    ∃ r, slices_Index_string_string.l0 k l s (l.length : Int) (i : Int) = some r ∧ decide (r ≥ 0) = (l.drop i).any fun x => s.toList == x.toList := by
  intro d
  induction d with
  | zero =>
    intro i k hi hd hk hl
    obtain ⟨k, rfl⟩ : ∃ m, k = m + 1 := ⟨k - 1, by omega⟩
    have : i = l.length := by omega
    subst this
    refine ⟨-1, ?_, by simp⟩
    simp only [slices_Index_string_string.l0]
    rw [if_neg (by omega)]
  | succ d ih =>
    intro i k hi hd hk hl
    obtain ⟨k, rfl⟩ : ∃ m, k = m + 1 := ⟨k - 1, by omega⟩
    have hlt : i < l.length := by omega
    obtain ⟨r, hr, hp⟩ := ih (i + 1) k (by omega) (by omega) (by omega) hl
    have hdrop : l.drop i = l[i] :: l.drop (i + 1) := List.drop_eq_getElem_cons hlt
    have hrd : rdOf ByteArray.empty l (i : Int) = l[i] := by
      unfold rdOf
      rw [Int.toNat_natCast, List.getD_eq_getElem?_getD, List.getElem?_eq_getElem hlt]
      rfl
    simp only [slices_Index_string_string.l0]
    rw [if_pos (by omega), if_pos (by omega), if_pos (by omega), hrd, hdrop]
    by_cases he : s.toList = l[i].toList
    · rw [if_pos he]
      have hb : (s.toList == l[i].toList) = true := by rw [he]; exact beq_self_eq_true _
      refine ⟨_, rfl, ?_⟩
      rw [List.any_cons, hb, Bool.true_or]
      exact decide_eq_true (by omega)
    · rw [if_neg he]
      have hw : wrap64 ((i : Int) + 1) = ((i + 1 : Nat) : Int) := by unfold wrap64; omega
      rw [hw]
      refine ⟨r, hr, ?_⟩
      have hb : (s.toList == l[i].toList) = false := beq_eq_false_iff_ne.2 he
      rw [hp, List.any_cons, hb, Bool.false_or]
def hasT (l : List ByteArray) (x : ByteArray) : Bool := l.any fun y => x.toList == y.toList
theorem contains_calls (l : List ByteArray) (A : Option Addr) (c : Nat) (x : ByteArray) (w : World) (hl : l.length ≤ 100000) (hC : Kd.C Kd.string w A l.length l) (hc : l.length ≤ c) :
    Calls Tryz.prog 96 #[.slice A l.length c, .string x] w fun e w' => e = .returned (.bool (hasT l x)) ∧ Below w.heap.size w w' := by
  obtain ⟨r, hr, hd⟩ := index_texts x l l.length 0 (l.length + 1) (by omega) (by omega) (by omega) hl
  refine (slices_Contains_string_string.calls (l.length + 1) A c l x (hasT l x) w hC hc ?_).mono fun e w' h => ⟨h.1, h.2.below⟩
  unfold slices_Contains_string_string.f slices_Index_string_string.f
  rw [show ((0 : Nat) : Int) = 0 from rfl] at hr
  rw [hr]
  simp only [Option.bind_some]
  rw [hd, List.drop_zero]
  rfl
def namedP (t : Tok) : Bool := t.f0 == 1
def numP (t : Tok) : Bool := t.f0 == 3
def seesP (l : List ByteArray) (t : Tok) : Bool := (t.f0 == 2 || t.f0 == 4) && hasT l t.f2
abbrev Tok.val (t : Tok) : Value := .agg #[.int .i64 t.f0, .int .i64 t.f1, .string t.f2, .int .i64 t.f3]
set_option maxRecDepth 100000 in
theorem named1_calls (t : Tok) (W : World) : Calls Tryz.prog 161 #[t.val] W fun e W' => e = .returned (.bool (namedP t)) ∧ Below W.heap.size W W' := by
  go_enter Tryz.func161, Tryz.ntmps161
  go_wp2_with fail
  go_ret
  exact ⟨rfl, below_alloc (Below.refl _ _) _⟩
set_option maxHeartbeats 2000000 in
set_option maxRecDepth 100000 in
theorem sees1_calls (l : List ByteArray) (A : Option Addr) (c : Nat) (t : Tok) (G : Nat) (W : World) (hl : l.length ≤ 100000) (hC : Kd.C Kd.string W A l.length l) (hc : l.length ≤ c) (hG : Blk W G #[.slice A l.length c] 48) :
    Calls Tryz.prog 95 #[t.val, .pointer (some ⟨G, 0, none⟩)] W fun e W' => e = .returned (.bool (seesP l t)) ∧ Below W.heap.size W W' := by
  have d0 := fun o => (hG.alloc o).cells1.1
  have HC := Lib.hid (Kd.C_below hC (below_alloc (Below.refl W.heap.size W) (.cells #[.int .i64 t.f0, .int .i64 t.f1, .string t.f2, .int .i64 t.f3] 42)))
  have HL := Lib.hid hl
  have HCc := Lib.hid hc
  clear hl hC hc hG
  obtain ⟨r, hr⟩ : ∃ r, r = seesP l t := ⟨_, rfl⟩
  rw [← hr]
  have HR := Lib.hid hr
  clear hr
  cases h2 : (t.f0 == 2) with
  | true =>
    go_enter Tryz.func95, Tryz.ntmps95
    go_wp2_with fail
    refine (contains_calls l A c t.f2 _ HL.out HC.out HCc.out).mono ?_
    rintro e W1 ⟨rfl, hb⟩
    go_wp2_with fail
    go_ret
    exact ⟨by rw [HR.out]; simp [seesP, h2], below_step (below_alloc (Below.refl _ _) _) hb⟩
  | false =>
    cases h4 : (t.f0 == 4) with
    | true =>
      go_enter Tryz.func95, Tryz.ntmps95
      go_wp2_with fail
      refine (contains_calls l A c t.f2 _ HL.out HC.out HCc.out).mono ?_
      rintro e W1 ⟨rfl, hb⟩
      go_wp2_with fail
      go_ret
      exact ⟨by rw [HR.out]; simp [seesP, h2, h4], below_step (below_alloc (Below.refl _ _) _) hb⟩
    | false =>
      go_enter Tryz.func95, Tryz.ntmps95
      go_wp2_with fail
      go_ret
      exact ⟨by rw [HR.out]; simp [seesP, h2, h4], below_alloc (Below.refl _ _) _⟩
set_option maxHeartbeats 2000000 in
set_option maxRecDepth 100000 in
theorem next_named (p : Tok → Bool) (w0 W : World) (B : Nat) (s : Rd) (h : RdIn w0 W B s) (hS : ∀ (t : Tok), Calls Tryz.prog 161 #[t.val] W fun e W' => e = .returned (.bool (p t)) ∧ Below W.heap.size W W') :
    Calls Tryz.prog 94 #[.pointer (some ⟨B, 0, none⟩), .func (.func 161) #[] #[]] W fun e W' => e = .returned (.bool (s.next p)) ∧ Below W.heap.size W W' := by
  obtain ⟨A, c, hb, hC, hc, hbl, hB, hl⟩ := h
  obtain ⟨r, hr⟩ : ∃ r, r = s.next p := ⟨_, rfl⟩
  rw [← hr]
  obtain ⟨toks, fin, bad, much⟩ := s
  unfold Rd.next at hr
  simp only at hr
  obtain ⟨⟨d0, d1, d2, d3⟩, -⟩ := hb.cells4
  have HSx := Lib.hid hS
  clear hS
  by_cases hbad : bad = -1
  · subst hbad
    cases toks with
    | nil =>
      have HR : Hid (r = false) := Lib.hid (by rw [hr]; rfl)
      clear hb hC hc hbl hB hl hr
      go_enter Tryz.func94, Tryz.ntmps94
      go_wp2_with fail
      go_ret
      exact ⟨by rw [HR.out]; rfl, Below.refl _ _⟩
    | cons t l =>
      have HR : Hid (r = p t) := Lib.hid (by rw [hr]; rfl)
      obtain ⟨ad, rfl, x0, x1, x2, x3⟩ := RdIn.head hC hbl
      obtain ⟨n, hn⟩ : ∃ n, n = (t :: l).length := ⟨_, rfl⟩
      have hpos : 0 < n := by rw [hn]; simp
      simp only at d0
      rw [← hn] at d0
      have q1 : decide ((n : Int) > 0) = true := decide_eq_true (by omega)
      have q4 : decide ((0 : Int) < (n : Int)) = true := decide_eq_true (by omega)
      have q5 : decide (0 < n) = true := decide_eq_true hpos
      have q2 : ((0 : Int) < (n : Int)) = True := eq_true (by omega)
      have q3 : (0 < n) = True := eq_true hpos
      clear hb hC hc hbl hB hl hn hpos hr
      go_enter Tryz.func94, Tryz.ntmps94
      go_wp2_with fail
      refine (HSx.out t).mono ?_
      rintro e W1 ⟨rfl, hb⟩
      go_wp2_with fail
      go_ret
      exact ⟨by rw [HR.out]; rfl, hb⟩
  · have HR : Hid (r = false) := Lib.hid (by rw [hr, decide_eq_false hbad]; rfl)
    have hb1 : (bad == -1) = false := by rw [beq_eq_false_iff_ne]; omega
    clear hb hC hc hbl hB hl hr hbad
    go_enter Tryz.func94, Tryz.ntmps94
    go_wp2_with fail
    go_ret
    exact ⟨by rw [HR.out]; rfl, Below.refl _ _⟩
set_option maxHeartbeats 2000000 in
set_option maxRecDepth 100000 in
theorem next_sees (G : Nat) (p : Tok → Bool) (w0 W : World) (B : Nat) (s : Rd) (h : RdIn w0 W B s) (hS : ∀ (t : Tok), Calls Tryz.prog 95 #[t.val, .pointer (some ⟨G, 0, none⟩)] W fun e W' => e = .returned (.bool (p t)) ∧ Below W.heap.size W W') :
    Calls Tryz.prog 94 #[.pointer (some ⟨B, 0, none⟩), .func (.func 95) #[] #[.pointer (some ⟨G, 0, none⟩)]] W fun e W' => e = .returned (.bool (s.next p)) ∧ Below W.heap.size W W' := by
  obtain ⟨A, c, hb, hC, hc, hbl, hB, hl⟩ := h
  obtain ⟨r, hr⟩ : ∃ r, r = s.next p := ⟨_, rfl⟩
  rw [← hr]
  obtain ⟨toks, fin, bad, much⟩ := s
  unfold Rd.next at hr
  simp only at hr
  obtain ⟨⟨d0, d1, d2, d3⟩, -⟩ := hb.cells4
  have HSx := Lib.hid hS
  clear hS
  by_cases hbad : bad = -1
  · subst hbad
    cases toks with
    | nil =>
      have HR : Hid (r = false) := Lib.hid (by rw [hr]; rfl)
      clear hb hC hc hbl hB hl hr
      go_enter Tryz.func94, Tryz.ntmps94
      go_wp2_with fail
      go_ret
      exact ⟨by rw [HR.out]; rfl, Below.refl _ _⟩
    | cons t l =>
      have HR : Hid (r = p t) := Lib.hid (by rw [hr]; rfl)
      obtain ⟨ad, rfl, x0, x1, x2, x3⟩ := RdIn.head hC hbl
      obtain ⟨n, hn⟩ : ∃ n, n = (t :: l).length := ⟨_, rfl⟩
      have hpos : 0 < n := by rw [hn]; simp
      simp only at d0
      rw [← hn] at d0
      have q1 : decide ((n : Int) > 0) = true := decide_eq_true (by omega)
      have q4 : decide ((0 : Int) < (n : Int)) = true := decide_eq_true (by omega)
      have q5 : decide (0 < n) = true := decide_eq_true hpos
      have q2 : ((0 : Int) < (n : Int)) = True := eq_true (by omega)
      have q3 : (0 < n) = True := eq_true hpos
      clear hb hC hc hbl hB hl hn hpos hr
      go_enter Tryz.func94, Tryz.ntmps94
      go_wp2_with fail
      refine (HSx.out t).mono ?_
      rintro e W1 ⟨rfl, hb⟩
      go_wp2_with fail
      go_ret
      exact ⟨by rw [HR.out]; rfl, hb⟩
  · have HR : Hid (r = false) := Lib.hid (by rw [hr, decide_eq_false hbad]; rfl)
    have hb1 : (bad == -1) = false := by rw [beq_eq_false_iff_ne]; omega
    clear hb hC hc hbl hB hl hr hbad
    go_enter Tryz.func94, Tryz.ntmps94
    go_wp2_with fail
    go_ret
    exact ⟨by rw [HR.out]; rfl, Below.refl _ _⟩
def Rd.named (s : Rd) : Bool := s.next namedP
def Rd.sees (s : Rd) (l : List ByteArray) : Bool := s.next (seesP l)
/-- the next token is taken, if it is this text -/
def Rd.may (s : Rd) (x : ByteArray) : Bool × Rd := if s.sees [x] then (true, s.tl) else (false, s)
def Rd.must : List ByteArray → Rd → Rd
  | [], s => s
  | x :: l, s => Rd.must l (if (s.may x).1 then (s.may x).2 else (s.may x).2.fail)
def Rd.name (s : Rd) : ByteArray × Rd := if s.named then (s.hd.f2, s.tl) else (⟨#[]⟩, s.fail)
theorem Rd.next_ne {s : Rd} {p : Tok → Bool} (h : s.next p = true) : s.toks ≠ [] := by
  intro e
  unfold Rd.next at h
  rw [e] at h
  simp at h
theorem named_calls (w0 W : World) (B : Nat) (s : Rd) (h : RdIn w0 W B s) : Calls Tryz.prog 134 #[.pointer (some ⟨B, 0, none⟩)] W fun e W' => e = .returned (.bool s.named) ∧ Below W.heap.size W W' := by
  have HN := Lib.hid (next_named namedP w0 W B s h (fun t => named1_calls t W))
  clear h
  obtain ⟨r, hr⟩ : ∃ r, r = s.named := ⟨_, rfl⟩
  rw [← hr]
  have HR := Lib.hid hr
  clear hr
  go_enter Tryz.func134, Tryz.ntmps134
  go_wp2_with fail
  refine HN.out.mono ?_
  rintro e W1 ⟨rfl, hb⟩
  go_wp2_with fail
  go_ret
  exact ⟨by rw [HR.out]; rfl, hb⟩
set_option maxHeartbeats 2000000 in
set_option maxRecDepth 100000 in
theorem sees_calls (w0 W : World) (B : Nat) (s : Rd) (h : RdIn w0 W B s) (l : List ByteArray) (A : Option Addr) (c : Nat) (hl : l.length ≤ 100000) (hC : Kd.C Kd.string W A l.length l) (hc : l.length ≤ c) :
    Calls Tryz.prog 52 #[.pointer (some ⟨B, 0, none⟩), .slice A l.length c] W fun e W' => e = .returned (.bool (s.sees l)) ∧ Below W.heap.size W W' := by
  have hbl := below_alloc (Below.refl W.heap.size W) (.cells #[.slice A l.length c] 48)
  have HN := Lib.hid (next_sees W.heap.size (seesP l) w0 _ B s (h.below hbl) (fun t => sees1_calls l A c t W.heap.size _ hl (Kd.C_below hC hbl) hc (Blk.new W _ _)))
  clear h hl hC hc hbl
  obtain ⟨r, hr⟩ : ∃ r, r = s.sees l := ⟨_, rfl⟩
  rw [← hr]
  have HR := Lib.hid hr
  clear hr
  go_enter Tryz.func52, Tryz.ntmps52
  go_wp2_with fail
  refine HN.out.mono ?_
  rintro e W1 ⟨rfl, hb⟩
  go_wp2_with fail
  go_ret
  exact ⟨by rw [HR.out]; rfl, below_step (below_alloc (Below.refl _ _) _) hb⟩
/-- one text, in a row of its own -/
theorem one_text (W : World) (x : ByteArray) (t : TypeId) : Kd.C Kd.string (W.alloc (.cells #[.string x] t)) (some ⟨W.heap.size, 0, none⟩) [x].length [x] := by
  refine ⟨rfl, by simp, fun _ => ⟨⟨W.heap.size, 0, none⟩, rfl, fun j e hj => ?_⟩⟩
  match j, hj with
  | 0, hj =>
    injection hj with hj
    subst hj
    refine ⟨[.string x], rfl, rfl, fun i u hu => ?_⟩
    match i, hu with
    | 0, hu => exact ((Blk.new W #[.string x] t).cell 0).trans hu
  | j + 1, hj => simp at hj
set_option maxHeartbeats 2000000 in
set_option maxRecDepth 100000 in
theorem may_calls (w0 W : World) (B : Nat) (s : Rd) (x : ByteArray) (h : RdIn w0 W B s) : Calls Tryz.prog 100 #[.pointer (some ⟨B, 0, none⟩), .string x] W fun e W' => e = .returned (.bool (s.may x).1) ∧ RdIn w0 W' B (s.may x).2 ∧ W.grownBy W' (some B) := by
  have hbl := below_alloc (Below.refl W.heap.size W) (.cells #[.string x] 9)
  have HN := Lib.hid (sees_calls w0 _ B s (h.below hbl) [x] (some ⟨W.heap.size, 0, none⟩) 1 (by simp) (one_text W x 9) (by simp))
  have HRd := Lib.hid (h.below hbl)
  clear h
  obtain ⟨r, hr⟩ : ∃ r, r = s.may x := ⟨_, rfl⟩
  rw [← hr]
  unfold Rd.may at hr
  cases hs : s.sees [x] with
  | true =>
    rw [hs] at HN hr
    have HR : Hid (r = (true, s.tl)) := Lib.hid hr
    have HNe := Lib.hid (Rd.next_ne hs)
    clear hr hs hbl
    go_enter Tryz.func100, Tryz.ntmps100
    go_wp2_with fail
    refine HN.out.mono ?_
    rintro e W1 ⟨rfl, hb⟩
    have HB := Lib.hid hb
    clear hb
    go_wp2_with fail
    refine (take_calls w0 W1 B s (HRd.out.below HB.out) HNe.out).mono ?_
    rintro e W2 ⟨rfl, hrd, hg⟩
    go_wp2_with fail
    go_ret
    exact ⟨by rw [HR.out]; rfl, by rw [HR.out]; exact hrd, grown_trans (grown_below (below_step (below_alloc (Below.refl _ _) _) HB.out)) hg⟩
  | false =>
    rw [hs] at HN hr
    have HR : Hid (r = (false, s)) := Lib.hid hr
    clear hr hs hbl
    go_enter Tryz.func100, Tryz.ntmps100
    go_wp2_with fail
    refine HN.out.mono ?_
    rintro e W1 ⟨rfl, hb⟩
    go_wp2_with fail
    go_ret
    exact ⟨by rw [HR.out]; rfl, by rw [HR.out]; exact HRd.out.below hb, grown_below (below_step (below_alloc (Below.refl _ _) _) hb)⟩
set_option maxHeartbeats 2000000 in
set_option maxRecDepth 100000 in
theorem name_calls (w0 W : World) (B : Nat) (s : Rd) (h : RdIn w0 W B s) : Calls Tryz.prog 99 #[.pointer (some ⟨B, 0, none⟩)] W fun e W' => e = .returned (.string s.name.1) ∧ RdIn w0 W' B s.name.2 ∧ W.grownBy W' (some B) := by
  have HN := Lib.hid (named_calls w0 W B s h)
  have HRd := Lib.hid h
  clear h
  obtain ⟨r, hr⟩ : ∃ r, r = s.name := ⟨_, rfl⟩
  rw [← hr]
  unfold Rd.name at hr
  cases hs : s.named with
  | true =>
    rw [hs] at HN hr
    have HR : Hid (r = (s.hd.f2, s.tl)) := Lib.hid hr
    have HNe := Lib.hid (Rd.next_ne hs)
    have hfd : ∀ (W : World), (Instr.field 42 (.agg #[.int .i64 s.hd.f0, .int .i64 s.hd.f1, .string s.hd.f2, .int .i64 s.hd.f3]) 2).run Tryz.prog W = .ok (.string s.hd.f2) W := fun _ => by kernel_rfl
    clear hr hs
    go_enter Tryz.func99, Tryz.ntmps99
    go_wp2_with fail
    refine HN.out.mono ?_
    rintro e W1 ⟨rfl, hb⟩
    have HB := Lib.hid hb
    clear hb
    go_wp2_with fail
    refine (take_calls w0 W1 B s (HRd.out.below HB.out) HNe.out).mono ?_
    rintro e W2 ⟨rfl, hrd, hg⟩
    go_wp2_with fail
    go_ret
    exact ⟨by rw [HR.out]; rfl, by rw [HR.out]; exact hrd, grown_trans (grown_below HB.out) hg⟩
  | false =>
    rw [hs] at HN hr
    have HR : Hid (r = (⟨#[]⟩, s.fail)) := Lib.hid hr
    clear hr hs
    go_enter Tryz.func99, Tryz.ntmps99
    go_wp2_with fail
    refine HN.out.mono ?_
    rintro e W1 ⟨rfl, hb⟩
    have HB := Lib.hid hb
    clear hb
    go_wp2_with fail
    refine (fail_calls w0 W1 B s (HRd.out.below HB.out)).mono ?_
    rintro e W2 ⟨⟨v, rfl⟩, hrd, hg⟩
    go_wp2_with fail
    go_ret
    exact ⟨by rw [HR.out]; rfl, by rw [HR.out]; exact hrd, grown_trans (grown_below HB.out) hg⟩
end Go.Proofs.YtmgkejobolgkmaaGreatDoor.PL
