/- Package code: a reader's numbers and count: their contracts; append of an own row of structs within a fence. -/
import Derived.Test.YtoiakaagbgfocaaCoCnt
import Derived.Maps.OwnIn
namespace Go.Proofs.Ytoiakaagbgfocaa.PC
open Go.RowKit Go.Proofs.YtoiakaagbgfocaaW.PrintWords Go.Proofs.YtoiakaagbgfocaaW.PrintLast Go.Proofs.YtoiakaagbgfocaaW.PrintMore
open Go.Proofs.Ytoiakaagbgfocaa.RG
set_option linter.unusedVariables false
set_option linter.unusedSimpArgs false

/-- of what lay in A, at most the blocks of S have turned -/
structure Chg (S : Nat → Prop) (A C : World) : Prop where
  os : C.os = A.os
  tape : C.tape = A.tape
  output : C.output = A.output
  size : A.heap.size ≤ C.heap.size
  block : ∀ k, k < A.heap.size → ¬ S k → C.heap[k]? = A.heap[k]?
namespace Chg
variable {S S' : Nat → Prop} {A C D : World}
theorem refl (S : Nat → Prop) (A : World) : Chg S A A := ⟨rfl, rfl, rfl, Nat.le_refl _, fun _ _ _ => rfl⟩
theorem trans (h : Chg S A C) (k : Chg S' C D) (hs : ∀ q, S' q → S q ∨ A.heap.size ≤ q) : Chg S A D :=
  ⟨k.os.trans h.os, k.tape.trans h.tape, k.output.trans h.output, Nat.le_trans h.size k.size, fun q hq hn => (k.block q (Nat.lt_of_lt_of_le hq h.size) (fun e => by
    rcases hs q e with h1 | h1
    · exact hn h1
    · omega)).trans (h.block q hq hn)⟩
theorem on (h : Chg S A C) (k : Chg S C D) : Chg S A D := h.trans k (fun _ e => .inl e)
theorem mono (h : Chg S A C) (hs : ∀ q, q < A.heap.size → S q → S' q) : Chg S' A C := ⟨h.os, h.tape, h.output, h.size, fun q hq hn => h.block q hq (fun e => hn (hs q hq e))⟩
theorem of_below (h : Below A.heap.size A C) (S : Nat → Prop) : Chg S A C := ⟨h.os, h.tape, h.output, h.size, fun q hq _ => h.block q hq⟩
theorem of_grown {row : Option Nat} (h : A.grownBy C row) (hs : ∀ q, row = some q → S q) : Chg S A C := ⟨h.os, h.tape, h.output, h.size, fun q hq hn => h.block q hq (fun e => hn (hs q e.symm))⟩
theorem alloc (h : Chg S A C) (o : Obj) : Chg S A (C.alloc o) := h.on (of_below (below_alloc (Below.refl _ _) o) S)
theorem drew (h : Chg S A C) : Chg S A C.drew := h.on (of_below (below_drew (Below.refl _ _)) S)
theorem set (h : Chg S A C) {p : Addr} (hp : S p.block) (u : Value) : Chg S A (C.setCell p u) := h.on (of_grown (grown_set C p u) (fun q e => by cases e; exact hp))
theorem below {n : Nat} (h : Chg S A C) (hn : n ≤ A.heap.size) (hs : ∀ q, S q → n ≤ q) : Below n A C := ⟨h.os, h.tape, h.output, h.size, fun q hq => h.block q (by omega) (fun e => by have := hs q e; omega)⟩
theorem blk {g t : Nat} {cs : Array Value} (h : Chg S A C) (hb : Blk A g cs t) (hs : ¬ S g) : Blk C g cs t := ⟨(h.block g hb.lt hs).trans hb.out⟩
theorem row {α : Type} {d : Kd α} {e base : Nat} {ok : Nat → Prop} {v : Value} {xs : List α} (h : Chg S A C) (hr : d.R e A base ok v xs) (hs : ∀ k, ok k → ¬ S k) : d.R e C base ok v xs := Kd.R_kept hr ⟨h.size, h.block⟩ hs
theorem put (h : Chg S A C) {l : Nat} {o o' : Obj} (ho : C.heap[l]? = some o) (hl : S l) : Chg S A (C.putObj l o') := h.on (of_grown (grownBy_putObj' C l o') (fun q e => by cases e; exact hl))
end Chg
theorem Chg.rd {S : Nat → Prop} {A C w0 : World} {B : Nat} {l : List Int} {e : Int} (h : Chg S A C) (hr : RdAt w0 A B l e) (hs : ¬ S B) : RdAt w0 C B l e := by
  obtain ⟨a, c, hb, h1, h2⟩ := hr
  exact ⟨a, c, h.blk hb hs, h1, h2⟩
/-- numbers, each into its cell -/
def numsR : List Nat → List Int → Int → Array Value → Array Value × List Int × Int
  | [], l, e, cs => (cs, l, e)
  | o :: os, l, e, cs => numsR os (numR l e).2.1 (numR l e).2.2 (cs.setIfInBounds o (.int .i64 (numR l e).1))
theorem numU_mem (l0 : List Int) : ∀ (l : List Int) (k : Nat) (u : Int) (x : Int), (∀ y ∈ l, y ∈ l0) → x ∈ (numU l0 l k u).2.1 → x ∈ l0
  | [], k, u, x, hl, h => h
  | c :: l, k, u, x, hl, h => by
    unfold numU at h
    split at h
    · exact h
    · split at h
      · exact hl x (List.mem_cons_of_mem _ h)
      · exact numU_mem l0 l _ _ x (fun y hy => hl y (List.mem_cons_of_mem _ hy)) h
theorem numU_len (l0 : List Int) : ∀ (l : List Int) (k : Nat) (u : Int), l.length ≤ l0.length → (numU l0 l k u).2.1.length ≤ l0.length
  | [], k, u, hl => Nat.le_refl _
  | c :: l, k, u, hl => by
    unfold numU
    simp at hl
    split
    · exact Nat.le_refl _
    · split
      · simp
        omega
      · exact numU_len l0 l _ _ (by omega)
/-- bytes to be read -/
structure Byt (l : List Int) : Prop where mk :: (len : l.length ≤ 1000000) (byte : ∀ x ∈ l, 0 ≤ x ∧ x < 256)
theorem Byt.num {l : List Int} (h : Byt l) (e : Int) : Byt (numR l e).2.1 := by
  unfold numR
  split
  · exact ⟨Nat.le_trans (numU_len l l 0 0 (Nat.le_refl _)) h.len, fun x hx => h.byte x (numU_mem l l 0 0 x (fun y hy => hy) hx)⟩
  · exact h
set_option maxRecDepth 100000 in
set_option maxHeartbeats 8000000 in
theorem numbers_r (w0 w : World) (B G L t c : Nat) (offs : List Nat) (lcs : Array Value) (hlcs : ∀ (i : Nat) (o : Nat), offs[i]? = some o → lcs[i]? = some (.pointer (some ⟨G, o, none⟩))) (hol : offs.length ≤ 100)
    (l : List Int) (e : Int) (cs : Array Value) (fin : Array Value × List Int × Int) (hfin : numsR offs l e cs = fin) (hos : ∀ o ∈ offs, ∃ x, cs[o]? = some (.int .i64 x)) (hBG : B ≠ G) (hLB : L ≠ B) (hLG : L ≠ G)
    (hb : Below w0.heap.size w0 w) (hB : w0.heap.size ≤ B) (hG0 : w0.heap.size ≤ G) (hR : RdAt w0 w B l e) (hl : Byt l) (hG : Blk w G cs t) (hL : Blk w L lcs 85) :
    Calls Try.prog 45 #[.pointer (some ⟨B, 0, none⟩), .slice (some ⟨L, 0, none⟩) offs.length c] w fun e' w' => (∃ v, e' = .returned v) ∧ Blk w' G fin.1 t ∧ RdAt w0 w' B fin.2.1 fin.2.2 ∧ Chg (fun k => k = B ∨ k = G) w w' := by
  have HR := Lib.hid hR
  have HLc := Lib.hid hlcs
  have HOl := Lib.hid hol
  have HF := Lib.hid hfin
  have HOs := Lib.hid hos
  have HB := Lib.hid hb
  have HLl := Lib.hid hl
  have HG := Lib.hid hG
  have HL := Lib.hid hL
  clear hR hlcs hol hfin hos hb hl hG hL
  go_enter Try.func45, Try.ntmps45
  go_wp2_with fail
  go_loopg [8] offs.length (fun kq v8 w' => ∃ (k : Nat) (l' : List Int) (e' : Int) (cs' : Array Value), v8 = .int .i64 (k : Int) ∧ Aside0 (k + kq = offs.length) ∧ Aside0 (numsR (offs.drop k) l' e' cs' = fin) ∧ Aside0 (∀ o ∈ offs, ∃ x, cs'[o]? = some (.int .i64 x)) ∧ Hid (Blk w' G cs' t) ∧ Aside0 (RdAt w0 w' B l' e') ∧ Aside0 (Byt l') ∧ Aside0 (Chg (fun k => k = B ∨ k = G) w w'))
  case atStart => exact ⟨0, l, e, cs, rfl, ⟨by omega⟩, ⟨HF.out⟩, ⟨HOs.out⟩, HG, ⟨HR.out⟩, ⟨HLl.out⟩, ⟨Chg.refl _ _⟩⟩
  case round =>
    clear HG HR HLl HF HOs
    obtain ⟨k, l', e', cs', rfl, HK, HF, HOs, HG, HR, HLl, HC⟩ := hrel
    cases gk with
    | zero =>
      have cx : decide (k < offs.length) = false := decide_eq_false (by have := HK.out; omega)
      have cx' : decide ((k : Int) < (offs.length : Int)) = false := decide_eq_false (by have := HK.out; omega)
      have hn := HF.out
      rw [List.drop_eq_nil_of_le (by have := HK.out; omega)] at hn
      unfold numsR at hn
      subst hn
      go_wp2_with fail
      go_end0
      exact ⟨⟨_, rfl⟩, HG.out, HR.out, HC.out⟩
    | succ kk =>
      have hkl : k < offs.length := by have := HK.out; omega
      have cx : decide (k < offs.length) = true := decide_eq_true hkl
      have cx' : decide ((k : Int) < (offs.length : Int)) = true := decide_eq_true (by omega)
      have wk : IntKind.i64.wrap ((k : Int) + 1) = (k : Int) + 1 := by rw [i64_w]; unfold wrap64; have := HOl.out; omega
      have hd : offs.drop k = offs[k] :: offs.drop (k + 1) := List.drop_eq_getElem_cons hkl
      have hlc := HLc.out k offs[k] (List.getElem?_eq_getElem hkl)
      have hox := HOs.out offs[k] (List.getElem_mem hkl)
      have hn := HF.out
      rw [hd] at hn
      generalize offs[k] = o at *
      have hLw : Blk wr L lcs 85 := HC.out.blk HL.out (by rintro (h | h) <;> omega)
      have cL := (hLw.cell k).trans hlc
      have p1 := eq_true hkl
      have p2 : (0 ≤ (k : Int)) = True := eq_true (by omega)
      have p3 : ((k : Int) < (offs.length : Int)) = True := eq_true (by omega)
      have HKl := Lib.hid hkl
      unfold numsR at hn
      have HN := Lib.hid hn
      obtain ⟨x, hx⟩ := hox
      have HX := Lib.hid hx
      have hnum := number_calls w0 wr B l' e' (HB.out.trans (HC.out.below HB.out.size (by rintro q (h | h) <;> omega))) hB HR.out HLl.out.len HLl.out.byte _ rfl
      have HNum := Lib.hid hnum
      have HBt := Lib.hid (HLl.out.num e')
      clear hd hkl hlc hLw hnum hn hx
      generalize numR l' e' = r at *
      obtain ⟨r1, r2, r3⟩ := r
      go_wp2_with fail
      refine HNum.out.mono ?_
      rintro e2 W2 ⟨rfl, hr2, hg2⟩
      have hG2 : Blk W2 G cs' t := HG.out.grown hg2 (fun e => by cases e; omega)
      have cG := (hG2.cell o).trans HX.out
      have fG := hG2.frozen o
      have HC2 := Lib.hid (HC.out.on (Chg.of_grown hg2 (fun q e => by cases e; exact .inl rfl)))
      have HR2 := Lib.hid hr2
      have HG2 := Lib.hid hG2
      clear hr2 hg2 hG2 cL HNum
      go_wp2_with fail
      go_roundg kk
      case measure => omega
      case rel =>
        refine ⟨k + 1, r2, r3, cs'.setIfInBounds o (.int .i64 r1), by simp [wk], ⟨by have := HK.out; omega⟩, ⟨HN.out⟩, ⟨fun q hq => ?_⟩, Lib.hid (HG2.out.set o _), ⟨(Chg.of_grown (S := fun k => k = G) (grown_set W2 ⟨G, o, none⟩ _) (fun q e => by cases e; rfl)).rd HR2.out hBG⟩, ⟨HBt.out⟩, ⟨HC2.out.set (p := ⟨G, o, none⟩) (.inr rfl) _⟩⟩
        obtain ⟨x, hx⟩ := HOs.out q hq
        by_cases hqo : q = o
        · subst hqo
          have hlt := (Array.getElem?_eq_some_iff.1 hx).1
          exact ⟨r1, by simp [hlt]⟩
        · exact ⟨x, by rw [Array.getElem?_setIfInBounds_ne (Ne.symm hqo)]; exact hx⟩
/-- a count: its number, what is left, the error -/
def countR (l : List Int) (e : Int) : Int × List Int × Int := ((numR l e).1, (numR l e).2.1, if (numR l e).2.2 = 0 then (if inB (numR l e).1 0 1048576 = true then 0 else 11) else (numR l e).2.2)
set_option maxRecDepth 100000 in
set_option maxHeartbeats 8000000 in
theorem count_r (w0 w : World) (B : Nat) (l : List Int) (e : Int) (fin : Int × List Int × Int) (hfin : countR l e = fin)
    (hb : Below w0.heap.size w0 w) (hB : w0.heap.size ≤ B) (hR : RdAt w0 w B l e) (hl : Byt l) :
    Calls Try.prog 46 #[.pointer (some ⟨B, 0, none⟩)] w fun e' w' => ∃ N P, e' = .returned (.func (.func 60) #[] #[.pointer (some ⟨N, 0, none⟩), .pointer (some ⟨P, 0, none⟩)]) ∧ Blk w' N #[.int .i64 fin.1] 2 ∧ Blk w' P #[.pointer (some ⟨B, 0, none⟩)] 60 ∧ RdAt w0 w' B fin.2.1 fin.2.2 ∧ Chg (fun k => k = B) w w' ∧ w.heap.size ≤ N ∧ w.heap.size ≤ P := by
  have hBw : B < w.heap.size := by
    obtain ⟨_, _, hbk, _⟩ := hR
    exact hbk.lt
  have hlen := hl.len
  have hbyt := hl.byte
  have HBw := Lib.hid hBw
  have hW1 : Below w0.heap.size w0 (w.alloc (.cells #[.pointer (some ⟨B, 0, none⟩)] 60)) := below_alloc hb _
  have hR1 : RdAt w0 (w.alloc (.cells #[.pointer (some ⟨B, 0, none⟩)] 60)) B l e := (Chg.of_below (below_alloc (Below.refl _ _) _) (fun _ => False)).rd hR (fun h => h)
  have HP1 := Lib.hid (Blk.new w #[.pointer (some ⟨B, 0, none⟩)] 60)
  have HC1 := Lib.hid (Chg.of_below (below_alloc (Below.refl w.heap.size w) (.cells #[.pointer (some ⟨B, 0, none⟩)] 60)) (fun k => k = B))
  have hnum := number_calls w0 (w.alloc (.cells #[.pointer (some ⟨B, 0, none⟩)] 60)) B l e hW1 hB hR1 hlen hbyt _ rfl
  have HNum := Lib.hid hnum
  have HF := Lib.hid hfin
  clear hfin hb hR hl hBw hlen hbyt hW1 hR1 hnum
  unfold countR at HF
  generalize numR l e = r at *
  obtain ⟨r1, r2, r3⟩ := r
  go_enter Try.func46, Try.ntmps46
  go_wp2_with fail
  refine HNum.out.mono ?_
  rintro e2 W2 ⟨rfl, hr2, hg2⟩
  have hc2 := HC1.out.on (Chg.of_grown hg2 (fun q e => by cases e; rfl))
  have hp2 := HP1.out.grown hg2 (fun e => by cases e; have := HBw.out; omega)
  have hsz : w.heap.size ≤ W2.heap.size := hc2.size
  have HSz := Lib.hid hsz
  have HC2 := Lib.hid (hc2.alloc (.cells #[.int .i64 r1] 2))
  have HP2 := Lib.hid (hp2.alloc (.cells #[.int .i64 r1] 2))
  have HN2 := Lib.hid (Blk.new W2 #[.int .i64 r1] 2)
  have HR2 := Lib.hid ((Chg.of_below (below_alloc (Below.refl W2.heap.size W2) (.cells #[.int .i64 r1] 2)) (fun _ => False)).rd hr2 (fun h => h))
  obtain ⟨A, c, hbk, hrc, hrl⟩ := hr2
  have b1 := fun o => cell_al hbk.cells2.1.2 o
  have q0 := fun o => cell_al hp2.cells1.1 o
  have hbB := hbk.lt
  have HBk := Lib.hid (hbk.alloc (.cells #[.int .i64 r1] 2))
  have HRc := Lib.hid hrc
  have HRl := Lib.hid hrl
  clear hc2 hp2 hsz hbk hg2 HNum hrc hrl
  by_cases h3 : r3 = 0
  · subst h3
    simp only [if_true] at HF
    have hbelow2 := HSz.out
    go_wp2_with fail
    refine at_world (fun V => V = W2.alloc (.cells #[.int .i64 r1] 2)) rfl ?_
    rintro V rfl
    refine (within_b r1 0 1048576 _).mono ?_
    rintro e3 W3 ⟨rfl, hb3⟩
    have HC3 := Lib.hid (HC2.out.on (Chg.of_below hb3 _))
    have HP3 := HP2.out.below hb3
    have HN3 := Lib.hid (HN2.out.below hb3)
    have HBk3 := HBk.out.below hb3
    have q1 := HP3.cells1.1
    have b2 := HBk3.cells2.1.2
    have f2 := HBk3.cells2.2.2
    have HP3 := Lib.hid HP3
    have HBk3 := Lib.hid HBk3
    clear hb3 b1 q0
    cases hin : inB r1 0 1048576 with
    | true =>
      rw [hin, if_pos rfl] at HF
      obtain rfl := HF.out
      go_wp2_with fail
      go_ret
      exact ⟨W2.heap.size, w.heap.size, rfl, HN3.out, HP3.out, ⟨A, c, HBk3.out, HRc.out, HRl.out⟩, HC3.out, HSz.out, Nat.le_refl _⟩
    | false =>
      rw [hin, if_neg (by decide)] at HF
      obtain rfl := HF.out
      go_wp2_with fail
      go_ret
      exact ⟨W2.heap.size, w.heap.size, rfl, HN3.out.far (by simp; omega) _, HP3.out.far (by simp; have := HBw.out; omega) _, ⟨A, c, HBk3.out.set 1 _, HRc.out, HRl.out⟩, HC3.out.set (p := ⟨B, 1, none⟩) rfl _, HSz.out, Nat.le_refl _⟩
  · rw [if_neg h3] at HF
    have e1 : (r3 == 0) = false := by simp [h3]
    have e2 : (r3 = 0) = False := eq_false h3
    clear h3
    obtain rfl := HF.out
    go_wp2_with fail
    go_ret
    exact ⟨W2.heap.size, w.heap.size, rfl, HN2.out, HP2.out, HR2.out, HC2.out, HSz.out, Nat.le_refl _⟩
/-- append of an element, its cells made, to an own row, within a fence -/
theorem R_append_in {F : Fence} {nF : Nat} {P : Program} {ops : Array Oper} {rest : List Oper} {o : Oper} {a : Act} {Q : Exit → Act → World → Prop} {α : Type} (d : Kd α) {W : World} (base : Nat) (hgd : o.guard = none) (s x : Operand) (t e : TypeId) (z : Value) (bytes : Nat)
    (ho : o.op = .call { callee := .builtin .append, args := #[s, x], argTypes := #[t, t] })
    (ht : P.underlying t = some (.slice e)) (hinfo : (P.info? e).map (fun i => (i.zero, i.size, i.bytes)) = some (some z, d.sz, bytes)) (hz : z.cells.size = d.sz) (hs0 : 0 < d.sz) (hb0 : 0 < bytes)
    (v : Value) (xs : List α) (p : α) (cs : List Value) (ok okp : Nat → Prop) (hs : a.eval s = v) (hx : a.eval x = .slice (some ⟨W.heap.size, 0, none⟩) 1 1) (hp : d.M W base okp p cs) (hokp : ∀ k, okp k → ok k ∧ some k ≠ v.ownBlock) (hfresh : ∀ k, W.heap.size ≤ k → ok k)
    (HO : d.R e W base ok v xs) (hbase : base ≤ W.heap.size) (hl : (xs.length + 1) * bytes ≤ 140737488355328)
    (h : ∀ v1 w1, d.R e w1 base ok v1 (xs ++ [p]) → W.grownBy w1 v.ownBlock → (v1.ownBlock = v.ownBlock ∨ ∃ b, v1.ownBlock = some b ∧ W.heap.size ≤ b) → wpListIn F nF P ops Q rest (a.put o.dst v1) w1) :
    wpListIn F nF P ops Q (o :: rest) a (W.alloc (.cells cs.toArray e)) := by
  obtain ⟨h0, inner, hown, hr⟩ := HO
  obtain ⟨i0, hi, hzz⟩ := Option.map_eq_some_iff.1 hinfo
  simp only [Prod.mk.injEq] at hzz
  obtain ⟨hz0, hz1, hz2⟩ := hzz
  have hlen : xs.length + 1 ≤ 140737488355328 := Nat.le_trans (Nat.le_mul_of_pos_right _ hb0) hl
  have hys : cs.length = d.sz := d.K_len (d.K_of_M hp)
  refine wpListIn_append_own_at (W.alloc (.cells cs.toArray e)) hgd s x t ho base e i0 z d.sz bytes ht hi hz0 hz1 hz2 hz hs0 v xs.length inner hs (hown.kept (World.grownBy_alloc W _ none) (by cases v.ownBlock <;> simp)) ⟨W.heap.size, 0, none⟩ 1 1 cs hx (by rw [hys]; simp)
    (by simpa using World.news_of_block (cs := cs.toArray) (t := e) (fr := (0, 0)) (heap_alloc_new W (.cells cs.toArray e))) (d.K_one (d.K_of_M hp)) (by simp only [maxLen]; omega) hl (by simp; omega) ?_
  intro v1 w1 hown1 hg _ hat
  have hg1 := grown_go (World.grownBy_alloc W (.cells cs.toArray e) v.ownBlock) hg (fun q e => .inl e)
  have hat1 : v1.ownBlock = v.ownBlock ∨ ∃ b, v1.ownBlock = some b ∧ W.heap.size ≤ b := hat.imp id (fun h => ⟨_, h, by simp⟩)
  exact h v1 w1 (Kd.R_appended h0 hr hp hokp hfresh hown1 hg1 hat1) hg1 hat1
end Go.Proofs.Ytoiakaagbgfocaa.PC
