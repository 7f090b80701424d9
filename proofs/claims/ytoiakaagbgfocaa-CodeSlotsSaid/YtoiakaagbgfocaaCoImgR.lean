/- Package code: what a reader reads as an image, in plain words; rows of structs over a range's rounds. -/
import Derived.Test.YtoiakaagbgfocaaCoChg
namespace Go.Proofs.Ytoiakaagbgfocaa.PC
open Go.RowKit Go.Proofs.YtoiakaagbgfocaaW.PrintWords Go.Proofs.YtoiakaagbgfocaaW.PrintLast Go.Proofs.YtoiakaagbgfocaaW.PrintMore
open Go.Proofs.Ytoiakaagbgfocaa.RG
set_option linter.unusedVariables false
set_option linter.unusedSimpArgs false

/-- so many things are read, one behind the other, as long as there is no error -/
def loopR {α : Type} (f : List Int → Int → α × List Int × Int) : Nat → List Int → Int → List α → List α × List Int × Int
  | 0, l, e, acc => (acc, l, e)
  | k + 1, l, e, acc => if e = 0 then loopR f k (f l e).2.1 (f l e).2.2 (acc ++ [(f l e).1]) else (acc, l, e)
theorem loopR_err {α : Type} (f : List Int → Int → α × List Int × Int) (k : Nat) (l : List Int) (e : Int) (acc : List α) (h : e ≠ 0) : loopR f k l e acc = (acc, l, e) := by
  cases k with
  | zero => rfl
  | succ k => unfold loopR; rw [if_neg h]
def partR (l : List Int) (e : Int) : S73 × List Int × Int :=
  (⟨(numR l e).1, (numR (numR l e).2.1 (numR l e).2.2).1⟩, (numR (numR l e).2.1 (numR l e).2.2).2.1, (numR (numR l e).2.1 (numR l e).2.2).2.2)
def num3R (l : List Int) (e : Int) : (Int × Int × Int) × List Int × Int :=
  (((numR l e).1, (numR (numR l e).2.1 (numR l e).2.2).1, (numR (numR (numR l e).2.1 (numR l e).2.2).2.1 (numR (numR l e).2.1 (numR l e).2.2).2.2).1), (numR (numR (numR l e).2.1 (numR l e).2.2).2.1 (numR (numR l e).2.1 (numR l e).2.2).2.2).2)
def padR (l : List Int) (e : Int) : S66 × List Int × Int := (⟨(num3R l e).1.1, (num3R l e).1.2.1, (num3R l e).1.2.2⟩, (num3R l e).2)
def instR (l : List Int) (e : Int) : S42 × List Int × Int :=
  (⟨(numR l e).1, (num3R (numR l e).2.1 (numR l e).2.2).1.1, (num3R (numR l e).2.1 (numR l e).2.2).1.2.1, (num3R (numR l e).2.1 (numR l e).2.2).1.2.2⟩, (num3R (numR l e).2.1 (numR l e).2.2).2)
/-- a count, and so many things -/
def manyR {α : Type} (f : List Int → Int → α × List Int × Int) (l : List Int) (e : Int) : List α × List Int × Int :=
  loopR f (countR l e).1.toNat (countR l e).2.1 (countR l e).2.2 []
def glueR (l : List Int) (e : Int) : S48 × List Int × Int :=
  (⟨(num3R l e).1.1, (num3R l e).1.2.1, (num3R l e).1.2.2, (manyR partR (num3R l e).2.1 (num3R l e).2.2).1⟩, (manyR partR (num3R l e).2.1 (num3R l e).2.2).2)
def codeR (l : List Int) (e : Int) : S40 × List Int × Int :=
  (⟨(num3R l e).1.1, (num3R l e).1.2.1, (num3R l e).1.2.2, (manyR instR (num3R l e).2.1 (num3R l e).2.2).1, (manyR padR (manyR instR (num3R l e).2.1 (num3R l e).2.2).2.1 (manyR instR (num3R l e).2.1 (num3R l e).2.2).2.2).1⟩,
    (manyR padR (manyR instR (num3R l e).2.1 (num3R l e).2.2).2.1 (manyR instR (num3R l e).2.1 (num3R l e).2.2).2.2).2)
/-- an image, as it is read -/
def imageR (l : List Int) (e : Int) : (List S48 × List S40 × Int) × List Int × Int :=
  (((manyR glueR (numR l e).2.1 (numR l e).2.2).1, (manyR codeR (manyR glueR (numR l e).2.1 (numR l e).2.2).2.1 (manyR glueR (numR l e).2.1 (numR l e).2.2).2.2).1, (numR l e).1),
    (manyR codeR (manyR glueR (numR l e).2.1 (numR l e).2.2).2.1 (manyR glueR (numR l e).2.1 (numR l e).2.2).2.2).2)
theorem unzig_le (u : Int) (h0 : 0 ≤ u) (h : u < 18446744073709551616) : unzig u ≤ 9223372036854775807 := by
  unfold unzig
  split <;> omega
theorem numU_le (l0 : List Int) : ∀ (l : List Int) (k : Nat) (u : Int), (∀ x ∈ l, 0 ≤ x ∧ x < 256) → 0 ≤ u → u < 128 ^ k → k ≤ 9 → (numU l0 l k u).1 ≤ 9223372036854775807
  | [], k, u, _, _, _, _ => by unfold numU; omega
  | c :: l, k, u, hl, h0, hu, hk => by
    unfold numU
    split
    · omega
    · rename_i hbad
      have hc := hl c (by simp)
      obtain ⟨_, h2, h3⟩ := or_step u c k h0 hu hc.1 hc.2 hk (fun e => by omega)
      have h1 : (0 : Int) ≤ c % 128 * 128 ^ k := Int.mul_nonneg (by omega) (Int.pow_nonneg (by omega))
      split
      · exact unzig_le _ (by omega) h2
      · exact numU_le l0 l _ _ (fun x hx => hl x (by simp [hx])) (by omega) h3 (by omega)
theorem numR_le {l : List Int} (h : Byt l) (e : Int) : (numR l e).1 ≤ 9223372036854775807 := by
  unfold numR
  split
  · exact numU_le l l 0 0 h.byte (by omega) (by decide) (by omega)
  · show (0 : Int) ≤ _
    omega
theorem Byt.num3 {l : List Int} (h : Byt l) (e : Int) : Byt (num3R l e).2.1 := ((h.num e).num _).num _
theorem Byt.part {l : List Int} (h : Byt l) (e : Int) : Byt (partR l e).2.1 := (h.num e).num _
theorem Byt.pad {l : List Int} (h : Byt l) (e : Int) : Byt (padR l e).2.1 := h.num3 e
theorem Byt.inst {l : List Int} (h : Byt l) (e : Int) : Byt (instR l e).2.1 := (h.num e).num3 _
theorem Byt.count {l : List Int} (h : Byt l) (e : Int) : Byt (countR l e).2.1 := h.num e
theorem Byt.loop {α : Type} {f : List Int → Int → α × List Int × Int} (hf : ∀ l e, Byt l → Byt (f l e).2.1) : ∀ (k : Nat) (l : List Int) (e : Int) (acc : List α), Byt l → Byt (loopR f k l e acc).2.1
  | 0, l, e, acc, h => h
  | k + 1, l, e, acc, h => by
    unfold loopR
    split
    · exact Byt.loop hf k _ _ _ (hf l e h)
    · exact h
theorem Byt.many {α : Type} {f : List Int → Int → α × List Int × Int} (hf : ∀ l e, Byt l → Byt (f l e).2.1) {l : List Int} (h : Byt l) (e : Int) : Byt (manyR f l e).2.1 := Byt.loop hf _ _ _ _ (h.count e)
theorem Byt.glue {l : List Int} (h : Byt l) (e : Int) : Byt (glueR l e).2.1 := Byt.many (fun l e h => h.part e) (h.num3 e) _
theorem Byt.code {l : List Int} (h : Byt l) (e : Int) : Byt (codeR l e).2.1 := Byt.many (fun l e h => h.pad e) (Byt.many (fun l e h => h.inst e) (h.num3 e) _) _
theorem countR_le {l : List Int} (h : Byt l) (e : Int) : (countR l e).1 ≤ 9223372036854775807 ∧ ((countR l e).2.2 = 0 → (countR l e).1 ≤ 1048576) := by
  refine ⟨numR_le h e, fun h0 => ?_⟩
  unfold countR at h0 ⊢
  simp only at h0 ⊢
  split at h0
  · split at h0
    · rename_i hi
      simp [inB] at hi
      omega
    · cases h0
  · rename_i hne
    exact absurd h0 hne
/-- an own row of things -/
abbrev RW {α : Type} (d : Kd α) (e : Nat) (W : World) (base : Nat) (v : Value) (xs : List α) : Prop := d.R e W base (fun _ => True) v xs
theorem RW.chg {α : Type} {d : Kd α} {e base : Nat} {W W1 : World} {v : Value} {xs : List α} {S : Nat → Prop} (h : RW d e W base v xs) (hc : Chg S W W1) (hs : ∀ k, S k → k < W.heap.size → k < base ∨ (∀ q, q ∈ e :: d.E → ∀ cells, W.heap[k]? ≠ some (.cells cells q (0, 0)))) : RW d e W1 base v xs := by
  refine Kd.R_mono (Kd.R_move (Kd.R_bound h) (fun k hk => hc.block k hk.2.2.1 (fun hS => ?_))) (fun _ _ => trivial)
  obtain ⟨-, hb, hlt, q, hq, cells, hcl⟩ := hk
  rcases hs k hS hlt with h1 | h1
  · omega
  · exact h1 q hq cells hcl
theorem RW.own {α : Type} {d : Kd α} {e base : Nat} {W : World} {v : Value} {xs : List α} (h : RW d e W base v xs) {k : Nat} (hk : v.ownBlock = some k) : base ≤ k ∧ k < W.heap.size ∧ ∃ cs, Blk W k cs e := by
  obtain ⟨h1, cs, h2⟩ := row_type h hk
  exact ⟨h1, h2.lt, cs, h2⟩
theorem RW.apart {α : Type} {d : Kd α} {e base : Nat} {W : World} {v : Value} {xs : List α} (h : RW d e W base v xs) {g t : Nat} {cs : Array Value} (hb : Blk W g cs t) (ht : t ≠ e) : v.ownBlock ≠ some g := fun e => by
  obtain ⟨_, _, cs', h2⟩ := h.own e
  have h3 := h2.out
  rw [hb.out] at h3
  cases h3
  exact ht rfl
/-- a row of things, as it may stand in an element of another row -/
theorem RW.in {α : Type} {d : Kd α} {e base : Nat} {W : World} {v : Value} {xs : List α} (h : RW d e W base v xs) : d.R e W base (fun k => ∃ q, q ∈ e :: d.E ∧ ∃ cells, W.heap[k]? = some (.cells cells q (0, 0))) v xs :=
  Kd.R_mono (Kd.R_bound h) (fun k hk => hk.2.2.2)
theorem chg_noncell {A C : World} {B : Nat} {row : Option Nat} (hg : A.grownBy C row) (hr : ∀ r, row = some r → False ∨ (B ≤ r ∧ ∃ o : Obj, A.heap[r]? = some o ∧ o.isCells = false)) : Chg (fun k => ∃ o : Obj, A.heap[k]? = some o ∧ o.isCells = false) A C :=
  Chg.of_grown hg (fun q e => ((hr q e).resolve_left (fun h => h)).2)
theorem RW.noncell {α : Type} {d : Kd α} {e base : Nat} {A C : World} {v : Value} {xs : List α} (h : RW d e A base v xs) (hc : Chg (fun k => ∃ o : Obj, A.heap[k]? = some o ∧ o.isCells = false) A C) : RW d e C base v xs :=
  h.chg hc (fun k hk _ => .inr (fun q _ cells e => by
    obtain ⟨o, ho, hn⟩ := hk
    rw [e] at ho
    cases ho
    cases hn))
theorem Blk.noncell {A C : World} {g t : Nat} {cs : Array Value} (h : Blk A g cs t) (hc : Chg (fun k => ∃ o : Obj, A.heap[k]? = some o ∧ o.isCells = false) A C) : Blk C g cs t := hc.blk h (by
  rintro ⟨o, ho, hn⟩
  rw [h.out] at ho
  cases ho
  cases hn)
theorem RdAt.noncell {w0 A C : World} {B : Nat} {l : List Int} {e : Int} (h : RdAt w0 A B l e) (hc : Chg (fun k => ∃ o : Obj, A.heap[k]? = some o ∧ o.isCells = false) A C) : RdAt w0 C B l e := by
  obtain ⟨a, c, hb, h1, h2⟩ := h
  exact ⟨a, c, hb.noncell hc, h1, h2⟩
/-- a change of cells alone keeps the blocks of book-keeping -/
theorem Chg.from {S : Nat → Prop} {A C : World} (h : Chg S A C) (n : Nat) (hs : ∀ k, S k → k < A.heap.size → ∃ cs t, Blk A k cs t) : KeepsFrom n A C :=
  ⟨h.size, fun k o _ hk ho => (h.block k (Array.getElem?_eq_some_iff.1 hk).1 (fun hS => by
    obtain ⟨cs, t, hb⟩ := hs k hS (Array.getElem?_eq_some_iff.1 hk).1
    rw [hb.out] at hk
    cases hk
    cases ho)).trans hk⟩
end Go.Proofs.Ytoiakaagbgfocaa.PC
