/- Plain law of layer 22: numbers to bytes and back. No program in sight. Plain law of layer 22: images to bytes and back. No program in sight. Plain law of layer 22: Parse and Bytes are each other's back. No program in sight. Package law of layer 22: CodeBack, walked. -/
import Derived.Test.YtoiakaagbgfocaaCoRead
import Derived.Lib.Zigzag
import Derived.Lib.Varint
import Derived.Test.YtoiakaagbgfocaaCoImgR
import Derived.Test.YtoiakaagbgfocaaCoParse
import Derived.Test.YtoiakaagbgfocaaCoBytes
import Derived.Test.YtoiakaagbgfocaaCoBase
import Derived.Test.YtoiakaagbgfocaaPCx6b
namespace Go.Proofs.Ytoiakaagbgfocaa.PC
section
open Go.RowKit Go.Proofs.YtoiakaagbgfocaaW.PrintWords Go.Proofs.YtoiakaagbgfocaaW.PrintLast Go.Proofs.YtoiakaagbgfocaaW.PrintMore
set_option linter.unusedVariables false
set_option linter.unusedSimpArgs false

theorem xor_comm64 (a b : Int) : Go.bits .xor .u64 a b = Go.bits .xor .u64 b a := by
  have h : (BitVec.ofInt IntKind.u64.bits a ^^^ BitVec.ofInt IntKind.u64.bits b) = (BitVec.ofInt IntKind.u64.bits b ^^^ BitVec.ofInt IntKind.u64.bits a) := BitVec.xor_comm _ _
  unfold Go.bits
  simp only [h]
theorem zig_nonneg (n : Int) (h : 0 ≤ n) (h1 : n ≤ 9223372036854775807) : zig n = 2 * n := by
  unfold zig
  rw [show n / 9223372036854775808 = 0 by omega]
  have e : IntKind.u64.wrap (IntKind.u64.wrap n * 2) = 2 * n := by
    rw [IntKind.wrap_u64, IntKind.wrap_u64]
    omega
  rw [e, show IntKind.u64.wrap 0 = 0 by decide]
  obtain ⟨k, hk⟩ := Int.eq_ofNat_of_zero_le (show 0 ≤ 2 * n by omega)
  rw [hk]
  unfold Go.bits
  have h2 : (BitVec.ofInt IntKind.u64.bits (k : Int) ^^^ BitVec.ofInt IntKind.u64.bits 0) = BitVec.ofInt IntKind.u64.bits (k : Int) := by
    have : BitVec.ofInt IntKind.u64.bits 0 = 0#_ := by decide
    rw [this, BitVec.xor_zero]
  simp only [h2]
  show IntKind.u64.wrap ((BitVec.ofInt 64 (k : Int)).toNat : Int) = _
  rw [BitVec.ofInt_natCast, BitVec.toNat_ofNat, Nat.mod_eq_of_lt (by omega), IntKind.wrap_u64]
  omega
theorem zig_neg (n : Int) (h : n < 0) (h1 : -9223372036854775808 ≤ n) : zig n = -2 * n - 1 := by
  unfold zig
  rw [show n / 9223372036854775808 = -1 by omega, xor_comm64, show IntKind.u64.wrap (-1) = IntKind.u64.max by decide, Lib.zigzag_neg h1 h]
  unfold Lib.zigzag
  rw [if_neg (by omega)]
  omega
def i64k (x : Int) : Prop := -9223372036854775808 ≤ x ∧ x ≤ 9223372036854775807
theorem unzig_zig (n : Int) (h : i64k n) : unzig (zig n) = n := by
  unfold unzig
  by_cases h0 : 0 ≤ n
  · rw [zig_nonneg n h0 h.2, if_pos (by omega)]
    omega
  · rw [zig_neg n (by omega) h.1, if_neg (by omega)]
    omega
theorem unzig_ok (u : Int) (h0 : 0 ≤ u) (h1 : u < 18446744073709551616) : i64k (unzig u) := by
  unfold unzig i64k
  split <;> omega
theorem zig_unzig (u : Int) (h0 : 0 ≤ u) (h1 : u < 18446744073709551616) : zig (unzig u) = u := by
  unfold unzig
  split
  · rw [zig_nonneg _ (by omega) (by omega)]
    omega
  · rw [zig_neg _ (by omega) (by omega)]
    omega
theorem digU_step (k : Nat) (u : Int) (h0 : 0 ≤ u) (h : u ≥ 128) : digU (k + 1) u = (u % 128 + 128) :: digU k (u / 128) := by
  conv => lhs; unfold digU
  rw [if_pos h, Lib.u8_or128_any _ (by omega) (by omega)]
  congr 1
  omega
theorem digU_last (k : Nat) (u : Int) (h0 : 0 ≤ u) (h : u < 128) : digU k u = [u] := by
  cases k with
  | zero =>
    unfold digU
    rw [show u % 256 = u by omega]
  | succ k =>
    unfold digU
    rw [if_neg (by omega), show u % 256 = u by omega]
theorem digU_big (u : Int) (h0 : 0 ≤ u) (h : u ≤ 1) : digU 0 u = [u] := digU_last 0 u h0 (by omega)
theorem mul_step (u P : Int) : u % 128 * P + u / 128 * (P * 128) = u * P := by
  have h : u = u / 128 * 128 + u % 128 := by omega
  conv => rhs; rw [h]
  rw [Int.add_mul, Int.mul_assoc (u / 128) 128 P, Int.mul_comm P 128]
  omega
/-- what is written is read -/
theorem numU_dig (l0 rest : List Int) : ∀ (j k : Nat) (u acc : Int), k + j = 9 → 0 ≤ u → (0 < k → 0 < u) → u < 2 * 128 ^ j → numU l0 (digU j u ++ rest) k acc = (unzig (acc + u * 128 ^ k), rest, 0)
  | 0, k, u, acc, hk, h0, hp, hu => by
    rw [digU_big u h0 (by simp at hu; omega)]
    show numU l0 (u :: rest) k acc = _
    unfold numU
    rw [if_neg (by simp at hu; omega), if_pos (by simp at hu; omega), show u % 128 = u by simp at hu; omega]
  | j + 1, k, u, acc, hk, h0, hp, hu => by
    by_cases h : u ≥ 128
    · rw [digU_step j u h0 h]
      show numU l0 ((u % 128 + 128) :: (digU j (u / 128) ++ rest)) k acc = _
      unfold numU
      have hj : (2 : Int) * 128 ^ (j + 1) = 128 * (2 * 128 ^ j) := by rw [Int.pow_succ]; omega
      rw [hj] at hu
      rw [if_neg (by omega), if_neg (by omega), numU_dig l0 rest j (k + 1) (u / 128) _ (by omega) (by omega) (fun _ => by omega) (by omega)]
      rw [show (u % 128 + 128) % 128 = u % 128 by omega, Int.pow_succ, Int.add_assoc, mul_step]
    · rw [digU_last _ u h0 (by omega)]
      show numU l0 (u :: rest) k acc = _
      unfold numU
      rw [if_neg (by omega), if_pos (by omega), show u % 128 = u by omega]
/-- what is written and cut off is not read -/
theorem numU_short (l0 : List Int) : ∀ (j k : Nat) (u acc : Int) (i : Nat), k + j = 9 → 0 ≤ u → u < 2 * 128 ^ j → i < (digU j u).length → (numU l0 ((digU j u).take i) k acc).2.2 = 17
  | j, k, u, acc, 0, hk, h0, hu, hi => rfl
  | 0, k, u, acc, i + 1, hk, h0, hu, hi => by
    rw [digU_big u h0 (by simp at hu; omega)] at hi
    simp at hi
  | j + 1, k, u, acc, i + 1, hk, h0, hu, hi => by
    by_cases h : u ≥ 128
    · rw [digU_step j u h0 h] at hi ⊢
      rw [List.take_succ_cons]
      have hj : (2 : Int) * 128 ^ (j + 1) = 128 * (2 * 128 ^ j) := by rw [Int.pow_succ]; omega
      rw [hj] at hu
      unfold numU
      rw [if_neg (by omega), if_neg (by omega)]
      exact numU_short l0 j (k + 1) (u / 128) _ i (by omega) (by omega) (by omega) (by simpa using hi)
    · rw [digU_last _ u h0 (by omega)] at hi
      simp at hi
/-- what is read was written so -/
theorem numU_inv (l0 : List Int) : ∀ (l : List Int) (j k : Nat) (acc : Int), k + j = 9 → (∀ x ∈ l, 0 ≤ x ∧ x < 256) → (numU l0 l k acc).2.2 = 0 →
    ∃ u, 0 ≤ u ∧ (0 < k → 0 < u) ∧ u < 2 * 128 ^ j ∧ (numU l0 l k acc).1 = unzig (acc + u * 128 ^ k) ∧ l = digU j u ++ (numU l0 l k acc).2.1
  | [], j, k, acc, hk, hl, h => by
    unfold numU at h
    exact absurd h (by simp)
  | c :: l, j, k, acc, hk, hl, h => by
    have hc := hl c (by simp)
    unfold numU at h ⊢
    by_cases hb : (k = 9 ∧ 1 < c) ∨ (0 < k ∧ c = 0)
    · rw [if_pos hb] at h
      exact absurd h (by simp)
    · rw [if_neg hb] at h ⊢
      by_cases h1 : c < 128
      · rw [if_pos h1] at h ⊢
        refine ⟨c, hc.1, fun _ => by omega, ?_, by rw [show c % 128 = c by omega], by rw [digU_last j c hc.1 h1]; rfl⟩
        cases j with
        | zero => simp; omega
        | succ j =>
          have hj : (2 : Int) * 128 ^ (j + 1) = 128 * (2 * 128 ^ j) := by rw [Int.pow_succ]; omega
          have : (0 : Int) < 128 ^ j := Int.pow_pos (by omega)
          omega
      · rw [if_neg h1] at h ⊢
        obtain ⟨j, rfl⟩ : ∃ j', j = j' + 1 := ⟨j - 1, by omega⟩
        obtain ⟨u, u0, u1, u2, u3, u4⟩ := numU_inv l0 l j (k + 1) _ (by omega) (fun x hx => hl x (by simp [hx])) h
        have hj : (2 : Int) * 128 ^ (j + 1) = 128 * (2 * 128 ^ j) := by rw [Int.pow_succ]; omega
        have e1 : (c % 128 + 128 * u) % 128 = c % 128 := by omega
        have e2 : (c % 128 + 128 * u) / 128 = u := by omega
        refine ⟨c % 128 + 128 * u, by omega, fun _ => by have := u1 (by omega); omega, by omega, ?_, ?_⟩
        · rw [u3, Int.add_assoc, Int.pow_succ]
          have := mul_step (c % 128 + 128 * u) (128 ^ k)
          rw [e1, e2] at this
          rw [this]
        · rw [digU_step j _ (by omega) (by have := u1 (by omega); omega), e1, e2]
          conv => lhs; rw [u4]
          rw [show c % 128 + 128 = c by omega]
          rfl
/-- a reading and its writing -/
structure Cdc {α : Type} (f : List Int → Int → α × List Int × Int) (p : α → List Int) (good : α → Prop) : Prop where mk ::
  (err : ∀ l e, e ≠ 0 → (f l e).2.2 = e)
  (rt : ∀ x rest, good x → f (p x ++ rest) 0 = (x, rest, 0))
  (inv : ∀ l, (∀ x ∈ l, 0 ≤ x ∧ x < 256) → (f l 0).2.2 = 0 → l = p (f l 0).1 ++ (f l 0).2.1 ∧ good (f l 0).1)
  (short : ∀ x i, good x → i < (p x).length → (f ((p x).take i) 0).2.2 = 17)
theorem num_cdc : Cdc numR digL i64k := by
  refine ⟨fun l e h => by unfold numR; rw [if_neg h], fun x rest hx => ?_, fun l hl h => ?_, fun x i hx hi => ?_⟩
  · have h := zig_range x
    unfold numR digL
    rw [if_pos rfl, numU_dig _ rest 9 0 (zig x) 0 rfl h.1 (fun h => by omega) (by have : (2 : Int) * 128 ^ 9 = 18446744073709551616 := by decide
                                                                                  omega)]
    rw [show (0 : Int) + zig x * 128 ^ 0 = zig x by simp, unzig_zig x hx]
  · unfold numR at h ⊢
    rw [if_pos rfl] at h ⊢
    obtain ⟨u, u0, _, u2, u3, u4⟩ := numU_inv l l 9 0 0 rfl hl h
    have hu : u < 18446744073709551616 := by
      have : (2 : Int) * 128 ^ 9 = 18446744073709551616 := by decide
      omega
    rw [show (0 : Int) + u * 128 ^ 0 = u by simp] at u3
    rw [u3]
    refine ⟨?_, unzig_ok u u0 hu⟩
    unfold digL
    rw [zig_unzig u u0 hu]
    exact u4
  · have h := zig_range x
    unfold numR digL
    rw [if_pos rfl]
    exact numU_short _ 9 0 (zig x) 0 i rfl h.1 (by have : (2 : Int) * 128 ^ 9 = 18446744073709551616 := by decide
                                                   omega) hi
end
section
open Go.RowKit Go.Proofs.YtoiakaagbgfocaaW.PrintWords Go.Proofs.YtoiakaagbgfocaaW.PrintLast Go.Proofs.YtoiakaagbgfocaaW.PrintMore
set_option linter.unusedVariables false
set_option linter.unusedSimpArgs false

/-- one reading behind the other -/
def seqR {α β : Type} (f : List Int → Int → α × List Int × Int) (g : List Int → Int → β × List Int × Int) (l : List Int) (e : Int) : (α × β) × List Int × Int :=
  (((f l e).1, (g (f l e).2.1 (f l e).2.2).1), (g (f l e).2.1 (f l e).2.2).2)
def mapR {α β : Type} (h : α → β) (f : List Int → Int → α × List Int × Int) (l : List Int) (e : Int) : β × List Int × Int := (h (f l e).1, (f l e).2)
theorem Cdc.seq {α β : Type} {f : List Int → Int → α × List Int × Int} {g : List Int → Int → β × List Int × Int} {p : α → List Int} {q : β → List Int} {A : α → Prop} {B : β → Prop} (hf : Cdc f p A) (hg : Cdc g q B) :
    Cdc (seqR f g) (fun x => p x.1 ++ q x.2) (fun x => A x.1 ∧ B x.2) := by
  refine ⟨fun l e h => ?_, fun x rest hx => ?_, fun l hl h => ?_, fun x i hx hi => ?_⟩
  · have h1 := hf.err l e h
    show (g _ _).2.2 = e
    rw [hg.err _ _ (by rw [h1]; exact h), h1]
  · unfold seqR
    have h1 := hf.rt x.1 (q x.2 ++ rest) hx.1
    show (((f ((p x.1 ++ q x.2) ++ rest) 0).1, _), _) = _
    rw [List.append_assoc, h1, hg.rt x.2 rest hx.2]
  · have h0 : (f l 0).2.2 = 0 := by
      rcases Decidable.em ((f l 0).2.2 = 0) with h0 | h0
      · exact h0
      · exact absurd ((hg.err _ _ h0).symm.trans h) h0
    obtain ⟨i1, i2⟩ := hf.inv l hl h0
    have hl2 : ∀ x ∈ (f l 0).2.1, 0 ≤ x ∧ x < 256 := fun x hx => hl x (by rw [i1]; exact List.mem_append_right _ hx)
    have h' : (g (f l 0).2.1 0).2.2 = 0 := by
      have h3 : (g (f l 0).2.1 (f l 0).2.2).2.2 = 0 := h
      rw [h0] at h3
      exact h3
    obtain ⟨i3, i4⟩ := hg.inv _ hl2 h'
    show l = (p (f l 0).1 ++ q (g (f l 0).2.1 (f l 0).2.2).1) ++ (g (f l 0).2.1 (f l 0).2.2).2.1 ∧ A (f l 0).1 ∧ B (g (f l 0).2.1 (f l 0).2.2).1
    rw [h0]
    refine ⟨?_, i2, i4⟩
    rw [List.append_assoc, ← i3]
    exact i1
  · show (g (f ((p x.1 ++ q x.2).take i) 0).2.1 (f ((p x.1 ++ q x.2).take i) 0).2.2).2.2 = 17
    have hi' : i < (p x.1).length + (q x.2).length := by simpa using hi
    rw [List.take_append]
    by_cases h1 : i < (p x.1).length
    · rw [show i - (p x.1).length = 0 by omega, List.take_zero, List.append_nil]
      have h2 := hf.short x.1 i hx.1 h1
      rw [hg.err _ _ (by rw [h2]; decide), h2]
    · rw [List.take_of_length_le (by omega), hf.rt x.1 _ hx.1]
      exact hg.short x.2 _ hx.2 (by omega)
theorem Cdc.map {α β : Type} {f : List Int → Int → α × List Int × Int} {p : α → List Int} {A : α → Prop} (hf : Cdc f p A) (h : α → β) (k : β → α) (hk : ∀ a, k (h a) = a) (hh : ∀ b, h (k b) = b) (f' : List Int → Int → β × List Int × Int) (p' : β → List Int) (B : β → Prop)
    (ef : ∀ l e, f' l e = mapR h f l e) (ep : ∀ b, p' b = p (k b)) (eb : ∀ b, B b ↔ A (k b)) : Cdc f' p' B := by
  refine ⟨fun l e he => ?_, fun x rest hx => ?_, fun l hl h0 => ?_, fun x i hx hi => ?_⟩
  · rw [ef]
    exact hf.err l e he
  · rw [ef, ep]
    unfold mapR
    rw [hf.rt _ _ ((eb x).1 hx), hh]
  · rw [ef] at h0 ⊢
    obtain ⟨i1, i2⟩ := hf.inv l hl h0
    show l = p' (h (f l 0).1) ++ (f l 0).2.1 ∧ B (h (f l 0).1)
    rw [ep, hk]
    exact ⟨i1, (eb _).2 (by rw [hk]; exact i2)⟩
  · rw [ef, ep]
    exact hf.short _ i ((eb x).1 hx) (by rw [← ep]; exact hi)
/-! ### so many, one behind the other -/
theorem loop_rt {α : Type} {f : List Int → Int → α × List Int × Int} {p : α → List Int} {A : α → Prop} (hf : Cdc f p A) (rest : List Int) : ∀ (xs : List α) (acc : List α), (∀ x ∈ xs, A x) → loopR f xs.length (xs.flatMap p ++ rest) 0 acc = (acc ++ xs, rest, 0)
  | [], acc, _ => by simp [loopR]
  | x :: xs, acc, h => by
    show loopR f (xs.length + 1) _ 0 acc = _
    unfold loopR
    rw [if_pos rfl, List.flatMap_cons, List.append_assoc, hf.rt x _ (h x (by simp))]
    show loopR f xs.length (xs.flatMap p ++ rest) 0 (acc ++ [x]) = _
    rw [loop_rt hf rest xs (acc ++ [x]) (fun y hy => h y (by simp [hy]))]
    simp
theorem loop_err0 {α : Type} {f : List Int → Int → α × List Int × Int} (k : Nat) (l : List Int) (e : Int) (acc : List α) (h : e ≠ 0) : (loopR f k l e acc).2.2 = e := by rw [loopR_err f k l e acc h]
theorem loop_inv {α : Type} {f : List Int → Int → α × List Int × Int} {p : α → List Int} {A : α → Prop} (hf : Cdc f p A) : ∀ (k : Nat) (l : List Int) (acc : List α), (∀ x ∈ l, 0 ≤ x ∧ x < 256) → (loopR f k l 0 acc).2.2 = 0 →
    ∃ ys, (loopR f k l 0 acc).1 = acc ++ ys ∧ ys.length = k ∧ l = ys.flatMap p ++ (loopR f k l 0 acc).2.1 ∧ ∀ y ∈ ys, A y
  | 0, l, acc, hl, h => ⟨[], by simp [loopR], rfl, rfl, by simp⟩
  | k + 1, l, acc, hl, h => by
    unfold loopR at h ⊢
    rw [if_pos rfl] at h ⊢
    have h0 : (f l 0).2.2 = 0 := by
      rcases Decidable.em ((f l 0).2.2 = 0) with h0 | h0
      · exact h0
      · exact absurd ((loop_err0 k _ _ _ h0).symm.trans h) h0
    obtain ⟨i1, i2⟩ := hf.inv l hl h0
    have hl2 : ∀ x ∈ (f l 0).2.1, 0 ≤ x ∧ x < 256 := fun x hx => hl x (by rw [i1]; exact List.mem_append_right _ hx)
    rw [h0] at h ⊢
    obtain ⟨ys, j1, j2, j3, j4⟩ := loop_inv hf k (f l 0).2.1 (acc ++ [(f l 0).1]) hl2 h
    refine ⟨(f l 0).1 :: ys, by rw [j1]; simp, by simp [j2], ?_, ?_⟩
    · rw [List.flatMap_cons, List.append_assoc, ← j3]
      exact i1
    · intro y hy
      rcases List.mem_cons.1 hy with rfl | hy
      · exact i2
      · exact j4 y hy
theorem loop_short {α : Type} {f : List Int → Int → α × List Int × Int} {p : α → List Int} {A : α → Prop} (hf : Cdc f p A) : ∀ (xs : List α) (acc : List α) (i : Nat), (∀ x ∈ xs, A x) → i < (xs.flatMap p).length → (loopR f xs.length ((xs.flatMap p).take i) 0 acc).2.2 = 17
  | [], acc, i, _, hi => by simp at hi
  | x :: xs, acc, i, h, hi => by
    show (loopR f (xs.length + 1) _ 0 acc).2.2 = 17
    unfold loopR
    rw [if_pos rfl]
    rw [List.flatMap_cons] at hi ⊢
    rw [List.take_append]
    have hi' : i < (p x).length + (xs.flatMap p).length := by simpa using hi
    by_cases h1 : i < (p x).length
    · rw [show i - (p x).length = 0 by omega, List.take_zero, List.append_nil]
      have h2 := hf.short x i (h x (by simp)) h1
      rw [loop_err0 _ _ _ _ (by rw [h2]; decide), h2]
    · rw [List.take_of_length_le (by omega), hf.rt x _ (h x (by simp))]
      exact loop_short hf xs _ _ (fun y hy => h y (by simp [hy])) (by omega)
theorem count_rt (n : Nat) (hn : n ≤ 1048576) (rest : List Int) : countR (digL (n : Int) ++ rest) 0 = ((n : Int), rest, 0) := by
  unfold countR
  rw [num_cdc.rt (n : Int) rest ⟨by omega, by omega⟩]
  have : inB (n : Int) 0 1048576 = true := by simp [inB]; omega
  simp [this]
theorem many_cdc {α : Type} {f : List Int → Int → α × List Int × Int} {p : α → List Int} {A : α → Prop} (hf : Cdc f p A) : Cdc (manyR f) (fun xs => digL (xs.length : Int) ++ xs.flatMap p) (fun xs => xs.length ≤ 1048576 ∧ ∀ x ∈ xs, A x) := by
  have cerr : ∀ l e, e ≠ 0 → (countR l e).2.2 = e := fun l e h => by
    unfold countR
    have := num_cdc.err l e h
    simp only [this, if_neg h]
  refine ⟨fun l e h => ?_, fun xs rest hx => ?_, fun l hl h => ?_, fun xs i hx hi => ?_⟩
  · unfold manyR
    have h1 := cerr l e h
    rw [loop_err0 _ _ _ _ (by rw [h1]; exact h), h1]
  · unfold manyR
    rw [List.append_assoc, count_rt xs.length hx.1]
    show loopR f ((xs.length : Int).toNat) (xs.flatMap p ++ rest) 0 [] = _
    rw [Int.toNat_natCast, loop_rt hf rest xs [] hx.2]
    rfl
  · unfold manyR at h ⊢
    have h0 : (countR l 0).2.2 = 0 := by
      rcases Decidable.em ((countR l 0).2.2 = 0) with h0 | h0
      · exact h0
      · exact absurd ((loop_err0 _ _ _ _ h0).symm.trans h) h0
    have h1 : (numR l 0).2.2 = 0 ∧ inB (numR l 0).1 0 1048576 = true := by
      unfold countR at h0
      simp only at h0
      by_cases a : (numR l 0).2.2 = 0
      · rw [if_pos a] at h0
        by_cases b : inB (numR l 0).1 0 1048576 = true
        · exact ⟨a, b⟩
        · rw [if_neg b] at h0
          exact absurd h0 (by decide)
      · rw [if_neg a] at h0
        exact absurd h0 a
    obtain ⟨i1, i2⟩ := num_cdc.inv l hl h1.1
    have hb : 0 ≤ (numR l 0).1 ∧ (numR l 0).1 ≤ 1048576 := by simpa [inB] using h1.2
    have e1 : (countR l 0).1 = (numR l 0).1 := rfl
    have e2 : (countR l 0).2.1 = (numR l 0).2.1 := rfl
    rw [h0, e1, e2] at h ⊢
    have hl2 : ∀ x ∈ (numR l 0).2.1, 0 ≤ x ∧ x < 256 := fun x hx => hl x (by rw [i1]; exact List.mem_append_right _ hx)
    obtain ⟨ys, j1, j2, j3, j4⟩ := loop_inv hf _ _ [] hl2 h
    rw [j1, List.nil_append]
    have hlen : (ys.length : Int) = (numR l 0).1 := by omega
    refine ⟨?_, by omega, j4⟩
    rw [hlen, List.append_assoc, ← j3]
    exact i1
  · show (loopR f (countR ((digL (xs.length : Int) ++ xs.flatMap p).take i) 0).1.toNat _ _ []).2.2 = 17
    have hi' : i < (digL (xs.length : Int)).length + (xs.flatMap p).length := by simpa using hi
    rw [List.take_append]
    by_cases h1 : i < (digL (xs.length : Int)).length
    · rw [show i - (digL (xs.length : Int)).length = 0 by omega, List.take_zero, List.append_nil]
      have h2 := num_cdc.short (xs.length : Int) i ⟨by omega, by have := hx.1; omega⟩ h1
      have h3 : (countR ((digL (xs.length : Int)).take i) 0).2.2 = 17 := by
        unfold countR
        simp only [h2]
        exact if_neg (by decide)
      rw [loop_err0 _ _ _ _ (by rw [h3]; decide), h3]
    · rw [List.take_of_length_le (by omega), count_rt xs.length hx.1]
      show (loopR f ((xs.length : Int).toNat) ((xs.flatMap p).take (i - (digL (xs.length : Int)).length)) 0 []).2.2 = 17
      rw [Int.toNat_natCast]
      exact loop_short hf xs [] _ hx.2 (by omega)
/-! ### the image's parts -/
theorem num3_cdc : Cdc num3R (fun x => digL x.1 ++ (digL x.2.1 ++ digL x.2.2)) (fun x => i64k x.1 ∧ i64k x.2.1 ∧ i64k x.2.2) := num_cdc.seq (num_cdc.seq num_cdc)
theorem part_cdc : Cdc partR (fun x => (partN x).flatMap digL) (fun x => i64k x.f0 ∧ i64k x.f1) :=
  (num_cdc.seq num_cdc).map (fun x => (⟨x.1, x.2⟩ : S73)) (fun b => (b.f0, b.f1)) (fun _ => rfl) (fun _ => rfl) _ _ _ (fun _ _ => rfl) (fun b => by simp [partN]) (fun _ => Iff.rfl)
theorem pad_cdc : Cdc padR (fun x => (padN x).flatMap digL) (fun x => i64k x.f0 ∧ i64k x.f1 ∧ i64k x.f2) :=
  num3_cdc.map (fun x => (⟨x.1, x.2.1, x.2.2⟩ : S66)) (fun b => (b.f0, b.f1, b.f2)) (fun _ => rfl) (fun _ => rfl) _ _ _ (fun _ _ => rfl) (fun b => by simp [padN]) (fun _ => Iff.rfl)
theorem inst_cdc : Cdc instR (fun x => (instN x).flatMap digL) (fun x => i64k x.f0 ∧ i64k x.f1 ∧ i64k x.f2 ∧ i64k x.f3) :=
  (num_cdc.seq num3_cdc).map (fun x => (⟨x.1, x.2.1, x.2.2.1, x.2.2.2⟩ : S42)) (fun b => (b.f0, b.f1, b.f2, b.f3)) (fun _ => rfl) (fun _ => rfl) _ _ _ (fun _ _ => rfl) (fun b => by simp [instN]) (fun _ => Iff.rfl)
def S73.k (x : S73) : Prop := i64k x.f0 ∧ i64k x.f1
def S66.k (x : S66) : Prop := i64k x.f0 ∧ i64k x.f1 ∧ i64k x.f2
def S42.k (x : S42) : Prop := i64k x.f0 ∧ i64k x.f1 ∧ i64k x.f2 ∧ i64k x.f3
def S48.k (x : S48) : Prop := (i64k x.f0 ∧ i64k x.f1 ∧ i64k x.f2) ∧ x.f3.length ≤ 1048576 ∧ ∀ y ∈ x.f3, y.k
def S40.k (x : S40) : Prop := (i64k x.f0 ∧ i64k x.f1 ∧ i64k x.f2) ∧ (x.f3.length ≤ 1048576 ∧ ∀ y ∈ x.f3, y.k) ∧ x.f4.length ≤ 1048576 ∧ ∀ y ∈ x.f4, y.k
theorem flat_dig {α : Type} (g : α → List Int) (xs : List α) : (xs.flatMap g).flatMap digL = xs.flatMap (fun x => (g x).flatMap digL) := by
  induction xs with
  | nil => rfl
  | cons x xs ih => rw [List.flatMap_cons, List.flatMap_append, ih, List.flatMap_cons]
theorem glue_cdc : Cdc glueR (fun x => (glueN x).flatMap digL) S48.k :=
  (num3_cdc.seq (many_cdc part_cdc)).map (fun x => (⟨x.1.1, x.1.2.1, x.1.2.2, x.2⟩ : S48)) (fun b => ((b.f0, b.f1, b.f2), b.f3)) (fun _ => rfl) (fun _ => rfl) _ _ _ (fun _ _ => rfl)
    (fun b => by
      unfold glueN
      rw [List.flatMap_append, flat_dig]
      simp [List.flatMap_cons]) (fun _ => Iff.rfl)
theorem code_cdc : Cdc codeR (fun x => (codeN x).flatMap digL) S40.k :=
  (num3_cdc.seq ((many_cdc inst_cdc).seq (many_cdc pad_cdc))).map (fun x => (⟨x.1.1, x.1.2.1, x.1.2.2, x.2.1, x.2.2⟩ : S40)) (fun b => ((b.f0, b.f1, b.f2), b.f3, b.f4)) (fun _ => rfl) (fun _ => rfl) _ _ _ (fun _ _ => rfl)
    (fun b => by
      unfold codeN
      rw [List.flatMap_append, List.flatMap_append, List.flatMap_append, flat_dig, flat_dig]
      simp [List.flatMap_cons]) (fun _ => Iff.rfl)
theorem image_cdc : Cdc imageR (fun x => (imgN x.1 x.2.1 x.2.2).flatMap digL) (fun x => i64k x.2.2 ∧ (x.1.length ≤ 1048576 ∧ ∀ g ∈ x.1, g.k) ∧ x.2.1.length ≤ 1048576 ∧ ∀ c ∈ x.2.1, c.k) :=
  (num_cdc.seq ((many_cdc glue_cdc).seq (many_cdc code_cdc))).map (fun x => (x.2.1, x.2.2, x.1)) (fun b => (b.2.2, b.1, b.2.1)) (fun _ => rfl) (fun _ => rfl) _ _ _ (fun _ _ => rfl)
    (fun b => by
      unfold imgN codesN
      rw [List.flatMap_append, List.flatMap_append, List.flatMap_append, flat_dig, flat_dig]
      simp [List.flatMap_cons]) (fun _ => Iff.rfl)
end
section
open Go.RowKit Go.Proofs.YtoiakaagbgfocaaW.PrintWords Go.Proofs.YtoiakaagbgfocaaW.PrintLast Go.Proofs.YtoiakaagbgfocaaW.PrintMore
set_option linter.unusedVariables false
set_option linter.unusedSimpArgs false

/-- an image's numbers are of 64 bits, its rows not too long -/
def kOk (x : List S48 × List S40 × Int) : Prop := i64k x.2.2 ∧ (x.1.length ≤ 1048576 ∧ ∀ g ∈ x.1, g.k) ∧ x.2.1.length ≤ 1048576 ∧ ∀ c ∈ x.2.1, c.k
theorem bytesL_eq (x : List S48 × List S40 × Int) : bytesL x.1 x.2.1 x.2.2 = magicL ++ (imgN x.1 x.2.1 x.2.2).flatMap digL := rfl
/-- what is an image's bytes is read as that image -/
theorem parse_bytes (gs : List S48) (cs : List S40) (m : Int) (hk : kOk (gs, cs, m)) (hi : imgB gs cs m = true) : parseR (bytesL gs cs m) = ((gs, cs, m), 0) := by
  have hr := image_cdc.rt (gs, cs, m) [] hk
  rw [List.append_nil] at hr
  unfold parseR
  have e0 : bytesL gs cs m = magicL ++ (imgN gs cs m).flatMap digL := rfl
  have e1 : (bytesL gs cs m).take 5 = magicL := by rw [e0]; simp [magicL]
  have e2 : (bytesL gs cs m).drop 5 = (imgN gs cs m).flatMap digL := by rw [e0]; simp [magicL]
  have e3 : 5 ≤ (bytesL gs cs m).length := by rw [e0, List.length_append]; simp [magicL]
  rw [e1, e2, hr, show min (bytesL gs cs m).length 5 = 5 by omega, if_neg (by simp [magicL]), if_neg (by omega), if_neg (by simp), if_neg (by simp), if_neg (by simp [hi])]
/-- what is read as an image is that image's bytes -/
theorem bytes_parse (l : List Int) (hl : ∀ x ∈ l, 0 ≤ x ∧ x < 256) (h : (parseR l).2 = 0) : bytesL (parseR l).1.1 (parseR l).1.2.1 (parseR l).1.2.2 = l ∧ imgB (parseR l).1.1 (parseR l).1.2.1 (parseR l).1.2.2 = true := by
  unfold parseR at h ⊢
  by_cases h1 : l.take 5 ≠ magicL.take (min l.length 5)
  · rw [if_pos h1] at h
    exact absurd h (by decide)
  · rw [if_neg h1] at h ⊢
    by_cases h2 : l.length < 5
    · rw [if_pos h2] at h
      exact absurd h (by decide)
    · rw [if_neg h2] at h ⊢
      by_cases h3 : (imageR (l.drop 5) 0).2.2 ≠ 0
      · rw [if_pos h3] at h
        exact absurd h h3
      · rw [if_neg h3] at h ⊢
        by_cases h4 : (imageR (l.drop 5) 0).2.1.length > 0
        · rw [if_pos h4] at h
          exact absurd h (by decide)
        · rw [if_neg h4] at h ⊢
          by_cases h5 : imgB (imageR (l.drop 5) 0).1.1 (imageR (l.drop 5) 0).1.2.1 (imageR (l.drop 5) 0).1.2.2 = false
          · rw [if_pos h5] at h
            exact absurd h (by decide)
          · rw [if_neg h5]
            refine ⟨?_, by simpa using h5⟩
            have hd : ∀ x ∈ l.drop 5, 0 ≤ x ∧ x < 256 := fun x hx => hl x (List.mem_of_mem_drop hx)
            obtain ⟨i1, _⟩ := image_cdc.inv (l.drop 5) hd (by simpa using h3)
            have e : (imageR (l.drop 5) 0).2.1 = [] := by
              cases hx : (imageR (l.drop 5) 0).2.1 with
              | nil => rfl
              | cons a b => rw [hx] at h4; simp at h4
            rw [e, List.append_nil] at i1
            have h6 : l.take 5 = magicL := by
              have := Decidable.of_not_not h1
              rw [this, show min l.length 5 = 5 by omega]
              rfl
            conv => rhs; rw [← List.take_append_drop 5 l, h6, i1]
            rfl
/-- bytes cut short are no image -/
theorem parse_cut (gs : List S48) (cs : List S40) (m : Int) (hk : kOk (gs, cs, m)) (i : Nat) (hi : i < (bytesL gs cs m).length) : parseR ((bytesL gs cs m).take i) = (emptyI, 17) := by
  have e0 : bytesL gs cs m = magicL ++ (imgN gs cs m).flatMap digL := rfl
  have hm : magicL.length = 5 := rfl
  have hlen : ((bytesL gs cs m).take i).length = i := by rw [List.length_take]; omega
  unfold parseR
  rw [hlen]
  by_cases h : i < 5
  · have e1 : ((bytesL gs cs m).take i).take 5 = magicL.take (min i 5) := by
      rw [List.take_take, e0, show min 5 i = i by omega, show min i 5 = i by omega, List.take_append_of_le_length (by omega)]
    rw [e1, if_neg (by simp), if_pos h]
  · have e1 : ((bytesL gs cs m).take i).take 5 = magicL.take (min i 5) := by
      rw [List.take_take, e0, show min 5 i = 5 by omega, show min i 5 = 5 by omega, List.take_append_of_le_length (by omega)]
    have e2 : ((bytesL gs cs m).take i).drop 5 = ((imgN gs cs m).flatMap digL).take (i - 5) := by
      rw [List.drop_take, e0]
      congr 1
    have hi2 : i - 5 < ((imgN gs cs m).flatMap digL).length := by
      rw [e0, List.length_append] at hi
      omega
    have hs := image_cdc.short (gs, cs, m) (i - 5) hk hi2
    rw [e1, e2, if_neg (by simp), if_neg h, if_pos (by rw [hs]; decide), hs]
theorem digU_byte : ∀ (k : Nat) (u : Int), 0 ≤ u → ∀ x ∈ digU k u, 0 ≤ x ∧ x < 256
  | 0, u, h, x, hx => by
    simp [digU] at hx
    omega
  | k + 1, u, h, x, hx => by
    by_cases h1 : u ≥ 128
    · rw [digU_step k u h h1] at hx
      rcases List.mem_cons.1 hx with rfl | hx
      · omega
      · exact digU_byte k (u / 128) (by omega) x hx
    · rw [digU_last _ u h (by omega)] at hx
      simp at hx
      omega
theorem flat_dig_len : ∀ l : List Int, (l.flatMap digL).length ≤ 10 * l.length
  | [] => by simp
  | x :: l => by
    have := flat_dig_len l
    have h2 : (digL x).length ≤ 10 := digU_len 9 (zig x)
    rw [List.flatMap_cons, List.length_append, List.length_cons]
    omega
theorem bytes_byt (gs : List S48) (cs : List S40) (m : Int) (h : (imgN gs cs m).length ≤ 90000) : Byt (bytesL gs cs m) ∧ (bytesL gs cs m).length ≤ 999999 := by
  have e0 : bytesL gs cs m = magicL ++ (imgN gs cs m).flatMap digL := rfl
  have h1 := flat_dig_len (imgN gs cs m)
  have hm : magicL.length = 5 := rfl
  have hlen : (bytesL gs cs m).length ≤ 999999 := by
    rw [e0, List.length_append]
    omega
  refine ⟨⟨by omega, fun x hx => ?_⟩, hlen⟩
  rw [e0] at hx
  rcases List.mem_append.1 hx with hx | hx
  · simp [magicL] at hx
    omega
  · obtain ⟨n, _, hn⟩ := List.mem_flatMap.1 hx
    exact digU_byte 9 (zig n) (zig_range n).1 x hn
end
section
open Go.RowKit Go.Proofs.YtoiakaagbgfocaaW.PrintWords Go.Proofs.YtoiakaagbgfocaaW.PrintLast Go.Proofs.YtoiakaagbgfocaaW.PrintMore
set_option linter.unusedVariables false
set_option linter.unusedSimpArgs false

theorem sameb_l0 (l : List Int) (hl : l.length ≤ 1000000) : ∀ (k i : Nat), i + k = l.length → drogueref00_SameBytes.l0 (k + 1) l l (i : Int) = some true
  | 0, i, hi => by
    unfold drogueref00_SameBytes.l0
    rw [if_neg (by omega)]
  | k + 1, i, hi => by
    unfold drogueref00_SameBytes.l0
    rw [if_pos (by omega), if_pos (by omega), if_pos (by omega), if_pos rfl, w64s i (by omega), sameb_l0 l hl k (i + 1) (by omega)]
theorem sameb_calls (A A' : Option Addr) (c c' : Nat) (l : List Int) (hl : l.length ≤ 1000000) (w : World) (hC : Kd.C (Kd.int .u8) w A l.length l) (hc : l.length ≤ c) (hC' : Kd.C (Kd.int .u8) w A' l.length l) (hc' : l.length ≤ c') :
    Calls Try.prog 13 #[.slice A l.length c, .slice A' l.length c'] w fun e w' => e = .returned (.bool true) ∧ Below w.heap.size w w' := by
  refine (drogueref00_SameBytes.calls (l.length + 1) A c l A' c' l true w hC hc hC' hc' ?_).mono fun e w' h => ⟨h.1, h.2.below⟩
  unfold drogueref00_SameBytes.f
  rw [if_pos rfl]
  exact sameb_l0 l hl l.length 0 (by omega)
theorem parseB_calls (A : Option Addr) (c : Nat) (l : List Int) (r : (List S48 × List S40 × Int) × Int) (hr : parseR l = r) (hl : Byt l) (hl2 : l.length ≤ 999999) (w : World) (hC : Kd.C (Kd.int .u8) w A l.length l) (hc : l.length ≤ c) :
    Calls Try.prog 14 #[.slice A l.length c] w fun e w' => ∃ A0 c0 A1 c1, e = .returned (.tuple #[.agg #[.slice A0 r.1.1.length c0, .slice A1 r.1.2.1.length c1, .int .i64 r.1.2.2], .int .i64 r.2]) ∧ (⟨A0, c0, r.1.1, A1, c1, r.1.2.1, r.1.2.2⟩ : Im).In w' ∧ Below w.heap.size w w' := by
  refine (parse_calls A c l w hC hc hl hl2 r hr).mono ?_
  rintro e w' ⟨vg, vc, he, hg, hcc, hb⟩
  obtain ⟨A0, c0, rfl⟩ := row_slice hg
  obtain ⟨A1, c1, rfl⟩ := row_slice hcc
  exact ⟨A0, c0, A1, c1, he, ⟨(Kd.R_reads' hg).2.2, (Kd.R_reads' hg).2.1, (Kd.R_reads' hcc).2.2, (Kd.R_reads' hcc).2.1⟩, hb⟩
theorem bytesB_calls (m : Im) (fm : m.Few) (s : Bool) (l : List Int) (hs : imgB m.g m.cs m.m = s) (hl : (if s = true then bytesL m.g m.cs m.m else []) = l) (w : World) (hm : m.In w) :
    Calls Try.prog 9 #[m.val] w fun e w' => ∃ A c, e = .returned (.tuple #[.slice A l.length c, .bool s]) ∧ Kd.C (Kd.int .u8) w' A l.length l ∧ l.length ≤ c ∧ Below w.heap.size w w' := by
  refine (bytes_calls m w hm fm.sm fm.n).mono ?_
  rintro e w' ⟨v, he, hr, hb⟩
  rw [hs] at he hr
  rw [hl] at hr
  obtain ⟨A, c, rfl⟩ := row_slice hr
  exact ⟨A, c, he, (RB.reads hr).2.1, (RB.reads hr).2.2, hb⟩
theorem rightB_calls (m : Im) (fm : m.Few) (s : Bool) (hs : imgB m.g m.cs m.m = s) (w : World) (hm : m.In w) :
    Calls Try.prog 11 #[m.val] w fun e w' => e = .returned (.bool s) ∧ Below w.heap.size w w' := by
  subst hs
  exact img_calls m w hm fm.sm.g fm.sm.c
theorem parseC_calls (A : Option Addr) (c : Nat) (l : List Int) (gs : List S48) (cs : List S40) (mm : Int) (hr : parseR l = ((gs, cs, mm), 0)) (hl : Byt l) (hl2 : l.length ≤ 999999) (w : World) (hC : Kd.C (Kd.int .u8) w A l.length l) (hc : l.length ≤ c) :
    Calls Try.prog 14 #[.slice A l.length c] w fun e w' => ∃ A0 c0 A1 c1, e = .returned (.tuple #[.agg #[.slice A0 gs.length c0, .slice A1 cs.length c1, .int .i64 mm], .int .i64 0]) ∧ (⟨A0, c0, gs, A1, c1, cs, mm⟩ : Im).In w' ∧ Below w.heap.size w w' :=
  parseB_calls A c l _ hr hl hl2 w hC hc
theorem parseE_calls (A : Option Addr) (c n : Nat) (l : List Int) (hn : l.length = n) (hr : parseR l = (emptyI, 17)) (hl : Byt l) (hl2 : l.length ≤ 999999) (w : World) (hC : Kd.C (Kd.int .u8) w A l.length l) (hc : l.length ≤ c) :
    Calls Try.prog 14 #[.slice A n c] w fun e w' => ∃ A0 c0 A1 c1, e = .returned (.tuple #[.agg #[.slice A0 0 c0, .slice A1 0 c1, .int .i64 0], .int .i64 17]) ∧ Below w.heap.size w w' := by
  subst hn
  refine (parseB_calls A c l _ hr hl hl2 w hC hc).mono ?_
  rintro e w' ⟨A0, c0, A1, c1, he, _, hb⟩
  exact ⟨A0, c0, A1, c1, he, hb⟩
theorem bytesN_calls (m : Im) (fm : m.Few) (hs : imgB m.g m.cs m.m = false) (w : World) (hm : m.In w) :
    Calls Try.prog 9 #[m.val] w fun e w' => ∃ A c, e = .returned (.tuple #[.slice A 0 c, .bool false]) ∧ Below w.heap.size w w' := by
  refine (bytesB_calls m fm false [] hs (if_neg (by decide)) w hm).mono ?_
  rintro e w' ⟨A, c, he, _, _, hb⟩
  exact ⟨A, c, he, hb⟩
theorem le_flat {α : Type} (g : α → List Int) : ∀ (xs : List α), ∀ x ∈ xs, (g x).length ≤ (xs.flatMap g).length
  | y :: xs, x, h => by
    rw [List.flatMap_cons, List.length_append]
    rcases List.mem_cons.1 h with rfl | h
    · omega
    · have := le_flat g xs x h
      omega
theorem len_flat {α : Type} (g : α → List Int) (hg : ∀ x, 1 ≤ (g x).length) : ∀ (xs : List α), xs.length ≤ (xs.flatMap g).length
  | [] => by simp
  | y :: xs => by
    have := len_flat g hg xs
    have := hg y
    rw [List.flatMap_cons, List.length_append, List.length_cons]
    omega
theorem digL_pos (n : Int) : 1 ≤ (digL n).length := by
  unfold digL digU
  split <;> simp
/-- an image of few numbers is few -/
theorem few_num (m : Im) (h : (imgN m.g m.cs m.m).length ≤ 1000000) : m.Few := by
  have h0 : (imgN m.g m.cs m.m).length = 2 + ((m.g.flatMap glueN).length + (1 + (m.cs.flatMap codeN).length)) := by
    unfold imgN codesN
    simp only [List.length_append, List.length_cons, List.length_nil]
  have h1 := len_flat glueN (fun x => by rw [glue_len]; omega) m.g
  have h2 := len_flat codeN (fun x => by rw [code_len]; omega) m.cs
  refine ⟨⟨by omega, by omega, fun g hg => ?_, fun c hc => ?_⟩, h⟩
  · have := le_flat glueN m.g g hg
    rw [glue_len] at this
    omega
  · have := le_flat codeN m.cs c hc
    rw [code_len] at this
    omega
/-- what bytes are read as, is few -/
theorem few_parse (l : List Int) (hl : Byt l) (A0 A1 : Option Addr) (c0 c1 : Nat) : (⟨A0, c0, (parseR l).1.1, A1, c1, (parseR l).1.2.1, (parseR l).1.2.2⟩ : Im).Few := by
  by_cases h : (parseR l).2 = 0
  · refine few_num _ ?_
    have h1 := (bytes_parse l hl.byte h).1
    have h2 := len_flat digL digL_pos (imgN (parseR l).1.1 (parseR l).1.2.1 (parseR l).1.2.2)
    have h3 : l.length = 5 + ((imgN (parseR l).1.1 (parseR l).1.2.1 (parseR l).1.2.2).flatMap digL).length := by
      conv => lhs; rw [← h1]
      unfold bytesL
      rw [List.length_append]
      rfl
    have := hl.len
    show (imgN (parseR l).1.1 (parseR l).1.2.1 (parseR l).1.2.2).length ≤ 1000000
    omega
  · have e : (parseR l).1 = emptyI := by
      unfold parseR at h ⊢
      split
      · rfl
      · rename_i h1
        rw [if_neg h1] at h
        split
        · rfl
        · rename_i h2
          rw [if_neg h2] at h
          split
          · rfl
          · rename_i h3
            rw [if_neg h3] at h
            split
            · rfl
            · rename_i h4
              rw [if_neg h4] at h
              split
              · rfl
              · rename_i h5
                rw [if_neg h5] at h
                exact absurd rfl h
    rw [e]
    exact few_num _ (by simp [emptyI, imgN, codesN])
/-- what the law asks of its image -/
structure Im.Law (m : Im) : Prop where mk :: (few : m.Few) (n : (imgN m.g m.cs m.m).length ≤ 90000) (k : kOk (m.g, m.cs, m.m))
structure BkS (w V : World) (X3 : Nat) (m : Im) (A : Option Addr) (lb : List Int) : Prop where mk ::
  (bel : Below w.heap.size w V) (bm : Blk V X3 m.cells 25) (im : m.In V) (hb : Kd.C (Kd.int .u8) V A lb.length lb)
theorem BkS.below {w V V' : World} {X3 : Nat} {m : Im} {A : Option Addr} {lb : List Int} (h : BkS w V X3 m A lb) (hb : Below V.heap.size V V') : BkS w V' X3 m A lb :=
  ⟨below_step h.bel hb, h.bm.below hb, h.im.below rfl hb, Kd.C_below h.hb hb⟩
theorem great_ev2 (m : Im) (hf : m.Fit reachBytes) : ∃ r, Ev (fun k => droguelaw22_Great.f k m.g m.cs m.m) r ∧ (r = false → m.g.length + m.cs.length ≤ 200 ∧ gsum m.g + csum m.cs ≤ 5000) := by
  have hR : reachBytes = 140737488351232 := rfl
  have hg := hf.g
  have hc := hf.c
  unfold droguelaw22_Great.f
  rw [w64n m.g.length m.cs.length (by omega)]
  by_cases hn : m.g.length + m.cs.length ≤ 200
  · have h1 := gsum_le _ m.g hf.gp
    have h2 := csum_le _ m.cs hf.ci
    have h3 : m.g.length * reachBytes ≤ 200 * reachBytes := Nat.mul_le_mul_right _ (by omega)
    have h4 : m.cs.length * (2 * reachBytes) ≤ 200 * (2 * reachBytes) := Nat.mul_le_mul_right _ (by omega)
    have h5 := great_l0 m.g m.cs m.m (by omega) (by omega) m.g.length 0 (m.g.length + m.cs.length) (by omega) (by rw [List.drop_zero]; omega)
    rw [List.drop_zero] at h5
    refine ⟨_, Ev.neg (by omega) h5, fun hr => ⟨hn, ?_⟩⟩
    have := of_decide_eq_false hr
    omega
  · exact ⟨true, Ev.pos (by omega) (Ev.pure true), fun h => by cases h⟩
theorem law_of (m : Im) (hn : m.g.length + m.cs.length ≤ 200) (hs : gsum m.g + csum m.cs ≤ 5000) (ok : m.Ok) : m.Law := by
  have few := few_of m hn hs
  refine ⟨few, ?_, ok.m, ⟨by have := few.sm.g; show m.g.length ≤ _; omega, fun g hg => ⟨(ok.g g hg).1, by have := few.sm.gp g hg; omega, (ok.g g hg).2⟩⟩, by have := few.sm.c; show m.cs.length ≤ _; omega,
    fun c hc => ⟨(ok.c c hc).1, ⟨by have := few.sm.ci c hc; omega, (ok.c c hc).2.1⟩, by have := few.sm.ci c hc; omega, (ok.c c hc).2.2⟩⟩
  have h1 := glues_len m.g
  have h2 := codes_len m.cs
  unfold imgN codesN
  rw [List.length_append, List.length_append, List.length_append]
  simp only [List.length_cons, List.length_nil]
  omega
set_option maxHeartbeats 16000000 in
set_option maxRecDepth 100000 in
theorem codeBack_calls (k : Nat) (m : Im) (ra : Bool) (A : Option Addr) (c : Nat) (lb : List Int) (cut : Int) (w : World) (hm : m.In w) (hC : Kd.C (Kd.int .u8) w A lb.length lb) (hc : lb.length ≤ c) (hby : ∀ x ∈ lb, 0 ≤ x ∧ x < 256)
    (hga : droguelaw22_Great.f k m.g m.cs m.m = some ra) (fa : ra = false → m.Law) :
    Calls Try.prog 4 #[m.val, .slice A lb.length c, .int .i64 cut] w fun e w' => e = .returned (.bool true) ∧ Below w.heap.size w w' := by
  have FA := Lib.hid fa
  have HGA := Lib.hid hga
  have HC := Lib.hid hc
  have HBy := Lib.hid hby
  have S0 : Hid (BkS w (w.alloc (.cells m.cells 25)) w.heap.size m A lb) :=
    have h2 := below_alloc (Below.refl w.heap.size w) (.cells m.cells 25)
    Lib.hid ⟨h2, Blk.new w m.cells 25, hm.below rfl h2, Kd.C_below hC h2⟩
  clear hm hC hc hby hga fa
  obtain ⟨A0, c0, gs, A1, c1, cs, mm⟩ := m
  obtain ⟨n, hn⟩ : ∃ n, n = lb.length := ⟨_, rfl⟩
  have HN := Lib.hid hn
  rw [← hn]
  clear hn
  go_enter Try.func4, Try.ntmps4
  go_wp2_with fail
  refine at_world (fun V => BkS w V w.heap.size ⟨A0, c0, gs, A1, c1, cs, mm⟩ A lb) S0.out ?_
  clear S0
  generalize w.heap.size = X3
  rintro V0 hS0
  have HS0 := Lib.hid hS0
  clear hS0
  refine (alive_calls V0).mono ?_
  rintro e V1 ⟨rfl, hb1⟩
  have hS1 := HS0.out.below hb1
  clear HS0 hb1
  obtain ⟨⟨m0, m1, m2⟩, -⟩ := hS1.bm.cells3
  have HS1 := Lib.hid hS1
  clear hS1
  go_wp2_with fail
  refine (droguelaw22_Great.calls k A0 c0 gs A1 c1 cs mm ra _ HS1.out.im.h0 HS1.out.im.b0 HS1.out.im.h1 HS1.out.im.b1 HGA.out).mono ?_
  rintro e V2 ⟨rfl, hb2⟩
  have hS2 := HS1.out.below hb2
  clear HS1 hb2 m0 m1 m2
  have HS2 := Lib.hid hS2
  clear hS2
  cases ra
  case true =>
    go_wp2
    go_ret
    exact ⟨rfl, HS2.out.bel⟩
  have FA1 := Lib.hid (FA.out rfl)
  clear FA HGA
  by_cases hlen : 5000 < n
  case pos =>
    have g1 : decide (5000 < n) = true := decide_eq_true hlen
    have g2 : decide (5000 < (n : Int)) = true := decide_eq_true (by omega)
    have g3 : decide ((n : Int) > 5000) = true := g2
    go_wp2
    go_ret
    exact ⟨rfl, HS2.out.bel⟩
  have g1 : decide (5000 < n) = false := decide_eq_false hlen
  have g2 : decide (5000 < (n : Int)) = false := decide_eq_false (by omega)
  have g3 : decide ((n : Int) > 5000) = false := g2
  have HL : Hid (lb.length ≤ 5000) := Lib.hid (by have := HN.out; omega)
  clear hlen
  have HByt : Hid (Byt lb) := Lib.hid ⟨by have := HL.out; omega, HBy.out⟩
  go_wp2_with fail
  have hn := HN.out
  subst hn
  clear HN
  refine (parseB_calls A c lb _ rfl HByt.out (by have := HL.out; omega) V2 HS2.out.hb HC.out).mono ?_
  rintro e V3 ⟨B0, d0, B1, d1, rfl, hx3, hb3⟩
  have HFx := Lib.hid (few_parse lb HByt.out B0 B1 d0 d1)
  have HPx := Lib.hid (bytes_parse lb HByt.out.byte)
  generalize parseR lb = r at *
  obtain ⟨⟨gx, cx, mx⟩, ex⟩ := r
  dsimp only at *
  have hS3 := HS2.out.below hb3
  clear HS2 hb3
  have HS3 := Lib.hid (hS3.below (below_alloc (Below.refl V3.heap.size V3) (.cells #[.slice B0 gx.length d0, .slice B1 cx.length d1, .int .i64 mx] 25)))
  have HX3 := Lib.hid (hx3.below rfl (below_alloc (Below.refl V3.heap.size V3) (.cells #[.slice B0 gx.length d0, .slice B1 cx.length d1, .int .i64 mx] 25)))
  clear hS3 hx3
  have HLw := FA1.out
  by_cases hex : ex = 0
  case pos =>
    subst hex
    obtain ⟨hbl, hi⟩ := HPx.out rfl
    have HBl := Lib.hid hbl
    have HI := Lib.hid hi
    clear HPx hbl hi
    have HLW := Lib.hid HLw
    clear HLw
    obtain ⟨⟨m0, m1, m2⟩, -⟩ := HS3.out.bm.cells3
    go_wp2_with fail
    refine (bytesB_calls ⟨B0, d0, gx, B1, d1, cx, mx⟩ HFx.out true lb HI.out (by rw [if_pos rfl]; exact HBl.out) _ HX3.out).mono ?_
    rintro e V4 ⟨A2, c2, rfl, hC2, hc2, hb4⟩
    have HS4 := Lib.hid (HS3.out.below hb4)
    have HC2 := Lib.hid hC2
    have HCc2 := Lib.hid hc2
    clear HS3 hb4 hC2 hc2 m0 m1 m2
    go_wp2_with fail
    refine (sameb_calls A2 A c2 c lb (by have := HL.out; omega) _ HC2.out HCc2.out HS4.out.hb HC.out).mono ?_
    rintro e V5 ⟨rfl, hb5⟩
    have hS5 := HS4.out.below hb5
    clear HS4 hb5 HC2 HCc2
    obtain ⟨⟨m0, m1, m2⟩, -⟩ := hS5.bm.cells3
    have HS5 := Lib.hid hS5
    clear hS5
    go_wp2_with fail
    refine at_world (fun V => BkS w V X3 ⟨A0, c0, gs, A1, c1, cs, mm⟩ A lb) HS5.out ?_
    clear HS5 m0 m1 m2 HX3 HFx HBl HI
    rintro V5' hS5
    have HS5 := Lib.hid hS5
    clear hS5
    obtain ⟨⟨m0, m1, m2⟩, -⟩ := HS5.out.bm.cells3
    cases hi : imgB gs cs mm with
    | false =>
      have HI := Lib.hid hi
      clear hi
      refine (bytesN_calls ⟨A0, c0, gs, A1, c1, cs, mm⟩ HLW.out.few HI.out _ HS5.out.im).mono ?_
      rintro e V6 ⟨A3, c3, rfl, hb6⟩
      have hS6 := HS5.out.below hb6
      clear HS5 hb6 m0 m1 m2
      obtain ⟨⟨m0, m1, m2⟩, -⟩ := hS6.bm.cells3
      have HS6 := Lib.hid hS6
      clear hS6
      go_wp2_with fail
      refine (rightB_calls ⟨A0, c0, gs, A1, c1, cs, mm⟩ HLW.out.few false HI.out _ HS6.out.im).mono ?_
      rintro e V7 ⟨rfl, hb7⟩
      have HB7 := Lib.hid (below_step HS6.out.bel hb7)
      clear HS6 hb7 m0 m1 m2
      go_wp2
      go_ret
      exact ⟨rfl, HB7.out⟩
    | true =>
      have HI := Lib.hid hi
      have HPar := Lib.hid (parse_bytes gs cs mm HLW.out.k hi)
      have HCut := Lib.hid (parse_cut gs cs mm HLW.out.k)
      have HByc := Lib.hid (bytes_byt gs cs mm HLW.out.n)
      refine (bytesB_calls ⟨A0, c0, gs, A1, c1, cs, mm⟩ HLW.out.few true (bytesL gs cs mm) hi (if_pos rfl) _ HS5.out.im).mono ?_
      rintro e V6 ⟨A3, c3, rfl, hC3, hc3, hb6⟩
      clear hi
      generalize bytesL gs cs mm = lc at *
      have hS6 := HS5.out.below hb6
      clear HS5 hb6 m0 m1 m2
      have HS6 := Lib.hid hS6
      have HC3 := Lib.hid hC3
      have HCc3 := Lib.hid hc3
      clear hS6 hC3 hc3
      obtain ⟨nc, hnc⟩ : ∃ nc, nc = lc.length := ⟨_, rfl⟩
      go_wp2_with fail
      refine (parseC_calls A3 c3 lc gs cs mm HPar.out HByc.out.1 HByc.out.2 _ HC3.out HCc3.out).mono ?_
      rintro e V7 ⟨D0, e0, D1, e1, rfl, hx7, hb7⟩
      have hba := below_alloc (Below.refl V7.heap.size V7) (.cells #[.slice D0 gs.length e0, .slice D1 cs.length e1, .int .i64 mm] 25)
      have HC7 := Lib.hid (Kd.C_below (Kd.C_below HC3.out hb7) hba)
      have HS7 := Lib.hid ((HS6.out.below hb7).below hba)
      have HX7 := Lib.hid (hx7.below rfl hba)
      have HB7 := Lib.hid (Blk.new V7 #[.slice D0 gs.length e0, .slice D1 cs.length e1, .int .i64 mm] 25)
      have HFn : Hid ((⟨D0, e0, gs, D1, e1, cs, mm⟩ : Im).Few) := Lib.hid (few_num _ HLW.out.few.n)
      clear HS6 HC3 hb7 hx7 hba
      obtain ⟨⟨m0, m1, m2⟩, -⟩ := HS7.out.bm.cells3
      obtain ⟨⟨n0, n1, n2⟩, -⟩ := HB7.out.cells3
      go_wp2_with fail
      refine (same_ab ⟨D0, e0, gs, D1, e1, cs, mm⟩ ⟨A0, c0, gs, A1, c1, cs, mm⟩ true (by simp) HFn.out HLW.out.few _ HX7.out HS7.out.im).mono ?_
      rintro e V8 ⟨rfl, hb8⟩
      have hB8 := HB7.out.below hb8
      have HB8 := Lib.hid hB8
      have HS8 := Lib.hid (HS7.out.below hb8)
      have HX8 := Lib.hid (HX7.out.below rfl hb8)
      have HC8 := Lib.hid (Kd.C_below HC7.out hb8)
      clear HB7 HS7 HX7 HC7 hb8 m0 m1 m2 n0 n1 n2
      obtain ⟨⟨n0, n1, n2⟩, -⟩ := hB8.cells3
      clear hB8
      go_wp2_with fail
      refine (rightB_calls ⟨D0, e0, gs, D1, e1, cs, mm⟩ HFn.out true HI.out _ HX8.out).mono ?_
      rintro e V9 ⟨rfl, hb9⟩
      have HBel := Lib.hid (below_step HS8.out.bel hb9)
      have HC9 := Lib.hid (Kd.C_below HC8.out hb9)
      clear HB8 HS8 HX8 HC8 hb9 n0 n1 n2
      by_cases h0 : cut < 0
      · have k0 := decide_eq_true h0
        clear h0
        go_wp2
        go_ret
        exact ⟨rfl, HBel.out⟩
      · have k0 := decide_eq_false h0
        obtain ⟨i, rfl⟩ := Int.eq_ofNat_of_zero_le (show 0 ≤ cut by omega)
        clear h0
        by_cases h1 : i < lc.length
        · have k1 : decide ((i : Int) ≥ (lc.length : Int)) = false := decide_eq_false (by omega)
          have k2 : decide ((lc.length : Int) ≤ (i : Int)) = false := decide_eq_false (by omega)
          have k3 : decide (lc.length ≤ i) = false := decide_eq_false (by omega)
          obtain ⟨i5, hi5, _, _, _⟩ := info_parts info5
          have hcut := cut_to (P := Try.prog) 28 5 .i64 Try.underlying28 hi5 A3 lc.length c3 (i : Int) (by omega) (by omega) HCc3.out
          rw [Int.toNat_natCast] at hcut
          have HH := Lib.hid h1
          clear h1
          go_wp2_with fail
          refine (parseE_calls A3 c3 i (lc.take i) (by rw [List.length_take]; have := HH.out; omega) (HCut.out i HH.out) ⟨by rw [List.length_take]; have := HByc.out.1.len; omega, fun x hx => HByc.out.1.byte x (List.mem_of_mem_take hx)⟩ (by rw [List.length_take]; have := HByc.out.2; omega) _ (Kd.C_take (m := i) HC9.out (by have := HH.out; omega)) (by rw [List.length_take]; have := HCc3.out; omega)).mono ?_
          rintro e V10 ⟨E0, f0, E1, f1, rfl, hb10⟩
          have HB10 := Lib.hid (below_alloc (below_step HBel.out hb10) (.cells #[.slice E0 0 f0, .slice E1 0 f1, .int .i64 0] 25))
          clear hb10
          go_wp2
          go_ret
          exact ⟨rfl, HB10.out⟩
        · have k1 : decide ((i : Int) ≥ (lc.length : Int)) = true := decide_eq_true (by omega)
          have k2 : decide ((lc.length : Int) ≤ (i : Int)) = true := decide_eq_true (by omega)
          have k3 : decide (lc.length ≤ i) = true := decide_eq_true (by omega)
          clear h1
          go_wp2
          go_ret
          exact ⟨rfl, HBel.out⟩
  case neg =>
    have HLW := Lib.hid HLw
    clear HLw HPx
    have x1 : decide (ex = 0) = false := decide_eq_false hex
    have x2 : (ex == 0) = false := by simpa using hex
    clear hex
    obtain ⟨⟨m0, m1, m2⟩, -⟩ := HS3.out.bm.cells3
    go_wp2_with fail
    refine (bytesB_calls ⟨B0, d0, gx, B1, d1, cx, mx⟩ HFx.out _ _ rfl rfl _ HX3.out).mono ?_
    rintro e V4 ⟨A2, c2, rfl, hC2, hc2, hb4⟩
    generalize imgB gx cx mx = s at *
    generalize (if s = true then bytesL gx cx mx else []) = lx at *
    have hS4 := HS3.out.below hb4
    clear HS3 hb4 hC2 hc2 m0 m1 m2
    obtain ⟨⟨m0, m1, m2⟩, -⟩ := hS4.bm.cells3
    have HS4 := Lib.hid hS4
    clear hS4
    go_wp2_with fail
    refine at_world (fun V => BkS w V X3 ⟨A0, c0, gs, A1, c1, cs, mm⟩ A lb) HS4.out ?_
    clear HS4 m0 m1 m2 HX3 HFx
    rintro V5' hS5
    have HS5 := Lib.hid hS5
    clear hS5
    obtain ⟨⟨m0, m1, m2⟩, -⟩ := HS5.out.bm.cells3
    cases hi : imgB gs cs mm with
    | false =>
      have HI := Lib.hid hi
      clear hi
      refine (bytesN_calls ⟨A0, c0, gs, A1, c1, cs, mm⟩ HLW.out.few HI.out _ HS5.out.im).mono ?_
      rintro e V6 ⟨A3, c3, rfl, hb6⟩
      have hS6 := HS5.out.below hb6
      clear HS5 hb6 m0 m1 m2
      obtain ⟨⟨m0, m1, m2⟩, -⟩ := hS6.bm.cells3
      have HS6 := Lib.hid hS6
      clear hS6
      go_wp2_with fail
      refine (rightB_calls ⟨A0, c0, gs, A1, c1, cs, mm⟩ HLW.out.few false HI.out _ HS6.out.im).mono ?_
      rintro e V7 ⟨rfl, hb7⟩
      have HB7 := Lib.hid (below_step HS6.out.bel hb7)
      clear HS6 hb7 m0 m1 m2
      go_wp2
      go_ret
      exact ⟨rfl, HB7.out⟩
    | true =>
      have HI := Lib.hid hi
      have HPar := Lib.hid (parse_bytes gs cs mm HLW.out.k hi)
      have HCut := Lib.hid (parse_cut gs cs mm HLW.out.k)
      have HByc := Lib.hid (bytes_byt gs cs mm HLW.out.n)
      refine (bytesB_calls ⟨A0, c0, gs, A1, c1, cs, mm⟩ HLW.out.few true (bytesL gs cs mm) hi (if_pos rfl) _ HS5.out.im).mono ?_
      rintro e V6 ⟨A3, c3, rfl, hC3, hc3, hb6⟩
      clear hi
      generalize bytesL gs cs mm = lc at *
      have hS6 := HS5.out.below hb6
      clear HS5 hb6 m0 m1 m2
      have HS6 := Lib.hid hS6
      have HC3 := Lib.hid hC3
      have HCc3 := Lib.hid hc3
      clear hS6 hC3 hc3
      obtain ⟨nc, hnc⟩ : ∃ nc, nc = lc.length := ⟨_, rfl⟩
      go_wp2_with fail
      refine (parseC_calls A3 c3 lc gs cs mm HPar.out HByc.out.1 HByc.out.2 _ HC3.out HCc3.out).mono ?_
      rintro e V7 ⟨D0, e0, D1, e1, rfl, hx7, hb7⟩
      have hba := below_alloc (Below.refl V7.heap.size V7) (.cells #[.slice D0 gs.length e0, .slice D1 cs.length e1, .int .i64 mm] 25)
      have HC7 := Lib.hid (Kd.C_below (Kd.C_below HC3.out hb7) hba)
      have HS7 := Lib.hid ((HS6.out.below hb7).below hba)
      have HX7 := Lib.hid (hx7.below rfl hba)
      have HB7 := Lib.hid (Blk.new V7 #[.slice D0 gs.length e0, .slice D1 cs.length e1, .int .i64 mm] 25)
      have HFn : Hid ((⟨D0, e0, gs, D1, e1, cs, mm⟩ : Im).Few) := Lib.hid (few_num _ HLW.out.few.n)
      clear HS6 HC3 hb7 hx7 hba
      obtain ⟨⟨m0, m1, m2⟩, -⟩ := HS7.out.bm.cells3
      obtain ⟨⟨n0, n1, n2⟩, -⟩ := HB7.out.cells3
      go_wp2_with fail
      refine (same_ab ⟨D0, e0, gs, D1, e1, cs, mm⟩ ⟨A0, c0, gs, A1, c1, cs, mm⟩ true (by simp) HFn.out HLW.out.few _ HX7.out HS7.out.im).mono ?_
      rintro e V8 ⟨rfl, hb8⟩
      have hB8 := HB7.out.below hb8
      have HB8 := Lib.hid hB8
      have HS8 := Lib.hid (HS7.out.below hb8)
      have HX8 := Lib.hid (HX7.out.below rfl hb8)
      have HC8 := Lib.hid (Kd.C_below HC7.out hb8)
      clear HB7 HS7 HX7 HC7 hb8 m0 m1 m2 n0 n1 n2
      obtain ⟨⟨n0, n1, n2⟩, -⟩ := hB8.cells3
      clear hB8
      go_wp2_with fail
      refine (rightB_calls ⟨D0, e0, gs, D1, e1, cs, mm⟩ HFn.out true HI.out _ HX8.out).mono ?_
      rintro e V9 ⟨rfl, hb9⟩
      have HBel := Lib.hid (below_step HS8.out.bel hb9)
      have HC9 := Lib.hid (Kd.C_below HC8.out hb9)
      clear HB8 HS8 HX8 HC8 hb9 n0 n1 n2
      by_cases h0 : cut < 0
      · have k0 := decide_eq_true h0
        clear h0
        go_wp2
        go_ret
        exact ⟨rfl, HBel.out⟩
      · have k0 := decide_eq_false h0
        obtain ⟨i, rfl⟩ := Int.eq_ofNat_of_zero_le (show 0 ≤ cut by omega)
        clear h0
        by_cases h1 : i < lc.length
        · have k1 : decide ((i : Int) ≥ (lc.length : Int)) = false := decide_eq_false (by omega)
          have k2 : decide ((lc.length : Int) ≤ (i : Int)) = false := decide_eq_false (by omega)
          have k3 : decide (lc.length ≤ i) = false := decide_eq_false (by omega)
          obtain ⟨i5, hi5, _, _, _⟩ := info_parts info5
          have hcut := cut_to (P := Try.prog) 28 5 .i64 Try.underlying28 hi5 A3 lc.length c3 (i : Int) (by omega) (by omega) HCc3.out
          rw [Int.toNat_natCast] at hcut
          have HH := Lib.hid h1
          clear h1
          go_wp2_with fail
          refine (parseE_calls A3 c3 i (lc.take i) (by rw [List.length_take]; have := HH.out; omega) (HCut.out i HH.out) ⟨by rw [List.length_take]; have := HByc.out.1.len; omega, fun x hx => HByc.out.1.byte x (List.mem_of_mem_take hx)⟩ (by rw [List.length_take]; have := HByc.out.2; omega) _ (Kd.C_take (m := i) HC9.out (by have := HH.out; omega)) (by rw [List.length_take]; have := HCc3.out; omega)).mono ?_
          rintro e V10 ⟨E0, f0, E1, f1, rfl, hb10⟩
          have HB10 := Lib.hid (below_alloc (below_step HBel.out hb10) (.cells #[.slice E0 0 f0, .slice E1 0 f1, .int .i64 0] 25))
          clear hb10
          go_wp2
          go_ret
          exact ⟨rfl, HB10.out⟩
        · have k1 : decide ((i : Int) ≥ (lc.length : Int)) = true := decide_eq_true (by omega)
          have k2 : decide ((lc.length : Int) ≤ (i : Int)) = true := decide_eq_true (by omega)
          have k3 : decide (lc.length ≤ i) = true := decide_eq_true (by omega)
          clear h1
          go_wp2
          go_ret
          exact ⟨rfl, HBel.out⟩
end
end Go.Proofs.Ytoiakaagbgfocaa.PC
