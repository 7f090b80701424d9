/- Package code: numbers as an iterator; digits behind a row. -/
import Derived.Test.YtoiakaagbgfocaaCoNum2
import Derived.Test.YtoiakaagbgfocaaPCx2
import Derived.RangeFuncBox
import Derived.Lib.Zigzag
import Derived.ArgAppend
namespace Go.Proofs.Ytoiakaagbgfocaa.PC
open Go.RowKit Go.Proofs.YtoiakaagbgfocaaW.PrintWords Go.Proofs.YtoiakaagbgfocaaW.PrintLast Go.Proofs.YtoiakaagbgfocaaW.PrintMore
open Go.Proofs.Ytoiakaagbgfocaa.RG
set_option linter.unusedVariables false
set_option linter.unusedSimpArgs false

theorem numbers_calls (m : Im) (w : World) : Calls Try.prog 19 #[m.val] w fun e w' => e = .returned (.func (.func 31) #[] #[.pointer (some ⟨w.heap.size, 0, none⟩)]) ∧ w' = w.alloc (.cells m.cells 25) := by
  obtain ⟨A0, c0, gs, A1, c1, cs, mm⟩ := m
  go_enter Try.func19, Try.ntmps19
  go_wp2
  go_ret
  exact ⟨rfl, rfl⟩
/-- an image small enough to be reckoned with -/
structure Im.Sm (m : Im) : Prop where mk ::
  (g : m.g.length ≤ 1000000) (c : m.cs.length ≤ 1000000) (gp : ∀ g ∈ m.g, g.f3.length ≤ 1000000) (ci : ∀ c ∈ m.cs, c.f3.length ≤ 1000000 ∧ c.f4.length ≤ 1000000)
theorem num_stops (n M : Nat) (m : Im) (w0 W : World) (hkp : Kp tsB w0.heap.size w0 W) (hIn : m.In w0) (hs : m.Sm) (hM : Blk W M m.cells 25) :
    SeqT Fence.wide n Try.prog 31 #[.pointer (some ⟨M, 0, none⟩)] (fun x : Int => #[.int .i64 x]) (Kp tsB w0.heap.size) (fun _ => False) (fun _ _ => True) (fun ys => ys = imgN m.g m.cs m.m) (fun _ => True) (fun pre x => (imgN m.g m.cs m.m)[pre.length]? = some x) W := by
  intro l J Jx W' hk hsz hJ hJx _ hY h0
  refine (numbers1_in n l M m J Jx w0 W' (hkp.trans hk) hIn hs.g hs.c hs.gp hs.ci (fun s A o h => hJ s A _ none h (World.grownBy_alloc A o none) (fun r e => by cases e)) ?_ (hM.kp hk rfl) h0).mono ?_
  · intro pre x V _ hj hx
    exact yield_any (hY pre x V hj hx)
  · rintro e V ⟨he, h | ⟨pre, hj⟩⟩
    · exact ⟨he, .inl h⟩
    · exact ⟨he, .inr ⟨pre, trivial, hj⟩⟩
/-- a row of bytes of the call's own -/
abbrev RB (W : World) (base : Nat) (v : Value) (l : List Int) : Prop := Kd.R (Kd.int .u8) 5 W base (fun _ => True) v l
theorem row_type {α : Type} {d : Kd α} {e : Nat} {W : World} {base : Nat} {ok : Nat → Prop} {v : Value} {l : List α} (h : d.R e W base ok v l) {g : Nat} (hg : v.ownBlock = some g) : base ≤ g ∧ ∃ cs, Blk W g cs e := by
  obtain ⟨_, inner, ho, _⟩ := h
  rcases ho.2 with ⟨rfl, _⟩ | ⟨g', cap, cur, rfl, hb, hgg, _⟩
  · cases hg
  · cases hg
    exact ⟨hb, _, ⟨hgg⟩⟩
theorem row_slice {α : Type} {d : Kd α} {e : Nat} {W : World} {base : Nat} {ok : Nat → Prop} {v : Value} {l : List α} (h : d.R e W base ok v l) : ∃ A c, v = .slice A l.length c := by
  obtain ⟨_, inner, ho, _⟩ := h
  rcases ho.2 with ⟨rfl, h0⟩ | ⟨g', cap, cur, rfl, hb, hgg, _⟩
  · exact ⟨_, _, by rw [h0]⟩
  · exact ⟨_, _, rfl⟩
/-- a number's bytes, of its bits -/
def digU : Nat → Int → List Int
  | 0, u => [u % 256]
  | k + 1, u => if u ≥ 128 then Go.bits .or .u8 (u % 256) 128 :: digU k (u / 128) else [u % 256]
def zig (n : Int) : Int := Go.bits .xor .u64 (IntKind.u64.wrap (IntKind.u64.wrap n * 2)) (IntKind.u64.wrap (n / 9223372036854775808))
/-- a number's bytes -/
def digL (n : Int) : List Int := digU 9 (zig n)
theorem digU_len : ∀ (k : Nat) (u : Int), (digU k u).length ≤ k + 1
  | 0, u => by simp [digU]
  | k + 1, u => by
    unfold digU
    split
    · have := digU_len k (u / 128)
      simp
      omega
    · simp
theorem digits_l0 : ∀ (k : Nat) (l : List Int) (u : Int), 0 ≤ u → u < 128 * 128 ^ k → l.length + k < 140737488355328 → code_digits.l0 (k + 1) l u = some (l ++ digU k u)
  | 0, l, u, h0, h1, hl => by
    unfold code_digits.l0
    rw [if_neg (by simp at h1; omega), if_pos (by omega)]
    rfl
  | k + 1, l, u, h0, h1, hl => by
    unfold code_digits.l0 digU
    by_cases hu : u ≥ 128
    · rw [if_pos hu, if_pos hu, if_pos (by omega), digits_l0 k (l ++ [Go.bits .or .u8 (u % 256) 128]) (u / 128) (by omega) (by
        have h2 : (128 : Int) * 128 ^ (k + 1) = 128 * (128 * 128 ^ k) := by rw [Int.pow_succ]; omega
        rw [h2] at h1
        omega) (by simp; omega)]
      simp
    · rw [if_neg hu, if_neg hu, if_pos (by omega)]
theorem zig_range (n : Int) : 0 ≤ zig n ∧ zig n < 18446744073709551616 := by
  unfold zig Go.bits
  simp only [IntKind.wrap_u64]
  omega
theorem digits_f (l : List Int) (n : Int) (hl : l.length ≤ 100000000) : code_digits.f 10 l n = some (l ++ digL n) := by
  have h := zig_range n
  exact digits_l0 9 l (zig n) h.1 (by have : (128 : Int) * 128 ^ 9 = 1180591620717411303424 := by decide
                                      omega) (by omega)
/-- a row of bytes that is full, wherever its mark is -/
def FullB (W : World) (base : Nat) (v : Value) (l : List Int) : Prop := ∃ g fz, v = .slice (some ⟨g, 0, none⟩) l.length l.length ∧ base ≤ g ∧ W.heap[g]? = some (.cells (l.map (Value.int .u8)).toArray 5 fz)
/-- a row of bytes to append to -/
def RX (W : World) (base : Nat) (v : Value) (l : List Int) : Prop := RB W base v l ∨ FullB W base v l
theorem RX.type {W : World} {base : Nat} {v : Value} {l : List Int} (h : RX W base v l) {g : Nat} (hg : v.ownBlock = some g) : base ≤ g ∧ ∃ cs fz, W.heap[g]? = some (.cells cs 5 fz) := by
  rcases h with h | ⟨g', fz, rfl, hb, hh⟩
  · obtain ⟨h1, cs, h2⟩ := row_type h hg
    exact ⟨h1, cs, _, h2.out⟩
  · cases hg
    exact ⟨hb, _, _, hh⟩
theorem RX.slice {W : World} {base : Nat} {v : Value} {l : List Int} (h : RX W base v l) : ∃ A c, v = .slice A l.length c := by
  rcases h with h | ⟨g', fz, rfl, hb, hh⟩
  · exact row_slice h
  · exact ⟨_, _, rfl⟩
theorem RB.grown {W C : World} {base : Nat} {v : Value} {l : List Int} {row : Option Nat} (h : RB W base v l) (hg : W.grownBy C row) (hne : ∀ g, v.ownBlock = some g → row ≠ some g) : RB C base v l := by
  refine Kd.R_of_own ((Kd.own_of_R h).kept hg ?_) (fun _ _ => trivial)
  cases hv : v.ownBlock with
  | none => exact .inl rfl
  | some g => exact .inr (fun e => hne g hv e.symm)
theorem RX.grown {W C : World} {base : Nat} {v : Value} {l : List Int} {row : Option Nat} (h : RX W base v l) (hg : W.grownBy C row) (hne : ∀ g, v.ownBlock = some g → row ≠ some g) : RX C base v l := by
  rcases h with h | ⟨g', fz, rfl, hb, hh⟩
  · left
    refine Kd.R_of_own ((Kd.own_of_R h).kept hg ?_) (fun _ _ => trivial)
    cases hv : v.ownBlock with
    | none => exact .inl rfl
    | some g => exact .inr (fun e => hne g hv e.symm)
  · exact .inr ⟨g', fz, rfl, hb, (hg.block g' (Array.getElem?_eq_some_iff.1 hh).1 (fun e => hne g' rfl e.symm)).trans hh⟩
theorem grown_go {A B C : World} {row row' : Option Nat} (h : A.grownBy B row) (k : B.grownBy C row') (hr : ∀ q, row' = some q → row = some q ∨ A.heap.size ≤ q) : A.grownBy C row :=
  ⟨k.os.trans h.os, k.tape.trans h.tape, k.output.trans h.output, Nat.le_trans h.size k.size, fun i hi hne => (k.block i (Nat.lt_of_lt_of_le hi h.size) (fun e => by
    rcases hr i e.symm with h1 | h1
    · exact hne h1.symm
    · omega)).trans (h.block i hi hne)⟩
theorem rx_append {ops : Array Oper} {rest : List Oper} {o : Oper} {a : Act} {Q : Exit → Act → World → Prop} {W : World} {base : Nat} (hgd : o.guard = none) (s x : Operand) (ho : o.op = .call { callee := .builtin .append, args := #[s, x], argTypes := #[28, 28] })
    (v : Value) (l : List Int) (b : Int) (hs : a.eval s = v) (hx : a.eval x = .slice (some ⟨W.heap.size, 0, none⟩) 1 1) (HR : RX W base v l) (hbase : base ≤ W.heap.size) (hl : l.length ≤ 1000000000)
    (h : ∀ v1 w1, RB w1 base v1 (l ++ [b]) → W.grownBy w1 v.ownBlock → (v1.ownBlock = v.ownBlock ∨ ∃ b, v1.ownBlock = some b ∧ W.heap.size ≤ b) → wpList Try.prog ops Q rest (a.put o.dst v1) w1) :
    wpList Try.prog ops Q (o :: rest) a (W.alloc (.cells #[.int .u8 b] 5)) := by
  rcases HR with h1 | ⟨g, fz, hv, hb, hh⟩
  · refine Kd.R_append (Kd.int .u8) (w0 := W) base hgd s x 28 5 (.int .u8 0) 1 ho Try.underlying28 info5 rfl (by decide) (by omega) v l b [.int .u8 b] (fun _ => True) (fun _ => False) hs hx rfl (fun _ hk => hk.elim) (fun _ _ => trivial) h1 (Below.refl base W) hbase (by omega) ?_
    intro v1 w1 hR hB hg hO
    exact h v1 w1 hR hg hO
  · obtain ⟨i0, hi, hz0, hz1, hz2⟩ := info_parts info5
    subst hv
    have hlt := (Array.getElem?_eq_some_iff.1 hh).1
    have hc : ∀ (j : Nat) (u : Value), (l.map (Value.int .u8))[j]? = some u → (W.alloc (.cells #[.int .u8 b] 5)).cell? ⟨g, 0 + j, none⟩ = some u := by
      intro j u hu
      have h1 : W.cell? ⟨g, j, none⟩ = some u := by
        unfold World.cell?
        rw [hh]
        simpa using hu
      rw [Nat.zero_add]
      exact cell_al h1 _
    refine wpList_append_grows (W.alloc (.cells #[.int .u8 b] 5)) hgd s x 28 ho 5 i0 (.int .u8 0) 1 1 Try.underlying28 hi hz0 hz1 hz2 rfl (by decide) (some ⟨g, 0, none⟩) l.length l.length (l.map (Value.int .u8)) hs (fun e => by cases e) (by simp) (fun b' e j u hu => by
      cases e
      have h3 := hc j u hu
      rw [Addr.add_lit]
      exact h3) ⟨W.heap.size, 0, none⟩ 1 1 [.int .u8 b] hx (by simp) (fun j u hu => ?_) (fun u hu => ?_) (by omega) (by unfold maxLen; omega) (by omega) ?_
    · match j, hu with
      | 0, hu => exact ((Blk.new W #[.int .u8 b] 5).cell 0).trans hu
      | j + 1, hu => simp at hu
    · simp at hu
      subst hu
      rfl
    · intro v1 w1 hown hg
      have hg2 : W.grownBy w1 (some g) := grown_go (row := some g) (World.grownBy_alloc W _ _) hg (fun k e => by cases e)
      refine h v1 w1 ?_ hg2 (.inr ?_)
      rotate_left
      · rcases hown.2 with ⟨_, h0⟩ | ⟨g1, cap, cur, hv, hb1, r⟩
        · exact absurd h0 (by omega)
        · refine ⟨g1, by rw [hv]; rfl, ?_⟩
          simp at hb1
          omega
      have ho2 : w1.ownsRow base 5 1 v1 (l ++ [b]).length (encs (Value.int .u8) (l ++ [b])) := by
        have h4 : encs (Value.int .u8) (l ++ [b]) = l.map (Value.int .u8) ++ [.int .u8 b] := by simp [encs]
        rw [h4, List.length_append, List.length_singleton]
        rcases hown.2 with ⟨_, h0⟩ | ⟨g1, cap, cur, hv, hb1, r⟩
        · exact absurd h0 (by omega)
        · exact ⟨hown.1, .inr ⟨g1, cap, cur, hv, by simp at hb1; omega, r⟩⟩
      exact Kd.R_of_own ho2 (fun _ _ => trivial)
theorem own_go {W A C : World} {r r' : Option Nat} (h : W.grownBy A r) (k : A.grownBy C r') (ho : r' = r ∨ ∃ b, r' = some b ∧ W.heap.size ≤ b) : W.grownBy C r := grown_go h k (fun q e => by
  rcases ho with ho | ⟨b, ho, hb⟩
  · exact .inl (ho ▸ e)
  · rw [ho] at e
    cases e
    exact .inr hb)
theorem own_on {W A : World} {r r' r'' : Option Nat} (hs : W.heap.size ≤ A.heap.size) (ho : r' = r ∨ ∃ b, r' = some b ∧ W.heap.size ≤ b) (ho' : r'' = r' ∨ ∃ b, r'' = some b ∧ A.heap.size ≤ b) : r'' = r ∨ ∃ b, r'' = some b ∧ W.heap.size ≤ b := by
  rcases ho' with rfl | ⟨b, rfl, hb⟩
  · exact ho
  · exact .inr ⟨b, rfl, Nat.le_trans hs hb⟩
set_option maxHeartbeats 8000000 in
set_option maxRecDepth 100000 in
/-- digits: its contract -/
theorem digits_calls (l : List Int) (n : Int) (v : Value) (base : Nat) (W : World) (hbase : base ≤ W.heap.size) (hR : RX W base v l) (hl : l.length ≤ 100000000) :
    Calls Try.prog 20 #[v, .int .i64 n] W fun e W' => ∃ v', e = .returned v' ∧ RB W' base v' (l ++ digL n) ∧ W.grownBy W' v.ownBlock := by
  have HZ := Lib.hid (zig_range n)
  have HL := Lib.hid hl
  have HR := Lib.hid hR
  have HBs := Lib.hid hbase
  obtain ⟨r, hr⟩ : ∃ r, r = l ++ digL n := ⟨_, rfl⟩
  rw [← hr]
  have HRr : Hid (l ++ digU 9 (zig n) = r) := Lib.hid hr.symm
  have hz : zig n = Go.bits .xor .u64 (IntKind.u64.wrap (IntKind.u64.wrap n * 2)) (IntKind.u64.wrap (n / 9223372036854775808)) := rfl
  clear hl hR hbase hr
  go_enter Try.func20, Try.ntmps20
  go_wp2
  rw [← hz]
  generalize zig n = z at HZ HRr ⊢
  clear hz
  go_loopg [0, 5] 10 (fun kq v0 v5 w' => ∃ (k : Nat) (x : List Int) (u : Int), v5 = .int .u64 u ∧ Aside0 (kq = k + 1) ∧ Aside0 (x.length ≤ 100000009 - k) ∧ Aside0 (0 ≤ u ∧ u < 128 * 128 ^ k) ∧ Aside0 (x ++ digU k u = r) ∧ Aside0 (RX w' base v0 x) ∧ Aside0 (W.grownBy w' v.ownBlock) ∧ Aside0 (v0.ownBlock = v.ownBlock ∨ ∃ b, v0.ownBlock = some b ∧ W.heap.size ≤ b) ∧ Aside0 (k ≤ 9))
  case atStart => exact ⟨9, l, z, rfl, ⟨rfl⟩, ⟨by have := HL.out; omega⟩, ⟨HZ.out.1, by have := HZ.out.2; omega⟩, ⟨HRr.out⟩, ⟨HR.out⟩, ⟨⟨rfl, rfl, rfl, Nat.le_refl _, fun _ _ _ => rfl⟩⟩, ⟨.inl rfl⟩, ⟨Nat.le_refl _⟩⟩
  case round =>
    clear HR HZ HRr
    obtain ⟨k, x, u, rfl, HK, HX, HU, HD, HR, HG, HO, HK9⟩ := hrel
    have HW : Aside0 (base ≤ wr.heap.size) := ⟨Nat.le_trans HBs.out HG.out.size⟩
    have w8 : IntKind.u8.wrap u = u % 256 := by rw [IntKind.wrap_u8]
    cases gk with
    | zero => exact absurd HK.out (by omega)
    | succ kk =>
      by_cases hu : u ≥ 128
      · have c1 : decide (128 ≤ u) = true := decide_eq_true hu
        have c2 : decide (u ≥ 128) = true := c1
        have hk : ∃ j, k = j + 1 := by
          cases k with
          | zero => have := HU.out.2; simp at this; omega
          | succ j => exact ⟨j, rfl⟩
        obtain ⟨j, rfl⟩ := hk
        have HD2 : Aside0 ((x ++ [Go.bits .or .u8 (u % 256) 128]) ++ digU j (u / 128) = r) := ⟨by
          have h1 := HD.out
          unfold digU at h1
          rw [if_pos hu] at h1
          simpa using h1⟩
        have HU2 : Aside0 (0 ≤ u / 128 ∧ u / 128 < 128 * 128 ^ j) := ⟨by
          have h1 := HU.out
          have h2 : (128 : Int) * 128 ^ (j + 1) = 128 * (128 * 128 ^ j) := by rw [Int.pow_succ]; omega
          rw [h2] at h1
          omega⟩
        clear hu HD HU
        go_wp2_with ((with_reducible refine gate_builtin (b := .append) (xs := #[.tmp 17, .tmp 21]) rfl ?_); at_builtin; refine rx_append (base := base) rfl (.tmp 17) (.tmp 21) rfl u0 x (Go.bits .or .u8 (u % 256) 128) rfl rfl HR.out HW.out (by have := HX.out; omega) ?_; intro v1 w1 hR1 hG1 hO1)
        have HR2 : Aside0 (RX w1 base v1 (x ++ [Go.bits .or .u8 (u % 256) 128])) := ⟨.inl hR1⟩
        have HG2 := Aside0.mk (own_go HG.out hG1 HO.out)
        have HO2 := Aside0.mk (own_on HG.out.size HO.out hO1)
        clear hR1 hG1 hO1
        go_wp2
        go_roundg kk
        case measure => omega
        case rel => exact ⟨j, _, u / 128, by simp, ⟨by have := HK.out; omega⟩, ⟨by have := HX.out; have := HK9.out; simp; omega⟩, HU2, HD2, HR2, HG2, HO2, ⟨by have := HK9.out; omega⟩⟩
      · have c1 : decide (128 ≤ u) = false := decide_eq_false hu
        have c2 : decide (u ≥ 128) = false := c1
        have HD2 : Aside0 (x ++ [u % 256] = r) := ⟨by
          have h1 := HD.out
          cases k with
          | zero => exact h1
          | succ j =>
            unfold digU at h1
            rw [if_neg hu] at h1
            exact h1⟩
        clear hu HD
        go_wp2_with ((with_reducible refine gate_builtin (b := .append) (xs := #[.tmp 23, .tmp 26]) rfl ?_); at_builtin; refine rx_append (base := base) rfl (.tmp 23) (.tmp 26) rfl u0 x (u % 256) rfl rfl HR.out HW.out (by have := HX.out; omega) ?_; intro v1 w1 hR1 hG1 hO1)
        have HR2 := Aside0.mk hR1
        have HG2 := Aside0.mk (own_go HG.out hG1 HO.out)
        have HO2 := Aside0.mk (own_on HG.out.size HO.out hO1)
        clear hR1 hG1 hO1
        go_wp2
        go_ret
        exact ⟨_, rfl, HD2.out ▸ HR2.out, HG2.out⟩
theorem RX.kp {W C : World} {base : Nat} {v : Value} {l : List Int} (h : RX W base v l) (hbase : base ≤ W.heap.size) (hg : W.grownBy C v.ownBlock) : Kp tsB base W C :=
  Kp.grown (Kp.refl _ _ _) hbase hg (fun r e => ⟨(h.type e).1, fun cs t x hx => by
    obtain ⟨_, cs', fz, hh⟩ := h.type e
    rw [hh] at hx
    cases hx
    rfl⟩)
theorem RX.others {W C : World} {base : Nat} {v : Value} {l : List Int} (h : RX W base v l) (hg : W.grownBy C v.ownBlock) : KeepsOthers W C :=
  KeepsOthers.of_grownBy hg (fun j o e hj => by
    obtain ⟨_, cs', fz, hh⟩ := h.type e
    rw [hh] at hj
    cases hj
    rfl)
/-- a box of another type is not the row -/
theorem RX.apart {W : World} {base : Nat} {v : Value} {l : List Int} (h : RX W base v l) {g t : Nat} {cs : Array Value} (hb : Blk W g cs t) (ht : t ≠ 5) : v.ownBlock ≠ some g := fun e => by
  obtain ⟨_, cs', fz, hh⟩ := h.type e
  rw [hb.out] at hh
  cases hh
  exact ht rfl
end Go.Proofs.Ytoiakaagbgfocaa.PC
