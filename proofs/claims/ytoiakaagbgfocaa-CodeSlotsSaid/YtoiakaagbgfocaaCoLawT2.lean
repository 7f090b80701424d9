/- A row of codes, cell by cell; and a copy of it of the call's own, one code of which is changed. Rows of instructions, cell by cell; append to a row of the call's own, as a step of a drawn region; the copy read as a row of codes. Package law of layer 22: CodeSlots, walked. -/
import Derived.Test.YtoiakaagbgfocaaCoBase
import Derived.Deep.RegionHeld
import Derived.Test.YtoiakaagbgfocaaCoMore
import Derived.Deep.RegionLawGrows
import Derived.Deep.RegionHeldLaw
import Derived.Deep.RegionHeld3
import Derived.Deep.CutRange
import Derived.StillTailTactics
import Derived.RegionTactic
import Derived.BigRegion
namespace Go.Proofs.Ytoiakaagbgfocaa.PC
section
open Go.RowKit Go.Proofs.YtoiakaagbgfocaaW.PrintWords Go.Proofs.YtoiakaagbgfocaaW.PrintLast Go.Proofs.YtoiakaagbgfocaaW.PrintMore
set_option linter.unusedVariables false
set_option linter.unusedSimpArgs false

theorem flat5 (f : Nat → List Value) : ∀ n, (∀ i, i < n → (f i).length = 5) → ((List.range n).flatMap f).length = n * 5 ∧ ∀ i, i < n → ∀ j, j < 5 → ((List.range n).flatMap f)[i * 5 + j]? = (f i)[j]?
  | 0, _ => ⟨rfl, fun i h => absurd h (by omega)⟩
  | n + 1, h => by
    obtain ⟨h1, h2⟩ := flat5 f n (fun i hi => h i (by omega))
    have h3 := h n (by omega)
    rw [List.range_succ, List.flatMap_append, List.flatMap_cons, List.flatMap_nil, List.append_nil]
    refine ⟨by rw [List.length_append, h1, h3]; omega, fun i hi j hj => ?_⟩
    by_cases hin : i < n
    · rw [List.getElem?_append_left (by rw [h1]; omega)]
      exact h2 i hin j hj
    · obtain rfl : i = n := by omega
      rw [List.getElem?_append_right (by rw [h1]; omega), h1]
      congr 1
      omega
/-- a row's cells, code by code -/
structure Cells40 (W : World) (ad : Addr) (cs : List S40) (f : Nat → List Value) : Prop where mk ::
  (len : ∀ i, i < cs.length → (f i).length = 5) (k : ∀ i (h : i < cs.length), k40.K W cs[i] (f i)) (at_ : ∀ i, i < cs.length → ∀ j u, (f i)[j]? = some u → W.cell? (ad.add (i * 5 + j)) = some u)
theorem codes_cells {W : World} {A : Option Addr} {cs : List S40} (hC : Kd.C k40 W A cs.length cs) (hne : 0 < cs.length) : ∃ ad f, A = some ad ∧ Cells40 W ad cs f := by
  obtain ⟨_, _, h⟩ := hC
  obtain ⟨ad, rfl, h2⟩ := h hne
  have each : ∀ i, i < cs.length → ∃ c : List Value, c.length = 5 ∧ (∀ h : i < cs.length, k40.K W cs[i] c) ∧ ∀ j u, c[j]? = some u → W.cell? (ad.add (i * 5 + j)) = some u := by
    intro i hi
    obtain ⟨c, hc1, hc2, hc3⟩ := h2 i cs[i] (List.getElem?_eq_getElem hi)
    exact ⟨c, hc1, fun _ => hc2, hc3⟩
  obtain ⟨f, hf⟩ := Go.Deep.choose_lt each
  exact ⟨ad, f, rfl, fun i hi => (hf i hi).1, fun i hi => (hf i hi).2.1 hi, fun i hi => (hf i hi).2.2⟩
theorem Cells40.below {W V : World} {ad : Addr} {cs : List S40} {f : Nat → List Value} (h : Cells40 W ad cs f) (hb : Below W.heap.size W V) (hat : ∀ i, i < cs.length → ∀ j u, (f i)[j]? = some u → V.cell? (ad.add (i * 5 + j)) = some u) : Cells40 V ad cs f :=
  ⟨h.len, fun i hi => k40.K_below hb (h.k i hi), hat⟩
theorem Cells40.c {W : World} {ad : Addr} {cs : List S40} {f : Nat → List Value} (h : Cells40 W ad cs f) (hl : cs.length ≤ 1000000) : Kd.C k40 W (some ad) cs.length cs := by
  refine ⟨rfl, by omega, fun _ => ⟨ad, rfl, fun i x hx => ?_⟩⟩
  obtain ⟨hi, rfl⟩ := List.getElem?_eq_some_iff.1 hx
  exact ⟨f i, h.len i hi, h.k i hi, h.at_ i hi⟩
/-- one code's cells are changed -/
def updF (f : Nat → List Value) (n : Nat) (c : List Value) (i : Nat) : List Value := if i = n then c else f i
theorem cells_set {W V : World} {a0 ad : Addr} {cs : List S40} {f : Nat → List Value} (h : Cells40 W a0 cs f) (hb : Below W.heap.size W V) (n : Nat) (q : S40) (c : List Value) (hc : c.length = 5) (hq : k40.K V q c)
    (hat : ∀ i, i < cs.length → ∀ j u, (updF f n c i)[j]? = some u → V.cell? (ad.add (i * 5 + j)) = some u) : Cells40 V ad (cs.set n q) (updF f n c) := by
  refine ⟨fun i hi => ?_, fun i hi => ?_, fun i hi => hat i (by simpa using hi)⟩
  · unfold updF
    split
    · exact hc
    · exact h.len i (by simpa using hi)
  · have hi' : i < cs.length := by simpa using hi
    unfold updF
    by_cases e : i = n
    · subst e
      rw [if_pos rfl, List.getElem_set_self]
      exact hq
    · rw [if_neg e, List.getElem_set_ne (by omega)]
      exact k40.K_below hb (h.k i hi')
/-- the row's cells, one behind the other -/
theorem Cells40.news {W : World} {ad : Addr} {cs : List S40} {f : Nat → List Value} (h : Cells40 W ad cs f) :
    ((List.range cs.length).flatMap f).length = cs.length * 5 ∧ (∀ j u, ((List.range cs.length).flatMap f)[j]? = some u → W.cell? (ad.add j) = some u) ∧ ∀ u ∈ (List.range cs.length).flatMap f, u.oneCell' = true := by
  obtain ⟨h1, h2⟩ := flat5 f cs.length h.len
  refine ⟨h1, fun j u hu => ?_, fun u hu => ?_⟩
  · have hj : j < cs.length * 5 := by
      have := (List.getElem?_eq_some_iff.1 hu).1
      omega
    have h3 := h2 (j / 5) (by omega) (j % 5) (by omega)
    rw [show j / 5 * 5 + j % 5 = j by omega] at h3
    have h4 := h.at_ (j / 5) (by omega) (j % 5) u (h3.symm.trans hu)
    rwa [show j / 5 * 5 + j % 5 = j by omega] at h4
  · obtain ⟨i, hi, hu⟩ := List.mem_flatMap.1 hu
    have hi' := List.mem_range.1 hi
    obtain ⟨A3, c3, A4, c4, e, _⟩ := k40_open (h.k i hi')
    rw [e] at hu
    simp at hu
    rcases hu with rfl | rfl | rfl | rfl | rfl <;> rfl
/-- an array holds a row's cells, code by code -/
structure CurIs (cur : Array Value) (k : Nat) (F : Nat → List Value) : Prop where mk ::
  (len : ∀ i, i < k → (F i).length = 5) (big : k * 5 ≤ cur.size) (at_ : ∀ i, i < k → ∀ j u, (F i)[j]? = some u → cur[i * 5 + j]? = some u)
theorem CurIs.set {cur : Array Value} {k : Nat} {F : Nat → List Value} (h : CurIs cur k F) (n j : Nat) (hn : n < k) (hj : j < 5) (u : Value) : CurIs (cur.setIfInBounds (n * 5 + j) u) k (updF F n ((F n).set j u)) := by
  have hl := h.len n hn
  refine ⟨fun i hi => ?_, by simpa using h.big, fun i hi i2 v hv => ?_⟩
  · unfold updF
    split
    · simpa using hl
    · exact h.len i hi
  · have hb := h.big
    unfold updF at hv
    rw [Array.getElem?_setIfInBounds]
    by_cases e : i = n
    · subst e
      rw [if_pos rfl] at hv
      by_cases e2 : j = i2
      · subst e2
        rw [if_pos rfl, if_pos (by omega)]
        rw [List.getElem?_set_self (by omega)] at hv
        exact hv
      · rw [List.getElem?_set_ne e2] at hv
        rw [if_neg (by omega)]
        exact h.at_ i hi i2 v hv
    · rw [if_neg e] at hv
      have h5 := h.len i hi
      have hi2 : i2 < 5 := by
        have := (List.getElem?_eq_some_iff.1 hv).1
        omega
      rw [if_neg (by omega)]
      exact h.at_ i hi i2 v hv
theorem CurIs.cong {cur : Array Value} {k : Nat} {F G : Nat → List Value} (h : CurIs cur k F) (hg : ∀ i, i < k → G i = F i) : CurIs cur k G :=
  ⟨fun i hi => by rw [hg i hi]; exact h.len i hi, h.big, fun i hi j u hu => h.at_ i hi j u (by rw [← hg i hi]; exact hu)⟩
theorem updF_self (f : Nat → List Value) (n : Nat) (c : List Value) : updF f n c n = c := if_pos rfl
/-- the copy: x's box, x's row -/
structure SlX (V3 V : World) (X8 gY cY : Nat) (A0 : Option Addr) (c0 gl : Nat) (mm : Int) (k : Nat) (cur : Array Value) : Prop where mk ::
  (bel : Below V3.heap.size V3 V) (bx : Blk V X8 #[.slice A0 gl c0, .slice (some ⟨gY, 0, none⟩) k cY, .int .i64 mm] 25) (bY : Blk V gY cur 40)
  (ne : X8 ≠ gY) (lx : V3.heap.size ≤ X8) (lY : V3.heap.size ≤ gY) (cY : k ≤ cY)
theorem SlX.below {V3 V V' : World} {X8 gY cY : Nat} {A0 : Option Addr} {c0 gl : Nat} {mm : Int} {k : Nat} {cur : Array Value} (h : SlX V3 V X8 gY cY A0 c0 gl mm k cur) (hb : Below V.heap.size V V') : SlX V3 V' X8 gY cY A0 c0 gl mm k cur :=
  ⟨below_step h.bel hb, h.bx.below hb, h.bY.below hb, h.ne, h.lx, h.lY, h.cY⟩
theorem SlX.store {V3 V : World} {X8 gY cY : Nat} {A0 : Option Addr} {c0 gl : Nat} {mm : Int} {k : Nat} {cur : Array Value} (h : SlX V3 V X8 gY cY A0 c0 gl mm k cur) (j : Nat) (u : Value) : SlX V3 (V.setCell ⟨gY, j, none⟩ u) X8 gY cY A0 c0 gl mm k (cur.setIfInBounds j u) :=
  ⟨h.bel.setCell (p := ⟨gY, j, none⟩) h.lY u, h.bx.far h.ne u, h.bY.set j u, h.ne, h.lx, h.lY, h.cY⟩
theorem own_cur {V : World} {base k gY cY : Nat} {news : List Value} {f : Nat → List Value} (hl : ∀ i, i < k → (f i).length = 5) (hn : news = (List.range k).flatMap f) (hk : 0 < k) (hown : V.ownsRow base 40 5 (.slice (some ⟨gY, 0, none⟩) (0 + k) cY) (0 + k) ([] ++ news)) :
    ∃ cur, Blk V gY cur 40 ∧ CurIs cur k f ∧ base ≤ gY ∧ k ≤ cY := by
  subst hn
  rw [Nat.zero_add, List.nil_append] at hown
  rcases hown.2 with ⟨h, _⟩ | ⟨g, cap, cur, he, hb, hg, hnc, _, hcs, htake⟩
  · cases h
  · injection he with h1 h2 h3
    injection h1 with h1
    injection h1 with h1
    subst h1 h3
    have hsz : cur.size = cY * 5 := hcs
    have hm : k * 5 ≤ cY * 5 := Nat.mul_le_mul_right _ hnc
    refine ⟨cur, ⟨hg⟩, ⟨hl, by omega, fun i hi j u hu => ?_⟩, hb, hnc⟩
    have hj : j < 5 := by
      have := (List.getElem?_eq_some_iff.1 hu).1
      have := hl i hi
      omega
    have h2 := (flat5 f k hl).2 i hi j hj
    rw [hu, ← htake] at h2
    rw [List.getElem?_take_of_lt (by omega)] at h2
    rw [← Array.getElem?_toList]
    exact h2
theorem slx_store {V3 W0 w' : World} {X8 gY cY : Nat} {A0 : Option Addr} {c0 gl : Nat} {mm : Int} {k : Nat} {news : List Value} {f : Nat → List Value} (hl : ∀ i, i < k → (f i).length = 5) (hn : news = (List.range k).flatMap f) (hk : 0 < k)
    (hb : Blk W0 X8 #[.slice none 0 0, .slice none 0 0, .int .i64 0] 25) (h0 : Below V3.heap.size V3 W0) (hx : V3.heap.size ≤ X8) (hgrow : W0.grownBy w' none)
    (hown : w'.ownsRow W0.heap.size 40 5 (.slice (some ⟨gY, 0, none⟩) (0 + k) cY) (0 + k) ([] ++ news)) :
    ∃ cur, SlX V3 (((w'.setCell ⟨X8, 0, none⟩ (.slice A0 gl c0)).setCell ⟨X8, 1, none⟩ (.slice (some ⟨gY, 0, none⟩) k cY)).setCell ⟨X8, 2, none⟩ (.int .i64 mm)) X8 gY cY A0 c0 gl mm k cur ∧ CurIs cur k f := by
  obtain ⟨cur, h1, h2, h3, h4⟩ := own_cur hl hn hk hown
  have hlt := hb.lt
  have hs := h0.size
  have hbx : Blk w' X8 _ 25 := ⟨(hgrow.block X8 hlt (by simp)).trans hb.out⟩
  have hbel : Below V3.heap.size V3 w' := h0.grown hgrow hs (fun k hk => by cases hk)
  refine ⟨cur, ⟨((hbel.setCell (p := ⟨X8, 0, none⟩) hx _).setCell (p := ⟨X8, 1, none⟩) hx _).setCell (p := ⟨X8, 2, none⟩) hx _, ((hbx.set 0 _).set 1 _).set 2 _, ((h1.far (p := ⟨X8, 0, none⟩) (show gY ≠ X8 by omega) _).far (p := ⟨X8, 1, none⟩) (show gY ≠ X8 by omega) _).far (p := ⟨X8, 2, none⟩) (show gY ≠ X8 by omega) _, by omega, hx, by omega, h4⟩, h2⟩
theorem slx_alloc {V3 W0 w' : World} {gY cY : Nat} {A0 : Option Addr} {c0 gl : Nat} {mm : Int} {k : Nat} {news : List Value} {f : Nat → List Value} (hl : ∀ i, i < k → (f i).length = 5) (hn : news = (List.range k).flatMap f) (hk : 0 < k)
    (h0 : Below V3.heap.size V3 W0) (hgrow : W0.grownBy w' none)
    (hown : w'.ownsRow W0.heap.size 40 5 (.slice (some ⟨gY, 0, none⟩) (0 + k) cY) (0 + k) ([] ++ news)) :
    ∃ cur, SlX V3 (w'.alloc (.cells #[.slice A0 gl c0, .slice (some ⟨gY, 0, none⟩) k cY, .int .i64 mm] 25)) w'.heap.size gY cY A0 c0 gl mm k cur ∧ CurIs cur k f := by
  obtain ⟨cur, h1, h2, h3, h4⟩ := own_cur hl hn hk hown
  have hlt := h1.lt
  have hs := h0.size
  have hg := hgrow.size
  have hbel : Below V3.heap.size V3 w' := h0.grown hgrow hs (fun k hk => by cases hk)
  exact ⟨cur, ⟨below_alloc hbel _, Blk.new _ _ _, h1.alloc _, by omega, by omega, by omega, h4⟩, h2⟩
theorem cell_far3 {W : World} {g q i : Nat} {v a b c : Value} (hq : q ≠ g) (h : W.cell? ⟨q, i, none⟩ = some v) : (((W.setCell ⟨g, 0, none⟩ a).setCell ⟨g, 1, none⟩ b).setCell ⟨g, 2, none⟩ c).cell? ⟨q, i, none⟩ = some v := by
  exact (World.cell?_setCell_far _ _ _ _ (show g ≠ q from fun e => hq e.symm)).trans ((World.cell?_setCell_far _ _ _ _ (show g ≠ q from fun e => hq e.symm)).trans ((World.cell?_setCell_far _ _ _ _ (show g ≠ q from fun e => hq e.symm)).trans h))
theorem cell_drew {W : World} {q : Addr} {v : Value} (h : W.cell? q = some v) : W.drew.cell? q = some v := h
end
section
open Go Go.RowKit Go.Proofs.YtoiakaagbgfocaaW.PrintWords Go.Proofs.YtoiakaagbgfocaaW.PrintLast Go.Proofs.YtoiakaagbgfocaaW.PrintMore
set_option linter.unusedVariables false
set_option linter.unusedSimpArgs false

def flat42 : List S42 → List Value
  | [] => []
  | e :: l => .int .i64 e.f0 :: .int .i64 e.f1 :: .int .i64 e.f2 :: .int .i64 e.f3 :: flat42 l
theorem flat42_app : ∀ (l m : List S42), flat42 (l ++ m) = flat42 l ++ flat42 m
  | [], m => rfl
  | e :: l, m => by simp [flat42, flat42_app l m]
theorem flat42_len : ∀ l : List S42, (flat42 l).length = l.length * 4
  | [] => rfl
  | e :: l => by simp only [flat42, List.length_cons, flat42_len l]; omega
theorem flat42_one : ∀ (l : List S42), ∀ u ∈ flat42 l, u.oneCell' = true
  | [], u, h => by simp [flat42] at h
  | e :: l, u, h => by
    simp only [flat42, List.mem_cons] at h
    rcases h with rfl | rfl | rfl | rfl | h
    · rfl
    · rfl
    · rfl
    · rfl
    · exact flat42_one l u h
theorem flat42_at : ∀ (l : List S42) (i j : Nat) (hi : i < l.length), j < 4 → (flat42 l)[i * 4 + j]? = [Value.int .i64 l[i].f0, .int .i64 l[i].f1, .int .i64 l[i].f2, .int .i64 l[i].f3][j]?
  | e :: l, 0, j, hi, hj => by
    have : j = 0 ∨ j = 1 ∨ j = 2 ∨ j = 3 := by omega
    rcases this with rfl | rfl | rfl | rfl <;> rfl
  | e :: l, i + 1, j, hi, hj => by
    have h := flat42_at l i j (by simpa using hi) hj
    rw [show (i + 1) * 4 + j = i * 4 + j + 4 by omega]
    simpa [flat42] using h
theorem insts_cells {W : World} {A : Option Addr} {l : List S42} (hC : Kd.C k42 W A l.length l) (hne : 0 < l.length) : ∃ ad, A = some ad ∧ ∀ j u, (flat42 l)[j]? = some u → W.cell? (ad.add j) = some u := by
  obtain ⟨_, _, h⟩ := hC
  obtain ⟨ad, rfl, h2⟩ := h hne
  refine ⟨ad, rfl, fun j u hu => ?_⟩
  have hj : j < l.length * 4 := by
    have := (List.getElem?_eq_some_iff.1 hu).1
    rwa [flat42_len] at this
  obtain ⟨c, hc1, hc2, hc3⟩ := h2 (j / 4) l[j / 4] (List.getElem?_eq_getElem (by omega))
  obtain rfl := k42_open hc2
  have h3 := flat42_at l (j / 4) (j % 4) (by omega) (by omega)
  rw [show j / 4 * 4 + j % 4 = j by omega, hu] at h3
  have h4 := hc3 (j % 4) u h3.symm
  have hs : k42.sz = 4 := rfl
  rwa [hs, show j / 4 * 4 + j % 4 = j by omega] at h4
theorem add_g (g j : Nat) : (⟨g, 0, none⟩ : Addr).add j = ⟨g, j, none⟩ := by
  by_cases h : j = 0 <;> simp [Addr.add, h]
theorem insts_own {W : World} {base gJ cJ n : Nat} {l : List S42} (h : W.ownsRow base 42 4 (.slice (some ⟨gJ, 0, none⟩) n cJ) n (flat42 l)) (hn : l.length = n) (hl : l.length ≤ 2000000) : Kd.C k42 W (some ⟨gJ, 0, none⟩) n l ∧ n ≤ cJ := by
  subst hn
  have hcap : l.length ≤ cJ := by
    rcases h.2 with ⟨h', _⟩ | ⟨g, cap, cur, he, _, _, hnc, _⟩
    · cases h'
    · injection he with h1 h2 h3
      subst h3
      exact hnc
  refine ⟨⟨rfl, by have : maxLen = 9223372036854775807 := rfl; omega, fun _ => ⟨⟨gJ, 0, none⟩, rfl, fun i x hx => ?_⟩⟩, hcap⟩
  obtain ⟨hi, rfl⟩ := List.getElem?_eq_some_iff.1 hx
  refine ⟨_, rfl, k42_mk W l[i], fun j u hu => ?_⟩
  have hj : j < 4 := (List.getElem?_eq_some_iff.1 hu).1
  have hs : k42.sz = 4 := rfl
  rw [hs, add_g, h.cellAt _ (by omega), flat42_at l i j hi hj]
  exact hu
theorem step_append_own {P : Program} {ops : Array Oper} {o : Oper} {a : Act} {w : World} {K : Act → World → Prop} {Q : Exit → Act → World → Prop} {E : Prop}
    (hg : o.guard = none) (s x : Operand) (t : TypeId) (hop : o.op = Op.call { callee := Callee.builtin Builtin.append, args := #[s, x], argTypes := #[t, t] })
    (base : Nat) (e : TypeId) (i : TypeInfo) (z : Value) (size bytes : Nat) (h1 : P.underlying t = some (.slice e)) (h2 : P.info? e = some i) (h3 : i.zero = some z) (h4 : i.size = size) (h5 : i.bytes = bytes) (h6 : z.cells.size = size) (h7 : 0 < size)
    (v : Value) (n : Nat) (xs : List Value) (hs : a.eval s = v) (hown : w.ownsRow base e size v n xs)
    (ad : Addr) (m c : Nat) (news : List Value) (hx : a.eval x = .slice (some ad) m c) (hn : news.length = m * size) (hc : ∀ j u, news[j]? = some u → w.cell? (ad.add j) = some u) (h1c : ∀ u ∈ news, u.oneCell' = true)
    (b1 : n + m ≤ maxLen) (b2 : (n + m) * bytes ≤ 140737488355328) (hbase : base ≤ w.heap.size)
    (hK : ∀ v' w', w'.ownsRow base e size v' (n + m) (xs ++ news) → w.grownBy w' v.ownBlock → K (a.put o.dst v') w') :
    if Region.wanted o (yielded ops a.tmps) = true then Oper.wp P o a w K Q else E := by
  have hw : Region.wanted o (yielded ops a.tmps) = true := by simp [Region.wanted, hg]
  rw [if_pos hw]
  exact wp_append_own w s x t hop base e i z size bytes h1 h2 h3 h4 h5 h6 h7 v n xs hs hown ad m c news hx hn hc h1c b1 b2 hbase (fun v' w' r1 r2 _ => hK v' w' r1 r2)
/-- the copy, read as a row of codes one of which is changed -/
theorem slx_c {V3 V : World} {X8 gY cY : Nat} {A0 : Option Addr} {c0 gl : Nat} {mm : Int} {ad : Addr} {cs : List S40} {f : Nat → List Value} {cur : Array Value} {n : Nat} {c : List Value} (hf : Cells40 V3 ad cs f) (hX : SlX V3 V X8 gY cY A0 c0 gl mm cs.length cur) (hcur : CurIs cur cs.length (updF f n c)) (hc : c.length = 5)
    (q' : S40) (hq : k40.K V q' c) (hl : cs.length ≤ 1000000) : Kd.C k40 V (some ⟨gY, 0, none⟩) (cs.set n q').length (cs.set n q') :=
  Cells40.c (cells_set hf hX.bel n q' c hc hq (fun i hi j u hu => by rw [add_g]; exact (hX.bY.cell _).trans (hcur.at_ i hi j u hu))) (by rw [List.length_set]; exact hl)
theorem rightX_calls (A0 A : Option Addr) (c0 c : Nat) (gs : List S48) (cs cs' : List S40) (k : Nat) (hk : cs'.length = k) (mm : Int) (hgl : gs.length ≤ 1000000) (hcl : k ≤ 1000000) (s : Bool) (hs : imgB gs cs' mm = s) (w : World) (h0 : Kd.C k48 w A0 gs.length gs) (b0 : gs.length ≤ c0) (h1 : Kd.C k40 w A cs'.length cs') (b1 : k ≤ c) :
    Calls Try.prog 11 #[.agg #[.slice A0 gs.length c0, .slice A k c, .int .i64 mm]] w fun e w' => e = .returned (.bool s) ∧ Below w.heap.size w w' := by
  subst hs hk
  exact img_calls ⟨A0, c0, gs, A, c, cs', mm⟩ w ⟨h0, b0, h1, b1⟩ hgl hcl
theorem SlX.drew {V3 V : World} {X8 gY cY : Nat} {A0 : Option Addr} {c0 gl : Nat} {mm : Int} {k : Nat} {cur : Array Value} (h : SlX V3 V X8 gY cY A0 c0 gl mm k cur) : SlX V3 V.drew X8 gY cY A0 c0 gl mm k cur := h.below (below_drew (Below.refl _ _))
theorem updF_updF (f : Nat → List Value) (n : Nat) (c d : List Value) (i : Nat) : updF (updF f n c) n d i = updF f n d i := by
  unfold updF
  by_cases h : i = n
  · rw [if_pos h, if_pos h]
  · rw [if_neg h, if_neg h, if_neg h]
/-- one code stored whole -/
theorem SlX.row {V3 V : World} {X8 gY cY : Nat} {A0 : Option Addr} {c0 gl : Nat} {mm : Int} {k : Nat} {cur : Array Value} (h : SlX V3 V X8 gY cY A0 c0 gl mm k cur) {f : Nat → List Value} {n : Nat} {c : List Value} (hc : CurIs cur k (updF f n c)) (hn : n < k) (u0 u1 u2 u3 u4 : Value) :
    ∃ cur', SlX V3 ((((((V.setCell ⟨gY, n * 5, none⟩ u0).setCell ⟨gY, n * 5 + 1, none⟩ u1).setCell ⟨gY, n * 5 + 2, none⟩ u2).setCell ⟨gY, n * 5 + 3, none⟩ u3).setCell ⟨gY, n * 5 + 4, none⟩ u4).drew) X8 gY cY A0 c0 gl mm k cur' ∧ CurIs cur' k (updF f n [u0, u1, u2, u3, u4]) := by
  have h5 : c.length = 5 := by
    have := hc.len n hn
    rwa [updF_self] at this
  refine ⟨_, (((((h.store (n * 5) u0).store (n * 5 + 1) u1).store (n * 5 + 2) u2).store (n * 5 + 3) u3).store (n * 5 + 4) u4).drew, ?_⟩
  refine (((((hc.set n 0 hn (by omega) u0).set n 1 hn (by omega) u1).set n 2 hn (by omega) u2).set n 3 hn (by omega) u3).set n 4 hn (by omega) u4).cong fun i hi => ?_
  have e : ((((c.set 0 u0).set 1 u1).set 2 u2).set 3 u3).set 4 u4 = [u0, u1, u2, u3, u4] := by
    match c, h5 with
    | [a, b, c, d, e], _ => rfl
  simp only [updF_self]
  rw [e]
  by_cases hi2 : i = n
  · subst hi2
    simp only [updF_self]
  · simp only [updF, if_neg hi2]
theorem below_grown0 {a w w' : World} (h : Below a.heap.size a w) (hg : w.grownBy w' none) : Below a.heap.size a w' := h.grown hg h.size (fun k hk => by cases hk)
theorem one_cells {W : World} {g t : Nat} {a b c d : Value} (h : Blk W g #[a, b, c, d] t) : ∀ j u, [a, b, c, d][j]? = some u → W.cell? ((⟨g, 0, none⟩ : Addr).add j) = some u := by
  intro j u hu
  rw [add_g, h.cell j]
  have hj : j < 4 := (List.getElem?_eq_some_iff.1 hu).1
  have : j = 0 ∨ j = 1 ∨ j = 2 ∨ j = 3 := by omega
  rcases this with rfl | rfl | rfl | rfl <;> exact hu
/-- the new instructions' row, behind the store into the code -/
theorem insts_kept {W : World} {base gJ cJ gY j n : Nat} {l m : List S42} {u : Value} (h : W.ownsRow base 42 4 (.slice (some ⟨gJ, 0, none⟩) n cJ) n (flat42 l ++ flat42 m)) (hn : (l ++ m).length = n) (hl : n ≤ 2000000) (hne : gY < base) : Kd.C k42 (W.setCell ⟨gY, j, none⟩ u) (some ⟨gJ, 0, none⟩) n (l ++ m) ∧ n ≤ cJ := by
  have hb := (h.lt gJ rfl).1
  rw [← flat42_app] at h
  exact insts_own (h.kept (row := some gY) ⟨rfl, rfl, rfl, (KeepsWalks.setCell W ⟨gY, j, none⟩ u).size, fun k hk hne => Below.heap_setCell W ⟨gY, j, none⟩ u k (by intro e; exact hne (by rw [e]))⟩ (.inr (by intro e; injection e with e; have e' : gJ = gY := e; omega))) hn (by omega)
theorem own_z {W : World} {base e sz k : Nat} {p : Option Addr} {c : Nat} {xs : List Value} (h : W.ownsRow base e sz (.slice p (0 + k) c) (0 + k) ([] ++ xs)) : W.ownsRow base e sz (.slice p k c) k xs := by
  simpa using h
theorem k40_insts (w : World) (q : S40) (x : S42) {A3 : Option Addr} {c3 : Nat} (l3 : q.f3.length + 1 ≤ c3) (g3 : Kd.C k42 w A3 (q.f3.length + 1) (q.f3 ++ [x])) {A4 : Option Addr} {c4 : Nat} (l4 : q.f4.length ≤ c4) (g4 : Kd.C k66 w A4 q.f4.length q.f4) :
    k40.K w (instsQ q x) [.int .i64 q.f0, .int .i64 q.f1, .int .i64 q.f2, .slice A3 (q.f3.length + 1) c3, .slice A4 q.f4.length c4] := by
  have e : (q.f3 ++ [x]).length = q.f3.length + 1 := by simp
  have h := k40_mk w (instsQ q x) (A3 := A3) (c3 := c3) (by show (q.f3 ++ [x]).length ≤ c3; omega) (by show Kd.C k42 w A3 (q.f3 ++ [x]).length (q.f3 ++ [x]); rw [e]; exact g3) l4 g4
  have h2 : (instsQ q x).f3.length = q.f3.length + 1 := e
  rw [h2] at h
  exact h
theorem cell_far1 {W : World} {g q i j : Nat} {v a : Value} (hq : q ≠ g) (h : W.cell? ⟨q, i, none⟩ = some v) : (W.setCell ⟨g, j, none⟩ a).cell? ⟨q, i, none⟩ = some v :=
  (World.cell?_setCell_far _ _ _ _ (show g ≠ q from fun e => hq e.symm)).trans h
end
section
open Go.RowKit Go.Proofs.YtoiakaagbgfocaaW.PrintWords Go.Proofs.YtoiakaagbgfocaaW.PrintLast Go.Proofs.YtoiakaagbgfocaaW.PrintMore
set_option linter.unusedVariables false
set_option linter.unusedSimpArgs false

theorem rightS_calls (m : Im) (fm : m.Few) (s : Bool) (hs : imgB m.g m.cs m.m = s) (w : World) (hm : m.In w) :
    Calls Try.prog 11 #[m.val] w fun e w' => e = .returned (.bool s) ∧ Below w.heap.size w w' := by
  subst hs
  exact img_calls m w hm fm.sm.g fm.sm.c
theorem u8_nat (a : Int) (h : (Lit.int .u8 a).wf = true) : ∃ k : Nat, a = (k : Int) ∧ k < 256 := by
  simp only [Lit.wf, Bool.and_eq_true, decide_eq_true_eq] at h
  obtain ⟨h0, h1⟩ := h
  have e0 : IntKind.u8.min = 0 := by decide
  have e1 : IntKind.u8.max = 255 := by decide
  exact ⟨a.toNat, by omega, by omega⟩
theorem then_at {K : Act → World → Prop} {Q : Exit → Act → World → Prop} {e : Exit} {a : Act} {W : World} (F : World → Prop) (hF : F W) (k : ∀ W', F W' → Exit.then K Q e a W') : Exit.then K Q e a W := k W hF
theorem cell_lt {V : World} {b i : Nat} {v : Value} (h : V.cell? ⟨b, i, none⟩ = some v) : b < V.heap.size := by
  rcases Nat.lt_or_ge b V.heap.size with h1 | h1
  · exact h1
  · unfold World.cell? at h
    rw [Array.getElem?_eq_none h1] at h
    exact absurd h (by simp)
theorem grown_blk {V V' : World} (hg : V.grownBy V' none) {g t : Nat} {cs : Array Value} (h : Blk V g cs t) : Blk V' g cs t :=
  ⟨(hg.block g h.lt (by simp)).trans h.out⟩
theorem grown_cell {V V' : World} (hg : V.grownBy V' none) {b i : Nat} {v : Value} (h : V.cell? ⟨b, i, none⟩ = some v) : V'.cell? ⟨b, i, none⟩ = some v :=
  (World.cell?_of_block (hg.block b (cell_lt h) (by simp))).trans h
structure SlS (w V : World) (X3 : Nat) (m : Im) : Prop where mk :: (bel : Below w.heap.size w V) (bm : Blk V X3 m.cells 25) (im : m.In V)
theorem SlS.below {w V V' : World} {X3 : Nat} {m : Im} (h : SlS w V X3 m) (hb : Below V.heap.size V V') : SlS w V' X3 m := ⟨below_step h.bel hb, h.bm.below hb, h.im.below rfl hb⟩
set_option maxHeartbeats 16000000 in
set_option maxRecDepth 100000 in
theorem codeSlots_calls (k : Nat) (m : Im) (ra : Bool) (kN dN : Nat) (w : World) (hk : kN < 256) (hd : dN < 256) (hm : m.In w)
    (hga : droguelaw22_Great.f k m.g m.cs m.m = some ra) (fa : ra = false → m.Few) :
    Calls Try.prog 6 #[m.val, .int .u8 (kN : Int), .int .u8 (dN : Int)] w fun e w' => e = .returned (.bool true) ∧ Below w.heap.size w w' := by
  have FA := Lib.hid fa
  have HGA := Lib.hid hga
  have HK := Lib.hid hk
  have HD := Lib.hid hd
  have S0 : Hid (SlS w (w.alloc (.cells m.cells 25)) w.heap.size m) :=
    have h2 := below_alloc (Below.refl w.heap.size w) (.cells m.cells 25)
    Lib.hid ⟨h2, Blk.new w m.cells 25, hm.below rfl h2⟩
  clear hm hga fa hk hd
  obtain ⟨A0, c0, gs, A1, c1, cs, mm⟩ := m
  go_enter Try.func6, Try.ntmps6
  go_wp2_with fail
  refine at_world (fun V => SlS w V w.heap.size ⟨A0, c0, gs, A1, c1, cs, mm⟩) S0.out ?_
  clear S0
  generalize w.heap.size = X3
  rintro V0 hS0
  have HS0 := Lib.hid hS0
  clear hS0
  refine (alive_calls V0).mono ?_
  rintro e V1 ⟨rfl, hb1⟩
  have hS1 := HS0.out.below hb1
  clear HS0 hb1
  obtain ⟨⟨m0, m1, m2⟩, -⟩ := hS1.bm.cells3
  have HS1 := Lib.hid hS1
  clear hS1
  go_wp2_with fail
  refine (droguelaw22_Great.calls k A0 c0 gs A1 c1 cs mm ra _ HS1.out.im.h0 HS1.out.im.b0 HS1.out.im.h1 HS1.out.im.b1 HGA.out).mono ?_
  rintro e V2 ⟨rfl, hb2⟩
  have hS2 := HS1.out.below hb2
  clear HS1 hb2 m0 m1 m2
  obtain ⟨⟨m0, m1, m2⟩, -⟩ := hS2.bm.cells3
  have HS2 := Lib.hid hS2
  clear hS2
  cases ra
  case true =>
    go_wp2
    go_ret
    exact ⟨rfl, HS2.out.bel⟩
  have FA1 := Lib.hid (FA.out rfl)
  clear FA HGA
  go_wp2_with fail
  obtain ⟨s, hs⟩ : ∃ s, imgB gs cs mm = s := ⟨_, rfl⟩
  have HI := Lib.hid hs
  clear hs
  refine (rightS_calls ⟨A0, c0, gs, A1, c1, cs, mm⟩ FA1.out s HI.out _ HS2.out.im).mono ?_
  rintro e V3 ⟨rfl, hb3⟩
  have hS3 := HS2.out.below hb3
  clear HS2 hb3 m0 m1 m2
  obtain ⟨⟨m0, m1, m2⟩, -⟩ := hS3.bm.cells3
  have HS3 := Lib.hid hS3
  clear hS3
  cases s with
  | false =>
    go_wp2
    go_ret
    exact ⟨rfl, HS3.out.bel⟩
  | true =>
    have hi := HI.out
    have hcl : 1 ≤ cs.length ∧ cs.length ≤ 16 := by
      unfold imgB at hi
      simp only [Bool.and_eq_true, decide_eq_true_eq] at hi
      have := inB_of hi.2.1
      omega
    clear hi
    have HCl := Lib.hid hcl
    have hrem : Int.tmod (kN : Int) (cs.length : Int) = ((kN % cs.length : Nat) : Int) := rfl
    have hn : kN % cs.length < cs.length := Nat.mod_lt _ (by omega)
    have hz : ((cs.length : Int) = 0) = False := eq_false (by omega)
    have hz2 : ((cs.length : Int) == 0) = false := by rw [beq_eq_false_iff_ne]; omega
    have hz3 : (cs.length = 0) = False := eq_false (by omega)
    have hw : IntKind.i64.wrap (kN : Int) = (kN : Int) := by rw [i64_w]; unfold wrap64; have := HK.out; omega
    generalize kN % cs.length = n at *
    have hwr : IntKind.i64.wrap (n : Int) = (n : Int) := by rw [i64_w]; unfold wrap64; omega
    have HNn := Lib.hid hn
    clear hn hcl
    go_wp2_with fail
    obtain ⟨ad, f, rfl, hf⟩ := codes_cells HS3.out.im.h1 (by have := HCl.out; show 0 < cs.length; omega)
    replace hf : Cells40 V3 ad cs f := hf
    have HF := Lib.hid hf
    obtain ⟨hnl, hnc, hn1⟩ := hf.news
    have HF2 := hf.len
    have HFl := Lib.hid HF2
    obtain ⟨news, hnews⟩ : ∃ news, news = (List.range cs.length).flatMap f := ⟨_, rfl⟩
    rw [← hnews] at hnl hnc hn1
    have HNw := Lib.hid hnews
    clear hnews HF2
    have HNl := Lib.hid hnl
    have HNc := Lib.hid hnc
    have HN1 := Lib.hid hn1
    clear hf hnl hnc hn1
    obtain ⟨i0, hi40, hz⟩ := Option.map_eq_some_iff.1 info40
    simp only [Prod.mk.injEq] at hz
    obtain ⟨hz0, hz1, hz4⟩ := hz
    have HI40 := Lib.hid hi40
    have HZ0 := Lib.hid hz0
    have HZ1 := Lib.hid hz1
    have HZ4 := Lib.hid hz4
    clear hi40 hz0 hz1 hz4
    have HK0 : Hid (0 < cs.length) := Lib.hid (by have := HCl.out; omega)
    have hx3 : Hid (X3 ≠ V3.heap.size ∧ X3 ≠ V3.heap.size + 1) := Lib.hid (by have := HS3.out.bm.lt; omega)
    go_cut [8] from 24 to 32 (fun v8 W => ∃ (X8 gY cY : Nat) (cur : Array Value), v8 = .pointer (some ⟨X8, 0, none⟩) ∧ SlX V3 W X8 gY cY A0 c0 gs.length mm cs.length cur ∧ CurIs cur cs.length f)
    case first =>
      have s0 := fun o => cell_al m0 o
      have s1 := fun o => cell_al m1 o
      have s2 := fun o => cell_al m2 o
      have s0d := fun o => cell_drew (cell_al m0 o)
      have s1d := fun o => cell_drew (cell_al m1 o)
      have s2d := fun o => cell_drew (cell_al m2 o)
      have t0 := fun o o' => cell_al (cell_al m0 o) o'
      have t1 := fun o o' => cell_al (cell_al m1 o) o'
      have t2 := fun o o' => cell_al (cell_al m2 o) o'
      have t0d := fun o o' => cell_drew (cell_al (cell_al m0 o) o')
      have t1d := fun o o' => cell_drew (cell_al (cell_al m1 o) o')
      have t2d := fun o o' => cell_drew (cell_al (cell_al m2 o) o')
      have td0 := fun o o' => cell_al (cell_drew (cell_al m0 o)) o'
      have td1 := fun o o' => cell_al (cell_drew (cell_al m1 o)) o'
      have td2 := fun o o' => cell_al (cell_drew (cell_al m2 o)) o'
      go_region_held_law (fun V => V.cell? ⟨X3, 0, none⟩ = some (.slice A0 gs.length c0) ∧ V.cell? ⟨X3, 1, none⟩ = some (.slice (some ad) cs.length c1) ∧ V.cell? ⟨X3, 2, none⟩ = some (.int .i64 mm)) (with_reducible first | exact ⟨m0, m1, m2⟩ | exact ⟨s0 _, s1 _, s2 _⟩ | exact ⟨s0d _, s1d _, s2d _⟩ | exact ⟨t0 _ _, t1 _ _, t2 _ _⟩ | exact ⟨t0d _ _, t1d _ _, t2d _ _⟩ | exact ⟨td0 _ _, td1 _ _, td2 _ _⟩ | exact ⟨cell_drew m0, cell_drew m1, cell_drew m2⟩ | exact ⟨r0, r1, r2⟩ | exact ⟨q0 _, q1 _, q2 _⟩ | exact ⟨cell_far3 hx3.out.1 r0, cell_far3 hx3.out.1 r1, cell_far3 hx3.out.1 r2⟩ | exact ⟨cell_far3 hx3.out.2 r0, cell_far3 hx3.out.2 r1, cell_far3 hx3.out.2 r2⟩) ((refine step_append_grows rfl (.tmp 26) (.tmp 28) 23 rfl 40 i0 _ 5 72 Try.underlying23 HI40.out HZ0.out HZ1.out HZ4.out rfl (by decide) (some _) 0 0 [] (by simp [Act.eval, Act.put]; rfl) (fun e => by cases e) (by simp) (fun b e j u hu => by simp at hu) ad cs.length c1 news (by simp [Act.eval, Act.put]) HNl.out (fun j u hu => by with_reducible first | exact cell_al (HNc.out j u hu) _ | exact cell_drew (cell_al (HNc.out j u hu) _) | exact cell_al (cell_al (HNc.out j u hu) _) _ | exact cell_drew (cell_al (cell_al (HNc.out j u hu) _) _)) HN1.out (by have := HCl.out; omega) (by have := HCl.out; unfold maxLen; omega) (by have := HCl.out; omega) ?_; intro v' w' hown hgrow; obtain ⟨gY, cY, rfl⟩ := Joins.ownsRow_form hown (by have := HCl.out; omega); have r0 := grown_cell hgrow (by with_reducible first | exact s0 _ | exact s0d _ | exact t0 _ _ | exact t0d _ _); have r1 := grown_cell hgrow (by with_reducible first | exact s1 _ | exact s1d _ | exact t1 _ _ | exact t1d _ _); have r2 := grown_cell hgrow (by with_reducible first | exact s2 _ | exact s2d _ | exact t2 _ _ | exact t2d _ _); have q0 := fun o => cell_al r0 o; have q1 := fun o => cell_al r1 o; have q2 := fun o => cell_al r2 o; (first | (have BX : Blk w' V3.heap.size #[.slice none 0 0, .slice none 0 0, .int .i64 0] 25 := (by with_reducible first | exact grown_blk hgrow ((Blk.new V3 _ 25).alloc _) | exact grown_blk hgrow ((Blk.new V3 _ 25).alloc _).drew | exact grown_blk hgrow ((Blk.new V3 _ 25).drew.alloc _)); obtain ⟨⟨z0, z1, z2⟩, z3, z4, z5⟩ := BX.cells3; clear BX) | (have BX : Blk w' (V3.heap.size + 1) #[.slice none 0 0, .slice none 0 0, .int .i64 0] 25 := (by with_reducible first | exact grown_blk hgrow (Blk.new' (by simp) _ 25) | exact grown_blk hgrow (Blk.new' (by simp) _ 25).drew); obtain ⟨⟨z0, z1, z2⟩, z3, z4, z5⟩ := BX.cells3; clear BX) | (have _h : (V3.alloc (Obj.cells #[] 40)).drew.grownBy w' none := (by with_reducible exact hgrow); clear _h)); have HOw := Lib.hid hown; have HGr := Lib.hid hgrow; clear hown hgrow))
      all_goals
        first
          | (with_reducible refine then_at (fun V => ∃ cur, SlX V3 V V3.heap.size gY cY A0 c0 gs.length mm cs.length cur ∧ CurIs cur cs.length f) (slx_store HFl.out HNw.out HK0.out ((Blk.new V3 _ 25).alloc _).drew ((below_alloc (below_alloc (Below.refl _ _) _) _).drew) (Nat.le_refl _) HGr.out HOw.out) ?_; rintro V ⟨cur, hX, hCur⟩; generalize V3.heap.size = X8 at hX ⊢)
          | (with_reducible refine then_at (fun V => ∃ cur, SlX V3 V (V3.heap.size + 1) gY cY A0 c0 gs.length mm cs.length cur ∧ CurIs cur cs.length f) (slx_store HFl.out HNw.out HK0.out (Blk.new' (by simp) _ 25).drew ((below_alloc (below_alloc (Below.refl _ _) _) _).drew) (Nat.le_succ _) HGr.out HOw.out) ?_; rintro V ⟨cur, hX, hCur⟩; generalize (V3.heap.size + 1) = X8 at hX ⊢)
          | (with_reducible refine then_at (fun V => ∃ cur, SlX V3 V w'.heap.size gY cY A0 c0 gs.length mm cs.length cur ∧ CurIs cur cs.length f) (slx_alloc HFl.out HNw.out HK0.out (below_alloc (Below.refl _ _) _).drew HGr.out HOw.out) ?_; rintro V ⟨cur, hX, hCur⟩; generalize w'.heap.size = X8 at hX ⊢)
      all_goals
        go_wp2_with fail
        go_meet
        exact ⟨_, _, _, _, rfl, hX, hCur⟩
    case rest =>
    obtain ⟨X8, gY, cY, cur, rfl, hX, hCur⟩ := hcut
    clear m0 m1 m2
    obtain ⟨V, rfl⟩ : ∃ V, V = wc := ⟨_, rfl⟩
    -- behind region 6
    obtain ⟨q, hq⟩ : ∃ q, q = rd_T40 cs (n : Int) := ⟨_, rfl⟩
    have hqn : cs[n]'HNn.out = q := by rw [hq]; simp [rd_T40, List.getD, HNn.out]
    obtain ⟨A6, c6, A7, c7, hfn, b6, h6, b7, h7⟩ := k40_open (hqn ▸ HF.out.k n HNn.out)
    have hcq : codeB gs cs mm q = true := hq ▸ img_code HI.out n HNn.out
    have HBd : Hid ((1 ≤ q.f0 ∧ q.f0 ≤ 4095) ∧ 1 ≤ q.f3.length ∧ q.f3.length ≤ 1048576) := Lib.hid (by
      have h1 := inB_of (right_parts hcq).1
      have h2 := inB_of (right_parts hcq).2.2.2.1
      omega)
    have HI8 : Hid (imgB gs (cs.set n (slotsQ q (dN : Int))) mm = decide (q.f0 + (dN : Int) ≤ 4095)) := Lib.hid (by rw [hq]; exact img_slots HI.out n HNn.out (dN : Int) (by omega) (by have := HD.out; omega))
    have HI12 : Hid (imgB gs (cs.set n (instsQ q ⟨23, 0, 0, 0⟩)) mm = decide (q.f3.length < 1048576)) := Lib.hid (by rw [hq]; exact img_resume HI.out n HNn.out)
    have HI15 : Hid (imgB gs (cs.set n (instsQ q ⟨19, 0, 0, 0⟩)) mm = false) := Lib.hid (by rw [hq]; exact img_check HI.out n HNn.out)
    have HFn := Lib.hid hfn
    have HB6 := Lib.hid b6
    have HC6 := Lib.hid h6
    have HB7 := Lib.hid b7
    have HC7 := Lib.hid h7
    obtain ⟨a6, ha6, hn6⟩ := insts_cells h6 (by have := HBd.out; omega)
    subst ha6
    have HN6 := Lib.hid hn6
    have hsrc : Hid (∀ U, Below V3.heap.size V3 U → (U.cell? ⟨X3, 1, none⟩ = some (.slice (some ad) cs.length c1)) ∧ U.cell? (ad.add (n * 5)) = some (.int .i64 q.f0) ∧ U.cell? ⟨(ad.add (n * 5)).block, (ad.add (n * 5)).off + 1, none⟩ = some (.int .i64 q.f1) ∧ U.cell? ⟨(ad.add (n * 5)).block, (ad.add (n * 5)).off + 2, none⟩ = some (.int .i64 q.f2) ∧ U.cell? ⟨(ad.add (n * 5)).block, (ad.add (n * 5)).off + 3, none⟩ = some (.slice (some a6) q.f3.length c6) ∧ U.cell? ⟨(ad.add (n * 5)).block, (ad.add (n * 5)).off + 4, none⟩ = some (.slice A7 q.f4.length c7)) := Lib.hid (fun U hb => by
      have at_ := fun j u (hu : (f n)[j]? = some u) => (Below.cell hb (World.block_lt_of_cell? _ _ (HF.out.at_ n HNn.out j u hu))).trans (HF.out.at_ n HNn.out j u hu)
      rw [HFn.out] at at_
      exact ⟨(HS3.out.bm.below hb).cells3.1.2.1, at_ 0 _ rfl, by rw [← add_field _ _ 1 (by omega)]; exact at_ 1 _ rfl, by rw [← add_field _ _ 2 (by omega)]; exact at_ 2 _ rfl, by rw [← add_field _ _ 3 (by omega)]; exact at_ 3 _ rfl, by rw [← add_field _ _ 4 (by omega)]; exact at_ 4 _ rfl⟩)
    have HIm : Hid (∀ U, Below V3.heap.size V3 U → Kd.C k48 U A0 gs.length gs) := Lib.hid (fun U hb => (HS3.out.im.below rfl hb).h0)
    have HGl : Hid (gs.length ≤ 1000000 ∧ gs.length ≤ c0) := Lib.hid ⟨FA1.out.sm.g, HS3.out.im.b0⟩
    clear hq hqn hfn hcq b6 h6 b7 h7 hn6
    have p1 : (n < cs.length) = True := eq_true HNn.out
    have p2 : (0 ≤ (n : Int)) = True := eq_true (by omega)
    have p3 : ((n : Int) < (cs.length : Int)) = True := eq_true (by have := HNn.out; omega)
    have wd : IntKind.i64.wrap (dN : Int) = (dN : Int) := by rw [i64_w]; unfold wrap64; have := HD.out; omega
    have wx : IntKind.i64.wrap (q.f0 + (dN : Int)) = q.f0 + (dN : Int) := by rw [i64_w]; unfold wrap64; have := HD.out; have := HBd.out; omega
    obtain ⟨⟨x0, x1, x2⟩, -⟩ := hX.bx.cells3
    have y0 : V.cell? ⟨gY, n * 5, none⟩ = some (.int .i64 q.f0) := (hX.bY.cell (n * 5)).trans (hCur.at_ n HNn.out 0 _ (by rw [HFn.out]; rfl))
    have f0 := hX.bY.frozen (n * 5)
    have HXx := Lib.hid hX
    have HCu := Lib.hid hCur
    clear hX hCur
    go_wp2_with fail
    refine code_at (fun W => SlX V3 W X8 gY cY A0 c0 gs.length mm cs.length (cur.setIfInBounds (n * 5) (.int .i64 (q.f0 + (dN : Int))))) (HXx.out.store (n * 5) _) ?_
    rintro V7 hX7
    clear x0 x1 x2 y0 f0
    have hCu7 : CurIs (cur.setIfInBounds (n * 5) (.int .i64 (q.f0 + (dN : Int)))) cs.length (updF f n [.int .i64 (q.f0 + (dN : Int)), .int .i64 q.f1, .int .i64 q.f2, .slice (some a6) q.f3.length c6, .slice A7 q.f4.length c7]) := by
      have h := HCu.out.set n 0 HNn.out (by omega) (.int .i64 (q.f0 + (dN : Int)))
      rw [HFn.out] at h
      exact h
    clear HCu HXx
    generalize cur.setIfInBounds (n * 5) (.int .i64 (q.f0 + (dN : Int))) = cur7 at hX7 hCu7
    have HC7c := Lib.hid (slx_c HF.out hX7 hCu7 rfl (slotsQ q (dN : Int)) (k40_mk V7 (slotsQ q (dN : Int)) HB6.out (Kd.C_below HC6.out hX7.bel) HB7.out (Kd.C_below HC7.out hX7.bel)) (by have := HCl.out; omega))
    obtain ⟨s8, hs8⟩ : ∃ s8, decide (q.f0 + (dN : Int) ≤ 4095) = s8 := ⟨_, rfl⟩
    have HX7 := Lib.hid hX7
    have HCu7 := Lib.hid hCu7
    have HR8 : Hid (∀ U, Below V7.heap.size V7 U → Calls Try.prog 11 #[.agg #[.slice A0 gs.length c0, .slice (some ⟨gY, 0, none⟩) cs.length cY, .int .i64 mm]] U fun e w' => e = .returned (.bool s8) ∧ Below U.heap.size U w') := Lib.hid (fun U hb =>
      rightX_calls A0 (some ⟨gY, 0, none⟩) c0 cY gs cs (cs.set n (slotsQ q (dN : Int))) cs.length (by simp) mm HGl.out.1 (by have := HCl.out; omega) s8 (HI8.out.trans hs8) U (HIm.out U (below_step HX7.out.bel hb)) HGl.out.2 (Kd.C_below HC7c.out hb) HX7.out.cY)
    have HS7 : Hid (∀ U, Below V7.heap.size V7 U → U.cell? ⟨X8, 0, none⟩ = some (.slice A0 gs.length c0) ∧ U.cell? ⟨X8, 1, none⟩ = some (.slice (some ⟨gY, 0, none⟩) cs.length cY) ∧ U.cell? ⟨X8, 2, none⟩ = some (.int .i64 mm) ∧ U.cell? ⟨gY, n * 5, none⟩ = some (.int .i64 (q.f0 + (dN : Int)))) := Lib.hid (fun U hb => ⟨(HX7.out.bx.below hb).cells3.1.1, (HX7.out.bx.below hb).cells3.1.2.1, (HX7.out.bx.below hb).cells3.1.2.2, ((HX7.out.bY.below hb).cell (n * 5)).trans (HCu7.out.at_ n HNn.out 0 _ (by rw [updF_self]; rfl))⟩)
    clear hX7 hCu7
    obtain ⟨x0, x1, x2, y0⟩ := HS7.out V7 (Below.refl _ _)
    go_region_held3 (fun U => U.cell? ⟨X8, 0, none⟩ = some (.slice A0 gs.length c0) ∧ U.cell? ⟨X8, 1, none⟩ = some (.slice (some ⟨gY, 0, none⟩) cs.length cY) ∧ U.cell? ⟨X8, 2, none⟩ = some (.int .i64 mm) ∧ U.cell? ⟨gY, n * 5, none⟩ = some (.int .i64 (q.f0 + (dN : Int)))) (exact ⟨x0, x1, x2, y0⟩) (first
      | (have tok_ := HS7; go_at_call 11; clear tok_; refine at_world (fun U => Below V7.heap.size V7 U) (by first | exact Below.refl _ _ | exact (Below.refl _ _).drew) ?_; rintro U0 hU0; refine (HR8.out U0 hU0).mono ?_; rintro e U1 ⟨rfl, hb⟩; have HB8 := Lib.hid (below_step hU0 hb); clear hU0 hb x0 x1 x2 y0; obtain ⟨x0, x1, x2, y0⟩ := HS7.out U1 HB8.out))
    clear x0 x1 x2 y0
    go_wp2_with fail
    refine code_at (fun W => Below V7.heap.size V7 W) (by first | exact HB8.out | exact HB8.out.drew) ?_
    rintro V8 hB8
    have hX8 := HX7.out.below hB8
    obtain ⟨m1, e0, e1, e2, e3, e4⟩ := hsrc.out V8 hX8.bel
    obtain ⟨⟨x0, x1, x2⟩, -⟩ := hX8.bx.cells3
    have y0 : V8.cell? ⟨gY, n * 5, none⟩ = some (.int .i64 (q.f0 + (dN : Int))) := (hX8.bY.cell (n * 5)).trans (HCu7.out.at_ n HNn.out 0 _ (by rw [updF_self]; rfl))
    have y1 : V8.cell? ⟨gY, n * 5 + 1, none⟩ = some (.int .i64 q.f1) := (hX8.bY.cell (n * 5 + 1)).trans (HCu7.out.at_ n HNn.out 1 _ (by rw [updF_self]; rfl))
    have y2 : V8.cell? ⟨gY, n * 5 + 2, none⟩ = some (.int .i64 q.f2) := (hX8.bY.cell (n * 5 + 2)).trans (HCu7.out.at_ n HNn.out 2 _ (by rw [updF_self]; rfl))
    have y3 : V8.cell? ⟨gY, n * 5 + 3, none⟩ = some (.slice (some a6) q.f3.length c6) := (hX8.bY.cell (n * 5 + 3)).trans (HCu7.out.at_ n HNn.out 3 _ (by rw [updF_self]; rfl))
    have y4 : V8.cell? ⟨gY, n * 5 + 4, none⟩ = some (.slice A7 q.f4.length c7) := (hX8.bY.cell (n * 5 + 4)).trans (HCu7.out.at_ n HNn.out 4 _ (by rw [updF_self]; rfl))
    have f0 := hX8.bY.frozen (n * 5)
    have f1 := hX8.bY.frozen (n * 5 + 1)
    have f2 := hX8.bY.frozen (n * 5 + 2)
    have f3 := hX8.bY.frozen (n * 5 + 3)
    have f4 := hX8.bY.frozen (n * 5 + 4)
    have HX8 := Lib.hid hX8
    clear hX8 hB8 HB8
    go_still_tail 9, (by kernel_rfl)
    go_wp2_with fail
    refine code_at (fun W => ∃ cur', SlX V3 W X8 gY cY A0 c0 gs.length mm cs.length cur' ∧ CurIs cur' cs.length (updF f n [.int .i64 q.f0, .int .i64 q.f1, .int .i64 q.f2, .slice (some a6) q.f3.length c6, .slice A7 q.f4.length c7])) (HX8.out.row HCu7.out HNn.out _ _ _ _ _) ?_
    rintro V10 ⟨cur10, hX10, hCu10⟩
    clear x0 x1 x2 m1 e0 e1 e2 e3 e4 y0 y1 y2 y3 y4 f0 f1 f2 f3 f4
    obtain ⟨j0, hj42, hz⟩ := Option.map_eq_some_iff.1 info42
    simp only [Prod.mk.injEq] at hz
    obtain ⟨hz0, hz1, hz4⟩ := hz
    have HJ42 := Lib.hid hj42
    have HY0 := Lib.hid hz0
    have HY1 := Lib.hid hz1
    have HY4 := Lib.hid hz4
    clear hj42 hz0 hz1 hz4
    have HX10 := Lib.hid hX10
    have HCu10 := Lib.hid hCu10
    clear hX10 hCu10
    have HS10 : Hid (∀ U, Below V10.heap.size V10 U → U.cell? ⟨X8, 1, none⟩ = some (.slice (some ⟨gY, 0, none⟩) cs.length cY) ∧ U.cell? ⟨X3, 1, none⟩ = some (.slice (some ad) cs.length c1) ∧ U.cell? ⟨(ad.add (n * 5)).block, (ad.add (n * 5)).off + 3, none⟩ = some (.slice (some a6) q.f3.length c6)) := Lib.hid (fun U hb => ⟨(HX10.out.bx.below hb).cells3.1.2.1, (hsrc.out U (below_step HX10.out.bel hb)).1, (hsrc.out U (below_step HX10.out.bel hb)).2.2.2.2.1⟩)
    have HF10 : Hid (∀ U u, Below V10.heap.size V10 U → (U.setCell ⟨gY, n * 5 + 3, none⟩ u).cell? ⟨X8, 1, none⟩ = some (.slice (some ⟨gY, 0, none⟩) cs.length cY) ∧ (U.setCell ⟨gY, n * 5 + 3, none⟩ u).cell? ⟨X3, 1, none⟩ = some (.slice (some ad) cs.length c1) ∧ (U.setCell ⟨gY, n * 5 + 3, none⟩ u).cell? ⟨(ad.add (n * 5)).block, (ad.add (n * 5)).off + 3, none⟩ = some (.slice (some a6) q.f3.length c6)) := Lib.hid (fun U u hb => by
      have h := HS10.out U hb
      have l1 := HX10.out.lY
      have l2 := HX10.out.ne
      have l3 : (ad.add (n * 5)).block < V3.heap.size := World.block_lt_of_cell? V3 _ (hsrc.out V3 (Below.refl _ _)).2.1
      have l4 := HS3.out.bm.lt
      exact ⟨cell_far1 l2 h.1, cell_far1 (by omega) h.2.1, cell_far1 (by omega) h.2.2⟩)
    have HN10 : Hid (∀ U, Below V10.heap.size V10 U → ∀ j u, (flat42 q.f3)[j]? = some u → U.cell? (a6.add j) = some u) := Lib.hid (fun U hb j u hu => (Below.cell (below_step HX10.out.bel hb) (World.block_lt_of_cell? _ _ (HN6.out j u hu))).trans (HN6.out j u hu))
    have HY10 : Hid (∀ U, Below V10.heap.size V10 U → U.cell? ⟨gY, n * 5 + 3, none⟩ = some (.slice (some a6) q.f3.length c6) ∧ U.frozen? ⟨gY, n * 5 + 3, none⟩ = false) := Lib.hid (fun U hb => ⟨((HX10.out.bY.below hb).cell _).trans (HCu10.out.at_ n HNn.out 3 _ (by rw [updF_self]; rfl)), (HX10.out.bY.below hb).frozen _⟩)
    have HG10 : Hid (gY < V10.heap.size) := Lib.hid HX10.out.bY.lt
    obtain ⟨k1, k2, k3⟩ := HS10.out V10 (Below.refl _ _)
    go_cut [8] from 63 to 78 (fun v8 W => ∃ (gJ cJ : Nat) (cur' : Array Value), v8 = .pointer (some ⟨X8, 0, none⟩) ∧ SlX V3 W X8 gY cY A0 c0 gs.length mm cs.length cur' ∧ CurIs cur' cs.length (updF f n [.int .i64 q.f0, .int .i64 q.f1, .int .i64 q.f2, .slice (some ⟨gJ, 0, none⟩) (q.f3.length + 1) cJ, .slice A7 q.f4.length c7]) ∧ Kd.C k42 W (some ⟨gJ, 0, none⟩) (q.f3.length + 1) (q.f3 ++ [⟨23, 0, 0, 0⟩]) ∧ q.f3.length + 1 ≤ cJ)
    case first =>
      go_region_held_law (fun U => U.cell? ⟨X8, 1, none⟩ = some (.slice (some ⟨gY, 0, none⟩) cs.length cY) ∧ U.cell? ⟨X3, 1, none⟩ = some (.slice (some ad) cs.length c1) ∧ U.cell? ⟨(ad.add (n * 5)).block, (ad.add (n * 5)).off + 3, none⟩ = some (.slice (some a6) q.f3.length c6)) (with_reducible first | exact HS10.out _ (Below.refl _ _) | exact HS10.out _ (Below.refl _ _).drew | exact HS10.out _ (below_alloc (Below.refl _ _) _) | exact HS10.out _ ((below_alloc (Below.refl _ _) _).drew) | exact HS10.out _ (below_alloc (below_alloc (Below.refl _ _) _) _) | exact HS10.out _ ((below_alloc (below_alloc (Below.refl _ _) _) _).drew) | exact HS10.out _ HB11a.out | exact HS10.out _ (below_alloc HB11a.out _) | exact HS10.out _ HB11b.out | exact HF10.out _ _ HB11b.out) (first | (refine step_append_grows rfl (.tmp 66) (.tmp 72) 37 rfl 42 j0 _ 4 32 Try.underlying37 HJ42.out HY0.out HY1.out HY4.out rfl (by decide) (some _) 0 0 [] (by simp [Act.eval, Act.put]; rfl) (fun e => by cases e) (by simp) (fun b e j u hu => by simp at hu) a6 q.f3.length c6 (flat42 q.f3) (by simp [Act.eval, Act.put]) (flat42_len _) (by with_reducible first | exact HN10.out _ (below_alloc (Below.refl _ _) _) | exact HN10.out _ ((below_alloc (Below.refl _ _) _).drew) | exact HN10.out _ (below_alloc (below_alloc (Below.refl _ _) _) _) | exact HN10.out _ ((below_alloc (below_alloc (Below.refl _ _) _) _).drew)) (flat42_one _) (by have := HBd.out; omega) (by have := HBd.out; unfold maxLen; omega) (by have := HBd.out; omega) ?_; intro v' w1 hown hgrow; obtain ⟨gI, cI, rfl⟩ := Joins.ownsRow_form hown (by have := HBd.out; omega); have HB11a := Lib.hid (show Below V10.heap.size V10 w1 from (by with_reducible first | exact below_grown0 (below_alloc (Below.refl _ _) _) hgrow | exact below_grown0 ((below_alloc (Below.refl _ _) _).drew) hgrow | exact below_grown0 (below_alloc (below_alloc (Below.refl _ _) _) _) hgrow | exact below_grown0 ((below_alloc (below_alloc (Below.refl _ _) _) _).drew) hgrow)); have HO11a := Lib.hid (show w1.ownsRow V10.heap.size 42 4 (.slice (some ⟨gI, 0, none⟩) (0 + q.f3.length) cI) (0 + q.f3.length) ([] ++ flat42 q.f3) from (by with_reducible first | exact own_lower (below_alloc (Below.refl V10.heap.size V10) _).size hown | exact own_lower ((below_alloc (Below.refl V10.heap.size V10) _).drew).size hown | exact own_lower (below_alloc (below_alloc (Below.refl V10.heap.size V10) _) _).size hown | exact own_lower ((below_alloc (below_alloc (Below.refl V10.heap.size V10) _) _).drew).size hown)); (first | (have hbe : Blk w1 V10.heap.size #[.int .i64 23, .int .i64 0, .int .i64 0, .int .i64 0] 42 := (by with_reducible first | exact grown_blk hgrow ((Blk.new V10 _ 42).alloc _) | exact grown_blk hgrow ((Blk.new V10 _ 42).alloc _).drew); have HE11 := Lib.hid hbe; clear hbe) | (have hbe : Blk w1 (V10.heap.size + 1) #[.int .i64 23, .int .i64 0, .int .i64 0, .int .i64 0] 42 := (by with_reducible first | exact grown_blk hgrow (Blk.new' (by simp) _ 42) | exact grown_blk hgrow (Blk.new' (by simp) _ 42).drew); have HE11 := Lib.hid hbe; clear hbe) | skip); obtain ⟨k1, k2, k3⟩ := HS10.out _ HB11a.out; clear hown hgrow) | (refine step_append_own rfl (.tmp 73) (.tmp 75) 37 rfl V10.heap.size 42 j0 _ 4 32 Try.underlying37 HJ42.out HY0.out HY1.out HY4.out rfl (by decide) (.slice (some ⟨gI, 0, none⟩) q.f3.length cI) q.f3.length (flat42 q.f3) (by simp [Act.eval, Act.put]) (by first | exact own_z HO11a.out | exact (own_z HO11a.out).alloc _) (_) 1 1 [.int .i64 23, .int .i64 0, .int .i64 0, .int .i64 0] (by simp [Act.eval, Act.put]; rfl) rfl (by first | exact one_cells HE11.out | exact one_cells (Blk.new _ _ _)) (flat42_one [⟨23, 0, 0, 0⟩]) (by have := HBd.out; unfold maxLen; omega) (by have := HBd.out; omega) (by first | exact HB11a.out.size | exact (below_alloc HB11a.out _).size) ?_; intro v' w2 hown hgrow; obtain ⟨gJ11, cJ11, rfl⟩ := Joins.ownsRow_form hown (by omega); have HB11b := Lib.hid (show Below V10.heap.size V10 w2 from (by first | exact HB11a.out.grown hgrow HB11a.out.size (fun k hk => (HO11a.out.lt k hk).1) | exact (below_alloc HB11a.out _).grown hgrow (below_alloc HB11a.out _).size (fun k hk => (HO11a.out.lt k hk).1))); have HO11b := Lib.hid hown; obtain ⟨y3, f3⟩ := HY10.out _ HB11b.out; obtain ⟨k1, k2, k3⟩ := HS10.out _ HB11b.out; clear hown hgrow))
      all_goals
        go_wp2_with fail
        go_meet
        exact ⟨gJ11, cJ11, _, rfl, (HX10.out.below HB11b.out).store (n * 5 + 3) _, (HCu10.out.set n 3 HNn.out (by omega) _).cong (fun i hi => by simp only [updF_self, updF_updF]; rfl), insts_kept (m := [⟨23, 0, 0, 0⟩]) HO11b.out (by simp) (by have := HBd.out; omega) HG10.out⟩
    case rest =>
    clear k1 k2 k3
    obtain ⟨gJ11, cJ11, cur11, rfl, hX11, hCu11, hk42, hcj⟩ := hcut
    have HK11 := Lib.hid hk42
    have HJ11 := Lib.hid hcj
    clear hk42 hcj
    obtain ⟨V11, rfl⟩ : ∃ V, V = wc := ⟨_, rfl⟩
    have HC11c := Lib.hid (slx_c HF.out hX11 hCu11 rfl (instsQ q ⟨23, 0, 0, 0⟩) (k40_insts V11 q ⟨23, 0, 0, 0⟩ HJ11.out HK11.out HB7.out (Kd.C_below HC7.out hX11.bel)) (by have := HCl.out; omega))
    obtain ⟨s12, hs12⟩ : ∃ s12, decide (q.f3.length < 1048576) = s12 := ⟨_, rfl⟩
    have hs12i : decide ((q.f3.length : Int) < 1048576) = s12 := by rw [← hs12]; exact decide_eq_decide.2 (by omega)
    have HX11 := Lib.hid hX11
    have HCu11 := Lib.hid hCu11
    have HR12 : Hid (∀ U, Below V11.heap.size V11 U → Calls Try.prog 11 #[.agg #[.slice A0 gs.length c0, .slice (some ⟨gY, 0, none⟩) cs.length cY, .int .i64 mm]] U fun e w' => e = .returned (.bool s12) ∧ Below U.heap.size U w') := Lib.hid (fun U hb =>
      rightX_calls A0 (some ⟨gY, 0, none⟩) c0 cY gs cs (cs.set n (instsQ q ⟨23, 0, 0, 0⟩)) cs.length (by simp) mm HGl.out.1 (by have := HCl.out; omega) s12 (HI12.out.trans hs12) U (HIm.out U (below_step HX11.out.bel hb)) HGl.out.2 (Kd.C_below HC11c.out hb) HX11.out.cY)
    have HS11 : Hid (∀ U, Below V11.heap.size V11 U → U.cell? ⟨X8, 0, none⟩ = some (.slice A0 gs.length c0) ∧ U.cell? ⟨X8, 1, none⟩ = some (.slice (some ⟨gY, 0, none⟩) cs.length cY) ∧ U.cell? ⟨X8, 2, none⟩ = some (.int .i64 mm) ∧ U.cell? ⟨X3, 1, none⟩ = some (.slice (some ad) cs.length c1) ∧ U.cell? ⟨(ad.add (n * 5)).block, (ad.add (n * 5)).off + 3, none⟩ = some (.slice (some a6) q.f3.length c6)) := Lib.hid (fun U hb => ⟨(HX11.out.bx.below hb).cells3.1.1, (HX11.out.bx.below hb).cells3.1.2.1, (HX11.out.bx.below hb).cells3.1.2.2, (hsrc.out U (below_step HX11.out.bel hb)).1, (hsrc.out U (below_step HX11.out.bel hb)).2.2.2.2.1⟩)
    clear hX11 hCu11
    obtain ⟨x0, x1, x2, m1, e3⟩ := HS11.out V11 (Below.refl _ _)
    go_wp2_with fail
    go_region_held3 (fun U => U.cell? ⟨X8, 0, none⟩ = some (.slice A0 gs.length c0) ∧ U.cell? ⟨X8, 1, none⟩ = some (.slice (some ⟨gY, 0, none⟩) cs.length cY) ∧ U.cell? ⟨X8, 2, none⟩ = some (.int .i64 mm) ∧ U.cell? ⟨X3, 1, none⟩ = some (.slice (some ad) cs.length c1) ∧ U.cell? ⟨(ad.add (n * 5)).block, (ad.add (n * 5)).off + 3, none⟩ = some (.slice (some a6) q.f3.length c6)) (exact ⟨x0, x1, x2, m1, e3⟩) (first
      | (have tok_ := HS11; go_at_call 11; clear tok_; refine at_world (fun U => Below V11.heap.size V11 U) (by first | exact Below.refl _ _ | exact (Below.refl _ _).drew) ?_; rintro U0 hU0; refine (HR12.out U0 hU0).mono ?_; rintro e U1 ⟨rfl, hb⟩; have HB12 := Lib.hid (below_step hU0 hb); clear hU0 hb x0 x1 x2 m1 e3; obtain ⟨x0, x1, x2, m1, e3⟩ := HS11.out U1 HB12.out))
    clear x0 x1 x2 m1 e3
    go_wp2_with fail
    refine code_at (fun W => Below V11.heap.size V11 W) (by first | exact HB12.out | exact HB12.out.drew) ?_
    rintro V12 hB12
    have hX12 := HX11.out.below hB12
    have hCu12 := HCu11.out
    clear hB12 HB12
    have HX12 := Lib.hid hX12
    have HCu12 := Lib.hid hCu12
    clear hX12 hCu12
    have HS12 : Hid (∀ U, Below V12.heap.size V12 U → U.cell? ⟨X8, 1, none⟩ = some (.slice (some ⟨gY, 0, none⟩) cs.length cY) ∧ U.cell? ⟨X3, 1, none⟩ = some (.slice (some ad) cs.length c1) ∧ U.cell? ⟨(ad.add (n * 5)).block, (ad.add (n * 5)).off + 3, none⟩ = some (.slice (some a6) q.f3.length c6)) := Lib.hid (fun U hb => ⟨(HX12.out.bx.below hb).cells3.1.2.1, (hsrc.out U (below_step HX12.out.bel hb)).1, (hsrc.out U (below_step HX12.out.bel hb)).2.2.2.2.1⟩)
    have HF12 : Hid (∀ U u, Below V12.heap.size V12 U → (U.setCell ⟨gY, n * 5 + 3, none⟩ u).cell? ⟨X8, 1, none⟩ = some (.slice (some ⟨gY, 0, none⟩) cs.length cY) ∧ (U.setCell ⟨gY, n * 5 + 3, none⟩ u).cell? ⟨X3, 1, none⟩ = some (.slice (some ad) cs.length c1) ∧ (U.setCell ⟨gY, n * 5 + 3, none⟩ u).cell? ⟨(ad.add (n * 5)).block, (ad.add (n * 5)).off + 3, none⟩ = some (.slice (some a6) q.f3.length c6)) := Lib.hid (fun U u hb => by
      have h := HS12.out U hb
      have l1 := HX12.out.lY
      have l2 := HX12.out.ne
      have l3 : (ad.add (n * 5)).block < V3.heap.size := World.block_lt_of_cell? V3 _ (hsrc.out V3 (Below.refl _ _)).2.1
      have l4 := HS3.out.bm.lt
      exact ⟨cell_far1 l2 h.1, cell_far1 (by omega) h.2.1, cell_far1 (by omega) h.2.2⟩)
    have HN12 : Hid (∀ U, Below V12.heap.size V12 U → ∀ j u, (flat42 q.f3)[j]? = some u → U.cell? (a6.add j) = some u) := Lib.hid (fun U hb j u hu => (Below.cell (below_step HX12.out.bel hb) (World.block_lt_of_cell? _ _ (HN6.out j u hu))).trans (HN6.out j u hu))
    have HY12 : Hid (∀ U, Below V12.heap.size V12 U → U.cell? ⟨gY, n * 5 + 3, none⟩ = some (.slice (some ⟨gJ11, 0, none⟩) (q.f3.length + 1) cJ11) ∧ U.frozen? ⟨gY, n * 5 + 3, none⟩ = false) := Lib.hid (fun U hb => ⟨((HX12.out.bY.below hb).cell _).trans (HCu12.out.at_ n HNn.out 3 _ (by rw [updF_self]; rfl)), (HX12.out.bY.below hb).frozen _⟩)
    have HG12 : Hid (gY < V12.heap.size) := Lib.hid HX12.out.bY.lt
    obtain ⟨k1, k2, k3⟩ := HS12.out V12 (Below.refl _ _)
    go_cut [8] from 90 to 105 (fun v8 W => ∃ (gJ cJ : Nat) (cur' : Array Value), v8 = .pointer (some ⟨X8, 0, none⟩) ∧ SlX V3 W X8 gY cY A0 c0 gs.length mm cs.length cur' ∧ CurIs cur' cs.length (updF f n [.int .i64 q.f0, .int .i64 q.f1, .int .i64 q.f2, .slice (some ⟨gJ, 0, none⟩) (q.f3.length + 1) cJ, .slice A7 q.f4.length c7]) ∧ Kd.C k42 W (some ⟨gJ, 0, none⟩) (q.f3.length + 1) (q.f3 ++ [⟨19, 0, 0, 0⟩]) ∧ q.f3.length + 1 ≤ cJ)
    case first =>
      go_region_held_law (fun U => U.cell? ⟨X8, 1, none⟩ = some (.slice (some ⟨gY, 0, none⟩) cs.length cY) ∧ U.cell? ⟨X3, 1, none⟩ = some (.slice (some ad) cs.length c1) ∧ U.cell? ⟨(ad.add (n * 5)).block, (ad.add (n * 5)).off + 3, none⟩ = some (.slice (some a6) q.f3.length c6)) (with_reducible first | exact HS12.out _ (Below.refl _ _) | exact HS12.out _ (Below.refl _ _).drew | exact HS12.out _ (below_alloc (Below.refl _ _) _) | exact HS12.out _ ((below_alloc (Below.refl _ _) _).drew) | exact HS12.out _ (below_alloc (below_alloc (Below.refl _ _) _) _) | exact HS12.out _ ((below_alloc (below_alloc (Below.refl _ _) _) _).drew) | exact HS12.out _ HB14a.out | exact HS12.out _ (below_alloc HB14a.out _) | exact HS12.out _ HB14b.out | exact HF12.out _ _ HB14b.out) (first | (refine step_append_grows rfl (.tmp 93) (.tmp 99) 37 rfl 42 j0 _ 4 32 Try.underlying37 HJ42.out HY0.out HY1.out HY4.out rfl (by decide) (some _) 0 0 [] (by simp [Act.eval, Act.put]; rfl) (fun e => by cases e) (by simp) (fun b e j u hu => by simp at hu) a6 q.f3.length c6 (flat42 q.f3) (by simp [Act.eval, Act.put]) (flat42_len _) (by with_reducible first | exact HN12.out _ (below_alloc (Below.refl _ _) _) | exact HN12.out _ ((below_alloc (Below.refl _ _) _).drew) | exact HN12.out _ (below_alloc (below_alloc (Below.refl _ _) _) _) | exact HN12.out _ ((below_alloc (below_alloc (Below.refl _ _) _) _).drew)) (flat42_one _) (by have := HBd.out; omega) (by have := HBd.out; unfold maxLen; omega) (by have := HBd.out; omega) ?_; intro v' w1 hown hgrow; obtain ⟨gI, cI, rfl⟩ := Joins.ownsRow_form hown (by have := HBd.out; omega); have HB14a := Lib.hid (show Below V12.heap.size V12 w1 from (by with_reducible first | exact below_grown0 (below_alloc (Below.refl _ _) _) hgrow | exact below_grown0 ((below_alloc (Below.refl _ _) _).drew) hgrow | exact below_grown0 (below_alloc (below_alloc (Below.refl _ _) _) _) hgrow | exact below_grown0 ((below_alloc (below_alloc (Below.refl _ _) _) _).drew) hgrow)); have HO14a := Lib.hid (show w1.ownsRow V12.heap.size 42 4 (.slice (some ⟨gI, 0, none⟩) (0 + q.f3.length) cI) (0 + q.f3.length) ([] ++ flat42 q.f3) from (by with_reducible first | exact own_lower (below_alloc (Below.refl V12.heap.size V12) _).size hown | exact own_lower ((below_alloc (Below.refl V12.heap.size V12) _).drew).size hown | exact own_lower (below_alloc (below_alloc (Below.refl V12.heap.size V12) _) _).size hown | exact own_lower ((below_alloc (below_alloc (Below.refl V12.heap.size V12) _) _).drew).size hown)); (first | (have hbe : Blk w1 V12.heap.size #[.int .i64 19, .int .i64 0, .int .i64 0, .int .i64 0] 42 := (by with_reducible first | exact grown_blk hgrow ((Blk.new V12 _ 42).alloc _) | exact grown_blk hgrow ((Blk.new V12 _ 42).alloc _).drew); have HE14 := Lib.hid hbe; clear hbe) | (have hbe : Blk w1 (V12.heap.size + 1) #[.int .i64 19, .int .i64 0, .int .i64 0, .int .i64 0] 42 := (by with_reducible first | exact grown_blk hgrow (Blk.new' (by simp) _ 42) | exact grown_blk hgrow (Blk.new' (by simp) _ 42).drew); have HE14 := Lib.hid hbe; clear hbe) | skip); obtain ⟨k1, k2, k3⟩ := HS12.out _ HB14a.out; clear hown hgrow) | (refine step_append_own rfl (.tmp 100) (.tmp 102) 37 rfl V12.heap.size 42 j0 _ 4 32 Try.underlying37 HJ42.out HY0.out HY1.out HY4.out rfl (by decide) (.slice (some ⟨gI, 0, none⟩) q.f3.length cI) q.f3.length (flat42 q.f3) (by simp [Act.eval, Act.put]) (by first | exact own_z HO14a.out | exact (own_z HO14a.out).alloc _) (_) 1 1 [.int .i64 19, .int .i64 0, .int .i64 0, .int .i64 0] (by simp [Act.eval, Act.put]; rfl) rfl (by first | exact one_cells HE14.out | exact one_cells (Blk.new _ _ _)) (flat42_one [⟨19, 0, 0, 0⟩]) (by have := HBd.out; unfold maxLen; omega) (by have := HBd.out; omega) (by first | exact HB14a.out.size | exact (below_alloc HB14a.out _).size) ?_; intro v' w2 hown hgrow; obtain ⟨gJ14, cJ14, rfl⟩ := Joins.ownsRow_form hown (by omega); have HB14b := Lib.hid (show Below V12.heap.size V12 w2 from (by first | exact HB14a.out.grown hgrow HB14a.out.size (fun k hk => (HO14a.out.lt k hk).1) | exact (below_alloc HB14a.out _).grown hgrow (below_alloc HB14a.out _).size (fun k hk => (HO14a.out.lt k hk).1))); have HO14b := Lib.hid hown; obtain ⟨y3, f3⟩ := HY12.out _ HB14b.out; obtain ⟨k1, k2, k3⟩ := HS12.out _ HB14b.out; clear hown hgrow))
      all_goals
        go_wp2_with fail
        go_meet
        exact ⟨gJ14, cJ14, _, rfl, (HX12.out.below HB14b.out).store (n * 5 + 3) _, (HCu12.out.set n 3 HNn.out (by omega) _).cong (fun i hi => by simp only [updF_self, updF_updF]; rfl), insts_kept (m := [⟨19, 0, 0, 0⟩]) HO14b.out (by simp) (by have := HBd.out; omega) HG12.out⟩
    case rest =>
    clear k1 k2 k3
    obtain ⟨gJ14, cJ14, cur14, rfl, hX14, hCu14, hk42, hcj⟩ := hcut
    have HK14 := Lib.hid hk42
    have HJ14 := Lib.hid hcj
    clear hk42 hcj
    obtain ⟨V14, rfl⟩ : ∃ V, V = wc := ⟨_, rfl⟩
    have HC14c := Lib.hid (slx_c HF.out hX14 hCu14 rfl (instsQ q ⟨19, 0, 0, 0⟩) (k40_insts V14 q ⟨19, 0, 0, 0⟩ HJ14.out HK14.out HB7.out (Kd.C_below HC7.out hX14.bel)) (by have := HCl.out; omega))
    have HX14 := Lib.hid hX14
    clear hX14 hCu14
    obtain ⟨⟨x0, x1, x2⟩, -⟩ := HX14.out.bx.cells3
    go_wp2_with fail
    refine (rightX_calls A0 (some ⟨gY, 0, none⟩) c0 cY gs cs (cs.set n (instsQ q ⟨19, 0, 0, 0⟩)) cs.length (by simp) mm HGl.out.1 (by have := HCl.out; omega) false HI15.out _ (HIm.out _ HX14.out.bel) HGl.out.2 HC14c.out HX14.out.cY).mono ?_
    rintro e V15 ⟨rfl, hb⟩
    go_wp2
    go_ret
    exact ⟨rfl, below_step (below_step HS3.out.bel HX14.out.bel) hb⟩
end
end Go.Proofs.Ytoiakaagbgfocaa.PC
