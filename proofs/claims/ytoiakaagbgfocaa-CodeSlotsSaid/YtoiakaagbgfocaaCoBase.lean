/- Plain law of layer 22: told, with rounds enough. No program in sight. Plain law of layer 22: what Great lets by is few. No program in sight. An image handed in, opened to whatever depth: rows of structs that hold rows. Package law of layer 22: Same at two few images. -/
import Derived.Test.YtoiakaagbgfocaaPCx2
import Derived.Test.YtoiakaagbgfocaaCoSame
import Derived.Test.YtoiakaagbgfocaaCoSmall
import Derived.SizedLaws
import Derived.Test.YtoiakaagbgfocaaRows
import Derived.Deep.Slices
import Derived.ChangeSame
import Derived.Lib.SmallJoins
import Derived.OpenShut
import Derived.ChangeArms
import Derived.ProofKit
import Derived.Test.YtoiakaagbgfocaaCoAlive
namespace Go.Proofs.Ytoiakaagbgfocaa.PC
section
open Go.RowKit Go.Proofs.YtoiakaagbgfocaaW.PrintWords Go.Proofs.YtoiakaagbgfocaaW.PrintLast Go.Proofs.YtoiakaagbgfocaaW.PrintMore
set_option linter.unusedVariables false
set_option linter.unusedSimpArgs false

/-- told, with rounds enough -/
def Ev {α : Type} (f : Nat → Option α) (r : α) : Prop := ∃ K, ∀ k, K ≤ k → f k = some r
theorem Ev.pure {α : Type} (r : α) : Ev (fun _ => some r) r := ⟨0, fun _ _ => rfl⟩
theorem Ev.step {α : Type} {f : Nat → Option α} {r : α} (h : Ev (fun k => f (k + 1)) r) : Ev f r := by
  obtain ⟨K, h⟩ := h
  refine ⟨K + 1, fun k hk => ?_⟩
  obtain ⟨j, rfl⟩ : ∃ j, k = j + 1 := ⟨k - 1, by omega⟩
  exact h j (by omega)
theorem Ev.bind {α β : Type} {f : Nat → Option α} {g : Nat → α → Option β} {a : α} {b : β} (h : Ev f a) (h2 : Ev (fun k => g k a) b) : Ev (fun k => (f k).bind (g k)) b := by
  obtain ⟨K, h⟩ := h
  obtain ⟨K2, h2⟩ := h2
  refine ⟨max K K2, fun k hk => ?_⟩
  show (f k).bind (g k) = _
  rw [h k (by omega)]
  exact h2 k (by omega)
theorem Ev.pos {α : Type} {c : Prop} [Decidable c] {f g : Nat → Option α} {r : α} (hc : c) (h : Ev f r) : Ev (fun k => if c then f k else g k) r := by
  obtain ⟨K, h⟩ := h
  exact ⟨K, fun k hk => (if_pos hc).trans (h k hk)⟩
theorem Ev.neg {α : Type} {c : Prop} [Decidable c] {f g : Nat → Option α} {r : α} (hc : ¬ c) (h : Ev g r) : Ev (fun k => if c then f k else g k) r := by
  obtain ⟨K, h⟩ := h
  exact ⟨K, fun k hk => (if_neg hc).trans (h k hk)⟩
theorem w64s (n : Nat) (h : n + 1 < 9223372036854775808) : wrap64 ((n : Int) + 1) = ((n + 1 : Nat) : Int) := by unfold wrap64; omega
theorem w64n (n m : Nat) (h : n + m < 9223372036854775808) : wrap64 ((n : Int) + (m : Int)) = ((n + m : Nat) : Int) := by unfold wrap64; omega

/-- an image within what is looked at -/
structure Im.Few (m : Im) : Prop where mk :: (sm : m.Sm) (n : (imgN m.g m.cs m.m).length ≤ 1000000)
end
section
open Go.RowKit Go.Proofs.YtoiakaagbgfocaaW.PrintWords Go.Proofs.YtoiakaagbgfocaaW.PrintLast Go.Proofs.YtoiakaagbgfocaaW.PrintMore
set_option linter.unusedVariables false
set_option linter.unusedSimpArgs false

/-- the rows' lengths are of this reach -/
structure Im.Fit (R : Nat) (m : Im) : Prop where mk ::
  (g : m.g.length ≤ R) (c : m.cs.length ≤ R) (gp : ∀ g ∈ m.g, g.f3.length ≤ R) (ci : ∀ c ∈ m.cs, c.f3.length ≤ R ∧ c.f4.length ≤ R)
def gsum (gs : List S48) : Nat := (gs.map fun g => g.f3.length).sum
def csum (cs : List S40) : Nat := (cs.map fun c => c.f3.length + c.f4.length).sum
theorem gsum_cons (x : S48) (l : List S48) : gsum (x :: l) = x.f3.length + gsum l := by simp [gsum]
theorem csum_cons (x : S40) (l : List S40) : csum (x :: l) = x.f3.length + x.f4.length + csum l := by simp [csum]
theorem great_l1 (gs : List S48) (cs : List S40) (m : Int) (hc : cs.length ≤ 1000000) : ∀ (n i s : Nat), i + n = cs.length → s + csum (cs.drop i) < 9223372036854775808 →
    Ev (fun k => droguelaw22_Great.l1 k (s : Int) (i : Int) gs cs m) (decide (((s + csum (cs.drop i) : Nat) : Int) > 5000))
  | 0, i, s, hi, hs => by
    rw [List.drop_eq_nil_of_le (by omega)]
    refine Ev.step ?_
    simp only [droguelaw22_Great.l1]
    exact Ev.neg (by omega) (by simpa [csum] using Ev.pure (decide ((s : Int) > 5000)))
  | n + 1, i, s, hi, hs => by
    have hi1 : i < cs.length := by omega
    have he : rd_T40 cs (i : Int) = cs[i] := by simp [rd_T40, List.getD, hi1]
    have hd : csum (cs.drop i) = cs[i].f3.length + cs[i].f4.length + csum (cs.drop (i + 1)) := by rw [List.drop_eq_getElem_cons hi1, csum_cons]
    have ih := great_l1 gs cs m hc n (i + 1) (s + (cs[i].f3.length + cs[i].f4.length)) (by omega) (by omega)
    refine Ev.step ?_
    simp only [droguelaw22_Great.l1, he, w64s i (by omega), w64n cs[i].f3.length cs[i].f4.length (by omega), w64n s (cs[i].f3.length + cs[i].f4.length) (by omega)]
    refine Ev.pos (by omega) (Ev.pos (by omega) ?_)
    rw [show s + csum (cs.drop i) = s + (cs[i].f3.length + cs[i].f4.length) + csum (cs.drop (i + 1)) by omega]
    exact ih
theorem great_l0 (gs : List S48) (cs : List S40) (m : Int) (hg : gs.length ≤ 1000000) (hc : cs.length ≤ 1000000) : ∀ (n i s : Nat), i + n = gs.length → s + gsum (gs.drop i) + csum cs < 9223372036854775808 →
    Ev (fun k => droguelaw22_Great.l0 k (s : Int) (i : Int) gs cs m) (decide (((s + gsum (gs.drop i) + csum cs : Nat) : Int) > 5000))
  | 0, i, s, hi, hs => by
    rw [List.drop_eq_nil_of_le (by omega)] at hs ⊢
    have h1 := great_l1 gs cs m hc cs.length 0 s (by omega) (by simpa [gsum] using hs)
    refine Ev.step ?_
    simp only [droguelaw22_Great.l0]
    exact Ev.neg (by omega) (by simpa [gsum] using h1)
  | n + 1, i, s, hi, hs => by
    have hi1 : i < gs.length := by omega
    have he : rd_T48 gs (i : Int) = gs[i] := by simp [rd_T48, List.getD, hi1]
    have hd : gsum (gs.drop i) = gs[i].f3.length + gsum (gs.drop (i + 1)) := by rw [List.drop_eq_getElem_cons hi1, gsum_cons]
    have ih := great_l0 gs cs m hg hc n (i + 1) (s + gs[i].f3.length) (by omega) (by omega)
    refine Ev.step ?_
    simp only [droguelaw22_Great.l0, he, w64s i (by omega), w64n s gs[i].f3.length (by omega)]
    refine Ev.pos (by omega) (Ev.pos (by omega) ?_)
    rw [hd, ← Nat.add_assoc]
    exact ih
theorem gsum_le (R : Nat) : ∀ (gs : List S48), (∀ g ∈ gs, g.f3.length ≤ R) → gsum gs ≤ gs.length * R
  | [], _ => by simp [gsum]
  | g :: gs, h => by
    have h1 := gsum_le R gs (fun x hx => h x (List.mem_cons_of_mem _ hx))
    have h2 := h g (List.mem_cons_self ..)
    have h3 : gsum (g :: gs) = g.f3.length + gsum gs := by simp [gsum]
    rw [h3, List.length_cons, Nat.succ_mul]
    omega
theorem csum_le (R : Nat) : ∀ (cs : List S40), (∀ c ∈ cs, c.f3.length ≤ R ∧ c.f4.length ≤ R) → csum cs ≤ cs.length * (2 * R)
  | [], _ => by simp [csum]
  | c :: cs, h => by
    have h1 := csum_le R cs (fun x hx => h x (List.mem_cons_of_mem _ hx))
    have h2 := h c (List.mem_cons_self ..)
    have h3 : csum (c :: cs) = c.f3.length + c.f4.length + csum cs := by simp [csum]
    rw [h3, List.length_cons, Nat.succ_mul]
    omega
theorem le_gsum : ∀ (gs : List S48), ∀ g ∈ gs, g.f3.length ≤ gsum gs
  | g0 :: gs, g, h => by
    have h3 : gsum (g0 :: gs) = g0.f3.length + gsum gs := by simp [gsum]
    rcases List.mem_cons.1 h with rfl | h
    · omega
    · have := le_gsum gs g h
      omega
theorem le_csum : ∀ (cs : List S40), ∀ c ∈ cs, c.f3.length + c.f4.length ≤ csum cs
  | c0 :: cs, c, h => by
    have h3 : csum (c0 :: cs) = c0.f3.length + c0.f4.length + csum cs := by simp [csum]
    rcases List.mem_cons.1 h with rfl | h
    · omega
    · have := le_csum cs c h
      omega
theorem parts_len : ∀ l : List S73, (l.flatMap partN).length = 2 * l.length
  | [] => rfl
  | x :: l => by rw [List.flatMap_cons, List.length_append, parts_len l, List.length_cons]; simp [partN]; omega
theorem insts_len : ∀ l : List S42, (l.flatMap instN).length = 4 * l.length
  | [] => rfl
  | x :: l => by rw [List.flatMap_cons, List.length_append, insts_len l, List.length_cons]; simp [instN]; omega
theorem pads_len : ∀ l : List S66, (l.flatMap padN).length = 3 * l.length
  | [] => rfl
  | x :: l => by rw [List.flatMap_cons, List.length_append, pads_len l, List.length_cons]; simp [padN]; omega
theorem glue_len (x : S48) : (glueN x).length = 4 + 2 * x.f3.length := by
  unfold glueN
  rw [List.length_append, parts_len]
  rfl
theorem code_len (x : S40) : (codeN x).length = 5 + 4 * x.f3.length + 3 * x.f4.length := by
  unfold codeN
  rw [List.length_append, List.length_append, List.length_append, insts_len, pads_len]
  simp only [List.length_cons, List.length_nil]
  omega
theorem glues_len : ∀ l : List S48, (l.flatMap glueN).length = 4 * l.length + 2 * gsum l
  | [] => rfl
  | x :: l => by
    have h3 : gsum (x :: l) = x.f3.length + gsum l := by simp [gsum]
    rw [List.flatMap_cons, List.length_append, glues_len l, List.length_cons, h3, glue_len]; omega
theorem codes_len : ∀ l : List S40, (l.flatMap codeN).length ≤ 5 * l.length + 4 * csum l
  | [] => by simp
  | x :: l => by
    have h3 : csum (x :: l) = x.f3.length + x.f4.length + csum l := by simp [csum]
    have := codes_len l
    rw [List.flatMap_cons, List.length_append, List.length_cons, h3, code_len]; omega
theorem few_of (m : Im) (hn : m.g.length + m.cs.length ≤ 200) (hs : gsum m.g + csum m.cs ≤ 5000) : m.Few := by
  refine ⟨⟨by omega, by omega, fun g hg => ?_, fun c hc => ?_⟩, ?_⟩
  · have := le_gsum m.g g hg
    omega
  · have := le_csum m.cs c hc
    omega
  · have h1 := glues_len m.g
    have h2 := codes_len m.cs
    unfold imgN codesN
    rw [List.length_append, List.length_append, List.length_append]
    simp only [List.length_cons, List.length_nil]
    omega
theorem great_ev (m : Im) (hf : m.Fit reachBytes) : ∃ r, Ev (fun k => droguelaw22_Great.f k m.g m.cs m.m) r ∧ (r = false → m.Few) := by
  have hR : reachBytes = 140737488351232 := rfl
  have hg := hf.g
  have hc := hf.c
  unfold droguelaw22_Great.f
  rw [w64n m.g.length m.cs.length (by omega)]
  by_cases hn : m.g.length + m.cs.length ≤ 200
  · have h1 := gsum_le _ m.g hf.gp
    have h2 := csum_le _ m.cs hf.ci
    have h3 : m.g.length * reachBytes ≤ 200 * reachBytes := Nat.mul_le_mul_right _ (by omega)
    have h4 : m.cs.length * (2 * reachBytes) ≤ 200 * (2 * reachBytes) := Nat.mul_le_mul_right _ (by omega)
    have h5 := great_l0 m.g m.cs m.m (by omega) (by omega) m.g.length 0 (m.g.length + m.cs.length) (by omega) (by rw [List.drop_zero]; omega)
    rw [List.drop_zero] at h5
    refine ⟨_, Ev.neg (by omega) h5, fun hr => few_of m hn ?_⟩
    have := of_decide_eq_false hr
    omega
  · exact ⟨true, Ev.pos (by omega) (Ev.pure true), fun h => by cases h⟩
end
section
open Go Go.ChangeShapes Go.WideShapes Go.RowKit Go.Proofs.YtoiakaagbgfocaaW.PrintWords Go.Proofs.YtoiakaagbgfocaaW.PrintLast Go.Proofs.YtoiakaagbgfocaaW.PrintMore
set_option linter.unusedVariables false
set_option linter.unusedSimpArgs false

/-- what reads at type t is an α, as d says; and it is good -/
def Opn {α : Type} (t : TypeId) (d : Kd α) (good fit : α → Prop) : Prop :=
  ∀ {H : Type} {enc : TypeId × Value → H} {W : World} {fuel : Nat} {cs : List Value} {x : DataW H × List MemPlace}, DataW.trod enc Try.prog W 0 (fun _ => true) true fuel t cs = some x → ∃ a : α, d.K W a cs ∧ good a ∧ ((∀ n ∈ DataW.weights Try.prog t x.1, n ≤ reachBytes) → fit a)
def i64ok (x : Int) : Prop := -9223372036854775808 ≤ x ∧ x ≤ 9223372036854775807
theorem opn_i64 {t : TypeId} (ht : Try.prog.underlying t = some (.int .i64)) : Opn t (Kd.int .i64) i64ok (fun _ => True) := by
  intro H enc W fuel cs x h
  obtain ⟨n, rfl, _, hw⟩ := DataW.trod_int ht h
  simp only [Lit.wf, Bool.and_eq_true, decide_eq_true_eq] at hw
  exact ⟨n, rfl, hw, fun _ => trivial⟩
theorem opn_u8 {t : TypeId} (ht : Try.prog.underlying t = some (.int .u8)) : Opn t (Kd.int .u8) (fun x => 0 ≤ x ∧ x < 256) (fun _ => True) := by
  intro H enc W fuel cs x h
  obtain ⟨n, rfl, _, hw⟩ := DataW.trod_int ht h
  simp only [Lit.wf, Bool.and_eq_true, decide_eq_true_eq] at hw
  refine ⟨n, rfl, ?_, fun _ => trivial⟩
  obtain ⟨h0, h1⟩ := hw
  have e0 : IntKind.u8.min = 0 := by decide
  have e1 : IntKind.u8.max = 255 := by decide
  omega
theorem weightsAll_mem {H : Type} {P : Program} {e : TypeId} : ∀ {ds : List (DataW H)} {d : DataW H}, d ∈ ds → ∀ n ∈ d.weights P e, n ∈ DataW.weightsAll P e ds
  | d0 :: ds, d, hd, n, hn => by
    simp only [DataW.weightsAll, List.mem_append]
    rcases List.mem_cons.1 hd with rfl | h
    · exact .inl hn
    · exact .inr (weightsAll_mem h n hn)
theorem weights_struct {H : Type} {P : Program} {t t' : TypeId} {fs : Array Field} (ht : P.underlying t = some (.struct fs)) {parts : List (DataW H)} {j : Nat} {d : DataW H} (h1 : (fs.toList.map (·.type))[j]? = some t') (h2 : parts[j]? = some d) : ∀ n ∈ d.weights P t', n ∈ DataW.weights P t (.agg parts) := by
  intro n hn
  simp only [DataW.weights, ht]
  exact DataW.weights_mem_each h1 h2 n hn
/-- a slice whose elements open, opened -/
theorem opn_slice {α : Type} [Inhabited α] {t e : TypeId} {d : Kd α} {good fit : α → Prop} (ht : Try.prog.underlying t = some (.slice e)) (hc : Try.prog.cellsOf e = d.sz) (hby : (Try.prog.bytesOf e == 0) = false) (ho : Opn e d good fit)
    {H : Type} {enc : TypeId × Value → H} {W : World} {fuel : Nat} {cs : List Value} {x : DataW H × List MemPlace} (h : DataW.trod enc Try.prog W 0 (fun _ => true) true fuel t cs = some x) :
    ∃ (A : Option Addr) (c : Nat) (xs : List α), cs = [.slice A xs.length c] ∧ xs.length ≤ c ∧ d.C W A xs.length xs ∧ (∀ y ∈ xs, good y) ∧ ((∀ n ∈ DataW.weights Try.prog t x.1, n ≤ reachBytes) → xs.length ≤ reachBytes ∧ ∀ y ∈ xs, fit y) := by
  rcases Go.Deep.open_slice ht h with ⟨rfl, _⟩ | ⟨a, len, cap, m, n, D, Pl, rfl, hb, hl, hm, hmm, hx0, hx⟩
  · exact ⟨none, 0, [], rfl, Nat.le_refl _, ⟨rfl, by simp, fun h => absurd h (by simp)⟩, fun y hy => by simp at hy, fun _ => ⟨Nat.zero_le _, fun y hy => by simp at hy⟩⟩
  · have hlm : len ≤ m := by rw [hmm]; simp; exact hl
    have each : ∀ i, i < len → ∃ y : α, (good y ∧ ((∀ n ∈ DataW.weights Try.prog e (D i), n ≤ reachBytes) → fit y)) ∧ ∃ c, c.length = d.sz ∧ d.K W y c ∧ ∀ j u, c[j]? = some u → W.cell? (a.add (i * d.sz + j)) = some u := by
      intro i hi
      obtain ⟨cs', h1, h2⟩ := hx i (by omega)
      rw [hc] at h1
      obtain ⟨_, hlen, hcell⟩ := World.cells?_some h1
      obtain ⟨y, hy, hg⟩ := ho h2
      refine ⟨y, hg, cs', hlen, hy, fun j u hu => ?_⟩
      have hj : j < d.sz := by have := (List.getElem?_eq_some_iff.1 hu).1; omega
      have h3 := hcell j hj
      rw [Go.Deep.add_add] at h3
      rw [h3, hu]
    obtain ⟨q, hq⟩ := Go.Deep.choose_lt each
    have hin : ∀ y ∈ (List.range len).map q, ∃ i, i < len ∧ q i = y := by
      intro y hy
      obtain ⟨i, hi, he⟩ := List.mem_map.1 hy
      exact ⟨i, List.mem_range.1 hi, he⟩
    refine ⟨some a, cap, (List.range len).map q, by simp, by simp; exact hl, ⟨rfl, by simp; unfold maxLen at hm; omega, fun _ => ⟨a, rfl, fun j p hp => ?_⟩⟩, fun y hy => ?_, fun hw => ⟨?_, fun y hy => ?_⟩⟩
    · have hj : j < len := by have := (List.getElem?_eq_some_iff.1 hp).1; simpa using this
      rw [List.getElem?_map, List.getElem?_range hj] at hp
      simp at hp
      subst hp
      exact (hq j hj).2
    · obtain ⟨i, hi, rfl⟩ := hin y hy
      exact (hq i hi).1.1
    · rw [hx0] at hw
      simp only [DataW.weights, ht] at hw
      have h1 := hw _ (List.mem_cons_self ..)
      have h2 : 1 ≤ Try.prog.bytesOf e := by
        have : Try.prog.bytesOf e ≠ 0 := by simpa using hby
        omega
      have h3 : (List.range len).length ≤ ((List.range len).length + (m - len)) * Try.prog.bytesOf e := Nat.le_trans (Nat.le_add_right _ _) (Nat.le_mul_of_pos_right _ h2)
      simp at h1 h3 ⊢
      omega
    · obtain ⟨i, hi, rfl⟩ := hin y hy
      refine (hq i hi).1.2 fun n hn => ?_
      rw [hx0] at hw
      simp only [DataW.weights, ht] at hw
      exact hw n (List.mem_cons_of_mem _ (List.mem_append_left _ (weightsAll_mem (List.mem_map.2 ⟨i, List.mem_range.2 hi, rfl⟩) n hn)))
theorem cl3 : Try.prog.cellsOf 3 = 1 := by kernel_rfl
theorem cl2 : Try.prog.cellsOf 2 = 1 := by kernel_rfl
theorem cl46 : Try.prog.cellsOf 46 = 1 := by kernel_rfl
theorem cl37 : Try.prog.cellsOf 37 = 1 := by kernel_rfl
theorem cl38 : Try.prog.cellsOf 38 = 1 := by kernel_rfl
theorem u2 : Try.prog.underlying 2 = some (.int .i64) := Try.underlying2
theorem u3 : Try.prog.underlying 3 = some (.int .i64) := Try.underlying3
instance : Inhabited S73 := ⟨z73⟩
instance : Inhabited S42 := ⟨z42⟩
instance : Inhabited S66 := ⟨z66⟩
instance : Inhabited S48 := ⟨z48⟩
instance : Inhabited S40 := ⟨z40⟩
def S73.ok (x : S73) : Prop := i64ok x.f0 ∧ i64ok x.f1
def S42.ok (x : S42) : Prop := i64ok x.f0 ∧ i64ok x.f1 ∧ i64ok x.f2 ∧ i64ok x.f3
def S66.ok (x : S66) : Prop := i64ok x.f0 ∧ i64ok x.f1 ∧ i64ok x.f2
def S48.ok (x : S48) : Prop := (i64ok x.f0 ∧ i64ok x.f1 ∧ i64ok x.f2) ∧ ∀ y ∈ x.f3, y.ok
def S40.ok (x : S40) : Prop := (i64ok x.f0 ∧ i64ok x.f1 ∧ i64ok x.f2) ∧ (∀ y ∈ x.f3, y.ok) ∧ ∀ y ∈ x.f4, y.ok
theorem opn73 : Opn 73 k73 S73.ok (fun _ => True) := by
  intro H enc W fuel cs x h
  obtain ⟨xs, k, _, _, hl, hxl, hf⟩ := DataW.trod_struct Try.underlying73 h
  rw [show Try.prog.cellsOf 73 = 2 by kernel_rfl] at hl
  match xs, hxl, cs, hl with
  | [y0, y1], _, [v0, v1], _ =>
    have g0 := hf 0 { name := "At", type := 3, offset := 0, embedded := false, tag := "", pkgPath := "", byteOffset := 0 } rfl
    have g1 := hf 1 { name := "Glue", type := 3, offset := 1, embedded := false, tag := "", pkgPath := "", byteOffset := 8 } rfl
    simp [cl3] at g0 g1
    obtain ⟨a0, h0, o0⟩ := opn_i64 u3 g0
    obtain ⟨a1, h1, o1⟩ := opn_i64 u3 g1
    cases h0
    cases h1
    exact ⟨⟨a0, a1⟩, k73_mk W ⟨a0, a1⟩, ⟨o0.1, o1.1⟩, fun _ => trivial⟩
theorem opn66 : Opn 66 k66 S66.ok (fun _ => True) := by
  intro H enc W fuel cs x h
  obtain ⟨xs, k, _, _, hl, hxl, hf⟩ := DataW.trod_struct Try.underlying66 h
  rw [show Try.prog.cellsOf 66 = 3 by kernel_rfl] at hl
  match xs, hxl, cs, hl with
  | [y0, y1, y2], _, [v0, v1, v2], _ =>
    have g0 := hf 0 { name := "From", type := 3, offset := 0, embedded := false, tag := "", pkgPath := "", byteOffset := 0 } rfl
    have g1 := hf 1 { name := "To", type := 3, offset := 1, embedded := false, tag := "", pkgPath := "", byteOffset := 8 } rfl
    have g2 := hf 2 { name := "Pad", type := 3, offset := 2, embedded := false, tag := "", pkgPath := "", byteOffset := 16 } rfl
    simp [cl3] at g0 g1 g2
    obtain ⟨a0, h0, o0⟩ := opn_i64 u3 g0
    obtain ⟨a1, h1, o1⟩ := opn_i64 u3 g1
    obtain ⟨a2, h2, o2⟩ := opn_i64 u3 g2
    cases h0
    cases h1
    cases h2
    exact ⟨⟨a0, a1, a2⟩, k66_mk W ⟨a0, a1, a2⟩, ⟨o0.1, o1.1, o2.1⟩, fun _ => trivial⟩
theorem opn42 : Opn 42 k42 S42.ok (fun _ => True) := by
  intro H enc W fuel cs x h
  obtain ⟨xs, k, _, _, hl, hxl, hf⟩ := DataW.trod_struct Try.underlying42 h
  rw [show Try.prog.cellsOf 42 = 4 by kernel_rfl] at hl
  match xs, hxl, cs, hl with
  | [y0, y1, y2, y3], _, [v0, v1, v2, v3], _ =>
    have g0 := hf 0 { name := "Op", type := 3, offset := 0, embedded := false, tag := "", pkgPath := "", byteOffset := 0 } rfl
    have g1 := hf 1 { name := "A", type := 2, offset := 1, embedded := false, tag := "", pkgPath := "", byteOffset := 8 } rfl
    have g2 := hf 2 { name := "B", type := 2, offset := 2, embedded := false, tag := "", pkgPath := "", byteOffset := 16 } rfl
    have g3 := hf 3 { name := "C", type := 2, offset := 3, embedded := false, tag := "", pkgPath := "", byteOffset := 24 } rfl
    simp [cl3, cl2] at g0 g1 g2 g3
    obtain ⟨a0, h0, o0⟩ := opn_i64 u3 g0
    obtain ⟨a1, h1, o1⟩ := opn_i64 u2 g1
    obtain ⟨a2, h2, o2⟩ := opn_i64 u2 g2
    obtain ⟨a3, h3, o3⟩ := opn_i64 u2 g3
    cases h0
    cases h1
    cases h2
    cases h3
    exact ⟨⟨a0, a1, a2, a3⟩, k42_mk W ⟨a0, a1, a2, a3⟩, ⟨o0.1, o1.1, o2.1, o3.1⟩, fun _ => trivial⟩
theorem opn48 : Opn 48 k48 S48.ok (fun x => x.f3.length ≤ reachBytes) := by
  intro H enc W fuel cs x h
  obtain ⟨xs, k, _, hx, hl, hxl, hf⟩ := DataW.trod_struct Try.underlying48 h
  rw [show Try.prog.cellsOf 48 = 4 by kernel_rfl] at hl
  match xs, hxl, cs, hl with
  | [y0, y1, y2, y3], _, [v0, v1, v2, v3], _ =>
    have g0 := hf 0 { name := "Kind", type := 3, offset := 0, embedded := false, tag := "", pkgPath := "", byteOffset := 0 } rfl
    have g1 := hf 1 { name := "Slots", type := 3, offset := 1, embedded := false, tag := "", pkgPath := "", byteOffset := 8 } rfl
    have g2 := hf 2 { name := "Hook", type := 3, offset := 2, embedded := false, tag := "", pkgPath := "", byteOffset := 16 } rfl
    have g3 := hf 3 { name := "Parts", type := 46, offset := 3, embedded := false, tag := "", pkgPath := "", byteOffset := 24 } rfl
    simp [cl3, cl46] at g0 g1 g2 g3
    obtain ⟨a0, h0, o0⟩ := opn_i64 u3 g0
    obtain ⟨a1, h1, o1⟩ := opn_i64 u3 g1
    obtain ⟨a2, h2, o2⟩ := opn_i64 u3 g2
    obtain ⟨A, c, l, h3, hc, hC, o3⟩ := opn_slice Try.underlying46 (by kernel_rfl) (by kernel_rfl) opn73 g3
    cases h0
    cases h1
    cases h2
    cases h3
    exact ⟨⟨a0, a1, a2, l⟩, k48_mk W ⟨a0, a1, a2, l⟩ hc hC, ⟨⟨o0.1, o1.1, o2.1⟩, o3.1⟩, fun hw => (o3.2 fun n hn => hw n (by rw [hx]; exact weights_struct Try.underlying48 (j := 3) rfl rfl n hn)).1⟩
theorem opn40 : Opn 40 k40 S40.ok (fun x => x.f3.length ≤ reachBytes ∧ x.f4.length ≤ reachBytes) := by
  intro H enc W fuel cs x h
  obtain ⟨xs, k, _, hx, hl, hxl, hf⟩ := DataW.trod_struct Try.underlying40 h
  rw [show Try.prog.cellsOf 40 = 5 by kernel_rfl] at hl
  match xs, hxl, cs, hl with
  | [y0, y1, y2, y3, y4], _, [v0, v1, v2, v3, v4], _ =>
    have g0 := hf 0 { name := "Slots", type := 3, offset := 0, embedded := false, tag := "", pkgPath := "", byteOffset := 0 } rfl
    have g1 := hf 1 { name := "Params", type := 3, offset := 1, embedded := false, tag := "", pkgPath := "", byteOffset := 8 } rfl
    have g2 := hf 2 { name := "Result", type := 3, offset := 2, embedded := false, tag := "", pkgPath := "", byteOffset := 16 } rfl
    have g3 := hf 3 { name := "Insts", type := 37, offset := 3, embedded := false, tag := "", pkgPath := "", byteOffset := 24 } rfl
    have g4 := hf 4 { name := "Pads", type := 38, offset := 4, embedded := false, tag := "", pkgPath := "", byteOffset := 48 } rfl
    simp [cl3, cl37, cl38] at g0 g1 g2 g3 g4
    obtain ⟨a0, h0, o0⟩ := opn_i64 u3 g0
    obtain ⟨a1, h1, o1⟩ := opn_i64 u3 g1
    obtain ⟨a2, h2, o2⟩ := opn_i64 u3 g2
    obtain ⟨A, c, l, h3, hc, hC, o3⟩ := opn_slice Try.underlying37 (by kernel_rfl) (by kernel_rfl) opn42 g3
    obtain ⟨A', c', l', h4, hc', hC', o4⟩ := opn_slice Try.underlying38 (by kernel_rfl) (by kernel_rfl) opn66 g4
    cases h0
    cases h1
    cases h2
    cases h3
    cases h4
    exact ⟨⟨a0, a1, a2, l, l'⟩, k40_mk W ⟨a0, a1, a2, l, l'⟩ hc hC hc' hC', ⟨⟨o0.1, o1.1, o2.1⟩, o3.1, o4.1⟩, fun hw => ⟨(o3.2 fun n hn => hw n (by rw [hx]; exact weights_struct Try.underlying40 (j := 3) rfl rfl n hn)).1, (o4.2 fun n hn => hw n (by rw [hx]; exact weights_struct Try.underlying40 (j := 4) rfl rfl n hn)).1⟩⟩
/-- an image's numbers are numbers of 64 bits -/
structure Im.Ok (m : Im) : Prop where mk :: (g : ∀ x ∈ m.g, x.ok) (c : ∀ x ∈ m.cs, x.ok) (m : i64ok m.m)
/-- an image handed in -/
theorem open_image {H : Type} {enc : TypeId × Value → H} {W : World} {r : Reach} {b0 : Nat} {v : Value} {d : DataW H} {p : List MemPlace} (hv : Value.okWide Try.prog W r b0 25 v) (h : DataW.Trod enc Try.prog W 0 (fun _ => true) true 25 v d p) :
    ∃ m : Im, v = m.val ∧ m.In W ∧ m.Ok ∧ ((∀ n ∈ DataW.weights Try.prog 25 d, n ≤ reachBytes) → m.Fit reachBytes) := by
  obtain ⟨v0, v1, v2, y0, y1, y2, n, rfl, hd, -, h0, h1, h2⟩ := Go.Joins.open_agg3 Try.underlying25 (by kernel_rfl) (by kernel_rfl) hv h
  obtain ⟨A0, c0, l0, e0, hc0, hC0, o0⟩ := opn_slice Try.underlying22 (by kernel_rfl) (by kernel_rfl) opn48 h0
  obtain ⟨A1, c1, l1, e1, hc1, hC1, o1⟩ := opn_slice Try.underlying23 (by kernel_rfl) (by kernel_rfl) opn40 h1
  obtain ⟨a2, e2, o2⟩ := opn_i64 u3 h2
  cases e0
  cases e1
  cases e2
  refine ⟨⟨A0, c0, l0, A1, c1, l1, a2⟩, rfl, ⟨hC0, hc0, hC1, hc1⟩, ⟨o0.1, o1.1, o2.1⟩, fun hw => ?_⟩
  have f0 := o0.2 fun n hn => hw n (by rw [hd]; exact weights_struct Try.underlying25 (j := 0) rfl rfl n hn)
  have f1 := o1.2 fun n hn => hw n (by rw [hd]; exact weights_struct Try.underlying25 (j := 1) rfl rfl n hn)
  exact ⟨f0.1, f1.1, f0.2, f1.2⟩
end
section
open Go.RowKit Go.Proofs.YtoiakaagbgfocaaW.PrintWords Go.Proofs.YtoiakaagbgfocaaW.PrintLast Go.Proofs.YtoiakaagbgfocaaW.PrintMore
theorem same_ab (a b : Im) (s : Bool) (hs : decide (imgN a.g a.cs a.m = imgN b.g b.cs b.m) = s) (fa : a.Few) (fb : b.Few) (w : World) (ha : a.In w) (hb : b.In w) :
    Calls Try.prog 15 #[a.val, b.val] w fun e w' => e = .returned (.bool s) ∧ Below w.heap.size w w' := by
  subst hs
  exact same_calls a b w ha hb fa.sm fb.sm fa.n fb.n
end
end Go.Proofs.Ytoiakaagbgfocaa.PC
