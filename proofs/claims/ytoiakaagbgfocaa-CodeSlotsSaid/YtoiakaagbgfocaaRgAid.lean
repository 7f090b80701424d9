/- A range over an iterator that keeps state in cells of its own, or reads what the body leaves: the kit's law on a range over a function, turned so that the caller's invariant abides the iterator's own blocks (T) and tells the iterator what it reads between two rounds (X). -/
import Derived.RangeFuncNested
import Derived.RangeFuncBound
import Derived.RangeFuncCalls
import Derived.RangeFuncLeaves
import Derived.Deep.Draws
namespace Go.Proofs.Ytoiakaagbgfocaa.RG
open Go.RowKit
set_option linter.unusedVariables false
set_option linter.unusedSimpArgs false

variable {F : Fence} {n : Nat} {P : Program} {α : Type}

/-- J abides new blocks, and the turn of one block that is the iterator's own (T), or a walk beyond B -/
def Abid (T : Nat → Prop) (B : Nat) (J : List α → World → Prop) : Prop :=
  ∀ s A C row, J s A → A.grownBy C row → (∀ r, row = some r → T r ∨ (B ≤ r ∧ ∃ o : Obj, A.heap[r]? = some o ∧ o.isWalk = true)) → J s C
/-- the caller's invariant abides new blocks, and the turn of one block that is the iterator's own, or no cells beyond B -/
def OwnT {β : Type} (T : Nat → Prop) (B : Nat) (I : β → World → Prop) : Prop :=
  ∀ s A C row, I s A → A.grownBy C row → (∀ r, row = some r → T r ∨ (B ≤ r ∧ ∃ o : Obj, A.heap[r]? = some o ∧ o.isCells = false)) → I s C
theorem OwnT.putObj {β : Type} {T : Nat → Prop} {B : Nat} {I : β → World → Prop} (h : OwnT T B I) {s : β} {W : World} {l : Nat} {o : Obj} (o' : Obj) (hs : I s W) (hB : B ≤ l) (hl : W.heap[l]? = some o) (ho : o.isCells = false) : I s (W.putObj l o') :=
  h s W _ (some l) hs (grownBy_putObj' W l o') (fun r e => by cases e; exact .inr ⟨hB, o, hl, ho⟩)
theorem OwnT.alloc {β : Type} {T : Nat → Prop} {B : Nat} {I : β → World → Prop} (h : OwnT T B I) {s : β} {W : World} (o : Obj) (hs : I s W) : I s (W.alloc o) :=
  h s W _ none hs (World.grownBy_alloc W o none) (fun r e => by cases e)
theorem OwnT.and {β : Type} {T : Nat → Prop} {B : Nat} {I I' : β → World → Prop} (h : OwnT T B I) (h' : OwnT T B I') : OwnT T B (fun s W => I s W ∧ I' s W) :=
  fun s W W' row hs hg hr => ⟨h s W W' row hs.1 hg hr, h' s W W' row hs.2 hg hr⟩
theorem OwnT.pure {β : Type} (T : Nat → Prop) (B : Nat) (p : β → Prop) : OwnT T B (fun s (_ : World) => p s) := fun _ _ _ _ hs _ _ => hs
/-- what lay below n₀ lies as it lay, where neither the iterator's blocks nor B lie below n₀ -/
theorem OwnT.below {β : Type} {T : Nat → Prop} {B n₀ : Nat} {w : World} (hB : n₀ ≤ B) (hn : n₀ ≤ w.heap.size) (hT : ∀ r, T r → n₀ ≤ r) : OwnT T B (fun (_ : β) W => Below n₀ w W) :=
  fun _ A C row hs hg hr => hs.trans ((Below.refl n₀ A).grown hg (Nat.le_trans hn hs.size) (fun k e => by rcases hr k e with h | ⟨h, _⟩; exact hT k h; omega))
/-- a cell of a block that is not the iterator's -/
theorem cell_keptT {T : Nat → Prop} {B : Nat} {W W' : World} {row : Option Nat} {a : Addr} {v : Value} (h : W.cell? a = some v) (hg : W.grownBy W' row) (hT : ¬ T a.block) (hr : ∀ r, row = some r → T r ∨ (B ≤ r ∧ ∃ o : Obj, W.heap[r]? = some o ∧ o.isCells = false)) : W'.cell? a = some v := by
  obtain ⟨o, ho, hc⟩ := cells_of_cell h
  refine (World.cell?_of_block (hg.block _ (Array.getElem?_eq_some_iff.1 ho).1 (fun e => ?_))).trans h
  rcases hr _ e.symm with h1 | ⟨_, o', ho', hc'⟩
  · exact hT h1
  · rw [ho] at ho'; cases ho'; rw [hc] at hc'; cases hc'
theorem block_keptT {T : Nat → Prop} {B : Nat} {W W' : World} {row : Option Nat} {k : Nat} {o : Obj} (h : W.heap[k]? = some o) (hc : o.isCells = true) (hg : W.grownBy W' row) (hT : ¬ T k) (hr : ∀ r, row = some r → T r ∨ (B ≤ r ∧ ∃ o : Obj, W.heap[r]? = some o ∧ o.isCells = false)) : W'.heap[k]? = some o := by
  refine (hg.block k (Array.getElem?_eq_some_iff.1 h).1 (fun e => ?_)).trans h
  rcases hr _ e.symm with h1 | ⟨_, o', ho', hc'⟩
  · exact hT h1
  · rw [h] at ho'; cases ho'; rw [hc] at hc'; cases hc'

/-- the contract of an iterator's value -/
def SeqT (F : Fence) (n : Nat) (P : Program) (g : Nat) (lb : Array Value) (encs : α → Array Value) (Kp : World → World → Prop) (T : Nat → Prop) (X : List α → World → Prop) (S Sp : List α → Prop) (R : List α → α → Prop) (w : World) : Prop :=
  ∀ (l : Nat) (J Jx : List α → World → Prop) (W : World), Kp w W → w.heap.size ≤ W.heap.size → Abid T W.heap.size J → Abid T W.heap.size Jx → (∀ pre W1, J pre W1 → X pre W1) →
    (∀ pre x W1, J pre W1 → R pre x → YieldAt F (n - 1) P l (encs x) W1 fun e W' =>
      (e = .returned (.bool true) ∧ J (pre ++ [x]) W' ∧ Kp W1 W') ∨ (e = .returned (.bool false) ∧ Jx (pre ++ [x]) W')) →
    J [] W →
    CallsIn F n P g (#[.func (.yield l) #[] #[]] ++ lb) W fun e W' => (∃ v, e = .returned v) ∧ ((∃ xs, S xs ∧ J xs W') ∨ (∃ pre, Sp pre ∧ Jx pre W'))
theorem SeqT.inRound {g : Nat} {lb : Array Value} {encs : α → Array Value} {Kp : World → World → Prop} {T : Nat → Prop} {X : List α → World → Prop} {S Sp : List α → Prop} {R : List α → α → Prop} {w₀ : World} (l : Nat)
    (h : SeqT F n P g lb encs Kp T X S Sp R w₀) : SeqT (F.inRound l) n P g lb encs Kp T X S Sp R w₀ := h

theorem keepsT {T : Nat → Prop} {B w0 : Nat} {A C : World} {row : Option Nat} (hT : ∀ r, T r → r < w0) (hg : A.grownBy C row) (hr : ∀ r, row = some r → T r ∨ (B ≤ r ∧ ∃ o : Obj, A.heap[r]? = some o ∧ o.isWalk = true)) {k : Nat} (hk0 : w0 ≤ k) {o : Obj} (hk : A.heap[k]? = some o) (hw : o.isWalk = false) : C.heap[k]? = some o := by
  refine (hg.block k (Array.getElem?_eq_some_iff.1 hk).1 (fun e => ?_)).trans hk
  rcases hr k e.symm with h | ⟨_, o', ho', hw'⟩
  · exact absurd (hT k h) (by omega)
  · rw [hk] at ho'; cases ho'; rw [hw] at hw'; cases hw'

set_option maxHeartbeats 1000000 in
/-- a range over such an iterator, not within another one's round -/
theorem range_out {g : Operand} {ps : Array Tmp} {assign body : Code} {Q : Exit → Act → World → Prop} {a : Act} {w : World}
    (hro : F.round = none) (h1 : 1 ≤ n) {gf : Nat} {lb : Array Value} (hg : a.eval g = .func (.func gf) #[] lb) (hFg : F.fn gf) (eg : ∀ args w, (callFunc gf args).run P w = .ok (.enter gf args) w)
    {encs : α → Array Value} {Kp : World → World → Prop} {T : Nat → Prop} {X : List α → World → Prop} {S Sp : List α → Prop} {R : List α → α → Prop} {w0 : World} (hseq : SeqT F (n - 1) P gf lb encs Kp T X S Sp R w0) (hT : ∀ r, T r → r < w.heap.size)
    (hKt : ∀ {A B C : World}, Kp A B → Kp B C → Kp A C) (hKb : ∀ (W : World) (l : Nat) (o o' : Obj), w.heap.size ≤ l → W.heap[l]? = some o → o.isCells = false → o.isWalk = false → Kp W (W.putObj l o')) (hKa : ∀ (W : World) (o : Obj), w.heap.size ≤ W.heap.size → Kp W (W.alloc o)) (hb0 : Kp w0 w) (hs0 : w0.heap.size ≤ w.heap.size) (hps : ∀ x, (encs x).size = ps.size)
    (I : List α → World → Prop) (Ix : Code → List α → World → Prop) (hI : OwnT T w.heap.size I) (hIx : ∀ c, OwnT T w.heap.size (Ix c)) (hX : ∀ pre W, I pre W → X pre W) (h0 : I [] w) (Ax : α → Act → World → Prop) (hAx : ∀ x a', OwnT (fun _ => False) w.heap.size (fun (_ : Unit) W => Ax x a' W))
    (hassign : ∀ (l : Nat) (pre : List α) (x : α) (W : World) (K : Act → World → Prop), I pre W → R pre x → (∀ a' W', KeepsFrom w.heap.size W W' → Kp W W' → I pre W' → Ax x a' W' → K a' W') →
      assign.wpIn (F.inRound l) (n - 1 - 1) P (Exit.then K (fun _ _ _ => False)) { tmps := (ps.zip (encs x)).foldl (fun t (p, v) => t.setIfInBounds p v) a.tmps, defers := [] } W)
    (hbody : ∀ (l : Nat) (pre : List α) (x : α) (a' : Act) (W : World), w.heap.size ≤ l → (∃ r, W.heap[l]? = some (.loop r)) → I pre W → Ax x a' W → R pre x → body.wpIn (F.inRound l) (n - 1 - 1) P (ownPostG w.heap.size Kp I Ix (pre ++ [x]) W) a' W)
    (hdone : ∀ (D : Nat) (xs : List α) (W : World), w.heap.size ≤ D → S xs → I xs W → W.heap[D]? = some (.deferred (some [])) → Q .normal { a with defers := { target := .collected D, args := #[] } :: a.defers } W)
    (hstop : ∀ (D : Nat) (c : Code) (pre : List α) (W : World), w.heap.size ≤ D → Sp pre → Ix c pre W → W.heap[D]? = some (.deferred (some [])) → c.wpIn F n P Q { a with defers := { target := .collected D, args := #[] } :: a.defers } W) :
    (Code.rangeFunc g ps assign body).wpIn F n P Q a w := by
  refine wpIn_rangeFunc ?_
  intro fn hfn
  rw [hro]
  obtain ⟨rec, hrec⟩ : ∃ rec : LoopState → Option Code → Loop, rec = fun st pe => { state := st, pending := pe, fn, tmps := a.tmps, params := ps, assign, body, defers := w.heap.size } := ⟨_, rfl⟩
  obtain ⟨W1, hW1⟩ : ∃ W1, (w.alloc (.deferred (some []))).alloc (.loop (rec .ready none)) = W1 := ⟨_, rfl⟩
  have hL1 : W1.heap[w.heap.size + 1]? = some (.loop (rec .ready none)) := by
    rw [← hW1]
    have := World.alloc_heap_new (w.alloc (.deferred (some []))) (.loop (rec .ready none))
    rwa [World.size_alloc] at this
  have hK1 : W1.heap[w.heap.size]? = some (.deferred (some [])) := by
    rw [← hW1]
    exact (Below.heap_alloc _ _ _ (by simp)).trans (World.alloc_heap_new w _)
  have hI1 : I [] W1 := by rw [← hW1]; exact hI.alloc _ (hI.alloc _ h0)
  have hb1 : Kp w0 W1 := by rw [← hW1]; exact hKt hb0 (hKt (hKa _ _ (Nat.le_refl _)) (hKa _ _ (by simp)))
  have hs1 : w0.heap.size ≤ W1.heap.size := by rw [← hW1]; simp; omega
  have hs2 : W1.heap.size = w.heap.size + 2 := by rw [← hW1]; simp
  refine ⟨w.heap.size + 1, [{ target := .collected w.heap.size, args := #[] }], W1, { target := .fn (.func gf) lb, args := #[.func (.yield (w.heap.size + 1)) #[] #[]] }, W1, gf,
    #[.func (.yield (w.heap.size + 1)) #[] #[]] ++ lb, W1, ?_, ?_, ?_, ?_, fun _ => h1, ?_⟩
  · rw [← hW1, hrec]
    exact run_enterLoop_outer _ _ _ _ _
  · simp only [resolve, hg]
    simp [go_sem]
  · intro f' hf'
    simp [Target.leads] at hf'
    subst hf'
    exact hFg
  · simp [invoke, go_sem, eg]
  · have hnw : ∀ {A : World} {row : Option Nat}, (∀ r, row = some r → T r ∨ (W1.heap.size ≤ r ∧ ∃ o : Obj, A.heap[r]? = some o ∧ o.isWalk = true)) → (∀ r, row = some r → T r ∨ (w.heap.size ≤ r ∧ ∃ o : Obj, A.heap[r]? = some o ∧ o.isCells = false)) :=
      fun hr r e => by
        rcases hr r e with h | ⟨hB, o, ho, hw⟩
        · exact .inl h
        · exact .inr ⟨by omega, o, ho, Obj.not_cells_of_walk hw⟩
    refine (hseq (w.heap.size + 1)
      (fun pre W => I pre W ∧ W.heap[w.heap.size + 1]? = some (.loop (rec .ready none)) ∧ W.heap[w.heap.size]? = some (.deferred (some [])))
      (fun pre W => ∃ c, Ix c pre W ∧ W.heap[w.heap.size + 1]? = some (.loop (rec .done (some c))) ∧ W.heap[w.heap.size]? = some (.deferred (some [])))
      W1 hb1 hs1
      (fun s A C row hs hg' hr => ⟨hI s A C row hs.1 hg' (hnw hr), keepsT hT hg' hr (by omega) hs.2.1 rfl, keepsT hT hg' hr (Nat.le_refl _) hs.2.2 rfl⟩)
      (fun s A C row hs hg' hr => by
        obtain ⟨c, hc, hl, hk⟩ := hs
        exact ⟨c, hIx c s A C row hc hg' (hnw hr), keepsT hT hg' hr (by omega) hl rfl, keepsT hT hg' hr (Nat.le_refl _) hk rfl⟩)
      (fun pre W h => hX pre W h.1)
      ?_ ⟨hI1, hL1, hK1⟩).mono ?_
    · rintro pre x W ⟨hi, hl, hk⟩ hlen
      have hlt : w.heap.size + 1 < W.heap.size := (Array.getElem?_eq_some_iff.1 hl).1
      have hy := run_yield (P := P) (args := encs x) hl (by rw [hrec]; exact hps x)
      rw [hrec] at hy
      refine ⟨fn, _, assign, body, hy, roundIn_of_wpIn hfn (hassign _ pre x W _ hi hlen ?_)⟩
      clear hy
      intro a' Wa hkfa hkpa hia hax
      replace hl := hkfa.same _ _ (by omega) hl rfl
      replace hk := hkfa.same _ _ (Nat.le_refl _) hk rfl
      replace hlt : w.heap.size + 1 < Wa.heap.size := (Array.getElem?_eq_some_iff.1 hl).1
      replace hi := hia
      clear hia
      revert hkpa hkfa
      generalize W = Wb
      intro hkfa hkpa
      obtain ⟨W, rfl⟩ : ∃ W, W = Wa := ⟨_, rfl⟩
      refine ⟨_, run_beginRound hl (by rw [hrec]), ?_⟩
      have hl2 : (W.putObj (w.heap.size + 1) (.loop { rec .ready none with state := .busy })).heap[w.heap.size + 1]? = some (.loop { rec .ready none with state := .busy }) := World.putObj_heap_same hlt
      have hk2 : (W.putObj (w.heap.size + 1) (.loop { rec .ready none with state := .busy })).heap[w.heap.size]? = some (.deferred (some [])) := (World.putObj_heap_other (by omega)).trans hk
      have hw2 : Kp W (W.putObj (w.heap.size + 1) (.loop { rec .ready none with state := .busy })) := hKb _ _ _ _ (by omega) hl rfl rfl
      refine wpIn_mono (hbody _ pre x a' _ (by omega) ⟨_, hl2⟩ (hI.putObj _ hi (by omega) hl rfl) ((hAx x a').putObj (s := ()) _ hax (by omega) hl rfl) hlen) ?_
      have fin : ∀ (jump : Option Code) (W3 : World), KeepsFrom w.heap.size (W.putObj (w.heap.size + 1) (.loop { rec .ready none with state := .busy })) W3 →
          (Instr.endRound (w.heap.size + 1) jump).run P W3 = .ok (.bool jump.isNone) (W3.putObj (w.heap.size + 1) (.loop (rec (if jump.isNone then .ready else .done) jump))) ∧
          W3.heap[w.heap.size + 1]? = some (.loop { rec .ready none with state := .busy }) ∧
          (W3.putObj (w.heap.size + 1) (.loop (rec (if jump.isNone then .ready else .done) jump))).heap[w.heap.size + 1]? = some (.loop (rec (if jump.isNone then .ready else .done) jump)) ∧
          (W3.putObj (w.heap.size + 1) (.loop (rec (if jump.isNone then .ready else .done) jump))).heap[w.heap.size]? = some (.deferred (some [])) := fun jump W3 hk3 => by
        have hl3 := hk3.same _ _ (by omega) hl2 rfl
        have := run_endRound (P := P) jump hl3
        rw [hrec] at this ⊢
        exact ⟨this, by rw [hrec] at hl3; exact hl3, World.putObj_heap_same (Array.getElem?_eq_some_iff.1 hl3).1, (World.putObj_heap_other (by omega)).trans (hk3.same _ _ (Nat.le_refl _) hk2 rfl)⟩
      rintro e a3 W3 hp
      cases e with
      | normal =>
        obtain ⟨hk3, hkp3, hi3⟩ := hp
        obtain ⟨hr, hl3, hl4, hk4⟩ := fin none W3 hk3
        exact ⟨_, _, hr, .inl ⟨rfl, ⟨hI.putObj _ hi3 (by omega) hl3 rfl, hl4, hk4⟩, hKt hkpa (hKt (hKt hw2 hkp3) (hKb _ _ _ _ (by omega) hl3 rfl rfl))⟩⟩
      | ret =>
        obtain ⟨hk3, hi3⟩ := hp
        obtain ⟨hr, hl3, hl4, hk4⟩ := fin (some .ret) W3 hk3
        exact ⟨_, _, hr, .inr ⟨rfl, .ret, (hIx _).putObj _ hi3 (by omega) hl3 rfl, hl4, hk4⟩⟩
      | exit id =>
        obtain ⟨hk3, hi3⟩ := hp
        obtain ⟨hr, hl3, hl4, hk4⟩ := fin (some (.exit id)) W3 hk3
        exact ⟨_, _, hr, .inr ⟨rfl, .exit id, (hIx _).putObj _ hi3 (by omega) hl3 rfl, hl4, hk4⟩⟩
      | goto t =>
        obtain ⟨hk3, hi3⟩ := hp
        obtain ⟨hr, hl3, hl4, hk4⟩ := fin (some (.goto t)) W3 hk3
        exact ⟨_, _, hr, .inr ⟨rfl, .goto t, (hIx _).putObj _ hi3 (by omega) hl3 rfl, hl4, hk4⟩⟩
      | panic ch => exact hp.elim
      | outgrown => exact hp.elim
    · rintro e W2 ⟨⟨v, rfl⟩, (⟨xs, hS, hi, hl, hk⟩ | ⟨pre, hSp, c, hi, hl, hk⟩)⟩
      · exact ⟨none, _, by have := run_endLoop (P := P) hl (by rw [hrec]; simp); rw [hrec] at this; exact this, hdone _ xs _ (Nat.le_refl _) hS (hI.putObj _ hi (by omega) hl rfl) ((World.putObj_heap_other (by omega)).trans hk)⟩
      · exact ⟨some c, _, by have := run_endLoop (P := P) hl (by rw [hrec]; simp); rw [hrec] at this; exact this, hstop _ c pre _ (Nat.le_refl _) hSp ((hIx c).putObj _ hi (by omega) hl rfl) ((World.putObj_heap_other (by omega)).trans hk)⟩

theorem grownBy_drew (w : World) (row : Option Nat) : w.grownBy w.drew row := ⟨rfl, rfl, rfl, Nat.le_refl _, fun _ _ _ => rfl⟩
theorem grownBy_drewN (w : World) (m : Nat) (row : Option Nat) : w.grownBy (w.drewN m) row := ⟨rfl, rfl, rfl, Nat.le_refl _, fun _ _ _ => rfl⟩
/-- the return of a function that holds such a range -/
theorem bodyPostM_ret {fn : Func} {R : Ending → World → Prop} {a : Act} {W : World} {D : Nat} (v : Value) (hd : a.defers = [{ target := .collected D, args := #[] }]) (hK : W.heap[D]? = some (.deferred (some [])))
    (h : ∀ W', W' = W.putObj D (.deferred none) → (results fn a.tmps).run P W' = .ok v W' ∧ R (.returned v) W') : bodyPostM F n P fn R .ret a W := by
  show LeavesInM F n P fn a.tmps R a.defers .returning W
  rw [hd]
  obtain ⟨h1, h2⟩ := h _ rfl
  exact ⟨by simp, .inl ⟨_, _, rfl, run_takeDeferred hK, v, h1, h2⟩⟩
/-- a plain contract, met in a walk at the wide fence -/
theorem call_in {f : FuncId} {args : Array Value} {w : World} {R : Ending → World → Prop} (h : Calls P f args w R) : Fence.wide.fn f ∧ (Fence.wide.depth.isSome = true → 1 ≤ n) ∧ CallsIn Fence.wide (n - 1) P f args w R :=
  ⟨trivial, (fun h => (by cases h)), callsIn_wide.2 h⟩
theorem call_in0 {m : Nat} {f : FuncId} {args : Array Value} {w : World} {R : Ending → World → Prop} (h : Calls P f args w R) : Fence.wide.fn f ∧ CallsIn Fence.wide m P f args w R := ⟨trivial, callsIn_wide.2 h⟩
theorem call_round0 {m l : Nat} {f : FuncId} {args : Array Value} {w : World} {R : Ending → World → Prop} (h : Calls P f args w R) : (Fence.wide.inRound l).fn f ∧ CallsIn (Fence.wide.inRound l) m P f args w R := ⟨trivial, CallsIn.inRound l (callsIn_wide.2 h)⟩
theorem codeIn_at {F : Fence} {n : Nat} {P : Program} {c : Code} {Q : Exit → Act → World → Prop} {a : Act} {W : World} (G : World → Prop) (hF : G W) (k : ∀ W', G W' → Code.wpIn F n P c Q a W') : Code.wpIn F n P c Q a W := k W hF
theorem callsIn_at {F : Fence} {n : Nat} {P : Program} {f : FuncId} {args : Array Value} {W : World} {Q : Ending → World → Prop} (G : World → Prop) (hF : G W) (k : ∀ W', G W' → CallsIn F n P f args W' Q) : CallsIn F n P f args W Q := k W hF
theorem call_round {l : Nat} {f : FuncId} {args : Array Value} {w : World} {R : Ending → World → Prop} (h : Calls P f args w R) : (Fence.wide.inRound l).fn f ∧ ((Fence.wide.inRound l).depth.isSome = true → 1 ≤ n) ∧ CallsIn (Fence.wide.inRound l) (n - 1) P f args w R :=
  ⟨trivial, (fun h => (by cases h)), CallsIn.inRound l (callsIn_wide.2 h)⟩
end Go.Proofs.Ytoiakaagbgfocaa.RG
