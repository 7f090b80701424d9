/- Package trace: renamed: its iterator's contract. -/
import Derived.Test.YtlkppkmfpinocaaDoorTrMaps
import Derived.Maps.OwnIn
namespace Go.Proofs.YtlkppkmfpinocaaDoor.PT
open Go.RowKit Go.Proofs.YtlkppkmfpinocaaDoorW.PrintWords Go.Proofs.YtlkppkmfpinocaaDoorW.PrintLast Go.Proofs.YtlkppkmfpinocaaDoorW.PrintMore
open Go.Proofs.YtlkppkmfpinocaaDoor.RG
set_option linter.unusedVariables false
set_option linter.unusedSimpArgs false
attribute [local go_sem] Oper.semAt_some

theorem IMap.putIn {F : Fence} {nF : Nat} {e t : TypeId} {w : World} {b n sz : Nat} {f : Int → Option Int} (h : IMap e w b n f sz) (ht : Tryd.prog.underlying t = some (.map 2 e)) (he : Tryd.prog.underlying e = some (.int .i64)) (x y : Int) (hx : i64B x = true) (hy : i64B y = true) (hn : n < 1000000)
    {ops : Array Oper} {rest : List Oper} {o : Oper} {a : Act} {Q : Exit → Act → World → Prop}
    (hg : o.guard = none) (m k v : Operand) (hop : o.op = Op.mapUpdate t m k v) (hm : a.eval m = .map (some b)) (hk : a.eval k = .int .i64 x) (hv : a.eval v = .int .i64 y)
    (hK : ∀ w', IMap e w' b (n + 1) (setI f x y) (if (f x).isSome then sz else sz + 1) → w.grownBy w' (some b) → wpListIn F nF Tryd.prog ops Q rest (a.put o.dst undef) w') : wpListIn F nF Tryd.prog ops Q (o :: rest) a w := by
  obtain ⟨w', hr, h1, h2⟩ := h.store ht he x y hx hy hn
  refine wpListIn_plain hg fun K' hK' => ?_
  unfold Oper.wpIn
  refine ⟨by simp [Oper.about, hop], ?_⟩
  rw [Oper.semAt_plain F _ _ (by rw [hop]; intro c hc'; cases hc')]
  simp [execOp, hop, hm, hk, hv, hr, Result.andThen]
  exact hK' _ _ (hK w' h1 h2)
theorem IMap.same {e : TypeId} {w w' : World} {b n sz : Nat} {f : Int → Option Int} (h : IMap e w b n f sz) (hb : ∀ o, w.heap[b]? = some o → w'.heap[b]? = some o) : IMap e w' b n f sz := by
  obtain ⟨D, ⟨es, c, h1, h3⟩, h2⟩ := h
  exact ⟨D, ⟨es, c, hb _ h1, h3⟩, h2⟩
theorem IMap.walks {e : TypeId} {w w' : World} {b n sz : Nat} {f : Int → Option Int} (h : IMap e w b n f sz) (hk : KeepsWalks w w') : IMap e w' b n f sz := by
  obtain ⟨es, c, h1⟩ := h.mapObj
  exact h.same (fun o ho => hk.same b o ho (by rw [h1] at ho; cases ho; rfl))
theorem IMap.mono {e : TypeId} {w : World} {b n m sz : Nat} {f : Int → Option Int} (h : IMap e w b n f sz) (hm : n ≤ m) : IMap e w b m f sz := by
  obtain ⟨D, h1, h2⟩ := h
  exact ⟨D, h1.mono hm, h2⟩
/-- is it an event of an allocation -/
def isNum (e : S26) : Bool := e.f0 == 1 || e.f0 == 2
def renE (f : Int → Option Int) (sz : Nat) (e : S26) : S26 := if isNum e then ⟨e.f0, (f e.f1).getD (sz : Int)⟩ else e
def renF (f : Int → Option Int) (sz : Nat) (e : S26) : Int → Option Int := if isNum e then (if (f e.f1).isSome then f else setI f e.f1 (sz : Int)) else f
def renS (f : Int → Option Int) (sz : Nat) (e : S26) : Nat := if isNum e then (if (f e.f1).isSome then sz else sz + 1) else sz
/-- events with their allocations numbered anew -/
def renGo : List S26 → (Int → Option Int) → Nat → List S26
  | [], _, _ => []
  | e :: l, f, sz => renE f sz e :: renGo l (renF f sz e) (renS f sz e)
def renAll (l : List S26) : List S26 := renGo l (fun _ => none) 0
theorem renGo_len : ∀ (l : List S26) f sz, (renGo l f sz).length = l.length
  | [], _, _ => rfl
  | e :: l, f, sz => by simp [renGo, renGo_len l]
/-- what a round keeps: what lay below n₀, and the maps -/
def KpR (n₀ : Nat) (A C : World) : Prop := Below n₀ A C ∧ KeepsWalks A C
theorem KpR.refl (n₀ : Nat) (A : World) : KpR n₀ A A := ⟨Below.refl _ _, KeepsWalks.refl _⟩
theorem KpR.trans {n₀ : Nat} {A B C : World} (h : KpR n₀ A B) (k : KpR n₀ B C) : KpR n₀ A C := ⟨h.1.trans k.1, h.2.trans k.2⟩
theorem drop_rd' (l : List S26) (x : Nat) (h : x < l.length) : l.drop x = rd_T26 l (x : Int) :: l.drop (x + 1) := by
  rw [List.drop_eq_getElem_cons h]
  simp [rd_T26, List.getD, h]
theorem i64B_nat {n : Nat} (h : n ≤ 1000000) : i64B (n : Int) = true := by
  simp only [i64B, Bool.and_eq_true, decide_eq_true_eq]
  omega
theorem setI_same (f : Int → Option Int) (x y : Int) : setI f x y x = some y := by simp [setI]
theorem grownBy_pre {w w2 : World} {o : Obj} {row : Option Nat} (h : (w.alloc o).grownBy w2 row) : w.grownBy w2 row :=
  ⟨h.os, h.tape, h.output, Nat.le_trans (by simp) h.size, fun k hk hne => (h.block k (by simp; omega) hne).trans (Below.heap_alloc w o k hk)⟩
theorem grownBy_setNew {w w2 : World} {row : Option Nat} (h : w.grownBy w2 row) {p : Addr} (hp : w.heap.size ≤ p.block) (u : Value) : w.grownBy (w2.setCell p u) row :=
  ⟨h.os, h.tape, h.output, Nat.le_trans h.size (KeepsWalks.setCell w2 p u).size, fun k hk hne => (Below.heap_setCell w2 p u k (by omega)).trans (h.block k hk hne)⟩
set_option maxRecDepth 100000 in
set_option maxHeartbeats 8000000 in
theorem ren1_in (n l Bs n₀ : Nat) (l0 : List S26) (A0 : Option Addr) (c0 : Nat) (hi : i64s l0 = true) (hlen : l0.length ≤ 100000) (J Jx : List S26 → World → Prop)
    (W : World) (hn₀ : n₀ ≤ W.heap.size) (hBs : Bs < n₀) (hB : W.heap[Bs]? = some (.cells #[.slice A0 l0.length c0] 22 (0, 0))) (hr : Kd.C k26 W A0 l0.length l0) (hrn : ∀ W', Below n₀ W W' → Kd.C k26 W' A0 l0.length l0)
    (hJ : ∀ s A C row, J s A → A.grownBy C row → (∀ r, row = some r → W.heap.size ≤ r ∧ ∃ o : Obj, A.heap[r]? = some o ∧ o.isWalk = true) → J s C)
    (hY : ∀ pre x W1, J pre W1 → (renAll l0)[pre.length]? = some x → YieldAt Fence.wide (n - 1) Tryd.prog l #[.agg #[.int .i64 x.f0, .int .i64 x.f1]] W1 fun e W' =>
      (e = .returned (.bool true) ∧ J (pre ++ [x]) W' ∧ KpR n₀ W1 W') ∨ (e = .returned (.bool false) ∧ Jx (pre ++ [x]) W'))
    (h0 : J [] W) :
    CallsIn Fence.wide n Tryd.prog 56 #[.func (.yield l) #[] #[], .pointer (some ⟨Bs, 0, none⟩)] W fun e W' => (∃ v, e = .returned v) ∧ ((∃ ys, ys = renAll l0 ∧ J ys W') ∨ (∃ pre, Jx pre W')) := by
  refine callsIn_of_wp Tryd.func56 rfl trivial ?_ rfl
  simp only [Tryd.ntmps56, List.size_toArray, List.length_cons, List.length_nil, Nat.reduceAdd, Nat.reduceSub, Array.replicate_succ, Array.replicate_zero, List.push_toArray, List.append_toArray, List.nil_append, List.cons_append]
  have hmm := @run_makeMap Tryd.prog
  have HHi := Lib.hid (And.intro hi hlen)
  have c0' := fun o => (Blk.alloc ⟨hB⟩ o).cells1.1
  clear hi hlen
  gi_wp2
  clear hmm c0'
  gi_loopw [11] (fun v11 wr => ∃ (k : Nat) (pre : List S26) (f : Int → Option Int) (sz : Nat), v11 = .int .i64 (k : Int) ∧ Aside0 (k ≤ l0.length ∧ sz ≤ k ∧ pre.length = k) ∧ Aside0 (pre ++ renGo (l0.drop k) f sz = renAll l0) ∧ J pre wr ∧ Aside0 (IMap 2 wr W.heap.size k f sz) ∧ Aside0 (Below n₀ W wr)) (fun v11 _ => l0.length - (intOf v11).toNat)
  case atStart =>
    exact ⟨0, [], _, 0, rfl, ⟨by omega, by omega, rfl⟩, ⟨rfl⟩, hJ _ _ _ none h0 (World.grownBy_alloc _ _ _) (fun r e => by cases e), ⟨IMap.new 2 _⟩, ⟨(Below.refl _ _).alloc hn₀ _⟩⟩
  case round =>
    obtain ⟨k, pre, f, sz, rfl, HK, HP, hj, HM, HB⟩ := hrel
    by_cases hlt : k < l0.length
    · have z1 : decide (k < l0.length) = true := decide_eq_true hlt
      have z2 : decide ((k : Int) < (l0.length : Int)) = true := decide_eq_true (by omega)
      have wx : IntKind.i64.wrap ((k : Int) + 1) = ((k + 1 : Nat) : Int) := by rw [i64_w]; unfold wrap64; have := HHi.out.2; omega
      have hks := HK.out
      obtain ⟨ad, ea, hx0, hx1⟩ := at_T26 (hrn wr HB.out) (k : Int) (by omega) (by omega)
      cases ea
      have hd := drop_rd' l0 k hlt
      have hie := i64s_rd HHi.out.1 k hlt
      simp only [Int.toNat_natCast] at hx0 hx1
      generalize rd_T26 l0 (k : Int) = e at *
      rw [hd] at HP
      obtain ⟨q0, q1⟩ := e
      simp only at hx0 hx1 hie
      have hnext : (renAll l0)[pre.length]? = some (renE f sz ⟨q0, q1⟩) ∧ pre ++ [renE f sz ⟨q0, q1⟩] ++ renGo (l0.drop (k + 1)) (renF f sz ⟨q0, q1⟩) (renS f sz ⟨q0, q1⟩) = renAll l0 := by
        have h1 := HP.out
        rw [← h1]
        simp [renGo]
      have HN := Aside0.mk hnext
      have HYs := Lib.hid (hY pre)
      have Hie := Lib.hid hie
      have HKs := Lib.hid hks
      have p2 : (0 ≤ (k : Int)) = True := eq_true (by omega)
      have p3 : ((k : Int) < (l0.length : Int)) = True := eq_true (by omega)
      have p1 := eq_true hlt
      have hBw : W.heap.size ≤ wr.heap.size := HB.out.size
      have hne : W.heap.size < wr.heap.size := HM.out.lt
      have HW := Lib.hid (And.intro hBw hne)
      have HMo := Lib.hid (HM.out.mapObj)
      have hJW := Lib.hid (hJ pre wr)
      clear hnext HP hY hd hie hks hlt HK hBw hne hB hJ h0
      by_cases k1 : q0 = 1
      · subst k1
        cases hfe : f q1 with
        | some y =>
          have hl1 := fun o => (HM.out.kept (World.grownBy_alloc wr o none) (by simp)).lookOk Tryd.underlying86 Tryd.underlying2 Tryd.zeroValue2 q1 Hie.out
          have hl2 := fun o => (HM.out.kept (World.grownBy_alloc wr o none) (by simp)).look Tryd.underlying86 Tryd.underlying2 Tryd.zeroValue2 q1 Hie.out
          rw [hfe] at hl1 hl2
          simp only [Option.getD_some, Option.isSome_some] at hl1 hl2
          have HNx : Aside0 ((renAll l0)[pre.length]? = some (⟨1, y⟩ : S26) ∧ pre ++ [(⟨1, y⟩ : S26)] ++ renGo (l0.drop (k + 1)) f sz = renAll l0) := ⟨by
            have h1 := HN.out
            simp only [renE, renF, renS, isNum, hfe] at h1
            simp at h1
            simpa using h1⟩
          clear HN hfe
          have hj2 := hJW.out (wr.alloc (.cells #[.int .i64 1, .int .i64 y] 26)) none hj (World.grownBy_alloc _ _ none) (fun r e => (by cases e))
          obtain ⟨fn, tmps, assign, body, hy, hR⟩ := HYs.out (⟨1, y⟩ : S26) _ hj2 HNx.out.1
          dsimp only at hy
          clear hj HYs
          gi_wp2
          refine ⟨(fun h => (by cases h)), hR.mono ?_⟩
          rintro e W3 (⟨rfl, hj3, hk3⟩ | ⟨rfl, hjx3⟩)
          · gi_wp2
            go_roundw
            case rel =>
              refine ⟨k + 1, pre ++ [(⟨1, y⟩ : S26)], f, sz, by simp [wx], ⟨by have := HKs.out; have := of_decide_eq_true z1; omega, by have := HKs.out; omega, by have := HKs.out; simp; omega⟩, ⟨HNx.out.2⟩, hj3, ⟨((HM.out.kept (World.grownBy_alloc wr _ none) (by simp)).mono (Nat.le_succ k)).walks hk3.2⟩, ⟨(HB.out.alloc (Nat.le_trans hn₀ HW.out.1) _).trans hk3.1⟩⟩
            case measure => simp [intOf]; have := HKs.out; have : k < l0.length := of_decide_eq_true z1; omega
          · gi_wp2
            refine bodyPost_ret (results_none rfl _ _ _) rfl ?_
            exact ⟨⟨_, rfl⟩, .inr ⟨_, hjx3⟩⟩
        | none =>
          have hl1 := fun o => (HM.out.kept (World.grownBy_alloc wr o none) (by simp)).lookOk Tryd.underlying86 Tryd.underlying2 Tryd.zeroValue2 q1 Hie.out
          have hln := fun o ty => (HM.out.kept (World.grownBy_alloc wr o none) (by simp)).len Tryd.underlying86 ty
          rw [hfe] at hl1
          simp only [Option.getD_none, Option.isSome_none] at hl1
          have Hf := Lib.hid hfe
          have HNx : Aside0 ((renAll l0)[pre.length]? = some (⟨1, (sz : Int)⟩ : S26) ∧ pre ++ [(⟨1, (sz : Int)⟩ : S26)] ++ renGo (l0.drop (k + 1)) (setI f q1 (sz : Int)) (sz + 1) = renAll l0) := ⟨by
            have h1 := HN.out
            simp only [renE, renF, renS, isNum, hfe] at h1
            simp at h1
            simpa using h1⟩
          clear HN hfe
          gi_wp2_with (gi_at_mapUpdate; refine (HM.out.kept (World.grownBy_alloc wr _ none) (by simp)).putIn Tryd.underlying86 Tryd.underlying2 q1 (sz : Int) Hie.out (i64B_nat (by have := HKs.out; have := HHi.out.2; omega)) (by have := HKs.out; have := HHi.out.2; omega) rfl _ _ _ rfl rfl rfl rfl ?_; intro w2 hm2 hg2; rw [Hf.out] at hm2; have HM2 : Aside0 (IMap 2 w2 W.heap.size (k + 1) (setI f q1 (sz : Int)) (sz + 1)) := ⟨by simpa using hm2⟩; have B5 := blk_kept (Blk.new wr #[.int .i64 1, .int .i64 q1] 26) hg2 (by intro e; have := Option.some.inj e; have := HW.out.2; omega); have hl2 := HM2.out.look Tryd.underlying86 Tryd.underlying2 Tryd.zeroValue2 q1 Hie.out; rw [setI_same, Option.getD_some] at hl2; have e0 := B5.cells2.1.1; have e1 := B5.cells2.1.2; have f0 := B5.cells2.2.1; have f1 := B5.cells2.2.2; have hg3 := grownBy_setNew (grownBy_pre hg2) (p := ⟨wr.heap.size, 1, none⟩) (Nat.le_refl _) (.int .i64 (sz : Int)); have HG3 := Lib.hid hg3; have hj2 := hJW.out _ _ hj hg3 (fun r e => by obtain ⟨es, c, ho⟩ := HMo.out; have h1 := Option.some.inj e; subst h1; exact ⟨Nat.le_refl _, _, ho, rfl⟩); obtain ⟨fn, tmps, assign, body, hy, hR⟩ := HYs.out (⟨1, (sz : Int)⟩ : S26) _ hj2 HNx.out.1; dsimp only at hy; clear hm2 hg2 hg3 hl1 hln hj)
          refine ⟨(fun h => (by cases h)), hR.mono ?_⟩
          rintro e W3 (⟨rfl, hj3, hk3⟩ | ⟨rfl, hjx3⟩)
          · gi_wp2
            go_roundw
            case rel =>
              refine ⟨k + 1, pre ++ [(⟨1, (sz : Int)⟩ : S26)], (setI f q1 (sz : Int)), (sz + 1), by simp [wx], ⟨by have := HKs.out; have := of_decide_eq_true z1; omega, by have := HKs.out; omega, by have := HKs.out; simp; omega⟩, ⟨HNx.out.2⟩, hj3, ⟨(HM2.out.same (fun o ho => (Below.heap_setCell w2 ⟨wr.heap.size, 1, none⟩ _ W.heap.size (by have := HW.out.2; show W.heap.size ≠ wr.heap.size; omega)).trans ho)).walks hk3.2⟩, ⟨((HB.out.grown HG3.out (Nat.le_trans hn₀ HW.out.1) (fun r e => by have h1 := Option.some.inj e; omega))).trans hk3.1⟩⟩
            case measure => simp [intOf]; have := HKs.out; have : k < l0.length := of_decide_eq_true z1; omega
          · gi_wp2
            refine bodyPost_ret (results_none rfl _ _ _) rfl ?_
            exact ⟨⟨_, rfl⟩, .inr ⟨_, hjx3⟩⟩
      by_cases k2 : q0 = 2
      · subst k2
        cases hfe : f q1 with
        | some y =>
          have hl1 := fun o => (HM.out.kept (World.grownBy_alloc wr o none) (by simp)).lookOk Tryd.underlying86 Tryd.underlying2 Tryd.zeroValue2 q1 Hie.out
          have hl2 := fun o => (HM.out.kept (World.grownBy_alloc wr o none) (by simp)).look Tryd.underlying86 Tryd.underlying2 Tryd.zeroValue2 q1 Hie.out
          rw [hfe] at hl1 hl2
          simp only [Option.getD_some, Option.isSome_some] at hl1 hl2
          have HNx : Aside0 ((renAll l0)[pre.length]? = some (⟨2, y⟩ : S26) ∧ pre ++ [(⟨2, y⟩ : S26)] ++ renGo (l0.drop (k + 1)) f sz = renAll l0) := ⟨by
            have h1 := HN.out
            simp only [renE, renF, renS, isNum, hfe] at h1
            simp at h1
            simpa using h1⟩
          clear HN hfe
          have hj2 := hJW.out (wr.alloc (.cells #[.int .i64 2, .int .i64 y] 26)) none hj (World.grownBy_alloc _ _ none) (fun r e => (by cases e))
          obtain ⟨fn, tmps, assign, body, hy, hR⟩ := HYs.out (⟨2, y⟩ : S26) _ hj2 HNx.out.1
          dsimp only at hy
          clear hj HYs
          gi_wp2
          refine ⟨(fun h => (by cases h)), hR.mono ?_⟩
          rintro e W3 (⟨rfl, hj3, hk3⟩ | ⟨rfl, hjx3⟩)
          · gi_wp2
            go_roundw
            case rel =>
              refine ⟨k + 1, pre ++ [(⟨2, y⟩ : S26)], f, sz, by simp [wx], ⟨by have := HKs.out; have := of_decide_eq_true z1; omega, by have := HKs.out; omega, by have := HKs.out; simp; omega⟩, ⟨HNx.out.2⟩, hj3, ⟨((HM.out.kept (World.grownBy_alloc wr _ none) (by simp)).mono (Nat.le_succ k)).walks hk3.2⟩, ⟨(HB.out.alloc (Nat.le_trans hn₀ HW.out.1) _).trans hk3.1⟩⟩
            case measure => simp [intOf]; have := HKs.out; have : k < l0.length := of_decide_eq_true z1; omega
          · gi_wp2
            refine bodyPost_ret (results_none rfl _ _ _) rfl ?_
            exact ⟨⟨_, rfl⟩, .inr ⟨_, hjx3⟩⟩
        | none =>
          have hl1 := fun o => (HM.out.kept (World.grownBy_alloc wr o none) (by simp)).lookOk Tryd.underlying86 Tryd.underlying2 Tryd.zeroValue2 q1 Hie.out
          have hln := fun o ty => (HM.out.kept (World.grownBy_alloc wr o none) (by simp)).len Tryd.underlying86 ty
          rw [hfe] at hl1
          simp only [Option.getD_none, Option.isSome_none] at hl1
          have Hf := Lib.hid hfe
          have HNx : Aside0 ((renAll l0)[pre.length]? = some (⟨2, (sz : Int)⟩ : S26) ∧ pre ++ [(⟨2, (sz : Int)⟩ : S26)] ++ renGo (l0.drop (k + 1)) (setI f q1 (sz : Int)) (sz + 1) = renAll l0) := ⟨by
            have h1 := HN.out
            simp only [renE, renF, renS, isNum, hfe] at h1
            simp at h1
            simpa using h1⟩
          clear HN hfe
          gi_wp2_with (gi_at_mapUpdate; refine (HM.out.kept (World.grownBy_alloc wr _ none) (by simp)).putIn Tryd.underlying86 Tryd.underlying2 q1 (sz : Int) Hie.out (i64B_nat (by have := HKs.out; have := HHi.out.2; omega)) (by have := HKs.out; have := HHi.out.2; omega) rfl _ _ _ rfl rfl rfl rfl ?_; intro w2 hm2 hg2; rw [Hf.out] at hm2; have HM2 : Aside0 (IMap 2 w2 W.heap.size (k + 1) (setI f q1 (sz : Int)) (sz + 1)) := ⟨by simpa using hm2⟩; have B5 := blk_kept (Blk.new wr #[.int .i64 2, .int .i64 q1] 26) hg2 (by intro e; have := Option.some.inj e; have := HW.out.2; omega); have hl2 := HM2.out.look Tryd.underlying86 Tryd.underlying2 Tryd.zeroValue2 q1 Hie.out; rw [setI_same, Option.getD_some] at hl2; have e0 := B5.cells2.1.1; have e1 := B5.cells2.1.2; have f0 := B5.cells2.2.1; have f1 := B5.cells2.2.2; have hg3 := grownBy_setNew (grownBy_pre hg2) (p := ⟨wr.heap.size, 1, none⟩) (Nat.le_refl _) (.int .i64 (sz : Int)); have HG3 := Lib.hid hg3; have hj2 := hJW.out _ _ hj hg3 (fun r e => by obtain ⟨es, c, ho⟩ := HMo.out; have h1 := Option.some.inj e; subst h1; exact ⟨Nat.le_refl _, _, ho, rfl⟩); obtain ⟨fn, tmps, assign, body, hy, hR⟩ := HYs.out (⟨2, (sz : Int)⟩ : S26) _ hj2 HNx.out.1; dsimp only at hy; clear hm2 hg2 hg3 hl1 hln hj)
          refine ⟨(fun h => (by cases h)), hR.mono ?_⟩
          rintro e W3 (⟨rfl, hj3, hk3⟩ | ⟨rfl, hjx3⟩)
          · gi_wp2
            go_roundw
            case rel =>
              refine ⟨k + 1, pre ++ [(⟨2, (sz : Int)⟩ : S26)], (setI f q1 (sz : Int)), (sz + 1), by simp [wx], ⟨by have := HKs.out; have := of_decide_eq_true z1; omega, by have := HKs.out; omega, by have := HKs.out; simp; omega⟩, ⟨HNx.out.2⟩, hj3, ⟨(HM2.out.same (fun o ho => (Below.heap_setCell w2 ⟨wr.heap.size, 1, none⟩ _ W.heap.size (by have := HW.out.2; show W.heap.size ≠ wr.heap.size; omega)).trans ho)).walks hk3.2⟩, ⟨((HB.out.grown HG3.out (Nat.le_trans hn₀ HW.out.1) (fun r e => by have h1 := Option.some.inj e; omega))).trans hk3.1⟩⟩
            case measure => simp [intOf]; have := HKs.out; have : k < l0.length := of_decide_eq_true z1; omega
          · gi_wp2
            refine bodyPost_ret (results_none rfl _ _ _) rfl ?_
            exact ⟨⟨_, rfl⟩, .inr ⟨_, hjx3⟩⟩
      have d1 : (q0 == 1) = false := beq_eq_false_iff_ne.2 k1
      have d2 : (q0 == 2) = false := beq_eq_false_iff_ne.2 k2
      have HNx : Aside0 ((renAll l0)[pre.length]? = some (⟨q0, q1⟩ : S26) ∧ pre ++ [(⟨q0, q1⟩ : S26)] ++ renGo (l0.drop (k + 1)) f sz = renAll l0) := ⟨by
        have h1 := HN.out
        simp only [renE, renF, renS, isNum, d1, d2] at h1
        simp at h1
        simpa using h1⟩
      clear HN k1 k2
      have hj2 := hJW.out (wr.alloc (.cells #[.int .i64 q0, .int .i64 q1] 26)) none hj (World.grownBy_alloc _ _ none) (fun r e => (by cases e))
      obtain ⟨fn, tmps, assign, body, hy, hR⟩ := HYs.out (⟨q0, q1⟩ : S26) _ hj2 HNx.out.1
      dsimp only at hy
      clear hj HYs
      gi_wp2
      refine ⟨(fun h => (by cases h)), hR.mono ?_⟩
      rintro e W3 (⟨rfl, hj3, hk3⟩ | ⟨rfl, hjx3⟩)
      · gi_wp2
        go_roundw
        case rel =>
          refine ⟨k + 1, pre ++ [(⟨q0, q1⟩ : S26)], f, sz, by simp [wx], ⟨by have := HKs.out; have := of_decide_eq_true z1; omega, by have := HKs.out; omega, by have := HKs.out; simp; omega⟩, ⟨HNx.out.2⟩, hj3, ⟨((HM.out.kept (World.grownBy_alloc wr _ none) (by simp)).mono (Nat.le_succ k)).walks hk3.2⟩, ⟨(HB.out.alloc (Nat.le_trans hn₀ HW.out.1) _).trans hk3.1⟩⟩
        case measure => simp [intOf]; have := HKs.out; have : k < l0.length := of_decide_eq_true z1; omega
      · gi_wp2
        refine bodyPost_ret (results_none rfl _ _ _) rfl ?_
        exact ⟨⟨_, rfl⟩, .inr ⟨_, hjx3⟩⟩
    · have z1 : decide (k < l0.length) = false := decide_eq_false hlt
      have hp : pre = renAll l0 := by
        have h1 := HP.out
        rw [List.drop_eq_nil_of_le (by omega)] at h1
        simpa [renGo] using h1
      have HP2 := Aside0.mk hp
      clear hp hlt
      gi_wp2
      go_end0
      exact ⟨⟨_, rfl⟩, .inl ⟨_, HP2.out, hj⟩⟩
end Go.Proofs.YtlkppkmfpinocaaDoor.PT
