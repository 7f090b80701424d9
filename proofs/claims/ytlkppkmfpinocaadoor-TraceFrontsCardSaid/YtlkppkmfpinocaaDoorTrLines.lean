/- strings.Lines: its iterator's contract. -/
import Derived.Test.YtlkppkmfpinocaaDoorTrRead
import Derived.Test.YtlkppkmfpinocaaDoorRgAid
import Derived.Shelf.Abstract
import Derived.Shelf.RegionOpen
import Derived.WalkKit
import Derived.OwnWalkIn
import Derived.TacticsInMore
import Derived.LoopNIn
import Derived.LoopIn
import Derived.BigRegionIn
namespace Go.Proofs.YtlkppkmfpinocaaDoor.PT
open Go.RowKit Go.Proofs.YtlkppkmfpinocaaDoorW.PrintWords Go.Proofs.YtlkppkmfpinocaaDoorW.PrintLast Go.Proofs.YtlkppkmfpinocaaDoorW.PrintMore
open Go.Proofs.YtlkppkmfpinocaaDoor.RG
set_option linter.unusedVariables false
set_option linter.unusedSimpArgs false
attribute [local go_sem] Oper.semAt_some

/-- a text's first line, and what is left -/
def nextA (s : ByteArray) : ByteArray := match findB 10 s.data.toList with | some m => s.extract 0 (m + 1) | none => s
def nextB (s : ByteArray) : ByteArray := match findB 10 s.data.toList with | some m => s.extract (m + 1) s.size | none => wd0
theorem nextB_lt (s : ByteArray) (h : 0 < s.size) : (nextB s).size < s.size := by
  unfold nextB
  split
  · rw [ByteArray.size_extract]
    omega
  · exact h
/-- a text's lines -/
def linesB : Nat → ByteArray → List ByteArray
  | 0, _ => []
  | k + 1, s => if s.size = 0 then [] else nextA s :: linesB k (nextB s)
theorem linesB_enough : ∀ (k : Nat) (s : ByteArray), s.size ≤ k → linesB k s = linesB s.size s
  | 0, s, h => by
    have : s.size = 0 := by omega
    rw [this]
  | k + 1, s, h => by
    by_cases h0 : s.size = 0
    · rw [h0]
      simp [linesB, h0]
    · have h1 := nextB_lt s (by omega)
      obtain ⟨m, hm⟩ : ∃ m, s.size = m + 1 := ⟨s.size - 1, by omega⟩
      rw [hm]
      unfold linesB
      rw [if_neg h0, if_neg h0, linesB_enough k (nextB s) (by omega), linesB_enough m (nextB s) (by omega)]
  termination_by k => k
/-- the box of a text -/
def boxLen (Bs : Nat) (wr : World) : Nat :=
  match wr.heap[Bs]? with
  | some (.cells cs _ _) => match cs[0]? with
    | some (Value.string s) => s.size
    | _ => 0
  | _ => 0
theorem boxLen_eq {Bs : Nat} {wr : World} {s : ByteArray} (h : wr.heap[Bs]? = some (.cells #[.string s] 9 (0, 0))) : boxLen Bs wr = s.size := by
  unfold boxLen
  rw [h]
  rfl
/-- what a round keeps: what lay below n₀, and the iterator's own box -/
def KpL (n₀ Bs : Nat) (A C : World) : Prop := Below n₀ A C ∧ ∀ o, A.heap[Bs]? = some o → C.heap[Bs]? = some o
theorem KpL.refl (n₀ Bs : Nat) (A : World) : KpL n₀ Bs A A := ⟨Below.refl _ _, fun _ h => h⟩
theorem KpL.trans {n₀ Bs : Nat} {A B C : World} (h : KpL n₀ Bs A B) (k : KpL n₀ Bs B C) : KpL n₀ Bs A C := ⟨h.1.trans k.1, fun o ho => k.2 o (h.2 o ho)⟩

set_option maxRecDepth 100000 in
set_option maxHeartbeats 4000000 in
theorem lines1_in (n l Bs n₀ : Nat) (xs : List ByteArray) (J Jx : List ByteArray → World → Prop)
    (hJ : ∀ s A C, J s A → A.grownBy C (some Bs) → J s C)
    (hY : ∀ pre x W, J pre W → xs[pre.length]? = some x → YieldAt Fence.wide (n - 1) Tryd.prog l #[.string x] W fun e W' =>
      (e = .returned (.bool true) ∧ J (pre ++ [x]) W' ∧ KpL n₀ Bs W W') ∨ (e = .returned (.bool false) ∧ Jx (pre ++ [x]) W'))
    (W : World) (s0 : ByteArray) (hs0 : s0.size ≤ 140737488351232) (hB : W.heap[Bs]? = some (.cells #[.string s0] 9 (0, 0))) (hxs : xs = linesB s0.size s0) (h0 : J [] W) :
    CallsIn Fence.wide n Tryd.prog 46 #[.func (.yield l) #[] #[], .pointer (some ⟨Bs, 0, none⟩)] W fun e W' => (∃ v, e = .returned v) ∧ ((∃ ys, ys = xs ∧ J ys W') ∨ (∃ pre, Jx pre W')) := by
  refine callsIn_of_wp Tryd.func46 rfl trivial ?_ rfl
  simp only [Tryd.ntmps46, List.size_toArray, List.length_cons, List.length_nil, Nat.reduceAdd, Nat.reduceSub, Array.replicate_succ, Array.replicate_zero, List.push_toArray, List.append_toArray, List.nil_append, List.cons_append]
  gi_wp2
  gi_loopw [] (fun wr => ∃ (pre : List ByteArray) (s : ByteArray), wr.heap[Bs]? = some (.cells #[.string s] 9 (0, 0)) ∧ Aside0 (s.size ≤ 140737488351232) ∧ Aside0 (pre ++ linesB s.size s = xs) ∧ J pre wr) (fun wr => boxLen Bs wr)
  case atStart => exact ⟨[], s0, hB, ⟨hs0⟩, ⟨hxs.symm⟩, h0⟩
  case round =>
    obtain ⟨pre, s, hb, HS, HP, hj⟩ := hrel
    have c0 := Lib.cell_of_heap hb 0
    have f0 := Lib.frozen_of_heap hb 0
    simp at c0
    have HB := Aside0.mk hb
    clear hb hB
    by_cases hz : s.size = 0
    · have z1 : decide (0 < s.size) = false := decide_eq_false (by omega)
      have z2 : decide ((0 : Int) < (s.size : Int)) = false := decide_eq_false (by omega)
      have hp : pre = xs := by
        have := HP.out
        rw [hz] at this
        simpa [linesB] using this
      have HP2 := Aside0.mk hp
      clear hp
      gi_wp2
      go_end0
      exact ⟨⟨_, rfl⟩, .inl ⟨_, HP2.out, hj⟩⟩
    · have z1 : decide (0 < s.size) = true := decide_eq_true (by omega)
      have z2 : decide ((0 : Int) < (s.size : Int)) = true := decide_eq_true (by omega)
      have hnext : xs[pre.length]? = some (nextA s) ∧ pre ++ [nextA s] ++ linesB (nextB s).size (nextB s) = xs := by
        have h1 := HP.out
        obtain ⟨m, hm⟩ : ∃ m, s.size = m + 1 := ⟨s.size - 1, by omega⟩
        have h2 := nextB_lt s (by omega)
        rw [hm] at h1
        unfold linesB at h1
        rw [if_neg hz, linesB_enough m (nextB s) (by omega)] at h1
        rw [← h1]
        simp
      have HN := Aside0.mk hnext
      have HI := Lib.hid (fun W => Tryd.strings_IndexByte s 10 W)
      have HBs : Aside0 ((nextB s).size ≤ 140737488351232) := ⟨by have := nextB_lt s (by omega); have := HS.out; omega⟩
      have HYs := Lib.hid (hY pre (nextA s))
      clear hnext hz HP hY
      cases hf : findB 10 s.data.toList with
      | none =>
        obtain ⟨h1, _⟩ := findB_none hf
        have ea : nextA s = s := by unfold nextA; rw [hf]
        have eb : nextB s = wd0 := by unfold nextB; rw [hf]
        rw [ea, eb] at HN
        rw [ea] at HYs
        rw [eb] at HBs
        change Hid (∀ W, Calls _ _ _ W fun e w' => e = .returned (.int .i64 (Lib.indexByte s.data.toList 10)) ∧ w' = W) at HI
        rw [h1] at HI
        clear h1 hf ea eb
        gi_wp2_with fail
        refine call_in ((HI.out _).mono ?_)
        rintro e w1 ⟨rfl, rfl⟩
        have hj2 := hJ pre _ (w1.setCell ⟨Bs, 0, none⟩ (.string wd0)) hj (grownBy_setCell' _ _ _)
        have hb2 : (w1.setCell ⟨Bs, 0, none⟩ (.string wd0)).heap[Bs]? = some (.cells #[.string wd0] 9 (0, 0)) := (Blk.set ⟨HB.out⟩ 0 _).out
        have hk2 : Below n₀ w1 w1 := Below.refl _ _
        obtain ⟨fn, tmps, assign, body, hy, hR⟩ := HYs.out _ hj2 HN.out.1
        have HB2 := Aside0.mk hb2
        clear hb2 HI hj
        gi_wp2
        refine ⟨(fun h => (by cases h)), hR.mono ?_⟩
        rintro e W3 (⟨rfl, hj3, hk3⟩ | ⟨rfl, hjx3⟩)
        · gi_wp2
          go_roundw
          case rel => exact ⟨pre ++ [s], wd0, hk3.2 _ HB2.out, ⟨HBs.out⟩, ⟨HN.out.2⟩, hj3⟩
          case measure =>
            rw [boxLen_eq (hk3.2 _ HB2.out), boxLen_eq HB.out]
            exact of_decide_eq_true z1
        · gi_wp2
          refine bodyPost_ret (results_none rfl _ _ _) rfl ?_
          exact ⟨⟨_, rfl⟩, .inr ⟨_, hjx3⟩⟩
      | some m =>
        obtain ⟨h1, h2, _⟩ := findB_some hf
        have ea : nextA s = s.extract 0 (m + 1) := by unfold nextA; rw [hf]
        have eb : nextB s = s.extract (m + 1) s.size := by unfold nextB; rw [hf]
        rw [ea, eb] at HN
        rw [ea] at HYs
        have hlt : (nextB s).size < s.size := nextB_lt s (of_decide_eq_true z1)
        rw [eb] at HBs hlt
        have HLt := Aside0.mk hlt
        change Hid (∀ W, Calls _ _ _ W fun e w' => e = .returned (.int .i64 (Lib.indexByte s.data.toList 10)) ∧ w' = W) at HI
        rw [h1] at HI
        have hm : m < s.size := by rw [ba_len] at h2; exact h2
        have hsz := HS.out
        have p1 : decide (0 ≤ (m : Int)) = true := decide_eq_true (by omega)
        have p3 : (0 ≤ (m : Int) + 1) = True := eq_true (by omega)
        have p4 : (m + 1 ≤ s.size) = True := eq_true (by omega)
        have p5 : IntKind.i64.wrap ((m : Int) + 1) = ((m + 1 : Nat) : Int) := by rw [i64_w]; unfold wrap64; omega
        have p7 : ((m : Int) + 1 ≤ (s.size : Int)) = True := eq_true (by omega)
        clear h1 h2 hf ea eb hlt hm hsz
        gi_wp2_with fail
        refine call_in ((HI.out _).mono ?_)
        rintro e w1 ⟨rfl, rfl⟩
        clear HI
        gi_wp2_with fail
        gi_region
        have hj2 := hJ pre _ _ (hJ pre _ (w1.setCell ⟨Bs, 0, none⟩ (.string (s.extract (m + 1) s.size))) hj (grownBy_setCell' _ _ _)) (grownBy_drew _ _)
        have hb2 : (w1.setCell ⟨Bs, 0, none⟩ (.string (s.extract (m + 1) s.size))).drew.heap[Bs]? = some (.cells #[.string (s.extract (m + 1) s.size)] 9 (0, 0)) := (Blk.set ⟨HB.out⟩ 0 _).drew.out
        obtain ⟨fn, tmps, assign, body, hy, hR⟩ := HYs.out _ hj2 HN.out.1
        have HB2 := Aside0.mk hb2
        clear hb2 hj
        gi_wp2
        refine ⟨(fun h => (by cases h)), hR.mono ?_⟩
        rintro e W3 (⟨rfl, hj3, hk3⟩ | ⟨rfl, hjx3⟩)
        · gi_wp2
          go_roundw
          case rel => exact ⟨pre ++ [s.extract 0 (m + 1)], s.extract (m + 1) s.size, hk3.2 _ HB2.out, ⟨HBs.out⟩, ⟨HN.out.2⟩, hj3⟩
          case measure =>
            rw [boxLen_eq (hk3.2 _ HB2.out), boxLen_eq HB.out]
            exact HLt.out
        · gi_wp2
          refine bodyPost_ret (results_none rfl _ _ _) rfl ?_
          exact ⟨⟨_, rfl⟩, .inr ⟨_, hjx3⟩⟩
theorem lines_stops (n Bs n₀ : Nat) (s0 : ByteArray) (hs0 : s0.size ≤ 140737488351232) (w : World) (hB : w.heap[Bs]? = some (.cells #[.string s0] 9 (0, 0))) :
    SeqT Fence.wide n Tryd.prog 46 #[.pointer (some ⟨Bs, 0, none⟩)] (fun x : ByteArray => #[Value.string x]) (KpL n₀ Bs) (fun r => r = Bs) (fun _ _ => True) (fun ys => ys = linesB s0.size s0) (fun _ => True) (fun pre x => (linesB s0.size s0)[pre.length]? = some x) w := by
  intro l J Jx W hk hs hJ hJx _ hY h0
  refine (lines1_in n l Bs n₀ _ J Jx (fun s A C h hg => hJ s A C _ h hg (fun r e => by cases e; exact .inl rfl)) hY W s0 hs0 (hk.2 _ hB) rfl h0).mono ?_
  rintro e W' ⟨he, ⟨ys, hys, hj⟩ | ⟨pre, hj⟩⟩
  · exact ⟨he, .inl ⟨ys, hys, hj⟩⟩
  · exact ⟨he, .inr ⟨pre, trivial, hj⟩⟩
theorem lines_calls (s : ByteArray) (w : World) : Calls Tryd.prog 32 #[.string s] w fun e w' => e = .returned (.func (.func 46) #[] #[.pointer (some ⟨w.heap.size, 0, none⟩)]) ∧ w' = w.alloc (.cells #[.string s] 9) := by
  go_enter Tryd.func32, Tryd.ntmps32
  go_wp2
  go_ret
  exact ⟨rfl, rfl⟩
end Go.Proofs.YtlkppkmfpinocaaDoor.PT
