/- Package code: numbers: its iterator's contract, first part: a row of numbers, yielded. -/
import Derived.Test.YtoiakaagbgfocaaCoKp
namespace Go.Proofs.Ytoiakaagbgfocaa.PC
open Go.RowKit Go.Proofs.YtoiakaagbgfocaaW.PrintWords Go.Proofs.YtoiakaagbgfocaaW.PrintLast Go.Proofs.YtoiakaagbgfocaaW.PrintMore
open Go.Proofs.Ytoiakaagbgfocaa.RG
set_option linter.unusedVariables false
set_option linter.unusedSimpArgs false
attribute [local go_sem] Oper.semAt_some

/-- a row's numbers, each yielded in turn: what a yield does at the k-th -/
def YldN (l : Nat) (xs : List Int) (n₀ : Nat) (J : Nat → World → Prop) (Jx : World → Prop) : Prop :=
  ∀ (k : Nat) (W : World), k < xs.length → n₀ ≤ W.heap.size → J k W → YieldAt Fence.wide 0 Try.prog l #[.int .i64 (rd xs (k : Int))] W fun e W' =>
    (e = .returned (.bool true) ∧ J (k + 1) W' ∧ Kp tsB n₀ W W') ∨ (e = .returned (.bool false) ∧ Jx W')
set_option maxHeartbeats 4000000 in
set_option maxRecDepth 100000 in
theorem num111_calls (l Y : Nat) (x : Int) (W : World) (R : Bool → World → Prop) (hY : YieldAt Fence.wide 0 Try.prog l #[.int .i64 x] W fun e W' => ∃ b, e = .returned (.bool b) ∧ R b W') (hB : Blk W Y #[.func (.yield l) #[] #[]] 67) :
    Calls Try.prog 34 #[.int .i64 x, .pointer (some ⟨Y, 0, none⟩)] W fun e W' => ∃ b, e = .returned (.bool (!b)) ∧ R b W' := by
  refine (callsIn_wide (n := 5)).1 ?_
  refine callsIn_of_wp Try.func34 rfl trivial ?_ rfl
  simp only [Try.ntmps34, List.size_toArray, List.length_cons, List.length_nil, Nat.reduceAdd, Nat.reduceSub, Array.replicate_succ, Array.replicate_zero, List.push_toArray, List.append_toArray, List.nil_append, List.cons_append]
  obtain ⟨c0, f0⟩ := hB.cells1
  obtain ⟨fn, tmps, assign, body, hy, hR⟩ := yield_any (m := 4) hY
  clear hB hY
  gi_wp2
  refine hR.mono ?_
  rintro e W3 ⟨b, rfl, hr⟩
  gi_wp2
  go_ret
  exact ⟨b, rfl, hr⟩
set_option maxHeartbeats 4000000 in
set_option maxRecDepth 100000 in
theorem indexN_calls (l Y L : Nat) (A : Option Addr) (c : Nat) (xs : List Int) (hl : xs.length ≤ 1000000) (cs : Array Value) (n₀ : Nat) (J : Nat → World → Prop) (Jx : World → Prop) (hY : YldN l xs n₀ J Jx)
    (hcs : ∀ W, Blk W L cs 3 → Kd.C (Kd.int .i64) W A xs.length xs) (w : World) (hn : n₀ ≤ w.heap.size) (hB : Blk w Y #[.func (.yield l) #[] #[]] 67) (hL : Blk w L cs 3) (hJ : J 0 w) :
    Calls Try.prog 49 #[.slice A xs.length c, .func (.func 34) #[] #[.pointer (some ⟨Y, 0, none⟩)]] w fun e w' => (e = .returned (.int .i64 (-1)) ∧ J xs.length w' ∧ Kp tsB n₀ w w') ∨ (∃ k : Nat, e = .returned (.int .i64 (k : Int)) ∧ Jx w') := by
  have HN : Hid (∀ (k : Nat) (W : World), k < xs.length → Kp tsB n₀ w W → J k W → Calls Try.prog 34 #[.int .i64 (rd xs (k : Int)), .pointer (some ⟨Y, 0, none⟩)] W fun e W' => ∃ b, e = .returned (.bool (!b)) ∧ ((b = true ∧ J (k + 1) W' ∧ Kp tsB n₀ W W') ∨ (b = false ∧ Jx W'))) :=
    Lib.hid (fun k W hk hkp hj => num111_calls l Y _ W _ ((hY k W hk (Nat.le_trans hn hkp.size) hj).mono (fun e W' h => by
      rcases h with ⟨rfl, h⟩ | ⟨rfl, h⟩
      · exact ⟨true, rfl, .inl ⟨rfl, h⟩⟩
      · exact ⟨false, rfl, .inr ⟨rfl, h⟩⟩)) (hB.kp hkp rfl))
  have HC := Lib.hid (fun W (hk : Kp tsB n₀ w W) => hcs W (hL.kp hk rfl))
  have HL := Lib.hid hl
  have HJ := Lib.hid hJ
  clear hl hJ hB hL hcs hY hn
  go_enter Try.func49, Try.ntmps49
  go_wp2_with fail
  go_loopg [8] xs.length (fun kq v8 w' => ∃ x : Nat, v8 = .int .i64 (x : Int) ∧ Aside0 (x + kq = xs.length) ∧ Aside0 (J x w') ∧ Aside0 (Kp tsB n₀ w w'))
  case atStart => exact ⟨0, rfl, ⟨by omega⟩, ⟨HJ.out⟩, ⟨Kp.refl _ _ _⟩⟩
  case round =>
    obtain ⟨x, rfl, HX, HJ, HK⟩ := hrel
    cases gk with
    | zero =>
      have cx : decide (x < xs.length) = false := decide_eq_false (by have := HX.out; omega)
      have cx' : decide ((x : Int) < (xs.length : Int)) = false := decide_eq_false (by have := HX.out; omega)
      go_wp2_with fail
      go_ret
      have hx : x = xs.length := by have := HX.out; omega
      exact .inl ⟨rfl, by rw [← hx]; exact HJ.out, HK.out⟩
    | succ kk =>
      have hxl : x < xs.length := by have := HX.out; omega
      have cx : decide (x < xs.length) = true := decide_eq_true hxl
      have cx' : decide ((x : Int) < (xs.length : Int)) = true := decide_eq_true (by omega)
      have wx : IntKind.i64.wrap ((x : Int) + 1) = ((x + 1 : Nat) : Int) := by rw [i64_w]; unfold wrap64; have := HL.out; omega
      obtain ⟨ad, ea, hx0⟩ := Kd.at_int (HC.out wr HK.out) (x : Int) (by omega) (by omega)
      simp only [Int.toNat_natCast] at hx0
      have HS := Lib.hid (HN.out x wr hxl HK.out HJ.out)
      cases ea
      generalize rd xs (x : Int) = q at *
      have p1 := eq_true hxl
      have p2 : (0 ≤ (x : Int)) = True := eq_true (by omega)
      have p3 : ((x : Int) < (xs.length : Int)) = True := eq_true (by omega)
      clear hxl
      go_wp2_with fail
      refine HS.out.mono ?_
      rintro e w1 ⟨b, rfl, ⟨rfl, hj, hk⟩ | ⟨rfl, hj⟩⟩
      · have HJ1 := Aside0.mk hj
        have HK1 := Aside0.mk (HK.out.trans hk)
        clear hj hk HJ
        go_wp2_with fail
        go_roundg kk
        case measure => omega
        case rel => exact ⟨x + 1, by simp [wx], ⟨by have := HX.out; omega⟩, HJ1, HK1⟩
      · have HJ1 := Aside0.mk hj
        clear hj HJ
        go_wp2_with fail
        go_ret
        exact .inr ⟨x, rfl, HJ1.out⟩
set_option maxHeartbeats 4000000 in
set_option maxRecDepth 100000 in
theorem containsN_calls (l Y L : Nat) (A : Option Addr) (c : Nat) (xs : List Int) (hl : xs.length ≤ 1000000) (cs : Array Value) (n₀ : Nat) (J : Nat → World → Prop) (Jx : World → Prop) (hY : YldN l xs n₀ J Jx)
    (hcs : ∀ W, Blk W L cs 3 → Kd.C (Kd.int .i64) W A xs.length xs) (w : World) (hn : n₀ ≤ w.heap.size) (hB : Blk w Y #[.func (.yield l) #[] #[]] 67) (hL : Blk w L cs 3) (hJ : J 0 w) :
    Calls Try.prog 33 #[.slice A xs.length c, .func (.func 34) #[] #[.pointer (some ⟨Y, 0, none⟩)]] w fun e w' => (e = .returned (.bool false) ∧ J xs.length w' ∧ Kp tsB n₀ w w') ∨ (e = .returned (.bool true) ∧ Jx w') := by
  have HI := Lib.hid (indexN_calls l Y L A c xs hl cs n₀ J Jx hY hcs w hn hB hL hJ)
  clear hl hJ hB hL hcs hY hn
  go_enter Try.func33, Try.ntmps33
  go_wp2_with fail
  refine HI.out.mono ?_
  rintro e w1 (⟨rfl, hj, hk⟩ | ⟨k, rfl, hj⟩)
  · have HJ := Aside0.mk hj
    have HK := Aside0.mk hk
    clear hj hk
    go_wp2_with fail
    go_ret
    exact .inl ⟨rfl, HJ.out, HK.out⟩
  · have HJ := Aside0.mk hj
    have hk : decide ((k : Int) ≥ 0) = true := decide_eq_true (by omega)
    have hk2 : decide (0 ≤ (k : Int)) = true := hk
    clear hj
    go_wp2_with fail
    go_ret
    exact .inr ⟨by simp, HJ.out⟩
set_option maxHeartbeats 4000000 in
set_option maxRecDepth 100000 in
/-- a row of numbers, each yielded -/
theorem allN_calls (l Y L : Nat) (A : Option Addr) (c : Nat) (xs : List Int) (hl : xs.length ≤ 1000000) (cs : Array Value) (n₀ : Nat) (J : Nat → World → Prop) (Jx : World → Prop) (hY : YldN l xs n₀ J Jx)
    (hcs : ∀ W, Blk W L cs 3 → Kd.C (Kd.int .i64) W A xs.length xs) (w : World) (hn : n₀ ≤ w.heap.size) (hB : Blk w Y #[.func (.yield l) #[] #[]] 67) (hL : Blk w L cs 3) (hJ : J 0 w) :
    Calls Try.prog 32 #[.slice A xs.length c, .pointer (some ⟨Y, 0, none⟩)] w fun e w' => (e = .returned (.bool true) ∧ J xs.length w' ∧ Kp tsB n₀ w w') ∨ (e = .returned (.bool false) ∧ Jx w') := by
  have HI := Lib.hid (containsN_calls l Y L A c xs hl cs n₀ J Jx hY hcs w hn hB hL hJ)
  clear hl hJ hB hL hcs hY hn
  go_enter Try.func32, Try.ntmps32
  go_wp2_with fail
  refine HI.out.mono ?_
  rintro e w1 (⟨rfl, hj, hk⟩ | ⟨rfl, hj⟩)
  · have HJ := Aside0.mk hj
    have HK := Aside0.mk hk
    clear hj hk
    go_wp2_with fail
    go_ret
    exact .inl ⟨rfl, HJ.out, HK.out⟩
  · have HJ := Aside0.mk hj
    clear hj
    go_wp2_with fail
    go_ret
    exact .inr ⟨rfl, HJ.out⟩
end Go.Proofs.Ytoiakaagbgfocaa.PC
