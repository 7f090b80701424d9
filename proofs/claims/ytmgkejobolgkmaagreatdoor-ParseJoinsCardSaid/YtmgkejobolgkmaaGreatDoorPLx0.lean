-- PRINTED by print.py (a twelfth state) out of the translation. Not trusted: Lean checks it.
import Derived.Test.YtmgkejobolgkmaaGreatDoorProg
import Derived.Below
import Derived.Deep.Draws
import Derived.Deep.AppendLies
import Derived.Maps.AppendAt
import Derived.OwnWalk
import Derived.Laws.BytesArg
import Derived.Laws.MakeOwn
import Derived.Laws.OwnMore
import Derived.Deep.OwnRows
import Derived.Tactics
import Derived.Lib.ConvBytes
import Derived.Laws.Slices
import Derived.WalkKit
import Derived.KernelRfl
import Derived.RowKit3
import Derived.Deep.LoopGhost
import Derived.Deep.QuietTactic
import Derived.BigQuiet
import Derived.WideLaws
import Derived.Deep.DeepCutAuto
import Derived.Deep.CutBlock
import Derived.Deep.RegionHeld3
import Derived.Laws.Rows
import Derived.Lib.AppendStr
import Derived.ArgAppend
import Derived.Laws.IdiomCopy
import Derived.OrdersHeld
import Derived.Laws.BitsLemmas
import Derived.RowKit
import Derived.Test.YtmgkejobolgkmaaGreatDoorWWords
import Derived.Test.YtmgkejobolgkmaaGreatDoorWLast
import Derived.Test.YtmgkejobolgkmaaGreatDoorWTab
import Derived.Test.YtmgkejobolgkmaaGreatDoorWFour
import Derived.Test.YtmgkejobolgkmaaGreatDoorWQPut
import Derived.Test.YtmgkejobolgkmaaGreatDoorWApart
import Derived.Test.YtmgkejobolgkmaaGreatDoorWArr
import Derived.Test.YtmgkejobolgkmaaGreatDoorWZeros
import Derived.Test.YtmgkejobolgkmaaGreatDoorWFoot
import Derived.Test.YtmgkejobolgkmaaGreatDoorWKept
import Derived.Test.YtmgkejobolgkmaaGreatDoorWShare
import Derived.Test.YtmgkejobolgkmaaGreatDoorWN
import Derived.Test.YtmgkejobolgkmaaGreatDoorWFootNe
import Derived.Test.YtmgkejobolgkmaaGreatDoorWAt
import Derived.Test.YtmgkejobolgkmaaGreatDoorWEqStruct
import Derived.Test.YtmgkejobolgkmaaGreatDoorWRepsOne
import Derived.Test.YtmgkejobolgkmaaGreatDoorWInv
import Derived.Test.YtmgkejobolgkmaaGreatDoorWInvWords
import Derived.Test.YtmgkejobolgkmaaGreatDoorWGuard
import Derived.Test.YtmgkejobolgkmaaGreatDoorWNEv
import Derived.Test.YtmgkejobolgkmaaGreatDoorWMore
namespace Go.Proofs.YtmgkejobolgkmaaGreatDoor.PL
open Go.RowKit Go.Proofs.YtmgkejobolgkmaaGreatDoorW.PrintWords Go.Proofs.YtmgkejobolgkmaaGreatDoorW.PrintLast Go.Proofs.YtmgkejobolgkmaaGreatDoorW.PrintMore
attribute [local go_sem] max2_int min2_int max_two min_two max_three min_three max_four min_four   -- for this text's walks alone
set_option linter.unusedVariables false
set_option linter.unusedSimpArgs false



def errW : Option Int → Value
  | none => .nilIface
  | some c => .iface 0 (.int .i64 c)
theorem errW_none : errW none = .nilIface := rfl
theorem errW_some (c : Int) : errW (some c) = .iface 0 (.int .i64 c) := rfl

-- the values' own types
/-! #### struct type 99 -/
structure S99 where
  f0 : ByteArray
  f1 : ByteArray
def z99 : S99 := ⟨(⟨#[]⟩ : ByteArray), (⟨#[]⟩ : ByteArray)⟩
def k99 : Kd S99 := Kd.iso (Kd.pair Kd.string Kd.string) (fun x : S99 => (x.f0, x.f1))
theorem k99_open {w : World} {x : S99} {cs : List Value} (h : k99.K w x cs) : cs = [.string x.f0, .string x.f1] := by
  obtain ⟨_, _, rfl, rfl, rfl⟩ := h
  exact rfl
theorem k99_openM {w : World} {base : Nat} {ok : Nat → Prop} {x : S99} {cs : List Value} (h : k99.M w base ok x cs) : cs = [.string x.f0, .string x.f1] := by
  obtain ⟨_, _, rfl, rfl, rfl⟩ := h
  exact rfl
theorem k99_mk (w : World) (x : S99)  : k99.K w x [.string x.f0, .string x.f1] := ⟨[.string x.f0], [.string x.f1], rfl, rfl, rfl⟩
theorem k99_mkM (w : World) (base : Nat) (ok : Nat → Prop) (x : S99)  : k99.M w base ok x [.string x.f0, .string x.f1] := ⟨[.string x.f0], [.string x.f1], rfl, rfl, rfl⟩
def rd_T99 (xs : List S99) (i : Int) : S99 := xs.getD i.toNat z99
theorem at_T99 {w : World} {A : Option Addr} {n : Nat} {xs : List S99} (h : Kd.C k99 w A n xs) (i : Int) (h0 : 0 ≤ i) (h1 : i < n) : ∃ ad , A = some ad ∧ w.cell? (ad.add (i.toNat * 2)) = some (.string (rd_T99 xs i).f0) ∧ w.cell? ⟨(ad.add (i.toNat * 2)).block, (ad.add (i.toNat * 2)).off + 1, none⟩ = some (.string (rd_T99 xs i).f1) := by
  obtain ⟨ad, c, e, _, hK, hc0⟩ := Kd.C_get h z99 i h0 h1
  have hc : ∀ j u, c[j]? = some u → w.cell? (ad.add (i.toNat * 2 + j)) = some u := hc0
  obtain rfl := k99_open hK
  exact ⟨ad, e, hc 0 _ rfl, by rw [← add_field _ _ 1 (by omega)]; exact hc 1 _ rfl⟩

def rd_L4 (xs : List (List S99)) (i : Int) : (List S99) := xs.getD i.toNat ([] : List S99)
theorem at_L4 {w : World} {A : Option Addr} {n : Nat} {xs : List (List S99)} (h : Kd.C (Kd.slice 99 k99) w A n xs) (i : Int) (h0 : 0 ≤ i) (h1 : i < n) : ∃ ad A0 c0, A = some ad ∧ w.cell? (ad.add i.toNat) = some (.slice A0 (rd_L4 xs i).length c0) ∧ (rd_L4 xs i).length ≤ c0 ∧ k99.C w A0 (rd_L4 xs i).length (rd_L4 xs i) := by
  obtain ⟨ad, c, e, _, hK, hc0⟩ := Kd.C_get h ([] : List S99) i h0 h1
  have hc : ∀ j u, c[j]? = some u → w.cell? (ad.add (i.toNat * 1 + j)) = some u := hc0
  obtain ⟨A0, c0, rfl, l0, g0⟩ := hK
  exact ⟨ad, A0, c0, e, by have hq := hc 0 _ rfl; rwa [Nat.mul_one, Nat.add_zero] at hq, l0, g0⟩

/-! #### struct type 77 -/
structure S77 where
  f0 : Int
  f1 : ByteArray
  f2 : Bool
  f3 : Bool
  f4 : (List S99)
def z77 : S77 := ⟨(0 : Int), (⟨#[]⟩ : ByteArray), false, false, ([] : List S99)⟩
def k77 : Kd S77 := Kd.iso (Kd.pair (Kd.int .i64) (Kd.pair Kd.string (Kd.pair Kd.bool (Kd.pair Kd.bool (Kd.slice 99 k99))))) (fun x : S77 => (x.f0, x.f1, x.f2, x.f3, x.f4))
theorem k77_open {w : World} {x : S77} {cs : List Value} (h : k77.K w x cs) : ∃ A4 c4, cs = [.int .i64 x.f0, .string x.f1, .bool x.f2, .bool x.f3, .slice A4 x.f4.length c4] ∧ x.f4.length ≤ c4 ∧ k99.C w A4 x.f4.length x.f4 := by
  obtain ⟨_, _, rfl, rfl, ⟨_, _, rfl, rfl, ⟨_, _, rfl, rfl, ⟨_, _, rfl, rfl, ⟨A4, c4, rfl, l4, g4⟩⟩⟩⟩⟩ := h
  exact ⟨A4, c4, rfl, l4, g4⟩
theorem k77_openM {w : World} {base : Nat} {ok : Nat → Prop} {x : S77} {cs : List Value} (h : k77.M w base ok x cs) : ∃ v4, cs = [.int .i64 x.f0, .string x.f1, .bool x.f2, .bool x.f3, v4] ∧ k99.R 99 w base ok v4 x.f4 := by
  obtain ⟨_, _, rfl, rfl, ⟨_, _, rfl, rfl, ⟨_, _, rfl, rfl, ⟨_, _, rfl, rfl, ⟨v4, rfl, g4⟩⟩⟩⟩⟩ := h
  exact ⟨v4, rfl, g4⟩
theorem k77_mk (w : World) (x : S77) {A4 : Option Addr} {c4 : Nat} (l4 : x.f4.length ≤ c4) (g4 : k99.C w A4 x.f4.length x.f4) : k77.K w x [.int .i64 x.f0, .string x.f1, .bool x.f2, .bool x.f3, .slice A4 x.f4.length c4] := ⟨[.int .i64 x.f0], [.string x.f1, .bool x.f2, .bool x.f3, .slice A4 x.f4.length c4], rfl, rfl, ⟨[.string x.f1], [.bool x.f2, .bool x.f3, .slice A4 x.f4.length c4], rfl, rfl, ⟨[.bool x.f2], [.bool x.f3, .slice A4 x.f4.length c4], rfl, rfl, ⟨[.bool x.f3], [.slice A4 x.f4.length c4], rfl, rfl, ⟨A4, c4, rfl, l4, g4⟩⟩⟩⟩⟩
theorem k77_mkM (w : World) (base : Nat) (ok : Nat → Prop) (x : S77) {v4 : Value} (g4 : k99.R 99 w base ok v4 x.f4) : k77.M w base ok x [.int .i64 x.f0, .string x.f1, .bool x.f2, .bool x.f3, v4] := ⟨[.int .i64 x.f0], [.string x.f1, .bool x.f2, .bool x.f3, v4], rfl, rfl, ⟨[.string x.f1], [.bool x.f2, .bool x.f3, v4], rfl, rfl, ⟨[.bool x.f2], [.bool x.f3, v4], rfl, rfl, ⟨[.bool x.f3], [v4], rfl, rfl, ⟨v4, rfl, g4⟩⟩⟩⟩⟩
def rd_T77 (xs : List S77) (i : Int) : S77 := xs.getD i.toNat z77
theorem at_T77 {w : World} {A : Option Addr} {n : Nat} {xs : List S77} (h : Kd.C k77 w A n xs) (i : Int) (h0 : 0 ≤ i) (h1 : i < n) : ∃ ad A4 c4, A = some ad ∧ w.cell? (ad.add (i.toNat * 5)) = some (.int .i64 (rd_T77 xs i).f0) ∧ w.cell? ⟨(ad.add (i.toNat * 5)).block, (ad.add (i.toNat * 5)).off + 1, none⟩ = some (.string (rd_T77 xs i).f1) ∧ w.cell? ⟨(ad.add (i.toNat * 5)).block, (ad.add (i.toNat * 5)).off + 2, none⟩ = some (.bool (rd_T77 xs i).f2) ∧ w.cell? ⟨(ad.add (i.toNat * 5)).block, (ad.add (i.toNat * 5)).off + 3, none⟩ = some (.bool (rd_T77 xs i).f3) ∧ w.cell? ⟨(ad.add (i.toNat * 5)).block, (ad.add (i.toNat * 5)).off + 4, none⟩ = some (.slice A4 (rd_T77 xs i).f4.length c4) ∧ (rd_T77 xs i).f4.length ≤ c4 ∧ k99.C w A4 (rd_T77 xs i).f4.length (rd_T77 xs i).f4 := by
  obtain ⟨ad, c, e, _, hK, hc0⟩ := Kd.C_get h z77 i h0 h1
  have hc : ∀ j u, c[j]? = some u → w.cell? (ad.add (i.toNat * 5 + j)) = some u := hc0
  obtain ⟨A4, c4, rfl, l4, g4⟩ := k77_open hK
  exact ⟨ad, A4, c4, e, hc 0 _ rfl, by rw [← add_field _ _ 1 (by omega)]; exact hc 1 _ rfl, by rw [← add_field _ _ 2 (by omega)]; exact hc 2 _ rfl, by rw [← add_field _ _ 3 (by omega)]; exact hc 3 _ rfl, by rw [← add_field _ _ 4 (by omega)]; exact hc 4 _ rfl, l4, g4⟩

def rd_L6 (xs : List (List S77)) (i : Int) : (List S77) := xs.getD i.toNat ([] : List S77)
theorem at_L6 {w : World} {A : Option Addr} {n : Nat} {xs : List (List S77)} (h : Kd.C (Kd.slice 77 k77) w A n xs) (i : Int) (h0 : 0 ≤ i) (h1 : i < n) : ∃ ad A0 c0, A = some ad ∧ w.cell? (ad.add i.toNat) = some (.slice A0 (rd_L6 xs i).length c0) ∧ (rd_L6 xs i).length ≤ c0 ∧ k77.C w A0 (rd_L6 xs i).length (rd_L6 xs i) := by
  obtain ⟨ad, c, e, _, hK, hc0⟩ := Kd.C_get h ([] : List S77) i h0 h1
  have hc : ∀ j u, c[j]? = some u → w.cell? (ad.add (i.toNat * 1 + j)) = some u := hc0
  obtain ⟨A0, c0, rfl, l0, g0⟩ := hK
  exact ⟨ad, A0, c0, e, by have hq := hc 0 _ rfl; rwa [Nat.mul_one, Nat.add_zero] at hq, l0, g0⟩

/-! #### struct type 80 -/
structure S80 where
  f0 : Int
  f1 : ByteArray
  f2 : (List S99)
def z80 : S80 := ⟨(0 : Int), (⟨#[]⟩ : ByteArray), ([] : List S99)⟩
def k80 : Kd S80 := Kd.iso (Kd.pair (Kd.int .i64) (Kd.pair Kd.string (Kd.slice 99 k99))) (fun x : S80 => (x.f0, x.f1, x.f2))
theorem k80_open {w : World} {x : S80} {cs : List Value} (h : k80.K w x cs) : ∃ A2 c2, cs = [.int .i64 x.f0, .string x.f1, .slice A2 x.f2.length c2] ∧ x.f2.length ≤ c2 ∧ k99.C w A2 x.f2.length x.f2 := by
  obtain ⟨_, _, rfl, rfl, ⟨_, _, rfl, rfl, ⟨A2, c2, rfl, l2, g2⟩⟩⟩ := h
  exact ⟨A2, c2, rfl, l2, g2⟩
theorem k80_openM {w : World} {base : Nat} {ok : Nat → Prop} {x : S80} {cs : List Value} (h : k80.M w base ok x cs) : ∃ v2, cs = [.int .i64 x.f0, .string x.f1, v2] ∧ k99.R 99 w base ok v2 x.f2 := by
  obtain ⟨_, _, rfl, rfl, ⟨_, _, rfl, rfl, ⟨v2, rfl, g2⟩⟩⟩ := h
  exact ⟨v2, rfl, g2⟩
theorem k80_mk (w : World) (x : S80) {A2 : Option Addr} {c2 : Nat} (l2 : x.f2.length ≤ c2) (g2 : k99.C w A2 x.f2.length x.f2) : k80.K w x [.int .i64 x.f0, .string x.f1, .slice A2 x.f2.length c2] := ⟨[.int .i64 x.f0], [.string x.f1, .slice A2 x.f2.length c2], rfl, rfl, ⟨[.string x.f1], [.slice A2 x.f2.length c2], rfl, rfl, ⟨A2, c2, rfl, l2, g2⟩⟩⟩
theorem k80_mkM (w : World) (base : Nat) (ok : Nat → Prop) (x : S80) {v2 : Value} (g2 : k99.R 99 w base ok v2 x.f2) : k80.M w base ok x [.int .i64 x.f0, .string x.f1, v2] := ⟨[.int .i64 x.f0], [.string x.f1, v2], rfl, rfl, ⟨[.string x.f1], [v2], rfl, rfl, ⟨v2, rfl, g2⟩⟩⟩
def rd_T80 (xs : List S80) (i : Int) : S80 := xs.getD i.toNat z80
theorem at_T80 {w : World} {A : Option Addr} {n : Nat} {xs : List S80} (h : Kd.C k80 w A n xs) (i : Int) (h0 : 0 ≤ i) (h1 : i < n) : ∃ ad A2 c2, A = some ad ∧ w.cell? (ad.add (i.toNat * 3)) = some (.int .i64 (rd_T80 xs i).f0) ∧ w.cell? ⟨(ad.add (i.toNat * 3)).block, (ad.add (i.toNat * 3)).off + 1, none⟩ = some (.string (rd_T80 xs i).f1) ∧ w.cell? ⟨(ad.add (i.toNat * 3)).block, (ad.add (i.toNat * 3)).off + 2, none⟩ = some (.slice A2 (rd_T80 xs i).f2.length c2) ∧ (rd_T80 xs i).f2.length ≤ c2 ∧ k99.C w A2 (rd_T80 xs i).f2.length (rd_T80 xs i).f2 := by
  obtain ⟨ad, c, e, _, hK, hc0⟩ := Kd.C_get h z80 i h0 h1
  have hc : ∀ j u, c[j]? = some u → w.cell? (ad.add (i.toNat * 3 + j)) = some u := hc0
  obtain ⟨A2, c2, rfl, l2, g2⟩ := k80_open hK
  exact ⟨ad, A2, c2, e, hc 0 _ rfl, by rw [← add_field _ _ 1 (by omega)]; exact hc 1 _ rfl, by rw [← add_field _ _ 2 (by omega)]; exact hc 2 _ rfl, l2, g2⟩

def rd_L8 (xs : List (List S80)) (i : Int) : (List S80) := xs.getD i.toNat ([] : List S80)
theorem at_L8 {w : World} {A : Option Addr} {n : Nat} {xs : List (List S80)} (h : Kd.C (Kd.slice 80 k80) w A n xs) (i : Int) (h0 : 0 ≤ i) (h1 : i < n) : ∃ ad A0 c0, A = some ad ∧ w.cell? (ad.add i.toNat) = some (.slice A0 (rd_L8 xs i).length c0) ∧ (rd_L8 xs i).length ≤ c0 ∧ k80.C w A0 (rd_L8 xs i).length (rd_L8 xs i) := by
  obtain ⟨ad, c, e, _, hK, hc0⟩ := Kd.C_get h ([] : List S80) i h0 h1
  have hc : ∀ j u, c[j]? = some u → w.cell? (ad.add (i.toNat * 1 + j)) = some u := hc0
  obtain ⟨A0, c0, rfl, l0, g0⟩ := hK
  exact ⟨ad, A0, c0, e, by have hq := hc 0 _ rfl; rwa [Nat.mul_one, Nat.add_zero] at hq, l0, g0⟩

def rd_L9 (xs : List (List ByteArray)) (i : Int) : (List ByteArray) := xs.getD i.toNat ([] : List ByteArray)
theorem at_L9 {w : World} {A : Option Addr} {n : Nat} {xs : List (List ByteArray)} (h : Kd.C (Kd.slice 9 Kd.string) w A n xs) (i : Int) (h0 : 0 ≤ i) (h1 : i < n) : ∃ ad A0 c0, A = some ad ∧ w.cell? (ad.add i.toNat) = some (.slice A0 (rd_L9 xs i).length c0) ∧ (rd_L9 xs i).length ≤ c0 ∧ Kd.string.C w A0 (rd_L9 xs i).length (rd_L9 xs i) := by
  obtain ⟨ad, c, e, _, hK, hc0⟩ := Kd.C_get h ([] : List ByteArray) i h0 h1
  have hc : ∀ j u, c[j]? = some u → w.cell? (ad.add (i.toNat * 1 + j)) = some u := hc0
  obtain ⟨A0, c0, rfl, l0, g0⟩ := hK
  exact ⟨ad, A0, c0, e, by have hq := hc 0 _ rfl; rwa [Nat.mul_one, Nat.add_zero] at hq, l0, g0⟩

/-! #### struct type 50 -/
structure S50 where
  f0 : ByteArray
  f1 : (List ByteArray)
def z50 : S50 := ⟨(⟨#[]⟩ : ByteArray), ([] : List ByteArray)⟩
def k50 : Kd S50 := Kd.iso (Kd.pair Kd.string (Kd.slice 9 Kd.string)) (fun x : S50 => (x.f0, x.f1))
theorem k50_open {w : World} {x : S50} {cs : List Value} (h : k50.K w x cs) : ∃ A1 c1, cs = [.string x.f0, .slice A1 x.f1.length c1] ∧ x.f1.length ≤ c1 ∧ Kd.string.C w A1 x.f1.length x.f1 := by
  obtain ⟨_, _, rfl, rfl, ⟨A1, c1, rfl, l1, g1⟩⟩ := h
  exact ⟨A1, c1, rfl, l1, g1⟩
theorem k50_openM {w : World} {base : Nat} {ok : Nat → Prop} {x : S50} {cs : List Value} (h : k50.M w base ok x cs) : ∃ v1, cs = [.string x.f0, v1] ∧ Kd.string.R 9 w base ok v1 x.f1 := by
  obtain ⟨_, _, rfl, rfl, ⟨v1, rfl, g1⟩⟩ := h
  exact ⟨v1, rfl, g1⟩
theorem k50_mk (w : World) (x : S50) {A1 : Option Addr} {c1 : Nat} (l1 : x.f1.length ≤ c1) (g1 : Kd.string.C w A1 x.f1.length x.f1) : k50.K w x [.string x.f0, .slice A1 x.f1.length c1] := ⟨[.string x.f0], [.slice A1 x.f1.length c1], rfl, rfl, ⟨A1, c1, rfl, l1, g1⟩⟩
theorem k50_mkM (w : World) (base : Nat) (ok : Nat → Prop) (x : S50) {v1 : Value} (g1 : Kd.string.R 9 w base ok v1 x.f1) : k50.M w base ok x [.string x.f0, v1] := ⟨[.string x.f0], [v1], rfl, rfl, ⟨v1, rfl, g1⟩⟩
def rd_T50 (xs : List S50) (i : Int) : S50 := xs.getD i.toNat z50
theorem at_T50 {w : World} {A : Option Addr} {n : Nat} {xs : List S50} (h : Kd.C k50 w A n xs) (i : Int) (h0 : 0 ≤ i) (h1 : i < n) : ∃ ad A1 c1, A = some ad ∧ w.cell? (ad.add (i.toNat * 2)) = some (.string (rd_T50 xs i).f0) ∧ w.cell? ⟨(ad.add (i.toNat * 2)).block, (ad.add (i.toNat * 2)).off + 1, none⟩ = some (.slice A1 (rd_T50 xs i).f1.length c1) ∧ (rd_T50 xs i).f1.length ≤ c1 ∧ Kd.string.C w A1 (rd_T50 xs i).f1.length (rd_T50 xs i).f1 := by
  obtain ⟨ad, c, e, _, hK, hc0⟩ := Kd.C_get h z50 i h0 h1
  have hc : ∀ j u, c[j]? = some u → w.cell? (ad.add (i.toNat * 2 + j)) = some u := hc0
  obtain ⟨A1, c1, rfl, l1, g1⟩ := k50_open hK
  exact ⟨ad, A1, c1, e, hc 0 _ rfl, by rw [← add_field _ _ 1 (by omega)]; exact hc 1 _ rfl, l1, g1⟩

def rd_L11 (xs : List (List S50)) (i : Int) : (List S50) := xs.getD i.toNat ([] : List S50)
theorem at_L11 {w : World} {A : Option Addr} {n : Nat} {xs : List (List S50)} (h : Kd.C (Kd.slice 50 k50) w A n xs) (i : Int) (h0 : 0 ≤ i) (h1 : i < n) : ∃ ad A0 c0, A = some ad ∧ w.cell? (ad.add i.toNat) = some (.slice A0 (rd_L11 xs i).length c0) ∧ (rd_L11 xs i).length ≤ c0 ∧ k50.C w A0 (rd_L11 xs i).length (rd_L11 xs i) := by
  obtain ⟨ad, c, e, _, hK, hc0⟩ := Kd.C_get h ([] : List S50) i h0 h1
  have hc : ∀ j u, c[j]? = some u → w.cell? (ad.add (i.toNat * 1 + j)) = some u := hc0
  obtain ⟨A0, c0, rfl, l0, g0⟩ := hK
  exact ⟨ad, A0, c0, e, by have hq := hc 0 _ rfl; rwa [Nat.mul_one, Nat.add_zero] at hq, l0, g0⟩

/-! #### struct type 53 -/
structure S53 where
  f0 : Int
  f1 : Int
  f2 : S50
  f3 : Int
  f4 : ByteArray
  f5 : ByteArray
  f6 : (List S50)
def z53 : S53 := ⟨(0 : Int), (0 : Int), z50, (0 : Int), (⟨#[]⟩ : ByteArray), (⟨#[]⟩ : ByteArray), ([] : List S50)⟩
def k53 : Kd S53 := Kd.iso (Kd.pair (Kd.int .i64) (Kd.pair (Kd.int .i64) (Kd.pair k50 (Kd.pair (Kd.int .i64) (Kd.pair Kd.string (Kd.pair Kd.string (Kd.slice 50 k50))))))) (fun x : S53 => (x.f0, x.f1, x.f2, x.f3, x.f4, x.f5, x.f6))
theorem k53_open {w : World} {x : S53} {cs : List Value} (h : k53.K w x cs) : ∃ A3 c3 A7 c7, cs = [.int .i64 x.f0, .int .i64 x.f1, .string x.f2.f0, .slice A3 x.f2.f1.length c3, .int .i64 x.f3, .string x.f4, .string x.f5, .slice A7 x.f6.length c7] ∧ x.f2.f1.length ≤ c3 ∧ Kd.string.C w A3 x.f2.f1.length x.f2.f1 ∧ x.f6.length ≤ c7 ∧ k50.C w A7 x.f6.length x.f6 := by
  obtain ⟨_, _, rfl, rfl, ⟨_, _, rfl, rfl, ⟨_, _, rfl, s2, ⟨_, _, rfl, rfl, ⟨_, _, rfl, rfl, ⟨_, _, rfl, rfl, ⟨A7, c7, rfl, l7, g7⟩⟩⟩⟩⟩⟩⟩ := h
  obtain ⟨A3, c3, rfl, l3, g3⟩ := k50_open s2
  exact ⟨A3, c3, A7, c7, rfl, l3, g3, l7, g7⟩
theorem k53_openM {w : World} {base : Nat} {ok : Nat → Prop} {x : S53} {cs : List Value} (h : k53.M w base ok x cs) : ∃ v3 v7, cs = [.int .i64 x.f0, .int .i64 x.f1, .string x.f2.f0, v3, .int .i64 x.f3, .string x.f4, .string x.f5, v7] ∧ Kd.string.R 9 w base ok v3 x.f2.f1 ∧ k50.R 50 w base ok v7 x.f6 := by
  obtain ⟨_, _, rfl, rfl, ⟨_, _, rfl, rfl, ⟨_, _, rfl, s2, ⟨_, _, rfl, rfl, ⟨_, _, rfl, rfl, ⟨_, _, rfl, rfl, ⟨v7, rfl, g7⟩⟩⟩⟩⟩⟩⟩ := h
  obtain ⟨v3, rfl, g3⟩ := k50_openM s2
  exact ⟨v3, v7, rfl, g3, g7⟩
theorem k53_mk (w : World) (x : S53) {A3 : Option Addr} {c3 : Nat} (l3 : x.f2.f1.length ≤ c3) (g3 : Kd.string.C w A3 x.f2.f1.length x.f2.f1) {A7 : Option Addr} {c7 : Nat} (l7 : x.f6.length ≤ c7) (g7 : k50.C w A7 x.f6.length x.f6) : k53.K w x [.int .i64 x.f0, .int .i64 x.f1, .string x.f2.f0, .slice A3 x.f2.f1.length c3, .int .i64 x.f3, .string x.f4, .string x.f5, .slice A7 x.f6.length c7] := ⟨[.int .i64 x.f0], [.int .i64 x.f1, .string x.f2.f0, .slice A3 x.f2.f1.length c3, .int .i64 x.f3, .string x.f4, .string x.f5, .slice A7 x.f6.length c7], rfl, rfl, ⟨[.int .i64 x.f1], [.string x.f2.f0, .slice A3 x.f2.f1.length c3, .int .i64 x.f3, .string x.f4, .string x.f5, .slice A7 x.f6.length c7], rfl, rfl, ⟨[.string x.f2.f0, .slice A3 x.f2.f1.length c3], [.int .i64 x.f3, .string x.f4, .string x.f5, .slice A7 x.f6.length c7], rfl, (k50_mk w x.f2 l3 g3), ⟨[.int .i64 x.f3], [.string x.f4, .string x.f5, .slice A7 x.f6.length c7], rfl, rfl, ⟨[.string x.f4], [.string x.f5, .slice A7 x.f6.length c7], rfl, rfl, ⟨[.string x.f5], [.slice A7 x.f6.length c7], rfl, rfl, ⟨A7, c7, rfl, l7, g7⟩⟩⟩⟩⟩⟩⟩
theorem k53_mkM (w : World) (base : Nat) (ok : Nat → Prop) (x : S53) {v3 : Value} (g3 : Kd.string.R 9 w base ok v3 x.f2.f1) {v7 : Value} (g7 : k50.R 50 w base ok v7 x.f6) : k53.M w base ok x [.int .i64 x.f0, .int .i64 x.f1, .string x.f2.f0, v3, .int .i64 x.f3, .string x.f4, .string x.f5, v7] := ⟨[.int .i64 x.f0], [.int .i64 x.f1, .string x.f2.f0, v3, .int .i64 x.f3, .string x.f4, .string x.f5, v7], rfl, rfl, ⟨[.int .i64 x.f1], [.string x.f2.f0, v3, .int .i64 x.f3, .string x.f4, .string x.f5, v7], rfl, rfl, ⟨[.string x.f2.f0, v3], [.int .i64 x.f3, .string x.f4, .string x.f5, v7], rfl, (k50_mkM w base ok x.f2 g3), ⟨[.int .i64 x.f3], [.string x.f4, .string x.f5, v7], rfl, rfl, ⟨[.string x.f4], [.string x.f5, v7], rfl, rfl, ⟨[.string x.f5], [v7], rfl, rfl, ⟨v7, rfl, g7⟩⟩⟩⟩⟩⟩⟩
def rd_T53 (xs : List S53) (i : Int) : S53 := xs.getD i.toNat z53
theorem at_T53 {w : World} {A : Option Addr} {n : Nat} {xs : List S53} (h : Kd.C k53 w A n xs) (i : Int) (h0 : 0 ≤ i) (h1 : i < n) : ∃ ad A3 c3 A7 c7, A = some ad ∧ w.cell? (ad.add (i.toNat * 8)) = some (.int .i64 (rd_T53 xs i).f0) ∧ w.cell? ⟨(ad.add (i.toNat * 8)).block, (ad.add (i.toNat * 8)).off + 1, none⟩ = some (.int .i64 (rd_T53 xs i).f1) ∧ w.cell? ⟨(ad.add (i.toNat * 8)).block, (ad.add (i.toNat * 8)).off + 2, none⟩ = some (.string (rd_T53 xs i).f2.f0) ∧ w.cell? ⟨(ad.add (i.toNat * 8)).block, (ad.add (i.toNat * 8)).off + 3, none⟩ = some (.slice A3 (rd_T53 xs i).f2.f1.length c3) ∧ w.cell? ⟨(ad.add (i.toNat * 8)).block, (ad.add (i.toNat * 8)).off + 4, none⟩ = some (.int .i64 (rd_T53 xs i).f3) ∧ w.cell? ⟨(ad.add (i.toNat * 8)).block, (ad.add (i.toNat * 8)).off + 5, none⟩ = some (.string (rd_T53 xs i).f4) ∧ w.cell? ⟨(ad.add (i.toNat * 8)).block, (ad.add (i.toNat * 8)).off + 6, none⟩ = some (.string (rd_T53 xs i).f5) ∧ w.cell? ⟨(ad.add (i.toNat * 8)).block, (ad.add (i.toNat * 8)).off + 7, none⟩ = some (.slice A7 (rd_T53 xs i).f6.length c7) ∧ (rd_T53 xs i).f2.f1.length ≤ c3 ∧ Kd.string.C w A3 (rd_T53 xs i).f2.f1.length (rd_T53 xs i).f2.f1 ∧ (rd_T53 xs i).f6.length ≤ c7 ∧ k50.C w A7 (rd_T53 xs i).f6.length (rd_T53 xs i).f6 := by
  obtain ⟨ad, c, e, _, hK, hc0⟩ := Kd.C_get h z53 i h0 h1
  have hc : ∀ j u, c[j]? = some u → w.cell? (ad.add (i.toNat * 8 + j)) = some u := hc0
  obtain ⟨A3, c3, A7, c7, rfl, l3, g3, l7, g7⟩ := k53_open hK
  exact ⟨ad, A3, c3, A7, c7, e, hc 0 _ rfl, by rw [← add_field _ _ 1 (by omega)]; exact hc 1 _ rfl, by rw [← add_field _ _ 2 (by omega)]; exact hc 2 _ rfl, by rw [← add_field _ _ 3 (by omega)]; exact hc 3 _ rfl, by rw [← add_field _ _ 4 (by omega)]; exact hc 4 _ rfl, by rw [← add_field _ _ 5 (by omega)]; exact hc 5 _ rfl, by rw [← add_field _ _ 6 (by omega)]; exact hc 6 _ rfl, by rw [← add_field _ _ 7 (by omega)]; exact hc 7 _ rfl, l3, g3, l7, g7⟩

def rd_L13 (xs : List (List S53)) (i : Int) : (List S53) := xs.getD i.toNat ([] : List S53)
theorem at_L13 {w : World} {A : Option Addr} {n : Nat} {xs : List (List S53)} (h : Kd.C (Kd.slice 53 k53) w A n xs) (i : Int) (h0 : 0 ≤ i) (h1 : i < n) : ∃ ad A0 c0, A = some ad ∧ w.cell? (ad.add i.toNat) = some (.slice A0 (rd_L13 xs i).length c0) ∧ (rd_L13 xs i).length ≤ c0 ∧ k53.C w A0 (rd_L13 xs i).length (rd_L13 xs i) := by
  obtain ⟨ad, c, e, _, hK, hc0⟩ := Kd.C_get h ([] : List S53) i h0 h1
  have hc : ∀ j u, c[j]? = some u → w.cell? (ad.add (i.toNat * 1 + j)) = some u := hc0
  obtain ⟨A0, c0, rfl, l0, g0⟩ := hK
  exact ⟨ad, A0, c0, e, by have hq := hc 0 _ rfl; rwa [Nat.mul_one, Nat.add_zero] at hq, l0, g0⟩

/-! #### struct type 92 -/
structure S92 where
  f0 : ByteArray
  f1 : ByteArray
  f2 : ByteArray
def z92 : S92 := ⟨(⟨#[]⟩ : ByteArray), (⟨#[]⟩ : ByteArray), (⟨#[]⟩ : ByteArray)⟩
def k92 : Kd S92 := Kd.iso (Kd.pair Kd.string (Kd.pair Kd.string Kd.string)) (fun x : S92 => (x.f0, x.f1, x.f2))
theorem k92_open {w : World} {x : S92} {cs : List Value} (h : k92.K w x cs) : cs = [.string x.f0, .string x.f1, .string x.f2] := by
  obtain ⟨_, _, rfl, rfl, ⟨_, _, rfl, rfl, rfl⟩⟩ := h
  exact rfl
theorem k92_openM {w : World} {base : Nat} {ok : Nat → Prop} {x : S92} {cs : List Value} (h : k92.M w base ok x cs) : cs = [.string x.f0, .string x.f1, .string x.f2] := by
  obtain ⟨_, _, rfl, rfl, ⟨_, _, rfl, rfl, rfl⟩⟩ := h
  exact rfl
theorem k92_mk (w : World) (x : S92)  : k92.K w x [.string x.f0, .string x.f1, .string x.f2] := ⟨[.string x.f0], [.string x.f1, .string x.f2], rfl, rfl, ⟨[.string x.f1], [.string x.f2], rfl, rfl, rfl⟩⟩
theorem k92_mkM (w : World) (base : Nat) (ok : Nat → Prop) (x : S92)  : k92.M w base ok x [.string x.f0, .string x.f1, .string x.f2] := ⟨[.string x.f0], [.string x.f1, .string x.f2], rfl, rfl, ⟨[.string x.f1], [.string x.f2], rfl, rfl, rfl⟩⟩
def rd_T92 (xs : List S92) (i : Int) : S92 := xs.getD i.toNat z92
theorem at_T92 {w : World} {A : Option Addr} {n : Nat} {xs : List S92} (h : Kd.C k92 w A n xs) (i : Int) (h0 : 0 ≤ i) (h1 : i < n) : ∃ ad , A = some ad ∧ w.cell? (ad.add (i.toNat * 3)) = some (.string (rd_T92 xs i).f0) ∧ w.cell? ⟨(ad.add (i.toNat * 3)).block, (ad.add (i.toNat * 3)).off + 1, none⟩ = some (.string (rd_T92 xs i).f1) ∧ w.cell? ⟨(ad.add (i.toNat * 3)).block, (ad.add (i.toNat * 3)).off + 2, none⟩ = some (.string (rd_T92 xs i).f2) := by
  obtain ⟨ad, c, e, _, hK, hc0⟩ := Kd.C_get h z92 i h0 h1
  have hc : ∀ j u, c[j]? = some u → w.cell? (ad.add (i.toNat * 3 + j)) = some u := hc0
  obtain rfl := k92_open hK
  exact ⟨ad, e, hc 0 _ rfl, by rw [← add_field _ _ 1 (by omega)]; exact hc 1 _ rfl, by rw [← add_field _ _ 2 (by omega)]; exact hc 2 _ rfl⟩

def rd_L15 (xs : List (List S92)) (i : Int) : (List S92) := xs.getD i.toNat ([] : List S92)
theorem at_L15 {w : World} {A : Option Addr} {n : Nat} {xs : List (List S92)} (h : Kd.C (Kd.slice 92 k92) w A n xs) (i : Int) (h0 : 0 ≤ i) (h1 : i < n) : ∃ ad A0 c0, A = some ad ∧ w.cell? (ad.add i.toNat) = some (.slice A0 (rd_L15 xs i).length c0) ∧ (rd_L15 xs i).length ≤ c0 ∧ k92.C w A0 (rd_L15 xs i).length (rd_L15 xs i) := by
  obtain ⟨ad, c, e, _, hK, hc0⟩ := Kd.C_get h ([] : List S92) i h0 h1
  have hc : ∀ j u, c[j]? = some u → w.cell? (ad.add (i.toNat * 1 + j)) = some u := hc0
  obtain ⟨A0, c0, rfl, l0, g0⟩ := hK
  exact ⟨ad, A0, c0, e, by have hq := hc 0 _ rfl; rwa [Nat.mul_one, Nat.add_zero] at hq, l0, g0⟩

/-! #### struct type 57 -/
structure S57 where
  f0 : Int
  f1 : Int
  f2 : S50
  f3 : ByteArray
  f4 : (List S50)
  f5 : (List ByteArray)
  f6 : (List S92)
def z57 : S57 := ⟨(0 : Int), (0 : Int), z50, (⟨#[]⟩ : ByteArray), ([] : List S50), ([] : List ByteArray), ([] : List S92)⟩
def k57 : Kd S57 := Kd.iso (Kd.pair (Kd.int .i64) (Kd.pair (Kd.int .i64) (Kd.pair k50 (Kd.pair Kd.string (Kd.pair (Kd.slice 50 k50) (Kd.pair (Kd.slice 9 Kd.string) (Kd.slice 92 k92))))))) (fun x : S57 => (x.f0, x.f1, x.f2, x.f3, x.f4, x.f5, x.f6))
theorem k57_open {w : World} {x : S57} {cs : List Value} (h : k57.K w x cs) : ∃ A3 c3 A5 c5 A6 c6 A7 c7, cs = [.int .i64 x.f0, .int .i64 x.f1, .string x.f2.f0, .slice A3 x.f2.f1.length c3, .string x.f3, .slice A5 x.f4.length c5, .slice A6 x.f5.length c6, .slice A7 x.f6.length c7] ∧ x.f2.f1.length ≤ c3 ∧ Kd.string.C w A3 x.f2.f1.length x.f2.f1 ∧ x.f4.length ≤ c5 ∧ k50.C w A5 x.f4.length x.f4 ∧ x.f5.length ≤ c6 ∧ Kd.string.C w A6 x.f5.length x.f5 ∧ x.f6.length ≤ c7 ∧ k92.C w A7 x.f6.length x.f6 := by
  obtain ⟨_, _, rfl, rfl, ⟨_, _, rfl, rfl, ⟨_, _, rfl, s2, ⟨_, _, rfl, rfl, ⟨_, _, rfl, ⟨A5, c5, rfl, l5, g5⟩, ⟨_, _, rfl, ⟨A6, c6, rfl, l6, g6⟩, ⟨A7, c7, rfl, l7, g7⟩⟩⟩⟩⟩⟩⟩ := h
  obtain ⟨A3, c3, rfl, l3, g3⟩ := k50_open s2
  exact ⟨A3, c3, A5, c5, A6, c6, A7, c7, rfl, l3, g3, l5, g5, l6, g6, l7, g7⟩
theorem k57_openM {w : World} {base : Nat} {ok : Nat → Prop} {x : S57} {cs : List Value} (h : k57.M w base ok x cs) : ∃ v3 v5 v6 v7, cs = [.int .i64 x.f0, .int .i64 x.f1, .string x.f2.f0, v3, .string x.f3, v5, v6, v7] ∧ Kd.string.R 9 w base ok v3 x.f2.f1 ∧ k50.R 50 w base ok v5 x.f4 ∧ Kd.string.R 9 w base ok v6 x.f5 ∧ k92.R 92 w base ok v7 x.f6 := by
  obtain ⟨_, _, rfl, rfl, ⟨_, _, rfl, rfl, ⟨_, _, rfl, s2, ⟨_, _, rfl, rfl, ⟨_, _, rfl, ⟨v5, rfl, g5⟩, ⟨_, _, rfl, ⟨v6, rfl, g6⟩, ⟨v7, rfl, g7⟩⟩⟩⟩⟩⟩⟩ := h
  obtain ⟨v3, rfl, g3⟩ := k50_openM s2
  exact ⟨v3, v5, v6, v7, rfl, g3, g5, g6, g7⟩
theorem k57_mk (w : World) (x : S57) {A3 : Option Addr} {c3 : Nat} (l3 : x.f2.f1.length ≤ c3) (g3 : Kd.string.C w A3 x.f2.f1.length x.f2.f1) {A5 : Option Addr} {c5 : Nat} (l5 : x.f4.length ≤ c5) (g5 : k50.C w A5 x.f4.length x.f4) {A6 : Option Addr} {c6 : Nat} (l6 : x.f5.length ≤ c6) (g6 : Kd.string.C w A6 x.f5.length x.f5) {A7 : Option Addr} {c7 : Nat} (l7 : x.f6.length ≤ c7) (g7 : k92.C w A7 x.f6.length x.f6) : k57.K w x [.int .i64 x.f0, .int .i64 x.f1, .string x.f2.f0, .slice A3 x.f2.f1.length c3, .string x.f3, .slice A5 x.f4.length c5, .slice A6 x.f5.length c6, .slice A7 x.f6.length c7] := ⟨[.int .i64 x.f0], [.int .i64 x.f1, .string x.f2.f0, .slice A3 x.f2.f1.length c3, .string x.f3, .slice A5 x.f4.length c5, .slice A6 x.f5.length c6, .slice A7 x.f6.length c7], rfl, rfl, ⟨[.int .i64 x.f1], [.string x.f2.f0, .slice A3 x.f2.f1.length c3, .string x.f3, .slice A5 x.f4.length c5, .slice A6 x.f5.length c6, .slice A7 x.f6.length c7], rfl, rfl, ⟨[.string x.f2.f0, .slice A3 x.f2.f1.length c3], [.string x.f3, .slice A5 x.f4.length c5, .slice A6 x.f5.length c6, .slice A7 x.f6.length c7], rfl, (k50_mk w x.f2 l3 g3), ⟨[.string x.f3], [.slice A5 x.f4.length c5, .slice A6 x.f5.length c6, .slice A7 x.f6.length c7], rfl, rfl, ⟨[.slice A5 x.f4.length c5], [.slice A6 x.f5.length c6, .slice A7 x.f6.length c7], rfl, ⟨A5, c5, rfl, l5, g5⟩, ⟨[.slice A6 x.f5.length c6], [.slice A7 x.f6.length c7], rfl, ⟨A6, c6, rfl, l6, g6⟩, ⟨A7, c7, rfl, l7, g7⟩⟩⟩⟩⟩⟩⟩
theorem k57_mkM (w : World) (base : Nat) (ok : Nat → Prop) (x : S57) {v3 : Value} (g3 : Kd.string.R 9 w base ok v3 x.f2.f1) {v5 : Value} (g5 : k50.R 50 w base ok v5 x.f4) {v6 : Value} (g6 : Kd.string.R 9 w base ok v6 x.f5) {v7 : Value} (g7 : k92.R 92 w base ok v7 x.f6) : k57.M w base ok x [.int .i64 x.f0, .int .i64 x.f1, .string x.f2.f0, v3, .string x.f3, v5, v6, v7] := ⟨[.int .i64 x.f0], [.int .i64 x.f1, .string x.f2.f0, v3, .string x.f3, v5, v6, v7], rfl, rfl, ⟨[.int .i64 x.f1], [.string x.f2.f0, v3, .string x.f3, v5, v6, v7], rfl, rfl, ⟨[.string x.f2.f0, v3], [.string x.f3, v5, v6, v7], rfl, (k50_mkM w base ok x.f2 g3), ⟨[.string x.f3], [v5, v6, v7], rfl, rfl, ⟨[v5], [v6, v7], rfl, ⟨v5, rfl, g5⟩, ⟨[v6], [v7], rfl, ⟨v6, rfl, g6⟩, ⟨v7, rfl, g7⟩⟩⟩⟩⟩⟩⟩
def rd_T57 (xs : List S57) (i : Int) : S57 := xs.getD i.toNat z57
theorem at_T57 {w : World} {A : Option Addr} {n : Nat} {xs : List S57} (h : Kd.C k57 w A n xs) (i : Int) (h0 : 0 ≤ i) (h1 : i < n) : ∃ ad A3 c3 A5 c5 A6 c6 A7 c7, A = some ad ∧ w.cell? (ad.add (i.toNat * 8)) = some (.int .i64 (rd_T57 xs i).f0) ∧ w.cell? ⟨(ad.add (i.toNat * 8)).block, (ad.add (i.toNat * 8)).off + 1, none⟩ = some (.int .i64 (rd_T57 xs i).f1) ∧ w.cell? ⟨(ad.add (i.toNat * 8)).block, (ad.add (i.toNat * 8)).off + 2, none⟩ = some (.string (rd_T57 xs i).f2.f0) ∧ w.cell? ⟨(ad.add (i.toNat * 8)).block, (ad.add (i.toNat * 8)).off + 3, none⟩ = some (.slice A3 (rd_T57 xs i).f2.f1.length c3) ∧ w.cell? ⟨(ad.add (i.toNat * 8)).block, (ad.add (i.toNat * 8)).off + 4, none⟩ = some (.string (rd_T57 xs i).f3) ∧ w.cell? ⟨(ad.add (i.toNat * 8)).block, (ad.add (i.toNat * 8)).off + 5, none⟩ = some (.slice A5 (rd_T57 xs i).f4.length c5) ∧ w.cell? ⟨(ad.add (i.toNat * 8)).block, (ad.add (i.toNat * 8)).off + 6, none⟩ = some (.slice A6 (rd_T57 xs i).f5.length c6) ∧ w.cell? ⟨(ad.add (i.toNat * 8)).block, (ad.add (i.toNat * 8)).off + 7, none⟩ = some (.slice A7 (rd_T57 xs i).f6.length c7) ∧ (rd_T57 xs i).f2.f1.length ≤ c3 ∧ Kd.string.C w A3 (rd_T57 xs i).f2.f1.length (rd_T57 xs i).f2.f1 ∧ (rd_T57 xs i).f4.length ≤ c5 ∧ k50.C w A5 (rd_T57 xs i).f4.length (rd_T57 xs i).f4 ∧ (rd_T57 xs i).f5.length ≤ c6 ∧ Kd.string.C w A6 (rd_T57 xs i).f5.length (rd_T57 xs i).f5 ∧ (rd_T57 xs i).f6.length ≤ c7 ∧ k92.C w A7 (rd_T57 xs i).f6.length (rd_T57 xs i).f6 := by
  obtain ⟨ad, c, e, _, hK, hc0⟩ := Kd.C_get h z57 i h0 h1
  have hc : ∀ j u, c[j]? = some u → w.cell? (ad.add (i.toNat * 8 + j)) = some u := hc0
  obtain ⟨A3, c3, A5, c5, A6, c6, A7, c7, rfl, l3, g3, l5, g5, l6, g6, l7, g7⟩ := k57_open hK
  exact ⟨ad, A3, c3, A5, c5, A6, c6, A7, c7, e, hc 0 _ rfl, by rw [← add_field _ _ 1 (by omega)]; exact hc 1 _ rfl, by rw [← add_field _ _ 2 (by omega)]; exact hc 2 _ rfl, by rw [← add_field _ _ 3 (by omega)]; exact hc 3 _ rfl, by rw [← add_field _ _ 4 (by omega)]; exact hc 4 _ rfl, by rw [← add_field _ _ 5 (by omega)]; exact hc 5 _ rfl, by rw [← add_field _ _ 6 (by omega)]; exact hc 6 _ rfl, by rw [← add_field _ _ 7 (by omega)]; exact hc 7 _ rfl, l3, g3, l5, g5, l6, g6, l7, g7⟩

/-! #### struct type 59 -/
structure S59 where
  f0 : Int
  f1 : ByteArray
  f2 : (List S53)
  f3 : S57
def z59 : S59 := ⟨(0 : Int), (⟨#[]⟩ : ByteArray), ([] : List S53), z57⟩
def k59 : Kd S59 := Kd.iso (Kd.pair (Kd.int .i64) (Kd.pair Kd.string (Kd.pair (Kd.slice 53 k53) k57))) (fun x : S59 => (x.f0, x.f1, x.f2, x.f3))
theorem k59_open {w : World} {x : S59} {cs : List Value} (h : k59.K w x cs) : ∃ A2 c2 A6 c6 A8 c8 A9 c9 A10 c10, cs = [.int .i64 x.f0, .string x.f1, .slice A2 x.f2.length c2, .int .i64 x.f3.f0, .int .i64 x.f3.f1, .string x.f3.f2.f0, .slice A6 x.f3.f2.f1.length c6, .string x.f3.f3, .slice A8 x.f3.f4.length c8, .slice A9 x.f3.f5.length c9, .slice A10 x.f3.f6.length c10] ∧ x.f2.length ≤ c2 ∧ k53.C w A2 x.f2.length x.f2 ∧ x.f3.f2.f1.length ≤ c6 ∧ Kd.string.C w A6 x.f3.f2.f1.length x.f3.f2.f1 ∧ x.f3.f4.length ≤ c8 ∧ k50.C w A8 x.f3.f4.length x.f3.f4 ∧ x.f3.f5.length ≤ c9 ∧ Kd.string.C w A9 x.f3.f5.length x.f3.f5 ∧ x.f3.f6.length ≤ c10 ∧ k92.C w A10 x.f3.f6.length x.f3.f6 := by
  obtain ⟨_, _, rfl, rfl, ⟨_, _, rfl, rfl, ⟨_, _, rfl, ⟨A2, c2, rfl, l2, g2⟩, s3⟩⟩⟩ := h
  obtain ⟨A6, c6, A8, c8, A9, c9, A10, c10, rfl, l6, g6, l8, g8, l9, g9, l10, g10⟩ := k57_open s3
  exact ⟨A2, c2, A6, c6, A8, c8, A9, c9, A10, c10, rfl, l2, g2, l6, g6, l8, g8, l9, g9, l10, g10⟩
theorem k59_openM {w : World} {base : Nat} {ok : Nat → Prop} {x : S59} {cs : List Value} (h : k59.M w base ok x cs) : ∃ v2 v6 v8 v9 v10, cs = [.int .i64 x.f0, .string x.f1, v2, .int .i64 x.f3.f0, .int .i64 x.f3.f1, .string x.f3.f2.f0, v6, .string x.f3.f3, v8, v9, v10] ∧ k53.R 53 w base ok v2 x.f2 ∧ Kd.string.R 9 w base ok v6 x.f3.f2.f1 ∧ k50.R 50 w base ok v8 x.f3.f4 ∧ Kd.string.R 9 w base ok v9 x.f3.f5 ∧ k92.R 92 w base ok v10 x.f3.f6 := by
  obtain ⟨_, _, rfl, rfl, ⟨_, _, rfl, rfl, ⟨_, _, rfl, ⟨v2, rfl, g2⟩, s3⟩⟩⟩ := h
  obtain ⟨v6, v8, v9, v10, rfl, g6, g8, g9, g10⟩ := k57_openM s3
  exact ⟨v2, v6, v8, v9, v10, rfl, g2, g6, g8, g9, g10⟩
theorem k59_mk (w : World) (x : S59) {A2 : Option Addr} {c2 : Nat} (l2 : x.f2.length ≤ c2) (g2 : k53.C w A2 x.f2.length x.f2) {A6 : Option Addr} {c6 : Nat} (l6 : x.f3.f2.f1.length ≤ c6) (g6 : Kd.string.C w A6 x.f3.f2.f1.length x.f3.f2.f1) {A8 : Option Addr} {c8 : Nat} (l8 : x.f3.f4.length ≤ c8) (g8 : k50.C w A8 x.f3.f4.length x.f3.f4) {A9 : Option Addr} {c9 : Nat} (l9 : x.f3.f5.length ≤ c9) (g9 : Kd.string.C w A9 x.f3.f5.length x.f3.f5) {A10 : Option Addr} {c10 : Nat} (l10 : x.f3.f6.length ≤ c10) (g10 : k92.C w A10 x.f3.f6.length x.f3.f6) : k59.K w x [.int .i64 x.f0, .string x.f1, .slice A2 x.f2.length c2, .int .i64 x.f3.f0, .int .i64 x.f3.f1, .string x.f3.f2.f0, .slice A6 x.f3.f2.f1.length c6, .string x.f3.f3, .slice A8 x.f3.f4.length c8, .slice A9 x.f3.f5.length c9, .slice A10 x.f3.f6.length c10] := ⟨[.int .i64 x.f0], [.string x.f1, .slice A2 x.f2.length c2, .int .i64 x.f3.f0, .int .i64 x.f3.f1, .string x.f3.f2.f0, .slice A6 x.f3.f2.f1.length c6, .string x.f3.f3, .slice A8 x.f3.f4.length c8, .slice A9 x.f3.f5.length c9, .slice A10 x.f3.f6.length c10], rfl, rfl, ⟨[.string x.f1], [.slice A2 x.f2.length c2, .int .i64 x.f3.f0, .int .i64 x.f3.f1, .string x.f3.f2.f0, .slice A6 x.f3.f2.f1.length c6, .string x.f3.f3, .slice A8 x.f3.f4.length c8, .slice A9 x.f3.f5.length c9, .slice A10 x.f3.f6.length c10], rfl, rfl, ⟨[.slice A2 x.f2.length c2], [.int .i64 x.f3.f0, .int .i64 x.f3.f1, .string x.f3.f2.f0, .slice A6 x.f3.f2.f1.length c6, .string x.f3.f3, .slice A8 x.f3.f4.length c8, .slice A9 x.f3.f5.length c9, .slice A10 x.f3.f6.length c10], rfl, ⟨A2, c2, rfl, l2, g2⟩, (k57_mk w x.f3 l6 g6 l8 g8 l9 g9 l10 g10)⟩⟩⟩
theorem k59_mkM (w : World) (base : Nat) (ok : Nat → Prop) (x : S59) {v2 : Value} (g2 : k53.R 53 w base ok v2 x.f2) {v6 : Value} (g6 : Kd.string.R 9 w base ok v6 x.f3.f2.f1) {v8 : Value} (g8 : k50.R 50 w base ok v8 x.f3.f4) {v9 : Value} (g9 : Kd.string.R 9 w base ok v9 x.f3.f5) {v10 : Value} (g10 : k92.R 92 w base ok v10 x.f3.f6) : k59.M w base ok x [.int .i64 x.f0, .string x.f1, v2, .int .i64 x.f3.f0, .int .i64 x.f3.f1, .string x.f3.f2.f0, v6, .string x.f3.f3, v8, v9, v10] := ⟨[.int .i64 x.f0], [.string x.f1, v2, .int .i64 x.f3.f0, .int .i64 x.f3.f1, .string x.f3.f2.f0, v6, .string x.f3.f3, v8, v9, v10], rfl, rfl, ⟨[.string x.f1], [v2, .int .i64 x.f3.f0, .int .i64 x.f3.f1, .string x.f3.f2.f0, v6, .string x.f3.f3, v8, v9, v10], rfl, rfl, ⟨[v2], [.int .i64 x.f3.f0, .int .i64 x.f3.f1, .string x.f3.f2.f0, v6, .string x.f3.f3, v8, v9, v10], rfl, ⟨v2, rfl, g2⟩, (k57_mkM w base ok x.f3 g6 g8 g9 g10)⟩⟩⟩
def rd_T59 (xs : List S59) (i : Int) : S59 := xs.getD i.toNat z59
theorem at_T59 {w : World} {A : Option Addr} {n : Nat} {xs : List S59} (h : Kd.C k59 w A n xs) (i : Int) (h0 : 0 ≤ i) (h1 : i < n) : ∃ ad A2 c2 A6 c6 A8 c8 A9 c9 A10 c10, A = some ad ∧ w.cell? (ad.add (i.toNat * 11)) = some (.int .i64 (rd_T59 xs i).f0) ∧ w.cell? ⟨(ad.add (i.toNat * 11)).block, (ad.add (i.toNat * 11)).off + 1, none⟩ = some (.string (rd_T59 xs i).f1) ∧ w.cell? ⟨(ad.add (i.toNat * 11)).block, (ad.add (i.toNat * 11)).off + 2, none⟩ = some (.slice A2 (rd_T59 xs i).f2.length c2) ∧ w.cell? ⟨(ad.add (i.toNat * 11)).block, (ad.add (i.toNat * 11)).off + 3, none⟩ = some (.int .i64 (rd_T59 xs i).f3.f0) ∧ w.cell? ⟨(ad.add (i.toNat * 11)).block, (ad.add (i.toNat * 11)).off + 4, none⟩ = some (.int .i64 (rd_T59 xs i).f3.f1) ∧ w.cell? ⟨(ad.add (i.toNat * 11)).block, (ad.add (i.toNat * 11)).off + 5, none⟩ = some (.string (rd_T59 xs i).f3.f2.f0) ∧ w.cell? ⟨(ad.add (i.toNat * 11)).block, (ad.add (i.toNat * 11)).off + 6, none⟩ = some (.slice A6 (rd_T59 xs i).f3.f2.f1.length c6) ∧ w.cell? ⟨(ad.add (i.toNat * 11)).block, (ad.add (i.toNat * 11)).off + 7, none⟩ = some (.string (rd_T59 xs i).f3.f3) ∧ w.cell? ⟨(ad.add (i.toNat * 11)).block, (ad.add (i.toNat * 11)).off + 8, none⟩ = some (.slice A8 (rd_T59 xs i).f3.f4.length c8) ∧ w.cell? ⟨(ad.add (i.toNat * 11)).block, (ad.add (i.toNat * 11)).off + 9, none⟩ = some (.slice A9 (rd_T59 xs i).f3.f5.length c9) ∧ w.cell? ⟨(ad.add (i.toNat * 11)).block, (ad.add (i.toNat * 11)).off + 10, none⟩ = some (.slice A10 (rd_T59 xs i).f3.f6.length c10) ∧ (rd_T59 xs i).f2.length ≤ c2 ∧ k53.C w A2 (rd_T59 xs i).f2.length (rd_T59 xs i).f2 ∧ (rd_T59 xs i).f3.f2.f1.length ≤ c6 ∧ Kd.string.C w A6 (rd_T59 xs i).f3.f2.f1.length (rd_T59 xs i).f3.f2.f1 ∧ (rd_T59 xs i).f3.f4.length ≤ c8 ∧ k50.C w A8 (rd_T59 xs i).f3.f4.length (rd_T59 xs i).f3.f4 ∧ (rd_T59 xs i).f3.f5.length ≤ c9 ∧ Kd.string.C w A9 (rd_T59 xs i).f3.f5.length (rd_T59 xs i).f3.f5 ∧ (rd_T59 xs i).f3.f6.length ≤ c10 ∧ k92.C w A10 (rd_T59 xs i).f3.f6.length (rd_T59 xs i).f3.f6 := by
  obtain ⟨ad, c, e, _, hK, hc0⟩ := Kd.C_get h z59 i h0 h1
  have hc : ∀ j u, c[j]? = some u → w.cell? (ad.add (i.toNat * 11 + j)) = some u := hc0
  obtain ⟨A2, c2, A6, c6, A8, c8, A9, c9, A10, c10, rfl, l2, g2, l6, g6, l8, g8, l9, g9, l10, g10⟩ := k59_open hK
  exact ⟨ad, A2, c2, A6, c6, A8, c8, A9, c9, A10, c10, e, hc 0 _ rfl, by rw [← add_field _ _ 1 (by omega)]; exact hc 1 _ rfl, by rw [← add_field _ _ 2 (by omega)]; exact hc 2 _ rfl, by rw [← add_field _ _ 3 (by omega)]; exact hc 3 _ rfl, by rw [← add_field _ _ 4 (by omega)]; exact hc 4 _ rfl, by rw [← add_field _ _ 5 (by omega)]; exact hc 5 _ rfl, by rw [← add_field _ _ 6 (by omega)]; exact hc 6 _ rfl, by rw [← add_field _ _ 7 (by omega)]; exact hc 7 _ rfl, by rw [← add_field _ _ 8 (by omega)]; exact hc 8 _ rfl, by rw [← add_field _ _ 9 (by omega)]; exact hc 9 _ rfl, by rw [← add_field _ _ 10 (by omega)]; exact hc 10 _ rfl, l2, g2, l6, g6, l8, g8, l9, g9, l10, g10⟩

def rd_L18 (xs : List (List S59)) (i : Int) : (List S59) := xs.getD i.toNat ([] : List S59)
theorem at_L18 {w : World} {A : Option Addr} {n : Nat} {xs : List (List S59)} (h : Kd.C (Kd.slice 59 k59) w A n xs) (i : Int) (h0 : 0 ≤ i) (h1 : i < n) : ∃ ad A0 c0, A = some ad ∧ w.cell? (ad.add i.toNat) = some (.slice A0 (rd_L18 xs i).length c0) ∧ (rd_L18 xs i).length ≤ c0 ∧ k59.C w A0 (rd_L18 xs i).length (rd_L18 xs i) := by
  obtain ⟨ad, c, e, _, hK, hc0⟩ := Kd.C_get h ([] : List S59) i h0 h1
  have hc : ∀ j u, c[j]? = some u → w.cell? (ad.add (i.toNat * 1 + j)) = some u := hc0
  obtain ⟨A0, c0, rfl, l0, g0⟩ := hK
  exact ⟨ad, A0, c0, e, by have hq := hc 0 _ rfl; rwa [Nat.mul_one, Nat.add_zero] at hq, l0, g0⟩

/-! #### struct type 63 -/
structure S63 where
  f0 : Int
  f1 : ByteArray
  f2 : (List S99)
  f3 : (List S99)
  f4 : ByteArray
  f5 : (List S59)
def z63 : S63 := ⟨(0 : Int), (⟨#[]⟩ : ByteArray), ([] : List S99), ([] : List S99), (⟨#[]⟩ : ByteArray), ([] : List S59)⟩
def k63 : Kd S63 := Kd.iso (Kd.pair (Kd.int .i64) (Kd.pair Kd.string (Kd.pair (Kd.slice 99 k99) (Kd.pair (Kd.slice 99 k99) (Kd.pair Kd.string (Kd.slice 59 k59)))))) (fun x : S63 => (x.f0, x.f1, x.f2, x.f3, x.f4, x.f5))
theorem k63_open {w : World} {x : S63} {cs : List Value} (h : k63.K w x cs) : ∃ A2 c2 A3 c3 A5 c5, cs = [.int .i64 x.f0, .string x.f1, .slice A2 x.f2.length c2, .slice A3 x.f3.length c3, .string x.f4, .slice A5 x.f5.length c5] ∧ x.f2.length ≤ c2 ∧ k99.C w A2 x.f2.length x.f2 ∧ x.f3.length ≤ c3 ∧ k99.C w A3 x.f3.length x.f3 ∧ x.f5.length ≤ c5 ∧ k59.C w A5 x.f5.length x.f5 := by
  obtain ⟨_, _, rfl, rfl, ⟨_, _, rfl, rfl, ⟨_, _, rfl, ⟨A2, c2, rfl, l2, g2⟩, ⟨_, _, rfl, ⟨A3, c3, rfl, l3, g3⟩, ⟨_, _, rfl, rfl, ⟨A5, c5, rfl, l5, g5⟩⟩⟩⟩⟩⟩ := h
  exact ⟨A2, c2, A3, c3, A5, c5, rfl, l2, g2, l3, g3, l5, g5⟩
theorem k63_openM {w : World} {base : Nat} {ok : Nat → Prop} {x : S63} {cs : List Value} (h : k63.M w base ok x cs) : ∃ v2 v3 v5, cs = [.int .i64 x.f0, .string x.f1, v2, v3, .string x.f4, v5] ∧ k99.R 99 w base ok v2 x.f2 ∧ k99.R 99 w base ok v3 x.f3 ∧ k59.R 59 w base ok v5 x.f5 := by
  obtain ⟨_, _, rfl, rfl, ⟨_, _, rfl, rfl, ⟨_, _, rfl, ⟨v2, rfl, g2⟩, ⟨_, _, rfl, ⟨v3, rfl, g3⟩, ⟨_, _, rfl, rfl, ⟨v5, rfl, g5⟩⟩⟩⟩⟩⟩ := h
  exact ⟨v2, v3, v5, rfl, g2, g3, g5⟩
theorem k63_mk (w : World) (x : S63) {A2 : Option Addr} {c2 : Nat} (l2 : x.f2.length ≤ c2) (g2 : k99.C w A2 x.f2.length x.f2) {A3 : Option Addr} {c3 : Nat} (l3 : x.f3.length ≤ c3) (g3 : k99.C w A3 x.f3.length x.f3) {A5 : Option Addr} {c5 : Nat} (l5 : x.f5.length ≤ c5) (g5 : k59.C w A5 x.f5.length x.f5) : k63.K w x [.int .i64 x.f0, .string x.f1, .slice A2 x.f2.length c2, .slice A3 x.f3.length c3, .string x.f4, .slice A5 x.f5.length c5] := ⟨[.int .i64 x.f0], [.string x.f1, .slice A2 x.f2.length c2, .slice A3 x.f3.length c3, .string x.f4, .slice A5 x.f5.length c5], rfl, rfl, ⟨[.string x.f1], [.slice A2 x.f2.length c2, .slice A3 x.f3.length c3, .string x.f4, .slice A5 x.f5.length c5], rfl, rfl, ⟨[.slice A2 x.f2.length c2], [.slice A3 x.f3.length c3, .string x.f4, .slice A5 x.f5.length c5], rfl, ⟨A2, c2, rfl, l2, g2⟩, ⟨[.slice A3 x.f3.length c3], [.string x.f4, .slice A5 x.f5.length c5], rfl, ⟨A3, c3, rfl, l3, g3⟩, ⟨[.string x.f4], [.slice A5 x.f5.length c5], rfl, rfl, ⟨A5, c5, rfl, l5, g5⟩⟩⟩⟩⟩⟩
theorem k63_mkM (w : World) (base : Nat) (ok : Nat → Prop) (x : S63) {v2 : Value} (g2 : k99.R 99 w base ok v2 x.f2) {v3 : Value} (g3 : k99.R 99 w base ok v3 x.f3) {v5 : Value} (g5 : k59.R 59 w base ok v5 x.f5) : k63.M w base ok x [.int .i64 x.f0, .string x.f1, v2, v3, .string x.f4, v5] := ⟨[.int .i64 x.f0], [.string x.f1, v2, v3, .string x.f4, v5], rfl, rfl, ⟨[.string x.f1], [v2, v3, .string x.f4, v5], rfl, rfl, ⟨[v2], [v3, .string x.f4, v5], rfl, ⟨v2, rfl, g2⟩, ⟨[v3], [.string x.f4, v5], rfl, ⟨v3, rfl, g3⟩, ⟨[.string x.f4], [v5], rfl, rfl, ⟨v5, rfl, g5⟩⟩⟩⟩⟩⟩
def rd_T63 (xs : List S63) (i : Int) : S63 := xs.getD i.toNat z63
theorem at_T63 {w : World} {A : Option Addr} {n : Nat} {xs : List S63} (h : Kd.C k63 w A n xs) (i : Int) (h0 : 0 ≤ i) (h1 : i < n) : ∃ ad A2 c2 A3 c3 A5 c5, A = some ad ∧ w.cell? (ad.add (i.toNat * 6)) = some (.int .i64 (rd_T63 xs i).f0) ∧ w.cell? ⟨(ad.add (i.toNat * 6)).block, (ad.add (i.toNat * 6)).off + 1, none⟩ = some (.string (rd_T63 xs i).f1) ∧ w.cell? ⟨(ad.add (i.toNat * 6)).block, (ad.add (i.toNat * 6)).off + 2, none⟩ = some (.slice A2 (rd_T63 xs i).f2.length c2) ∧ w.cell? ⟨(ad.add (i.toNat * 6)).block, (ad.add (i.toNat * 6)).off + 3, none⟩ = some (.slice A3 (rd_T63 xs i).f3.length c3) ∧ w.cell? ⟨(ad.add (i.toNat * 6)).block, (ad.add (i.toNat * 6)).off + 4, none⟩ = some (.string (rd_T63 xs i).f4) ∧ w.cell? ⟨(ad.add (i.toNat * 6)).block, (ad.add (i.toNat * 6)).off + 5, none⟩ = some (.slice A5 (rd_T63 xs i).f5.length c5) ∧ (rd_T63 xs i).f2.length ≤ c2 ∧ k99.C w A2 (rd_T63 xs i).f2.length (rd_T63 xs i).f2 ∧ (rd_T63 xs i).f3.length ≤ c3 ∧ k99.C w A3 (rd_T63 xs i).f3.length (rd_T63 xs i).f3 ∧ (rd_T63 xs i).f5.length ≤ c5 ∧ k59.C w A5 (rd_T63 xs i).f5.length (rd_T63 xs i).f5 := by
  obtain ⟨ad, c, e, _, hK, hc0⟩ := Kd.C_get h z63 i h0 h1
  have hc : ∀ j u, c[j]? = some u → w.cell? (ad.add (i.toNat * 6 + j)) = some u := hc0
  obtain ⟨A2, c2, A3, c3, A5, c5, rfl, l2, g2, l3, g3, l5, g5⟩ := k63_open hK
  exact ⟨ad, A2, c2, A3, c3, A5, c5, e, hc 0 _ rfl, by rw [← add_field _ _ 1 (by omega)]; exact hc 1 _ rfl, by rw [← add_field _ _ 2 (by omega)]; exact hc 2 _ rfl, by rw [← add_field _ _ 3 (by omega)]; exact hc 3 _ rfl, by rw [← add_field _ _ 4 (by omega)]; exact hc 4 _ rfl, by rw [← add_field _ _ 5 (by omega)]; exact hc 5 _ rfl, l2, g2, l3, g3, l5, g5⟩

def rd_L20 (xs : List (List S63)) (i : Int) : (List S63) := xs.getD i.toNat ([] : List S63)
theorem at_L20 {w : World} {A : Option Addr} {n : Nat} {xs : List (List S63)} (h : Kd.C (Kd.slice 63 k63) w A n xs) (i : Int) (h0 : 0 ≤ i) (h1 : i < n) : ∃ ad A0 c0, A = some ad ∧ w.cell? (ad.add i.toNat) = some (.slice A0 (rd_L20 xs i).length c0) ∧ (rd_L20 xs i).length ≤ c0 ∧ k63.C w A0 (rd_L20 xs i).length (rd_L20 xs i) := by
  obtain ⟨ad, c, e, _, hK, hc0⟩ := Kd.C_get h ([] : List S63) i h0 h1
  have hc : ∀ j u, c[j]? = some u → w.cell? (ad.add (i.toNat * 1 + j)) = some u := hc0
  obtain ⟨A0, c0, rfl, l0, g0⟩ := hK
  exact ⟨ad, A0, c0, e, by have hq := hc 0 _ rfl; rwa [Nat.mul_one, Nat.add_zero] at hq, l0, g0⟩

/-! #### struct type 27 -/
structure S27 where
  f0 : (List S77)
  f1 : (List S80)
  f2 : (List S63)
def z27 : S27 := ⟨([] : List S77), ([] : List S80), ([] : List S63)⟩
def k27 : Kd S27 := Kd.iso (Kd.pair (Kd.slice 77 k77) (Kd.pair (Kd.slice 80 k80) (Kd.slice 63 k63))) (fun x : S27 => (x.f0, x.f1, x.f2))
theorem k27_open {w : World} {x : S27} {cs : List Value} (h : k27.K w x cs) : ∃ A0 c0 A1 c1 A2 c2, cs = [.slice A0 x.f0.length c0, .slice A1 x.f1.length c1, .slice A2 x.f2.length c2] ∧ x.f0.length ≤ c0 ∧ k77.C w A0 x.f0.length x.f0 ∧ x.f1.length ≤ c1 ∧ k80.C w A1 x.f1.length x.f1 ∧ x.f2.length ≤ c2 ∧ k63.C w A2 x.f2.length x.f2 := by
  obtain ⟨_, _, rfl, ⟨A0, c0, rfl, l0, g0⟩, ⟨_, _, rfl, ⟨A1, c1, rfl, l1, g1⟩, ⟨A2, c2, rfl, l2, g2⟩⟩⟩ := h
  exact ⟨A0, c0, A1, c1, A2, c2, rfl, l0, g0, l1, g1, l2, g2⟩
theorem k27_openM {w : World} {base : Nat} {ok : Nat → Prop} {x : S27} {cs : List Value} (h : k27.M w base ok x cs) : ∃ v0 v1 v2, cs = [v0, v1, v2] ∧ k77.R 77 w base ok v0 x.f0 ∧ k80.R 80 w base ok v1 x.f1 ∧ k63.R 63 w base ok v2 x.f2 := by
  obtain ⟨_, _, rfl, ⟨v0, rfl, g0⟩, ⟨_, _, rfl, ⟨v1, rfl, g1⟩, ⟨v2, rfl, g2⟩⟩⟩ := h
  exact ⟨v0, v1, v2, rfl, g0, g1, g2⟩
theorem k27_mk (w : World) (x : S27) {A0 : Option Addr} {c0 : Nat} (l0 : x.f0.length ≤ c0) (g0 : k77.C w A0 x.f0.length x.f0) {A1 : Option Addr} {c1 : Nat} (l1 : x.f1.length ≤ c1) (g1 : k80.C w A1 x.f1.length x.f1) {A2 : Option Addr} {c2 : Nat} (l2 : x.f2.length ≤ c2) (g2 : k63.C w A2 x.f2.length x.f2) : k27.K w x [.slice A0 x.f0.length c0, .slice A1 x.f1.length c1, .slice A2 x.f2.length c2] := ⟨[.slice A0 x.f0.length c0], [.slice A1 x.f1.length c1, .slice A2 x.f2.length c2], rfl, ⟨A0, c0, rfl, l0, g0⟩, ⟨[.slice A1 x.f1.length c1], [.slice A2 x.f2.length c2], rfl, ⟨A1, c1, rfl, l1, g1⟩, ⟨A2, c2, rfl, l2, g2⟩⟩⟩
theorem k27_mkM (w : World) (base : Nat) (ok : Nat → Prop) (x : S27) {v0 : Value} (g0 : k77.R 77 w base ok v0 x.f0) {v1 : Value} (g1 : k80.R 80 w base ok v1 x.f1) {v2 : Value} (g2 : k63.R 63 w base ok v2 x.f2) : k27.M w base ok x [v0, v1, v2] := ⟨[v0], [v1, v2], rfl, ⟨v0, rfl, g0⟩, ⟨[v1], [v2], rfl, ⟨v1, rfl, g1⟩, ⟨v2, rfl, g2⟩⟩⟩
def rd_T27 (xs : List S27) (i : Int) : S27 := xs.getD i.toNat z27
theorem at_T27 {w : World} {A : Option Addr} {n : Nat} {xs : List S27} (h : Kd.C k27 w A n xs) (i : Int) (h0 : 0 ≤ i) (h1 : i < n) : ∃ ad A0 c0 A1 c1 A2 c2, A = some ad ∧ w.cell? (ad.add (i.toNat * 3)) = some (.slice A0 (rd_T27 xs i).f0.length c0) ∧ w.cell? ⟨(ad.add (i.toNat * 3)).block, (ad.add (i.toNat * 3)).off + 1, none⟩ = some (.slice A1 (rd_T27 xs i).f1.length c1) ∧ w.cell? ⟨(ad.add (i.toNat * 3)).block, (ad.add (i.toNat * 3)).off + 2, none⟩ = some (.slice A2 (rd_T27 xs i).f2.length c2) ∧ (rd_T27 xs i).f0.length ≤ c0 ∧ k77.C w A0 (rd_T27 xs i).f0.length (rd_T27 xs i).f0 ∧ (rd_T27 xs i).f1.length ≤ c1 ∧ k80.C w A1 (rd_T27 xs i).f1.length (rd_T27 xs i).f1 ∧ (rd_T27 xs i).f2.length ≤ c2 ∧ k63.C w A2 (rd_T27 xs i).f2.length (rd_T27 xs i).f2 := by
  obtain ⟨ad, c, e, _, hK, hc0⟩ := Kd.C_get h z27 i h0 h1
  have hc : ∀ j u, c[j]? = some u → w.cell? (ad.add (i.toNat * 3 + j)) = some u := hc0
  obtain ⟨A0, c0, A1, c1, A2, c2, rfl, l0, g0, l1, g1, l2, g2⟩ := k27_open hK
  exact ⟨ad, A0, c0, A1, c1, A2, c2, e, hc 0 _ rfl, by rw [← add_field _ _ 1 (by omega)]; exact hc 1 _ rfl, by rw [← add_field _ _ 2 (by omega)]; exact hc 2 _ rfl, l0, g0, l1, g1, l2, g2⟩

/-! #### struct type 32 -/
structure S32 where
  f0 : Int
  f1 : Int
def z32 : S32 := ⟨(0 : Int), (0 : Int)⟩
def k32 : Kd S32 := Kd.iso (Kd.pair (Kd.int .i64) (Kd.int .i64)) (fun x : S32 => (x.f0, x.f1))
theorem k32_open {w : World} {x : S32} {cs : List Value} (h : k32.K w x cs) : cs = [.int .i64 x.f0, .int .i64 x.f1] := by
  obtain ⟨_, _, rfl, rfl, rfl⟩ := h
  exact rfl
theorem k32_openM {w : World} {base : Nat} {ok : Nat → Prop} {x : S32} {cs : List Value} (h : k32.M w base ok x cs) : cs = [.int .i64 x.f0, .int .i64 x.f1] := by
  obtain ⟨_, _, rfl, rfl, rfl⟩ := h
  exact rfl
theorem k32_mk (w : World) (x : S32)  : k32.K w x [.int .i64 x.f0, .int .i64 x.f1] := ⟨[.int .i64 x.f0], [.int .i64 x.f1], rfl, rfl, rfl⟩
theorem k32_mkM (w : World) (base : Nat) (ok : Nat → Prop) (x : S32)  : k32.M w base ok x [.int .i64 x.f0, .int .i64 x.f1] := ⟨[.int .i64 x.f0], [.int .i64 x.f1], rfl, rfl, rfl⟩
def rd_T32 (xs : List S32) (i : Int) : S32 := xs.getD i.toNat z32
theorem at_T32 {w : World} {A : Option Addr} {n : Nat} {xs : List S32} (h : Kd.C k32 w A n xs) (i : Int) (h0 : 0 ≤ i) (h1 : i < n) : ∃ ad , A = some ad ∧ w.cell? (ad.add (i.toNat * 2)) = some (.int .i64 (rd_T32 xs i).f0) ∧ w.cell? ⟨(ad.add (i.toNat * 2)).block, (ad.add (i.toNat * 2)).off + 1, none⟩ = some (.int .i64 (rd_T32 xs i).f1) := by
  obtain ⟨ad, c, e, _, hK, hc0⟩ := Kd.C_get h z32 i h0 h1
  have hc : ∀ j u, c[j]? = some u → w.cell? (ad.add (i.toNat * 2 + j)) = some u := hc0
  obtain rfl := k32_open hK
  exact ⟨ad, e, hc 0 _ rfl, by rw [← add_field _ _ 1 (by omega)]; exact hc 1 _ rfl⟩

def rd_L23 (xs : List (List S32)) (i : Int) : (List S32) := xs.getD i.toNat ([] : List S32)
theorem at_L23 {w : World} {A : Option Addr} {n : Nat} {xs : List (List S32)} (h : Kd.C (Kd.slice 32 k32) w A n xs) (i : Int) (h0 : 0 ≤ i) (h1 : i < n) : ∃ ad A0 c0, A = some ad ∧ w.cell? (ad.add i.toNat) = some (.slice A0 (rd_L23 xs i).length c0) ∧ (rd_L23 xs i).length ≤ c0 ∧ k32.C w A0 (rd_L23 xs i).length (rd_L23 xs i) := by
  obtain ⟨ad, c, e, _, hK, hc0⟩ := Kd.C_get h ([] : List S32) i h0 h1
  have hc : ∀ j u, c[j]? = some u → w.cell? (ad.add (i.toNat * 1 + j)) = some u := hc0
  obtain ⟨A0, c0, rfl, l0, g0⟩ := hK
  exact ⟨ad, A0, c0, e, by have hq := hc 0 _ rfl; rwa [Nat.mul_one, Nat.add_zero] at hq, l0, g0⟩

/-! #### struct type 42 -/
structure S42 where
  f0 : Int
  f1 : Int
  f2 : ByteArray
  f3 : Int
def z42 : S42 := ⟨(0 : Int), (0 : Int), (⟨#[]⟩ : ByteArray), (0 : Int)⟩
def k42 : Kd S42 := Kd.iso (Kd.pair (Kd.int .i64) (Kd.pair (Kd.int .i64) (Kd.pair Kd.string (Kd.int .i64)))) (fun x : S42 => (x.f0, x.f1, x.f2, x.f3))
theorem k42_open {w : World} {x : S42} {cs : List Value} (h : k42.K w x cs) : cs = [.int .i64 x.f0, .int .i64 x.f1, .string x.f2, .int .i64 x.f3] := by
  obtain ⟨_, _, rfl, rfl, ⟨_, _, rfl, rfl, ⟨_, _, rfl, rfl, rfl⟩⟩⟩ := h
  exact rfl
theorem k42_openM {w : World} {base : Nat} {ok : Nat → Prop} {x : S42} {cs : List Value} (h : k42.M w base ok x cs) : cs = [.int .i64 x.f0, .int .i64 x.f1, .string x.f2, .int .i64 x.f3] := by
  obtain ⟨_, _, rfl, rfl, ⟨_, _, rfl, rfl, ⟨_, _, rfl, rfl, rfl⟩⟩⟩ := h
  exact rfl
theorem k42_mk (w : World) (x : S42)  : k42.K w x [.int .i64 x.f0, .int .i64 x.f1, .string x.f2, .int .i64 x.f3] := ⟨[.int .i64 x.f0], [.int .i64 x.f1, .string x.f2, .int .i64 x.f3], rfl, rfl, ⟨[.int .i64 x.f1], [.string x.f2, .int .i64 x.f3], rfl, rfl, ⟨[.string x.f2], [.int .i64 x.f3], rfl, rfl, rfl⟩⟩⟩
theorem k42_mkM (w : World) (base : Nat) (ok : Nat → Prop) (x : S42)  : k42.M w base ok x [.int .i64 x.f0, .int .i64 x.f1, .string x.f2, .int .i64 x.f3] := ⟨[.int .i64 x.f0], [.int .i64 x.f1, .string x.f2, .int .i64 x.f3], rfl, rfl, ⟨[.int .i64 x.f1], [.string x.f2, .int .i64 x.f3], rfl, rfl, ⟨[.string x.f2], [.int .i64 x.f3], rfl, rfl, rfl⟩⟩⟩
def rd_T42 (xs : List S42) (i : Int) : S42 := xs.getD i.toNat z42
theorem at_T42 {w : World} {A : Option Addr} {n : Nat} {xs : List S42} (h : Kd.C k42 w A n xs) (i : Int) (h0 : 0 ≤ i) (h1 : i < n) : ∃ ad , A = some ad ∧ w.cell? (ad.add (i.toNat * 4)) = some (.int .i64 (rd_T42 xs i).f0) ∧ w.cell? ⟨(ad.add (i.toNat * 4)).block, (ad.add (i.toNat * 4)).off + 1, none⟩ = some (.int .i64 (rd_T42 xs i).f1) ∧ w.cell? ⟨(ad.add (i.toNat * 4)).block, (ad.add (i.toNat * 4)).off + 2, none⟩ = some (.string (rd_T42 xs i).f2) ∧ w.cell? ⟨(ad.add (i.toNat * 4)).block, (ad.add (i.toNat * 4)).off + 3, none⟩ = some (.int .i64 (rd_T42 xs i).f3) := by
  obtain ⟨ad, c, e, _, hK, hc0⟩ := Kd.C_get h z42 i h0 h1
  have hc : ∀ j u, c[j]? = some u → w.cell? (ad.add (i.toNat * 4 + j)) = some u := hc0
  obtain rfl := k42_open hK
  exact ⟨ad, e, hc 0 _ rfl, by rw [← add_field _ _ 1 (by omega)]; exact hc 1 _ rfl, by rw [← add_field _ _ 2 (by omega)]; exact hc 2 _ rfl, by rw [← add_field _ _ 3 (by omega)]; exact hc 3 _ rfl⟩

def rd_L25 (xs : List (List S42)) (i : Int) : (List S42) := xs.getD i.toNat ([] : List S42)
theorem at_L25 {w : World} {A : Option Addr} {n : Nat} {xs : List (List S42)} (h : Kd.C (Kd.slice 42 k42) w A n xs) (i : Int) (h0 : 0 ≤ i) (h1 : i < n) : ∃ ad A0 c0, A = some ad ∧ w.cell? (ad.add i.toNat) = some (.slice A0 (rd_L25 xs i).length c0) ∧ (rd_L25 xs i).length ≤ c0 ∧ k42.C w A0 (rd_L25 xs i).length (rd_L25 xs i) := by
  obtain ⟨ad, c, e, _, hK, hc0⟩ := Kd.C_get h ([] : List S42) i h0 h1
  have hc : ∀ j u, c[j]? = some u → w.cell? (ad.add (i.toNat * 1 + j)) = some u := hc0
  obtain ⟨A0, c0, rfl, l0, g0⟩ := hK
  exact ⟨ad, A0, c0, e, by have hq := hc 0 _ rfl; rwa [Nat.mul_one, Nat.add_zero] at hq, l0, g0⟩

end Go.Proofs.YtmgkejobolgkmaaGreatDoor.PL
