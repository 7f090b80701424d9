/- strings.Join, by the shelf's contract. -/
import Derived.Test.YtnlbbpandnpgoaaDoorLexDefs
import Derived.Test.YtnlbbpandnpgoaaDoorShelf
namespace Go.Proofs.YtnlbbpandnpgoaaDoor.PL
open Go.RowKit Go.Proofs.YtnlbbpandnpgoaaDoorW.PrintWords Go.Proofs.YtnlbbpandnpgoaaDoorW.PrintLast Go.Proofs.YtnlbbpandnpgoaaDoorW.PrintMore
set_option linter.unusedVariables false
set_option linter.unusedSimpArgs false

def joinB (xs : List ByteArray) (sep : ByteArray) : ByteArray := ⟨(Lib.join (xs.map (·.data.toList)) sep.data.toList).toArray⟩
def strings_Join.f (l0 : List ByteArray) (a1 : ByteArray) : Option ByteArray :=
  if l0.length ≤ 140737488355328 ∧ (Lib.join (l0.map (·.data.toList)) a1.data.toList).length ≤ 140737488355328 then some (joinB l0 a1) else none
theorem strings_Join.calls (A0 : Option Addr) (c0 : Nat) (l0 : List ByteArray) (a1 : ByteArray) (r : ByteArray) (w : World) (hr0 : Kd.C Kd.string w A0 l0.length l0) (hc0 : l0.length ≤ c0) (h : strings_Join.f l0 a1 = some r) :
    Calls Tryd.prog 33 #[.slice A0 l0.length c0, .string a1] w fun e w' => e = .returned (.string r) ∧ Below w.heap.size w w' := by
  unfold strings_Join.f at h
  split at h
  · rename_i hh
    obtain rfl := Option.some.inj h
    by_cases hn : l0 = []
    · subst hn
      refine (Tryd.strings_Join_none A0 c0 a1 w).mono fun e w' h2 => ⟨?_, by rw [h2.2]; exact Below.refl _ _⟩
      rw [h2.1]
      rfl
    · have hp : 0 < l0.length := List.length_pos_iff.2 hn
      obtain ⟨ad, hA, hcell⟩ := hr0.2.2 hp
      subst hA
      have hc : ∀ (j : Nat) x, l0[j]? = some x → w.cell? (ad.add j) = some (.string x) := by
        intro j x hx
        obtain ⟨c, hl, hk, hcc⟩ := hcell j x hx
        have hk' : c = [Value.string x] := hk
        subst hk'
        have := hcc 0 (Value.string x) rfl
        simpa [show Kd.string.sz = 1 from rfl] using this
      have h0 := hc 0 l0[0] (List.getElem?_eq_getElem hp)
      have hsp : ad.spot = none := by
        cases hs : ad.spot with
        | none => rfl
        | some q =>
          exfalso
          have : w.cell? ad = none := by
            unfold World.cell?
            split
            · rw [hs]; rfl
            · rfl
          have h0' : w.cell? ad = some (.string l0[0]) := by simpa [Addr.add] using h0
          rw [this] at h0'
          cases h0'
      obtain ⟨b, o, sp⟩ := ad
      simp only at hsp
      subst hsp
      have hcells : ∀ (j : Nat) x, l0[j]? = some x → w.cell? ⟨b, o + j, none⟩ = some (.string x) := by
        intro j x hx
        have := hc j x hx
        unfold Addr.add at this
        split at this
        · rename_i hj; subst hj; simpa using this
        · exact this
      have hb : b < w.heap.size := World.block_lt_of_cell? w _ (by simpa [Addr.add] using h0)
      exact Tryd.strings_Join b o c0 l0 a1 w hcells hb hh.1 hc0 hh.2
  · cases h
end Go.Proofs.YtnlbbpandnpgoaaDoor.PL
