/- What the package-level variables hold that lexing reads, and the list of words. -/
import Derived.Test.YtmgkejobolgkmaaGreatDoorLexDefs
import Derived.Test.YtmgkejobolgkmaaGreatDoorShelf
import Derived.WalkSmall
import Derived.Lib.LaidTab
namespace Go.Proofs.YtmgkejobolgkmaaGreatDoor.PL
open Go.RowKit Go.Proofs.YtmgkejobolgkmaaGreatDoorW.PrintWords Go.Proofs.YtmgkejobolgkmaaGreatDoorW.PrintLast Go.Proofs.YtmgkejobolgkmaaGreatDoorW.PrintMore
set_option linter.unusedVariables false
set_option linter.unusedSimpArgs false

/-- the library's variables that the program reads -/
structure Globs (w : World) : Prop where
  ascii : Lib.TabIs Tryz.prog w "strings.asciiSpace" .u8 Lib.asciiSpaceTab
  syn : ∃ tp p, w.var? Tryz.prog "strconv.ErrSyntax" = some #[.iface tp p]
  rng : ∃ tp p, w.var? Tryz.prog "strconv.ErrRange" = some #[.iface tp p]

theorem gAscii : ∃ g, Tryz.prog.globalNamed "strings.asciiSpace" = some g := Option.isSome_iff_exists.1 (by kernel_rfl : (Tryz.prog.globalNamed "strings.asciiSpace").isSome = true)
theorem gSyn : ∃ g, Tryz.prog.globalNamed "strconv.ErrSyntax" = some g := Option.isSome_iff_exists.1 (by kernel_rfl : (Tryz.prog.globalNamed "strconv.ErrSyntax").isSome = true)
theorem gRng : ∃ g, Tryz.prog.globalNamed "strconv.ErrRange" = some g := Option.isSome_iff_exists.1 (by kernel_rfl : (Tryz.prog.globalNamed "strconv.ErrRange").isSome = true)

theorem var_keeps {n : String} {g : Nat} {w w' : World} {cs : Array Value} (hg : Tryz.prog.globalNamed n = some g) (hv : w.var? Tryz.prog n = some cs) (h0 : 0 < cs.size) (hb : Below w.heap.size w w') : w'.var? Tryz.prog n = some cs := by
  have hc : w.cell? ⟨g, 0, none⟩ = some cs[0] := by
    have := World.var?_cell hg hv 0
    rw [this]
    simp [h0]
  exact var?_below hb hg (World.block_lt_of_cell? w _ hc) hv

theorem Globs.below {w w' : World} (h : Globs w) (hb : Below w.heap.size w w') : Globs w' := by
  obtain ⟨g0, e0⟩ := gAscii
  obtain ⟨g1, e1⟩ := gSyn
  obtain ⟨g2, e2⟩ := gRng
  obtain ⟨t1, p1, h1⟩ := h.syn
  obtain ⟨t2, p2, h2⟩ := h.rng
  exact ⟨var_keeps e0 h.ascii (by simp [Lib.asciiSpaceTab]) hb, ⟨t1, p1, var_keeps e1 h1 (by simp) hb⟩, ⟨t2, p2, var_keeps e2 h2 (by simp) hb⟩⟩

def wordsText : ByteArray := ⟨#[115, 116, 114, 117, 99, 116, 32, 101, 110, 117, 109, 32, 102, 110, 32, 108, 101, 116, 32, 115, 97, 102, 101, 32, 104, 111, 111, 107, 32, 105, 110, 116, 32, 98, 111, 120, 32, 114, 101, 102, 32, 109, 117, 116, 32, 97, 100, 100, 32, 115, 117, 98, 32, 108, 101, 115, 115, 32, 117, 115, 101, 32, 110, 101, 119, 32, 116, 97, 103, 32, 111, 117, 116, 32, 103, 111, 116, 111, 32, 105, 102, 32, 109, 97, 116, 99, 104, 32, 99, 104, 101, 99, 107, 32, 99, 97, 108, 108, 32, 99, 97, 116, 99, 104, 32, 114, 101, 116, 117, 114, 110]⟩
theorem fields_words : (Lib.fields wordsText.data.toList).map (fun l => (⟨l.toArray⟩ : ByteArray)) = wordsB := by decide +kernel
theorem words_ascii : ∀ (j : Nat) b, wordsText.data.toList[j]? = some b → b.toNat < 128 := by
  intro j b h
  have hm := List.mem_of_getElem? h
  have ha : ∀ x ∈ wordsText.data.toList, x.toNat < 128 := by decide +kernel
  exact ha b hm

theorem words_row (w : World) : Kd.R Kd.string 9 (w.alloc (.cells ((Lib.fields wordsText.data.toList).map fun l => Value.string ⟨l.toArray⟩).toArray 9)) w.heap.size (fun _ => True)
    (.slice (some ⟨w.heap.size, 0, none⟩) (Lib.fields wordsText.data.toList).length (Lib.fields wordsText.data.toList).length) wordsB := by
  have hl : (Lib.fields wordsText.data.toList).length = wordsB.length := by rw [← fields_words, List.length_map]
  have he : ((Lib.fields wordsText.data.toList).map fun l => Value.string ⟨l.toArray⟩) = encs Value.string wordsB := by
    rw [← fields_words]
    simp [encs]
  rw [hl, he]
  have h := OwnRow.lit (e := 9) (size := 1) w w.heap.size (Kd.reps_scalar (enc := Value.string) wordsB) (Nat.le_refl _) (show wordsB.length ≤ 9223372036854775807 from by decide +kernel)
  exact ⟨fun _ _ => trivial, h⟩

def lex_words.f : Option (List ByteArray) := some wordsB
set_option maxHeartbeats 1000000 in
set_option maxRecDepth 100000 in
theorem lex_words.calls (r : List ByteArray) (w : World) (hG : Globs w) (h : lex_words.f = some r) : Calls Tryz.prog 115 #[] w fun e w' => ∃ v0_ : Value, e = .returned (v0_) ∧ Kd.R Kd.string 9 w' w.heap.size (fun _ => True) v0_ r ∧ Below w.heap.size w w' := by
  obtain rfl := Option.some.inj h
  have hc := Tryz.strings_Fields wordsText w (by decide +kernel) words_ascii hG.ascii
  have HC := Lib.hid hc
  clear hc hG h
  go_enter Tryz.func115, Tryz.ntmps115
  go_wp2_with fail
  refine (HC.out).mono ?_
  clear HC
  rintro e w' ⟨rfl, rfl⟩
  go_wp2
  go_ret
  refine ⟨_, rfl, ?_, ?_⟩
  · exact words_row w
  · exact below_alloc (Below.refl _ _) _
end Go.Proofs.YtmgkejobolgkmaaGreatDoor.PL
