/- droguelaw03's alive: its contract (it answers true). -/
import Derived.Test.YtnlbbpandnpgoaaDoorPLx8
import Derived.Test.YtnlbbpandnpgoaaDoorLexName
import Derived.Test.YtnlbbpandnpgoaaDoorLexLex
namespace Go.Proofs.YtnlbbpandnpgoaaDoor.PL
open Go.RowKit Go.Proofs.YtnlbbpandnpgoaaDoorW.PrintWords Go.Proofs.YtnlbbpandnpgoaaDoorW.PrintLast Go.Proofs.YtnlbbpandnpgoaaDoorW.PrintMore
set_option linter.unusedVariables false
set_option linter.unusedSimpArgs false

def alT (k at_ : Int) (t : ByteArray) (n : Int) : S35 := ⟨k, at_, t, n⟩
def alL1 : List S35 := [⟨1, 0, ⟨#[120]⟩, 0⟩, ⟨4, 1, ⟨#[46]⟩, 0⟩, ⟨4, 2, ⟨#[42]⟩, 0⟩, ⟨4, 3, ⟨#[61]⟩, 0⟩, ⟨3, 4, ⟨#[45, 53]⟩, -5⟩, ⟨4, 6, ⟨#[59]⟩, 0⟩]
def alL3 : List S35 := [⟨2, 0, ⟨#[98, 111, 120]⟩, 0⟩, ⟨1, 4, ⟨#[98, 111, 120, 49]⟩, 0⟩]
set_option maxRecDepth 100000 in
theorem al_f1 : lex_Lex.f ⟨#[120, 46, 42, 61, 45, 53, 59, 35, 32, 97]⟩ = some (alL1, 0, 0) := by kernel_rfl
set_option maxRecDepth 100000 in
theorem al_f2 : lex_Lex.f ⟨#[97, 32, 36]⟩ = some ([], 2, 1) := by kernel_rfl
set_option maxRecDepth 100000 in
theorem al_f3 : lex_Lex.f ⟨#[98, 111, 120, 32, 98, 111, 120, 49]⟩ = some (alL3, 0, 0) := by kernel_rfl
set_option maxRecDepth 100000 in
theorem al_f4 : lex_Join.f 20 alL1 = some ⟨#[120, 32, 46, 32, 42, 32, 61, 32, 45, 53, 32, 59]⟩ := by kernel_rfl
set_option maxRecDepth 100000 in
theorem al_f5 : lex_Word.f 100 ⟨#[99, 97, 116, 99, 104]⟩ = some true := by kernel_rfl
set_option maxRecDepth 100000 in
theorem al_f6 : lex_Name.f ⟨#[99, 97, 116, 99, 104]⟩ = some false := by kernel_rfl
set_option maxRecDepth 100000 in
theorem al_f7 : lex_Name.f ⟨#[97, 95, 49]⟩ = some true := by kernel_rfl

theorem al_cells1 {W : World} {g : Nat} (h : Kd.C k35 W (some ⟨g, 0, none⟩) alL1.length alL1) : W.cell? ⟨g, 16, none⟩ = some (.int .i64 3) ∧ W.cell? ⟨g, 17, none⟩ = some (.int .i64 4) ∧ W.cell? ⟨g, 19, none⟩ = some (.int .i64 (-5)) := by
  obtain ⟨ad, he, h0, h1, h2, h3⟩ := at_T35 h 4 (by decide) (by decide)
  injection he with he
  subst he
  exact ⟨h0, h1, h3⟩
theorem al_cells3 {W : World} {g : Nat} (h : Kd.C k35 W (some ⟨g, 0, none⟩) alL3.length alL3) : W.cell? ⟨g, 0, none⟩ = some (.int .i64 2) ∧ W.cell? ⟨g, 4, none⟩ = some (.int .i64 1) := by
  obtain ⟨ad, he, h0, _⟩ := at_T35 h 0 (by decide) (by decide)
  obtain ⟨ad', he', h1, _⟩ := at_T35 h 1 (by decide) (by decide)
  injection he with he
  injection he' with he'
  subst he
  subst he'
  exact ⟨h0, h1⟩
def droguelaw03_alive.f : Option Bool := some true
set_option maxHeartbeats 8000000 in
set_option maxRecDepth 100000 in
theorem droguelaw03_alive.calls (r : Bool) (w : World) (hG : Globs w) (h : droguelaw03_alive.f = some r) :
    Calls Tryd.prog 9 #[] w fun e w' => e = .returned (.bool r) ∧ Below w.heap.size w w' := by
  obtain rfl := Option.some.inj h
  clear h
  have HG := Lib.hid hG
  clear hG
  go_enter Tryd.func9, Tryd.ntmps9
  go_wp2_with fail
  refine (lex_Lex.calls _ _ _ _ _ HG.out al_f1).mono ?_
  rintro e w1 ⟨v1, rfl, HR1, hb1⟩
  obtain ⟨g1, cap1, rfl, hg1, hlt1, _⟩ := Kd.R_form HR1 (by decide)
  have HC1 := Lib.hid (Kd.R_reads' HR1).2.2
  have hcap1 := (Kd.R_reads' HR1).2.1
  have HB1 := Lib.hid hb1
  clear HR1 hb1 hlt1 hg1
  go_wp2_with fail
  refine at_world (fun W => Blk W w1.heap.size #[.int .i64 0, .int .i64 0] 25 ∧ Kd.C k35 W (some ⟨g1, 0, none⟩) alL1.length alL1 ∧ Bel w.heap.size w W) ?_ ?_
  · exact ⟨Blk.new _ _ _, Kd.C_alloc HC1.out _, ⟨below_alloc HB1.out _⟩⟩
  rintro W ⟨B2, C1, HB⟩
  refine (lex_Lex.calls _ _ _ _ _ (HG.out.below HB.out) al_f2).mono ?_
  rintro e w2 ⟨v2, rfl, HR2, hb2⟩
  replace B2 := B2.below hb2
  replace C1 := Kd.C_below C1 hb2
  replace HB := HB.below hb2
  clear hb2
  obtain ⟨A2, cap2, rfl, _, _⟩ := Kd.R_reads HR2
  clear HR2
  generalize w1.heap.size = g2 at *
  go_wp2_with fail
  refine at_world (fun W => Blk W g2 #[.int .i64 0, .int .i64 0] 25 ∧ Blk W w2.heap.size #[.int .i64 2, .int .i64 1] 25 ∧ Kd.C k35 W (some ⟨g1, 0, none⟩) alL1.length alL1 ∧ Bel w.heap.size w W) ?_ ?_
  · exact ⟨B2.alloc _, Blk.new _ _ _, Kd.C_alloc C1 _, HB.alloc _⟩
  clear B2 C1 HB
  rintro W ⟨B2, B4, C1, HB⟩
  refine (lex_Lex.calls _ _ _ _ _ (HG.out.below HB.out) al_f3).mono ?_
  rintro e w3 ⟨v3, rfl, HR3, hb3⟩
  replace B2 := B2.below hb3
  replace B4 := B4.below hb3
  replace C1 := Kd.C_below C1 hb3
  replace HB := HB.below hb3
  clear hb3
  obtain ⟨g3, cap3, rfl, _, _, _⟩ := Kd.R_form HR3 (by decide)
  have C3 := (Kd.R_reads' HR3).2.2
  have hcap3 := (Kd.R_reads' HR3).2.1
  clear HR3
  generalize w2.heap.size = g4 at *
  have D2 : ∀ o, ((w3.alloc o).cell? ⟨g2, 0, none⟩ = some (.int .i64 0) ∧ (w3.alloc o).cell? ⟨g2, 1, none⟩ = some (.int .i64 0)) := fun o => (B2.alloc o).cells2.1
  have D4 : ∀ o, ((w3.alloc o).cell? ⟨g4, 0, none⟩ = some (.int .i64 2) ∧ (w3.alloc o).cell? ⟨g4, 1, none⟩ = some (.int .i64 1)) := fun o => (B4.alloc o).cells2.1
  have E1 : ∀ o, (w3.alloc o).cell? ⟨g1, 16, none⟩ = some (.int .i64 3) ∧ (w3.alloc o).cell? ⟨g1, 17, none⟩ = some (.int .i64 4) ∧ (w3.alloc o).cell? ⟨g1, 19, none⟩ = some (.int .i64 (-5)) := fun o => al_cells1 (Kd.C_alloc C1 o)
  have E3 : ∀ o, (w3.alloc o).cell? ⟨g3, 0, none⟩ = some (.int .i64 2) ∧ (w3.alloc o).cell? ⟨g3, 4, none⟩ = some (.int .i64 1) := fun o => al_cells3 (Kd.C_alloc C3 o)
  have d20 := fun o => (D2 o).1
  have d21 := fun o => (D2 o).2
  have d40 := fun o => (D4 o).1
  have d41 := fun o => (D4 o).2
  have e10 := fun o => (E1 o).1
  have e11 := fun o => (E1 o).2.1
  have e12 := fun o => (E1 o).2.2
  have e30 := fun o => (E3 o).1
  have e31 := fun o => (E3 o).2
  have n1 : alL1.length = 6 := rfl
  have n3 : alL3.length = 2 := rfl
  rw [n1] at hcap1
  rw [n3] at hcap3
  rw [n1, n3]
  clear D2 D4 E1 E3
  go_wp2_with fail
  refine (lex_Join.calls 20 _ _ alL1 _ _ (Kd.C_alloc C1 _) hcap1 al_f4).mono ?_
  rintro e w4 ⟨rfl, hb4⟩
  have HB4 := (HB.alloc _).below hb4
  clear hb4 HB B2 B4 C1 C3 d20 d21 d40 d41 e10 e11 e12 e30 e31
  go_wp2_with fail
  refine (lex_Word.calls 100 _ _ _ (HG.out.below HB4.out) al_f5).mono ?_
  rintro e w5 ⟨rfl, hb5⟩
  have HB5 := HB4.below hb5
  clear hb5 HB4
  go_wp2_with fail
  refine (lex_Name.calls _ _ _ (HG.out.below HB5.out) al_f6).mono ?_
  rintro e w6 ⟨rfl, hb6⟩
  have HB6 := HB5.below hb6
  clear hb6 HB5
  go_wp2_with fail
  refine (lex_Name.calls _ _ _ (HG.out.below HB6.out) al_f7).mono ?_
  rintro e w7 ⟨rfl, hb7⟩
  have HB7 := HB6.below hb7
  clear hb7 HB6
  go_wp2
  go_ret
  exact ⟨rfl, HB7.out⟩
end Go.Proofs.YtnlbbpandnpgoaaDoor.PL
