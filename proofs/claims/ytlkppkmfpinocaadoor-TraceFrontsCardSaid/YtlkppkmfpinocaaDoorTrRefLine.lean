/- Line of the document and Line of the program: their contracts. -/
import Derived.Test.YtlkppkmfpinocaaDoorTrLine
import Derived.Test.YtlkppkmfpinocaaDoorPTx2
import Derived.Test.YtlkppkmfpinocaaDoorPTx7
namespace Go.Proofs.YtlkppkmfpinocaaDoor.PT
open Go.RowKit Go.Proofs.YtlkppkmfpinocaaDoorW.PrintWords Go.Proofs.YtlkppkmfpinocaaDoorW.PrintLast Go.Proofs.YtlkppkmfpinocaaDoorW.PrintMore
set_option linter.unusedVariables false
set_option linter.unusedSimpArgs false

abbrev wds : Array Value := #[.string wd0, .string wd1, .string wd2, .string wd3, .string wd4, .string wd5, .string wd6, .string wd7]
set_option maxHeartbeats 2000000 in
set_option maxRecDepth 100000 in
theorem rwords_calls (w : World) : Calls Tryd.prog 30 #[] w fun e w' => ∃ g, e = .returned (.slice (some ⟨g, 0, none⟩) 8 8) ∧ Blk w' g wds 9 ∧ Bel w.heap.size w w' := by
  go_enter Tryd.func30, Tryd.ntmps30
  go_wp2
  go_ret
  exact ⟨_, rfl, Blk.new _ _ _, (Bel.refl w).alloc _⟩
set_option maxHeartbeats 4000000 in
set_option maxRecDepth 100000 in
theorem rline_num (k : Int) (wd : ByteArray) (hwd : wd.size ≤ 5) (hk0 : 0 ≤ k) (hk4 : k ≤ 4) (hc : ∀ W g, Blk W g wds 9 → W.cell? ⟨g, k.toNat, none⟩ = some (.string wd))
    (n : Int) (t : ByteArray) (ht : t.size ≤ 21) (hn : ∀ W, Calls Tryd.prog 31 #[.int .i64 n] W fun e w' => e = .returned (.string t) ∧ Drawn0 W w') (w : World) (hr : ∀ W, Calls Tryd.prog 10 #[.agg #[.int .i64 k, .int .i64 n]] W fun e w' => e = .returned (.bool true) ∧ Below W.heap.size W w') :
    Calls Tryd.prog 12 #[.agg #[.int .i64 k, .int .i64 n]] w fun e w' => e = .returned (.string (wd ++ (⟨#[32]⟩ : ByteArray) ++ t)) ∧ Below w.heap.size w w' := by
  have z1 : (9223372036854775807 < wd.size + 1 + t.size) = False := eq_false (by omega)
  have z3 : (9223372036854775807 < wd.size + 1) = False := eq_false (by omega)
  have k1 : decide ((4 : Int) < k) = false := decide_eq_false (by omega)
  have k2 : (0 ≤ k) = True := eq_true hk0
  have k3 : (k < 8) = True := eq_true (by omega)
  clear ht hwd hk0 hk4
  go_enter Tryd.func12, Tryd.ntmps12
  go_wp2_with fail
  refine at_world (fun W => Blk W w.heap.size #[.int .i64 k, .int .i64 n] 26 ∧ Bel w.heap.size w W) ⟨Blk.new _ _ _, (Bel.refl w).alloc _⟩ ?_
  rintro W ⟨B, HB⟩
  refine (hr W).mono ?_
  rintro e w1 ⟨rfl, hb1⟩
  replace B := B.below hb1
  replace HB := HB.below hb1
  clear hb1 hr
  obtain ⟨⟨c00, c01⟩, f00, f01⟩ := B.cells2
  go_wp2_with fail
  have HBd : Bel w.heap.size w w1.drew := ⟨below_drew HB.out⟩
  have Bd := B.drew
  have HC := Lib.hid hc
  clear hc
  go_region_with (first | (go_at_call 30; refine (rwords_calls _).mono ?_; rintro e w2 ⟨g2, rfl, W2, hb2⟩; have HB2 := HBd.below hb2.out; have B2 := Bd.below hb2.out; obtain ⟨⟨c10, c11⟩, f10, f11⟩ := B2.cells2; have c12 := HC.out _ _ W2) | (go_at_call 31; refine (hn _).mono ?_; rintro e w3 ⟨rfl, k3, rfl⟩; have HB3 := HB2.drewN k3))
  all_goals (go_wp2; go_ret; exact ⟨rfl, HB3.out⟩)
set_option maxHeartbeats 4000000 in
set_option maxRecDepth 100000 in
theorem rline_word (k : Int) (wd : ByteArray) (hk0 : 5 ≤ k) (hk4 : k < 8) (hc : ∀ W g, Blk W g wds 9 → W.cell? ⟨g, k.toNat, none⟩ = some (.string wd))
    (n : Int) (w : World) (hr : ∀ W, Calls Tryd.prog 10 #[.agg #[.int .i64 k, .int .i64 n]] W fun e w' => e = .returned (.bool true) ∧ Below W.heap.size W w') :
    Calls Tryd.prog 12 #[.agg #[.int .i64 k, .int .i64 n]] w fun e w' => e = .returned (.string wd) ∧ Below w.heap.size w w' := by
  have k1 : decide ((4 : Int) < k) = true := decide_eq_true (by omega)
  have k2 : (0 ≤ k) = True := eq_true (by omega)
  have k3 : (k < 8) = True := eq_true (by omega)
  clear hk0 hk4
  go_enter Tryd.func12, Tryd.ntmps12
  go_wp2_with fail
  refine at_world (fun W => Blk W w.heap.size #[.int .i64 k, .int .i64 n] 26 ∧ Bel w.heap.size w W) ⟨Blk.new _ _ _, (Bel.refl w).alloc _⟩ ?_
  rintro W ⟨B, HB⟩
  refine (hr W).mono ?_
  rintro e w1 ⟨rfl, hb1⟩
  replace B := B.below hb1
  replace HB := HB.below hb1
  clear hb1 hr
  obtain ⟨⟨c00, c01⟩, f00, f01⟩ := B.cells2
  go_wp2_with fail
  have HBd : Bel w.heap.size w w1.drew := ⟨below_drew HB.out⟩
  have Bd := B.drew
  have HC := Lib.hid hc
  clear hc
  go_region_with (go_at_call 30; refine (rwords_calls _).mono ?_; rintro e w2 ⟨g2, rfl, W2, hb2⟩; have HB2 := HBd.below hb2.out; have B2 := Bd.below hb2.out; obtain ⟨⟨c10, c11⟩, f10, f11⟩ := B2.cells2; have c12 := HC.out _ _ W2)
  all_goals (go_wp2; go_ret; exact ⟨rfl, HB2.out⟩)
set_option maxHeartbeats 4000000 in
set_option maxRecDepth 100000 in
theorem rline_none (k n : Int) (w : World) (hr : ∀ W, Calls Tryd.prog 10 #[.agg #[.int .i64 k, .int .i64 n]] W fun e w' => e = .returned (.bool false) ∧ Below W.heap.size W w') :
    Calls Tryd.prog 12 #[.agg #[.int .i64 k, .int .i64 n]] w fun e w' => e = .returned (.string wd0) ∧ Below w.heap.size w w' := by
  go_enter Tryd.func12, Tryd.ntmps12
  go_wp2_with fail
  refine at_world (fun W => Bel w.heap.size w W) ((Bel.refl w).alloc _) ?_
  rintro W HB
  refine (hr W).mono ?_
  rintro e w1 ⟨rfl, hb1⟩
  replace HB := HB.below hb1
  clear hb1 hr
  go_wp2
  go_ret
  exact ⟨rfl, HB.out⟩

set_option maxHeartbeats 4000000 in
set_option maxRecDepth 100000 in
theorem line_none (k n : Int) (w : World) (hr : ∀ W, Calls Tryd.prog 9 #[.agg #[.int .i64 k, .int .i64 n]] W fun e w' => e = .returned (.bool false) ∧ Below W.heap.size W w') :
    Calls Tryd.prog 11 #[.agg #[.int .i64 k, .int .i64 n]] w fun e w' => e = .returned (.string wd0) ∧ Below w.heap.size w w' := by
  go_enter Tryd.func11, Tryd.ntmps11
  go_wp2_with fail
  refine at_world (fun W => Bel w.heap.size w W) ((Bel.refl w).alloc _) ?_
  rintro W HB
  refine (hr W).mono ?_
  rintro e w1 ⟨rfl, hb1⟩
  replace HB := HB.below hb1
  clear hb1 hr
  go_wp2
  go_ret
  exact ⟨rfl, HB.out⟩
/-- an event's word -/
def wordK (k : Int) : ByteArray := if k = 1 then wd1 else if k = 2 then wd2 else if k = 3 then wd3 else if k = 4 then wd4 else if k = 5 then wd5 else if k = 6 then wd6 else if k = 7 then wd7 else wd0
/-- an event's line -/
def lineF (k n : Int) : ByteArray := if evB k n then (if 4 < k then wordK k else wordK k ++ (⟨#[32]⟩ : ByteArray) ++ itoaT n) else wd0
/-- is it a number of 64 bits -/
def i64B (n : Int) : Bool := decide (-9223372036854775808 ≤ n) && decide (n ≤ 9223372036854775807)
theorem i64B_of {n : Int} (h : i64B n = true) : -9223372036854775808 ≤ n ∧ n ≤ 9223372036854775807 := by simpa [i64B] using h
theorem evB_cases {k n : Int} (h : evB k n = true) : (k = 1 ∧ 1 ≤ n) ∨ (k = 2 ∧ 1 ≤ n) ∨ (k = 3 ∧ 0 ≤ n) ∨ k = 4 ∨ (k = 5 ∧ n = 0) ∨ (k = 6 ∧ n = 0) ∨ (k = 7 ∧ n = 0) := by
  simp [evB] at h
  omega
theorem right_f (k n : Int) (h : i64B n = true) (r : Nat) : trace_Right.f (r + 2) k n = some (evB k n) := by
  have h := i64B_of h
  unfold trace_Right.f trace_least.f
  simp only [trace_least.j0, trace_least.j1]
  by_cases h1 : k = 1
  · subst h1
    by_cases hn : 1 ≤ n <;> simp [evB, hn]
  by_cases h2 : k = 2
  · subst h2
    by_cases hn : 1 ≤ n <;> simp [evB, hn]
  by_cases h3 : k = 3
  · subst h3
    by_cases hn : 0 ≤ n <;> simp [evB, hn]
  by_cases h4 : k = 4
  · subst h4
    simp [evB]
    omega
  by_cases h5 : k = 5
  · subst h5
    simp [evB]
    omega
  by_cases h6 : k = 6
  · subst h6
    simp [evB]
    omega
  by_cases h7 : k = 7
  · subst h7
    simp [evB]
    omega
  simp [evB, h1, h2, h3, h4, h5, h6, h7]
theorem rright_f (k n : Int) (r : Nat) : drogueref20_Right.f (r + 2) k n = some (evB k n) := by
  unfold drogueref20_Right.f
  simp only [drogueref20_Right.j0, drogueref20_Right.j1]
  by_cases h1 : k = 1
  · subst h1
    simp [evB]
  by_cases h2 : k = 2
  · subst h2
    simp [evB]
  by_cases h3 : k = 3
  · subst h3
    simp [evB]
  by_cases h4 : k = 4
  · subst h4
    simp [evB]
  by_cases h5 : k = 5
  · subst h5
    simp [evB]
  by_cases h6 : k = 6
  · subst h6
    simp [evB]
  by_cases h7 : k = 7
  · subst h7
    simp [evB]
  simp [evB, h1, h2, h3, h4, h5, h6, h7]
def trace_Line.f (k n : Int) : Option ByteArray := if i64B n then some (lineF k n) else none
theorem trace_Line.calls (k n : Int) (r : ByteArray) (w : World) (hG : Globs w) (h : trace_Line.f k n = some r) :
    Calls Tryd.prog 11 #[.agg #[.int .i64 k, .int .i64 n]] w fun e w' => e = .returned (.string r) ∧ Below w.heap.size w w' := by
  unfold trace_Line.f at h
  by_cases hi : i64B n = true
  · rw [if_pos hi] at h
    obtain rfl := Option.some.inj h
    have hr := fun W => trace_Right.calls 2 k n _ W (right_f k n hi 0)
    obtain ⟨i0, i1⟩ := i64B_of hi
    by_cases he : evB k n = true
    · rw [he] at hr
      unfold lineF
      rw [if_pos he]
      rcases evB_cases he with ⟨rfl, _⟩ | ⟨rfl, _⟩ | ⟨rfl, _⟩ | rfl | ⟨rfl, _⟩ | ⟨rfl, _⟩ | ⟨rfl, _⟩
      · exact line_num 1 wd1 (by decide) (by decide) idx_1 n i0 i1 w hG hr
      · exact line_num 2 wd2 (by decide) (by decide) idx_2 n i0 i1 w hG hr
      · exact line_num 3 wd3 (by decide) (by decide) idx_3 n i0 i1 w hG hr
      · exact line_num 4 wd4 (by decide) (by decide) idx_4 n i0 i1 w hG hr
      · exact line_5 n w hr
      · exact line_6 n w hr
      · exact line_7 n w hr
    · have he' : evB k n = false := by simpa using he
      rw [he'] at hr
      unfold lineF
      rw [if_neg he]
      exact line_none k n w hr
  · rw [if_neg hi] at h
    cases h
theorem wds_cell (k : Int) (wd : ByteArray) (h : wds[k.toNat]? = some (.string wd)) (W : World) (g : Nat) (B : Blk W g wds 9) : W.cell? ⟨g, k.toNat, none⟩ = some (.string wd) := (B.cell k.toNat).trans h
def drogueref20_Line.f (k n : Int) : Option ByteArray := if i64B n then some (lineF k n) else none
/-- the document's Number tells a number's digits -/
theorem drogueref20_Line.calls_of (hN : ∀ n, i64B n = true → ∃ m, drogueref05_Number.f m n = some (itoaT n)) (k n : Int) (r : ByteArray) (w : World) (h : drogueref20_Line.f k n = some r) :
    Calls Tryd.prog 12 #[.agg #[.int .i64 k, .int .i64 n]] w fun e w' => e = .returned (.string r) ∧ Below w.heap.size w w' := by
  unfold drogueref20_Line.f at h
  by_cases hi : i64B n = true
  · rw [if_pos hi] at h
    obtain rfl := Option.some.inj h
    have hr := fun W => drogueref20_Right.calls 2 k n _ W (rright_f k n 0)
    obtain ⟨i0, i1⟩ := i64B_of hi
    obtain ⟨m, hm⟩ := hN n hi
    have hn := fun W => drogueref05_Number.calls m n _ W hm
    have hs := itoaT_size n i0 i1
    by_cases he : evB k n = true
    · rw [he] at hr
      unfold lineF
      rw [if_pos he]
      rcases evB_cases he with ⟨rfl, _⟩ | ⟨rfl, _⟩ | ⟨rfl, _⟩ | rfl | ⟨rfl, _⟩ | ⟨rfl, _⟩ | ⟨rfl, _⟩
      · exact rline_num 1 wd1 (by decide) (by decide) (by decide) (wds_cell _ _ rfl) n _ hs hn w hr
      · exact rline_num 2 wd2 (by decide) (by decide) (by decide) (wds_cell _ _ rfl) n _ hs hn w hr
      · exact rline_num 3 wd3 (by decide) (by decide) (by decide) (wds_cell _ _ rfl) n _ hs hn w hr
      · exact rline_num 4 wd4 (by decide) (by decide) (by decide) (wds_cell _ _ rfl) n _ hs hn w hr
      · exact rline_word 5 wd5 (by decide) (by decide) (wds_cell _ _ rfl) n w hr
      · exact rline_word 6 wd6 (by decide) (by decide) (wds_cell _ _ rfl) n w hr
      · exact rline_word 7 wd7 (by decide) (by decide) (wds_cell _ _ rfl) n w hr
    · have he' : evB k n = false := by simpa using he
      rw [he'] at hr
      unfold lineF
      rw [if_neg he]
      exact rline_none k n w hr
  · rw [if_neg hi] at h
    cases h
end Go.Proofs.YtlkppkmfpinocaaDoor.PT
