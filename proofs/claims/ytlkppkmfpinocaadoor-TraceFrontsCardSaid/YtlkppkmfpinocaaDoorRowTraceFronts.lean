/- droguelaw20.TraceFronts answers true and changes nothing: each front of a sound row is sound; in it each number is freed at most once, and what lives was allocated and not freed; for all rows of up to 100 events. Conditions: the package-level variables that the code reads hold what the program's own text lays in them (the tied card); beyond the sizes named the law answers true by its own text. -/
import Derived.Test.YtlkppkmfpinocaaDoorRows
import Derived.Test.YtlkppkmfpinocaaDoorTrFronts
import Derived.Test.YtlkppkmfpinocaaDoorTrFronts
import Derived.Test.YtlkppkmfpinocaaDoorTrLaid
import Derived.Test.YtlkppkmfpinocaaDoorCards
import Derived.SevenTiedAt
import Derived.WalkKit
import Derived.ProofKit
import Derived.OpenShut
import Derived.ShutString
import Derived.ChangeOld
import Derived.Below
import Derived.SizedLaws
import Derived.Carry
namespace Go.Proofs.YtlkppkmfpinocaaDoor.traceFronts
open Go.ChangeShapes Go.WideShapes Go.ChangeAt Go.RowKit
open Go.ChangeMaps (open_string shut_string)
set_option linter.unusedVariables false
set_option maxHeartbeats 2000000 in
set_option maxRecDepth 100000 in
theorem lifted (os : Os) (started : os.Started) (H : Type) (enc : TypeId × Value → H) :
    ReturnsInHanded {} Tryd.checked os 5 .any (fun w args => (Rows.traceFrontsSpec.pre enc Tryd.prog Tryd.f5 [] false w args ∧ laidMetH Tryd.prog laidL w) ∧ sizedMet enc Tryd.prog Tryd.f5 (OpenSpec.ofChange Rows.traceFrontsSpec) false w args) (Rows.traceFrontsSpec.post enc Tryd.prog Tryd.f5 false true false false) := by
  refine returnsInHanded_of_change_and (C := Tryd.checked) (X := fun w _ => laidMetH Tryd.prog laidL w) (fun _ _ _ hh h => h.of_heap hh) lown started (by kernel_rfl) Tryd.func5
    (ChangeSpec.witness_shaped (enc := enc) (C := Tryd.checked) (os := os) (X := fun w _ => laidMetH Tryd.prog laidL w) false (World.doorLaid Tryd.prog 62 os) #[.slice none 0 0, .int .i64 0] 8 (door_os os) (door_shaped os _) (by kernel_rfl) (by kernel_rfl) (by kernel_rfl) (door_met os _)) ?_
  intro W base args ds gs before hval0 hW hcnd hsz0 hL0 _
  have hG := globs_of_laid hL0
  have hsz : (DataW.weightsEach Tryd.prog (Tryd.f5.params.toList ++ Rows.traceFrontsSpec.plain.varTypes Tryd.prog) (ds ++ gs)).all (· ≤ reachBytes) = true := hsz0
  have hval : ∀ (j : Nat) t v, Tryd.f5.params[j]? = some t → args[j]? = some v → Value.okWide Tryd.prog W .any base t v := hval0
  have hW' := hW
  obtain ⟨p, q, hA0, hV, rfl, hfz, hnd⟩ := hW
  have hA : DataW.TrodAll enc Tryd.prog W 0 (fun _ => true) true Tryd.f5.params.toList args.toList ds p := hA0
  rw [Tryd.params5] at hA hval hsz
  obtain ⟨v0, vs0, d0, ds0, p0, q0, hargs, rfl, rfl, h0, r0⟩ := trodAll_cons hA
  obtain ⟨v1, vs1, d1, ds1, p1, q1, rfl, rfl, rfl, h1, r1⟩ := trodAll_cons r0
  obtain ⟨rfl, rfl, rfl⟩ := trodAll_nil r1
  obtain rfl : args = #[v0, v1] := by cases args; simp_all
  obtain ⟨rfl, rfl⟩ := trodVars_none hV
  have lt0 : ∀ x ∈ p0, x.block < W.heap.size := by obtain ⟨m, hm⟩ := h0; exact DataW.trod_lt m _ _ _ hm
  have k0 := h0
  obtain ⟨A0, c0, l0, rfl, hc0, hC0, hi0⟩ := open_events (okWide_slice Tryd.underlying22 (hval 0 22 v0 rfl rfl)) h0
  obtain ⟨a1, rfl, rfl, rfl, w1⟩ := open_int Tryd.underlying3 (hval 1 3 v1 rfl rfl) h1
  obtain ⟨k, hk⟩ := PT.traceFronts_pure l0 a1 hi0 w1
  clear hA0 hval0 hsz0 hsz
  refine (PT.droguelaw20_TraceFronts.calls k _ _ l0 a1 true W hC0 hc0 hG hk).mono fun e W' ⟨he, bel⟩ => ?_
  subst he
  exact ⟨_, rfl, _, _, _, [], _, [], hW', trodAll_mk1 (shut_bool Tryd.underlying4 _), (trodAll_cons_mk (Below.trod laidOut (by kernel_rfl) (of_decide_eq_true (by kernel_rfl)) k0 bel lt0) (trodAll_cons_mk (shut_int Tryd.underlying3 w1) trodAll_mk0)), rfl, bel.frame _, fun h => by cases h⟩
theorem over : Rows.traceFrontsRow.holds Tryd.pinned (OpenSpec.ofChange Rows.traceFrontsSpec) :=
  OpenClaim.holds_of_wide 5 Tryd.f5 rfl rfl rfl rfl rfl rfl rfl ⟨rfl, rfl, rfl, rfl, rfl⟩ rfl rfl rfl rfl rfl (by kernel_rfl) Tryd.func5 (by kernel_rfl)
    (of_decide_eq_true (by kernel_rfl)) (by unfold Func.isWrapper; first | (rw [if_pos (by decide +kernel)]; kernel_rfl) | (rw [if_neg (by decide +kernel)]; exact ⟨rfl, rfl⟩))
    (fun os started H enc _ => lifted os started H enc)
theorem proved : Rows.TraceFrontsSaid := over
theorem params_plain : ∀ (j : Nat) t, Tryd.f5.params[j]? = some t → Tryd.prog.wantsStandIn t = false := by
  intro j t ht
  have hall : Tryd.f5.params.toList.all (fun t => !Tryd.prog.wantsStandIn t) = true := by kernel_rfl
  have hm : t ∈ Tryd.f5.params.toList := by
    rw [Array.mem_toList_iff]
    exact Array.mem_of_getElem? ht
  have := List.all_eq_true.1 hall t hm
  simpa using this
theorem carded : Rows.TraceFrontsCardSaid :=
  Claim7.holds_tied_plain_at .later [] [.data, .data, .data, .sentinel, .sentinel] true (true, "eaa7206d99c656d7e962339a401ca1be85e411b613dbf42c182099a8dcd98fdd") true
    proved (fun _ h => by cases h) (by kernel_rfl) (fun _ h => by cases h) traceFronts_row_tie rfl ⟨rfl, rfl⟩ (by kernel_rfl) rfl
    (fun f fn hf hfn => by
      obtain rfl : f = 5 := Option.some.inj ((show Tryd.prog.funcNamed "drogue/droguelaw20.TraceFronts" = some 5 by kernel_rfl).symm.trans hf) |>.symm
      obtain rfl : fn = Tryd.f5 := (Option.some.inj (Tryd.func5.symm.trans hfn)).symm
      exact ⟨by kernel_rfl, params_plain⟩)
    (by kernel_rfl)
end Go.Proofs.YtlkppkmfpinocaaDoor.traceFronts
namespace Go.Proofs.YtlkppkmfpinocaaDoor
/-- The row, under a short name, for the claim. -/
theorem traceFronts_card : Rows.TraceFrontsCardSaid := traceFronts.carded
end Go.Proofs.YtlkppkmfpinocaaDoor
