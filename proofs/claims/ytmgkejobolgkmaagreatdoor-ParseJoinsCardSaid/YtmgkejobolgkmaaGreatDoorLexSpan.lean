/- Package lex's span, for whatever predicate on bytes: a contract. -/
import Derived.Test.YtmgkejobolgkmaaGreatDoorLexDefs
namespace Go.Proofs.YtmgkejobolgkmaaGreatDoor.PL
open Go.RowKit Go.Proofs.YtmgkejobolgkmaaGreatDoorW.PrintWords Go.Proofs.YtmgkejobolgkmaaGreatDoorW.PrintLast Go.Proofs.YtmgkejobolgkmaaGreatDoorW.PrintMore
set_option linter.unusedVariables false
set_option linter.unusedSimpArgs false

set_option maxHeartbeats 1000000 in
set_option maxRecDepth 100000 in
theorem span_calls (g : Nat) (eg : ∀ args w, (callFunc g args).run Tryz.prog w = .ok (.enter g args) w) (p : Int → Bool)
    (hp : ∀ (c : Int) W, 0 ≤ c → c ≤ 255 → Calls Tryz.prog g #[.int .u8 c] W fun e W' => e = .returned (.bool (p c)) ∧ Drawn0 W W')
    (s : ByteArray) (w : World) (hs : s.size ≤ 9223372036854775807) :
    Calls Tryz.prog 70 #[.string s, .func (.func g) #[] #[]] w fun e w' => e = .returned (.int .i64 (spanN p s.data.toList)) ∧ Drawn0 w w' := by
  go_enter Tryz.func70, Tryz.ntmps70
  go_wp2
  go_loopg [5] s.size (fun gg n wr => ∃ kk : Nat, kk ≤ s.size ∧ s.size - kk ≤ gg ∧ n = .int .i64 kk ∧ Aside0 (Drawn0 w wr) ∧ Aside0 (kk + spanN p (s.data.toList.drop kk) = spanN p s.data.toList))
  case atStart => exact ⟨0, Nat.zero_le _, by omega, rfl, ⟨Drawn0.refl _⟩, ⟨by simp⟩⟩
  case round =>
    obtain ⟨kk, hkk, hg, rfl, BW, AX⟩ := hrel
    by_cases hlt : kk < s.size
    · have hltz : (kk : Int) < (s.size : Int) := by omega
      have hl : kk < s.data.toList.length := by simpa using hlt
      have hdrop : s.data.toList.drop kk = s.data.toList[kk] :: s.data.toList.drop (kk + 1) := List.drop_eq_getElem_cons hl
      have hrange := (s.data.toList[kk]).toNat_lt
      have hcall := hp ((s.data.toList[kk]).toNat : Int) wr (by omega) (by omega)
      clear hp
      cases hq : p ((s.data.toList[kk]).toNat : Int) with
      | true =>
        rw [hq] at hcall
        have HD := Aside0.mk hdrop
        have HQ := Aside0.mk hq
        clear hq hdrop
        go_wp2_with fail
        refine hcall.mono ?_
        rintro e w' ⟨rfl, hb'⟩
        go_wp2
        go_roundg (s.size - (kk + 1))
        case measure => omega
        case rel =>
          refine ⟨kk + 1, by omega, by omega, by go_num, ?_, ⟨?_⟩⟩
          · obtain ⟨m, rfl⟩ := hb'.out
            exact ⟨BW.out.step m⟩
          · rw [← AX.out, HD.out, spanN_cons, if_pos HQ.out]
            omega
      | false =>
        rw [hq] at hcall
        have HD := Aside0.mk hdrop
        have HQ := Aside0.mk hq
        clear hq hdrop
        go_wp2_with fail
        refine hcall.mono ?_
        rintro e w' ⟨rfl, hb'⟩
        go_wp2
        go_ret
        refine ⟨?_, ?_⟩
        · rw [← AX.out, HD.out, spanN_cons, if_neg (by rw [HQ.out]; simp)]
          rfl
        · obtain ⟨m, rfl⟩ := hb'.out
          exact BW.out.step m
    · have hltz : ¬ (kk : Int) < (s.size : Int) := by omega
      have : kk = s.size := by omega
      subst this
      go_wp2
      go_ret
      refine ⟨?_, BW.out⟩
      rw [← AX.out]
      have : s.data.toList.drop s.size = [] := by simp
      rw [this]
      rfl
end Go.Proofs.YtmgkejobolgkmaaGreatDoor.PL
