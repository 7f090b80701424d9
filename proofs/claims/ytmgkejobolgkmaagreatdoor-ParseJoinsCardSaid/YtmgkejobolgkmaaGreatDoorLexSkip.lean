/- Package lex's skip: its contract. -/
import Derived.Test.YtmgkejobolgkmaaGreatDoorLexSpan
import Derived.Test.YtmgkejobolgkmaaGreatDoorShelf
import Derived.WalkMore
namespace Go.Proofs.YtmgkejobolgkmaaGreatDoor.PL
open Go.RowKit Go.Proofs.YtmgkejobolgkmaaGreatDoorW.PrintWords Go.Proofs.YtmgkejobolgkmaaGreatDoorW.PrintLast Go.Proofs.YtmgkejobolgkmaaGreatDoorW.PrintMore
set_option linter.unusedVariables false
set_option linter.unusedSimpArgs false

theorem blank_index (c : UInt8) : Lib.indexByte [32, 9, 10] ((c.toNat : Int).toNat.toUInt8) = if c = 32 then 0 else if c = 9 then 1 else if c = 10 then 2 else -1 := by
  rw [Int.toNat_natCast]
  have : c.toNat.toUInt8 = c := by simp
  rw [this]
  simp only [Lib.indexByte]
  by_cases h1 : c = 32
  · simp [h1]
  · by_cases h2 : c = 9
    · simp [h2]
    · by_cases h3 : c = 10
      · simp [h3]
      · simp [h1, h2, h3, Ne.symm h1, Ne.symm h2, Ne.symm h3]
theorem extract_end (s : ByteArray) (k : Nat) : (s.extract k s.size).data.toList = s.data.toList.drop k := by
  rw [ByteArray.data_extract, Array.toList_extract, List.extract_eq_take_drop]
  have : s.size = s.data.toList.length := by simp
  rw [this, List.take_of_length_le (by simp)]
theorem notLF_calls (c : Int) (W : World) (_ : 0 ≤ c) (_ : c ≤ 255) : Calls Tryz.prog 71 #[.int .u8 c] W fun e W' => e = .returned (.bool (notLF c)) ∧ Drawn0 W W' := by
  go_enter Tryz.func71, Tryz.ntmps71
  go_wp2
  go_ret
  exact ⟨rfl, Drawn0.refl _⟩
set_option maxHeartbeats 1000000 in
set_option maxRecDepth 100000 in
theorem skip_calls (s : ByteArray) (w : World) (hs : s.size ≤ 9223372036854775807) :
    Calls Tryz.prog 33 #[.string s] w fun e w' => e = .returned (.int .i64 (skipS false s.data.toList)) ∧ Drawn0 w w' := by
  go_enter Tryz.func33, Tryz.ntmps33
  go_wp2
  go_step3
  go_wp2
  go_step3
  go_wp2
  go_loopg [3] s.size (fun gg n wr => ∃ kk : Nat, kk ≤ s.size ∧ s.size - kk ≤ gg ∧ n = .int .i64 kk ∧ Aside0 (Drawn0 w wr) ∧ Aside0 (kk + skipS false (s.data.toList.drop kk) = skipS false s.data.toList))
  case atStart => exact ⟨0, Nat.zero_le _, by omega, rfl, ⟨Drawn0.refl _⟩, ⟨by simp⟩⟩
  case round =>
    obtain ⟨kk, hkk, hg, rfl, BW, AX⟩ := hrel
    by_cases hlt : kk < s.size
    · have hltz : (kk : Int) < (s.size : Int) := by omega
      have hl : kk < s.data.toList.length := by simpa using hlt
      have hdrop : s.data.toList.drop kk = s.data.toList[kk] :: s.data.toList.drop (kk + 1) := List.drop_eq_getElem_cons hl
      have hix := blank_index (s.data.toList[kk])
      have hcall := Tryz.strings_IndexByte ⟨#[32, 9, 10]⟩ ((s.data.toList[kk]).toNat : Int) wr
      have hixe : Lib.indexByte (⟨#[32, 9, 10]⟩ : ByteArray).data.toList ((((s.data.toList[kk]).toNat : Int)).toNat.toUInt8) = if s.data.toList[kk] = 32 then 0 else if s.data.toList[kk] = 9 then 1 else if s.data.toList[kk] = 10 then 2 else -1 := hix
      rw [hixe] at hcall
      have hst : skipS false (s.data.toList.drop kk) = if s.data.toList[kk] = 32 ∨ s.data.toList[kk] = 9 ∨ s.data.toList[kk] = 10 then skipS false (s.data.toList.drop (kk + 1)) + 1 else if s.data.toList[kk] = 35 then skipS true (s.data.toList.drop (kk + 1)) + 1 else 0 := by
        rw [hdrop]; rfl
      clear hix hixe
      by_cases hb : s.data.toList[kk] = 32 ∨ s.data.toList[kk] = 9 ∨ s.data.toList[kk] = 10
      · obtain ⟨i, hi, hi2⟩ : ∃ i : Int, 0 ≤ i ∧ (if s.data.toList[kk] = 32 then (0 : Int) else if s.data.toList[kk] = 9 then 1 else if s.data.toList[kk] = 10 then 2 else -1) = i := by
          rcases hb with h | h | h
          · exact ⟨0, by omega, by rw [if_pos h]⟩
          · refine ⟨1, by omega, ?_⟩
            rw [if_neg (by rw [h]; decide), if_pos h]
          · refine ⟨2, by omega, ?_⟩
            rw [if_neg (by rw [h]; decide), if_neg (by rw [h]; decide), if_pos h]
        rw [hi2] at hcall
        rw [if_pos hb] at hst
        clear hi2 hb
        have HS := Aside0.mk hst
        clear hst hdrop
        go_wp2_with fail
        refine hcall.mono ?_
        rintro e w' ⟨rfl, rfl⟩
        go_wp2
        go_roundg (s.size - (kk + 1))
        case measure => omega
        case rel =>
          refine ⟨kk + 1, by omega, by omega, by go_num, BW, ⟨?_⟩⟩
          rw [← AX.out, HS.out]
          omega
      · have hi2 : (if s.data.toList[kk] = 32 then (0 : Int) else if s.data.toList[kk] = 9 then 1 else if s.data.toList[kk] = 10 then 2 else -1) = -1 := by
          simp only [not_or] at hb
          rw [if_neg hb.1, if_neg hb.2.1, if_neg hb.2.2]
        rw [hi2] at hcall
        rw [if_neg hb] at hst
        clear hi2
        by_cases hr : s.data.toList[kk] = 35
        · rw [if_pos hr] at hst
          have hr' : ((s[kk].toNat : Int) == 35) = true := by
            have : s[kk] = 35 := hr
            rw [this]; decide
          have hspan := fun W => span_calls 71 (enters_of Tryz.func71 (by kernel_rfl) rfl) notLF notLF_calls (s.extract kk s.size) W (by simp; omega)
          have hx : (s.extract kk s.size).data.toList = s.data.toList.drop kk := extract_end s kk
          rw [hx] at hspan
          have hn : spanN notLF (s.data.toList.drop kk) = spanN notLF (s.data.toList.drop (kk + 1)) + 1 := by
            rw [hdrop, spanN_cons, if_pos (by rw [hr]; decide)]
          have hle := spanN_le notLF (s.data.toList.drop (kk + 1))
          rw [List.length_drop] at hle
          have hlen : s.data.toList.length = s.size := by simp
          rw [hlen] at hle
          obtain ⟨m, hm⟩ : ∃ m, m = spanN notLF (s.data.toList.drop (kk + 1)) := ⟨_, rfl⟩
          have hsk := skipS_remark (s.data.toList.drop (kk + 1))
          rw [← hm] at hn hle hsk
          rw [hn] at hspan
          rw [List.drop_drop] at hsk
          have HS := Aside0.mk hst
          have HK := Aside0.mk hsk
          clear hst hdrop hb hr hn hm hx hlen hsk
          go_wp2_with fail
          refine hcall.mono ?_
          rintro e w' ⟨rfl, rfl⟩
          go_wp2_with fail
          refine (hspan _).mono ?_
          rintro e w' ⟨rfl, hd⟩
          go_wp2
          go_roundg (s.size - (kk + (m + 1)))
          case measure => omega
          case rel =>
            refine ⟨kk + (m + 1), by omega, by omega, by go_num, ?_, ⟨?_⟩⟩
            · obtain ⟨q, rfl⟩ := hd.out
              exact ⟨BW.out.step q⟩
            · rw [← AX.out, HS.out, HK.out, show kk + (m + 1) = kk + 1 + m by omega]
              omega
        · rw [if_neg hr] at hst
          have hr' : ((s[kk].toNat : Int) == 35) = false := by
            have : s[kk] ≠ 35 := hr
            rw [beq_eq_false_iff_ne]
            intro h
            apply this
            apply UInt8.toNat_inj.1
            have : (35 : UInt8).toNat = 35 := rfl
            omega
          have HS := Aside0.mk hst
          clear hst hdrop hb hr
          go_wp2_with fail
          refine hcall.mono ?_
          rintro e w' ⟨rfl, rfl⟩
          go_wp2
          rw [Exit.noGoto_ret]
          go_ret
          refine ⟨?_, BW.out⟩
          rw [← AX.out, HS.out]
          rfl
    · have hltz : ¬ (kk : Int) < (s.size : Int) := by omega
      have : kk = s.size := by omega
      subst this
      go_wp2
      go_ret
      refine ⟨?_, BW.out⟩
      rw [← AX.out]
      have : s.data.toList.drop s.size = [] := by simp
      rw [this]
      rfl

/-- the function, as the printed callers name it -/
def lex_skip.f (a0 : ByteArray) : Option Int := if a0.size ≤ 9223372036854775807 then some (skipS false a0.data.toList : Int) else none
theorem lex_skip.calls (a0 : ByteArray) (r : Int) (w : World) (h : lex_skip.f a0 = some r) : Calls Tryz.prog 33 #[.string a0] w fun e w' => e = .returned (.int .i64 r) ∧ Drawn0 w w' := by
  unfold lex_skip.f at h
  split at h
  · rename_i hs
    obtain rfl := Option.some.inj h
    exact skip_calls a0 w hs
  · cases h
end Go.Proofs.YtmgkejobolgkmaaGreatDoor.PL
