/- Package code: a reader's number: its contract. -/
import Derived.Test.YtoiakaagbgfocaaCoSame
import Derived.Lib.VarintBits
namespace Go.Proofs.Ytoiakaagbgfocaa.PC
open Go.RowKit Go.Proofs.YtoiakaagbgfocaaW.PrintWords Go.Proofs.YtoiakaagbgfocaaW.PrintLast Go.Proofs.YtoiakaagbgfocaaW.PrintMore
open Go.Proofs.Ytoiakaagbgfocaa.RG
set_option linter.unusedVariables false
set_option linter.unusedSimpArgs false

/-- a number of its bits -/
def unzig (u : Int) : Int := if u % 2 = 0 then u / 2 else -(u / 2) - 1
/-- the next number: its value, what is left, the error -/
def numU (l0 : List Int) : List Int → Nat → Int → Int × List Int × Int
  | [], _, _ => (0, l0, 17)
  | c :: l, k, u => if (k = 9 ∧ 1 < c) ∨ (0 < k ∧ c = 0) then (0, l0, 10) else if c < 128 then (unzig (u + c % 128 * 128 ^ k), l, 0) else numU l0 l (k + 1) (u + c % 128 * 128 ^ k)
def numR (l : List Int) (e : Int) : Int × List Int × Int := if e = 0 then numU l l 0 0 else (0, l, e)
/-- a reader in its box: what is left lies in w0 -/
def RdAt (w0 W : World) (B : Nat) (l : List Int) (e : Int) : Prop := ∃ A c, Blk W B #[.slice A l.length c, .int .i64 e] 62 ∧ Kd.C (Kd.int .u8) w0 A l.length l ∧ l.length ≤ c
theorem or_step (u c : Int) (k : Nat) (hu0 : 0 ≤ u) (hu : u < 128 ^ k) (hc0 : 0 ≤ c) (hc : c < 256) (hk : k ≤ 9) (h9 : k = 9 → c ≤ 1) :
    Go.bits .or .u64 u (IntKind.u64.wrap (Go.bits .and .u8 c 127 * 2 ^ (7 * k))) = u + c % 128 * 128 ^ k ∧ u + c % 128 * 128 ^ k < 18446744073709551616 ∧ u + c % 128 * 128 ^ k < 128 ^ (k + 1) := by
  rw [u8_and127 c hc0 hc, IntKind.wrap_u64]
  have hm : 0 ≤ c % 128 ∧ c % 128 < 128 := by omega
  have h9' : k = 9 → c % 128 ≤ 1 := fun e => by have := h9 e; omega
  generalize c % 128 = d at hm h9' ⊢
  have key : k = 0 ∨ k = 1 ∨ k = 2 ∨ k = 3 ∨ k = 4 ∨ k = 5 ∨ k = 6 ∨ k = 7 ∨ k = 8 ∨ k = 9 := by omega
  rcases key with rfl | rfl | rfl | rfl | rfl | rfl | rfl | rfl | rfl | rfl
  all_goals try replace h9' := h9' rfl
  all_goals simp only [Nat.reduceMul, Int.reducePow, Nat.reduceAdd] at *
  all_goals
    refine ⟨?_, by omega, by omega⟩
    rw [Int.emod_eq_of_lt (by omega) (by omega)]
    first
      | exact u64_orv0 _ _ hu0 (by omega) (by omega) (by omega) (by omega)
      | exact u64_orv7 _ _ hu0 (by omega) (by omega) (by omega) (by omega)
      | exact u64_orv14 _ _ hu0 (by omega) (by omega) (by omega) (by omega)
      | exact u64_orv21 _ _ hu0 (by omega) (by omega) (by omega) (by omega)
      | exact u64_orv28 _ _ hu0 (by omega) (by omega) (by omega) (by omega)
      | exact u64_orv35 _ _ hu0 (by omega) (by omega) (by omega) (by omega)
      | exact u64_orv42 _ _ hu0 (by omega) (by omega) (by omega) (by omega)
      | exact u64_orv49 _ _ hu0 (by omega) (by omega) (by omega) (by omega)
      | exact u64_orv56 _ _ hu0 (by omega) (by omega) (by omega) (by omega)
      | exact u64_orv63 _ _ hu0 (by omega) (by omega) (by omega) (by omega)
theorem unzig_walk (u : Int) (h0 : 0 ≤ u) (h1 : u < 18446744073709551616) : Go.bits .xor .i64 (wrap64 (u / 2)) (wrap64 (-wrap64 (Go.bits .and .u64 u 1))) = unzig u := by
  rw [Lib.u64_and1 u h0 h1]
  unfold unzig
  have w1 : wrap64 (u / 2) = u / 2 := by unfold wrap64; omega
  have w2 : wrap64 (u % 2) = u % 2 := by unfold wrap64; omega
  rw [w1, w2]
  by_cases h : u % 2 = 0
  · rw [if_pos h, h]
    have h2 : wrap64 (-0) = 0 := by unfold wrap64; omega
    rw [h2]
    unfold Go.bits
    have h3 : (BitVec.ofInt IntKind.i64.bits (u / 2) ^^^ BitVec.ofInt IntKind.i64.bits 0) = BitVec.ofInt IntKind.i64.bits (u / 2) := by
      have : BitVec.ofInt IntKind.i64.bits 0 = 0#_ := by decide
      rw [this, BitVec.xor_zero]
    simp only [h3]
    obtain ⟨n, hn⟩ := Int.eq_ofNat_of_zero_le (show 0 ≤ u / 2 by omega)
    rw [hn]
    show IntKind.i64.wrap ((BitVec.ofInt 64 (n : Int)).toNat : Int) = _
    rw [BitVec.ofInt_natCast, BitVec.toNat_ofNat, Nat.mod_eq_of_lt (by omega), IntKind.wrap_i64]
    omega
  · rw [if_neg h]
    have h2 : wrap64 (-(u % 2)) = -1 := by unfold wrap64; omega
    rw [h2]
    obtain ⟨n, hn⟩ := Int.eq_ofNat_of_zero_le (show 0 ≤ u / 2 by omega)
    rw [hn]
    have h3 := Lib.i64_not n (by omega)
    rw [← h3]
    unfold Go.bits
    simp only [BitVec.xor_comm]
theorem grown_set (w : World) (a : Addr) (v : Value) : w.grownBy (w.setCell a v) (some a.block) :=
  have h := (Below.refl 0 w).setCell (p := a) (Nat.zero_le _) v
  ⟨h.os, h.tape, h.output, h.size, fun k hk hne => Below.heap_setCell w a v k (fun e => hne (by rw [e]))⟩
set_option maxRecDepth 100000 in
set_option maxHeartbeats 8000000 in
theorem number_calls (w0 w : World) (B : Nat) (l : List Int) (e : Int) (hb : Below w0.heap.size w0 w) (hB : w0.heap.size ≤ B) (hR : RdAt w0 w B l e) (hl : l.length ≤ 1000000) (hby : ∀ x ∈ l, 0 ≤ x ∧ x < 256) (r : Int × List Int × Int) (hr : numR l e = r) :
    Calls Try.prog 47 #[.pointer (some ⟨B, 0, none⟩)] w fun e' w' => e' = .returned (.int .i64 r.1) ∧ RdAt w0 w' B r.2.1 r.2.2 ∧ w.grownBy w' (some B) := by
  obtain ⟨A, c, hBk, hC, hc⟩ := hR
  have HB := Lib.hid hb
  have HBk := Lib.hid hBk
  have HC := Lib.hid hC
  have HCl := Lib.hid hc
  have HL := Lib.hid hl
  have HBy := Lib.hid hby
  have hBw := hBk.lt
  obtain ⟨⟨d0, d1⟩, f0, f1⟩ := hBk.cells2
  unfold numR at hr
  clear hb hBk hC hc hl hby
  by_cases he : e = 0
  · rw [if_pos he] at hr
    subst he
    have HR := Lib.hid hr
    clear hr
    go_enter Try.func47, Try.ntmps47
    go_wp2_with fail
    go_loopg [3, 16] l.length (fun kq v3 v16 w' => ∃ (k : Nat) (u : Int), v3 = .int .u64 u ∧ v16 = .int .i64 (k : Int) ∧ Aside0 (k + kq = l.length) ∧ Aside0 (numU l (l.drop k) k u = r) ∧ Aside0 (k ≤ 9) ∧ Aside0 (0 ≤ u ∧ u < 128 ^ k) ∧ Aside0 (w' = w))
    case atStart => exact ⟨0, 0, rfl, rfl, ⟨by omega⟩, ⟨HR.out⟩, ⟨by omega⟩, ⟨by decide⟩, ⟨rfl⟩⟩
    case round =>
      obtain ⟨k, u, rfl, rfl, HK, HN, HK9, HU, HW⟩ := hrel
      obtain rfl := HW.out
      cases gk with
      | zero =>
        have cx : decide (k < l.length) = false := decide_eq_false (by have := HK.out; omega)
        have cx' : decide ((k : Int) < (l.length : Int)) = false := decide_eq_false (by have := HK.out; omega)
        have hn := HN.out
        rw [List.drop_eq_nil_of_le (by have := HK.out; omega)] at hn
        unfold numU at hn
        subst hn
        go_wp2_with fail
        go_ret
        exact ⟨rfl, ⟨_, c, HBk.out.set 1 _, HC.out, HCl.out⟩, grown_set _ _ _⟩
      | succ kk =>
        have hkl : k < l.length := by have := HK.out; omega
        have cx : decide (k < l.length) = true := decide_eq_true hkl
        have cx' : decide ((k : Int) < (l.length : Int)) = true := decide_eq_true (by omega)
        have wk : IntKind.i64.wrap ((k : Int) + 1) = (k : Int) + 1 := by rw [i64_w]; unfold wrap64; have := HL.out; omega
        have w7 : IntKind.i64.wrap (7 * (k : Int)) = ((7 * k : Nat) : Int) := by rw [i64_w]; unfold wrap64; have := HL.out; omega
        have hd : l.drop k = rd l (k : Int) :: l.drop (k + 1) := by
          rw [List.drop_eq_getElem_cons hkl]
          simp [rd, List.getD, hkl]
        have hq : 0 ≤ rd l (k : Int) ∧ rd l (k : Int) < 256 := HBy.out _ (by simp [rd, List.getD, hkl])
        obtain ⟨ad, ea, hx0⟩ := Kd.at_int HC.out (k : Int) (by omega) (by omega)
        simp only [Int.toNat_natCast] at hx0
        have y0 := cell_bl HB.out hx0
        have hn := HN.out
        rw [hd] at hn
        generalize rd l (k : Int) = q at *
        have HKl := Lib.hid hkl
        have p1 := eq_true hkl
        have p2 : (0 ≤ (k : Int)) = True := eq_true (by omega)
        have p3 : ((k : Int) < (l.length : Int)) = True := eq_true (by omega)
        have p4 : (0 ≤ ((7 * k : Nat) : Int)) = True := eq_true (by omega)
        have p5 : (((7 * k : Nat) : Int) ≤ 64) = True := eq_true (by have := HK9.out; omega)
        cases ea
        unfold numU at hn
        clear hd hkl hx0 HN
        by_cases hbad : (k = 9 ∧ 1 < q) ∨ (0 < k ∧ q = 0)
        · rw [if_pos hbad] at hn
          subst hn
          have g9 := HK9.out
          have hc : (9 ≤ k ∧ decide (1 < q) = true) ∨ (9 ≤ k ∧ decide (1 < q) = false ∧ 0 < k ∧ (q == 0) = true) ∨ (k < 9 ∧ 0 < k ∧ (q == 0) = true) := by
            simp only [beq_iff_eq, decide_eq_true_eq, decide_eq_false_iff_not]
            omega
          clear hbad
          rcases hc with ⟨a1, a2⟩ | ⟨a1, a2, a3, a4⟩ | ⟨a1, a3, a4⟩
          all_goals
            go_wp2_with fail
            go_ret
            exact ⟨rfl, ⟨_, c, HBk.out.set 1 _, HC.out, HCl.out⟩, grown_set _ _ _⟩
        · rw [if_neg hbad] at hn
          have g9 := HK9.out
          have hc : (9 ≤ k ∧ decide (1 < q) = false ∧ 0 < k ∧ (q == 0) = false) ∨ (k < 9 ∧ 0 < k ∧ (q == 0) = false) ∨ (k < 9 ∧ k ≤ 0) := by
            have hq0 : (q == 0) = false ↔ ¬ q = 0 := by simp
            simp only [decide_eq_false_iff_not, hq0]
            omega
          obtain ⟨hor, hlt, hlt2⟩ := or_step u q k HU.out.1 HU.out.2 hq.1 hq.2 HK9.out (fun e => by omega)
          have HU2 : Aside0 (0 ≤ u + q % 128 * 128 ^ k ∧ u + q % 128 * 128 ^ k < 128 ^ (k + 1)) := ⟨by
            have h1 : (0 : Int) ≤ q % 128 * 128 ^ k := Int.mul_nonneg (by omega) (Int.pow_nonneg (by omega))
            have := HU.out
            omega, hlt2⟩
          have HLt := Lib.hid hlt
          have HB2 := Lib.hid hbad
          have hnn : IntKind.u64.wrap (Go.bits .and .u8 q 127) = Go.bits .and .u8 q 127 := by
            rw [u8_and127 q hq.1 hq.2, IntKind.wrap_u64]
            omega
          generalize u + q % 128 * 128 ^ k = u2 at *
          clear hbad hlt hlt2
          by_cases h128 : q < 128
          · rw [if_pos h128] at hn
            subst hn
            have hun := unzig_walk u2 (by have := HU2.out; omega) HLt.out
            have a9 : decide (q < 128) = true := decide_eq_true h128
            clear h128
            obtain ⟨i0, hi, _, hsz, _⟩ := info_parts info5
            have hcut := cut_from (P := Try.prog) 28 5 .i64 Try.underlying28 hi 1 hsz (some ad) l.length c ((k : Int) + 1) (by omega) (by have := HKl.out; omega)
            rw [show ((k : Int) + 1).toNat = k + 1 by omega] at hcut
            have hdr := Kd.C_drop (m := k + 1) HC.out (by have := HKl.out; omega) HCl.out
            have hdl : l.length - (k + 1) = (l.drop (k + 1)).length := by rw [List.length_drop]
            rw [hdl] at hcut
            have hdc : (l.drop (k + 1)).length ≤ c - (k + 1) := by have := HCl.out; rw [List.length_drop]; omega
            have HDr := Lib.hid hdr
            have HDc := Lib.hid hdc
            clear hdr hdl hdc
            obtain ⟨l2, hl2⟩ : ∃ l2, l2 = l.drop (k + 1) := ⟨_, rfl⟩
            rw [← hl2] at hcut HDr HDc
            have HL2 := Lib.hid hl2
            clear hl2
            generalize hA2 : (if c = k + 1 then some ad else (some ad).map (fun x => x.add ((k + 1) * 1))) = A2 at hcut
            have hA3 : (if c = k + 1 then some ad else (some ad).map (fun x => x.add ((k + 1) * (Kd.int .u8).sz))) = A2 := hA2
            rw [hA3] at HDr
            generalize c - (k + 1) = c2 at *
            clear hA2 hA3
            rcases hc with ⟨a1, a2, a3, a4⟩ | ⟨a1, a3, a4⟩ | ⟨a1, a3⟩
            · obtain rfl : k = 9 := by omega
              simp only [Int.cast_ofNat_Int, Int.reduceAdd, Nat.reduceAdd, Nat.reduceMul, Int.reducePow] at *
              have y9 : wr.cell? ⟨ad.block, ad.off + 9, none⟩ = some (.int .u8 q) := by simpa [Addr.add] using y0
              clear g9 a1 a3 y0
              go_wp2_with fail
              go_ret
              exact ⟨rfl, by rw [← HL2.out]; exact ⟨A2, c2, HBk.out.set 0 _, HDr.out, HDc.out⟩, grown_set _ _ _⟩
            all_goals
              go_wp2_with fail
              go_ret
              exact ⟨rfl, by rw [← HL2.out]; exact ⟨A2, c2, HBk.out.set 0 _, HDr.out, HDc.out⟩, grown_set _ _ _⟩
          · rw [if_neg h128] at hn
            have a9 : decide (q < 128) = false := decide_eq_false h128
            have HN := Aside0.mk hn
            have HH := Lib.hid h128
            clear h128 hn
            rcases hc with ⟨a1, a2, a3, a4⟩ | ⟨a1, a3, a4⟩ | ⟨a1, a3⟩
            · exfalso
              have h1 : ¬ 1 < q := of_decide_eq_false a2
              have := HH.out
              omega
            all_goals
              go_wp2_with fail
              go_roundg kk
              case measure => omega
              case rel => exact ⟨k + 1, u2, by simp, by simp [wk], ⟨by have := HK.out; omega⟩, HN, ⟨by have := HK9.out; have := HB2.out; have := HH.out; omega⟩, HU2, ⟨rfl⟩⟩
  · rw [if_neg he] at hr
    subst hr
    have he1 : (e != 0) = true := by simp [bne, he]
    have he2 : (e == 0) = false := by simp [he]
    clear he
    go_enter Try.func47, Try.ntmps47
    go_wp2_with fail
    go_ret
    exact ⟨rfl, ⟨A, c, HBk.out, HC.out, HCl.out⟩, ⟨rfl, rfl, rfl, Nat.le_refl _, fun _ _ _ => rfl⟩⟩
end Go.Proofs.Ytoiakaagbgfocaa.PC
