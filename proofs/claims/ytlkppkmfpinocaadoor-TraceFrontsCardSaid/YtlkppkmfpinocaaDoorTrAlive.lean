/- droguelaw20's alive: its contract (it answers true). -/
import Derived.Test.YtlkppkmfpinocaaDoorTrPure
import Derived.Test.YtlkppkmfpinocaaDoorTrLive
import Derived.Test.YtlkppkmfpinocaaDoorTrSound
import Derived.Test.YtlkppkmfpinocaaDoorTrAlike
import Derived.Test.YtlkppkmfpinocaaDoorPTx3
import Derived.Test.YtlkppkmfpinocaaDoorPTx5
namespace Go.Proofs.YtlkppkmfpinocaaDoor.PT
open Go.RowKit Go.Proofs.YtlkppkmfpinocaaDoorW.PrintWords Go.Proofs.YtlkppkmfpinocaaDoorW.PrintLast Go.Proofs.YtlkppkmfpinocaaDoorW.PrintMore
set_option linter.unusedVariables false
set_option linter.unusedSimpArgs false

def alA : List S26 := [⟨1, 1⟩, ⟨4, -5⟩, ⟨5, 0⟩, ⟨2, 1⟩, ⟨6, 0⟩]
def alB : List S26 := [⟨1, 7⟩, ⟨4, -5⟩, ⟨5, 0⟩, ⟨2, 7⟩, ⟨6, 0⟩]
theorem itoa_0 : Lib.itoa 0 = [48] := by
  rw [Lib.itoa, if_neg (by decide), Lib.decDigits, dif_pos (by decide)]
  rfl
theorem itoa_1 : Lib.itoa 1 = [49] := by
  rw [Lib.itoa, if_neg (by decide), Lib.decDigits, dif_pos (by decide)]
  rfl
theorem itoa_5 : Lib.itoa 5 = [53] := by
  rw [Lib.itoa, if_neg (by decide), Lib.decDigits, dif_pos (by decide)]
  rfl
theorem itoa_m5 : Lib.itoa (-5) = [45, 53] := by
  rw [Lib.itoa, if_pos (by decide), Lib.decDigits, dif_pos (by decide)]
  rfl
def alT : List UInt8 := [97, 108, 108, 111, 99, 32, 49, 10, 111, 117, 116, 32, 45, 53, 10, 112, 97, 110, 105, 99, 10, 102, 114, 101, 101, 32, 49, 10, 99, 97, 116, 99, 104, 10]
theorem alText : textL alA = alT := by
  simp [textL, alA, alT, evB, lineF, wordK, itoaT, itoa_1, itoa_m5, ByteArray.data_append]
theorem alRights : rights alA = alA := rights_all (by decide)
theorem al_p1 : trace_Parse.f (bs alT) = some (alA, 0, 0) := by
  unfold trace_Parse.f
  rw [if_pos (by rw [bs_size]; decide), ← alText, parse_lines alA _ [] 0 (by decide) (by rw [bs_size]; exact Nat.le_refl _), alRights]
  rfl
def alU : List UInt8 := [97, 108, 108, 111, 99, 32, 49, 10, 111, 117, 116, 32, 48, 53, 10]
theorem al_bad : okL (bs ([111, 117, 116, 32, 48, 53] ++ [10])) = false := by
  unfold okL
  rw [trimT_at]
  have hk : readK (bs [111, 117, 116, 32, 48, 53]) = 4 := by kernel_rfl
  have hn : readN (bs [111, 117, 116, 32, 48, 53]) = 5 := by kernel_rfl
  unfold readF
  rw [hk, hn, if_neg]
  · simp
  · intro h
    have h2 := congrArg (fun b => b.data.toList) h.2
    simp [lineF, evB, wordK, itoaT, itoa_5, ByteArray.data_append] at h2
theorem al_p2 : trace_Parse.f (bs alU) = some ([], 2, 10) := by
  unfold trace_Parse.f
  rw [if_pos (by rw [bs_size]; decide)]
  have h1 : (bs alU).size = 14 + 1 := rfl
  rw [h1]
  have e1 : lineL 1 1 = [97, 108, 108, 111, 99, 32, 49] := by simp [lineL, evB, lineF, wordK, itoaT, itoa_1, ByteArray.data_append]
  have hu : alU = [97, 108, 108, 111, 99, 32, 49] ++ 10 :: ([111, 117, 116, 32, 48, 53] ++ 10 :: []) := rfl
  rw [hu]
  unfold linesB
  rw [if_neg (by decide), nextA_at _ _ (by decide), nextB_at _ _ (by decide)]
  unfold linesB
  rw [if_neg (by decide), nextA_at _ _ (by decide), nextB_at _ _ (by decide)]
  obtain ⟨h2, h3⟩ := okL_line 1 1 (by decide) (by decide)
  rw [e1] at h2 h3
  unfold parseLs
  rw [if_pos h2]
  unfold parseLs
  rw [if_neg (by rw [al_bad]; decide)]
  rfl
theorem al_s1 : trace_Sound.f alA = some true := by decide
theorem al_s2 : trace_Sound.f alB = some false := by decide
theorem al_a1 : trace_Alike.f alA alB = some true := by decide
theorem al_a2 : trace_Alike.f alA (alB.take 4) = some false := by decide
theorem al_l1 : trace_Live.f alA = some [] := by decide
theorem al_l2 : trace_Live.f (alB.take 3) = some [7] := by decide
theorem al_f1 : trace_Front.f 20 (alA.take 2) alA = some true := by kernel_rfl
theorem al_f2 : trace_Front.f 20 alB alA = some false := by kernel_rfl
theorem al_m1 : droguelaw20_Same.f 20 alA alA = some true := by kernel_rfl
theorem al_t1 : trace_Text.f alA = some (bs alT) := by
  unfold trace_Text.f
  rw [if_pos (by decide), alText]
theorem al_n1 : trace_Line.f 3 0 = some ⟨#[104, 111, 111, 107, 32, 48]⟩ := by
  unfold trace_Line.f
  rw [if_pos (by decide)]
  congr 1
  apply bytes_ext
  simp [lineF, evB, wordK, itoaT, itoa_0, ByteArray.data_append]
theorem al_r1 : trace_Right.f 20 1 0 = some false := by kernel_rfl
theorem C_of_blk {W : World} {g : Nat} {l : List S26} (B : Blk W g (flat26 l).toArray 26) (hl : l.length ≤ 1000) : Kd.C k26 W (some ⟨g, 0, none⟩) l.length l := by
  have hn : (flat26 l).length = l.length * 2 := (flat26_reps W 0 (fun _ => True) l).1
  have how : W.ownsRow 0 26 2 (.slice (some ⟨g, 0, none⟩) l.length l.length) l.length (flat26 l) :=
    ⟨hn, .inr ⟨g, l.length, (flat26 l).toArray, rfl, Nat.zero_le _, B.out, Nat.le_refl _, by unfold maxLen; omega, by simp [hn], by rw [← hn]; simp⟩⟩
  exact (Kd.R_reads' (R_of_owns how)).2.2
theorem drawn_below {w w' : World} (h : Drawn0 w w') : Below w.heap.size w w' := by
  obtain ⟨n, rfl⟩ := h
  exact pw_below_drewN (Below.refl _ _) n
def droguelaw20_alive.f : Option Bool := some true
set_option maxHeartbeats 8000000 in
set_option maxRecDepth 100000 in
theorem droguelaw20_alive.calls (r : Bool) (w : World) (hG : Globs w) (h : droguelaw20_alive.f = some r) :
    Calls Tryd.prog 8 #[] w fun e w' => e = .returned (.bool r) ∧ Below w.heap.size w w' := by
  obtain rfl := Option.some.inj h
  clear h
  have HG := Lib.hid hG
  clear hG
  go_enter Tryd.func8, Tryd.ntmps8
  go_wp2_with fail
  refine at_world (fun W => Blk W w.heap.size (flat26 alA).toArray 26 ∧ Blk W (w.heap.size + 1) (flat26 alB).toArray 26 ∧ Bel w.heap.size w W) ⟨(Blk.new _ _ _).alloc _, Blk.new' (by simp) _ _, ((Bel.refl w).alloc _).alloc _⟩ ?_
  rintro W1 ⟨B1, B2, HB⟩
  refine (trace_Parse.calls _ _ _ _ _ (HG.out.below HB.out) al_p1).mono ?_
  rintro e w1 ⟨v3, rfl, hr3, hb⟩
  replace B1 := B1.below hb
  replace B2 := B2.below hb
  replace HB := HB.below hb
  clear hb
  obtain ⟨A3, c3, rfl, hc3, C3⟩ := Kd.R_reads hr3
  have H3 := Lib.hid (And.intro hc3 C3)
  clear hr3 hc3 C3
  go_wp2_with fail
  refine (trace_Parse.calls _ _ _ _ _ (HG.out.below HB.out) al_p2).mono ?_
  rintro e w1 ⟨v6, rfl, hr6, hb⟩
  replace B1 := B1.below hb
  replace B2 := B2.below hb
  replace H3 := Lib.hid (And.intro H3.out.1 (Kd.C_below H3.out.2 hb))
  replace HB := HB.below hb
  clear hb
  obtain ⟨A6, c6, rfl, _, _⟩ := Kd.R_reads hr6
  clear hr6
  go_wp2_with fail
  refine (trace_Sound.calls (some ⟨w.heap.size, 0, none⟩) 5 alA _ _ (C_of_blk B1 (by decide)) (by decide) al_s1).mono ?_
  rintro e w1 ⟨rfl, hb⟩
  replace B1 := B1.below hb
  replace B2 := B2.below hb
  replace H3 := Lib.hid (And.intro H3.out.1 (Kd.C_below H3.out.2 hb))
  replace HB := HB.below hb
  clear hb
  go_wp2_with fail
  refine (trace_Sound.calls (some ⟨w.heap.size + 1, 0, none⟩) 5 alB _ _ (C_of_blk B2 (by decide)) (by decide) al_s2).mono ?_
  rintro e w1 ⟨rfl, hb⟩
  replace B1 := B1.below hb
  replace B2 := B2.below hb
  replace H3 := Lib.hid (And.intro H3.out.1 (Kd.C_below H3.out.2 hb))
  replace HB := HB.below hb
  clear hb
  go_wp2_with fail
  refine (trace_Alike.calls (some ⟨w.heap.size, 0, none⟩) 5 alA (some ⟨w.heap.size + 1, 0, none⟩) 5 alB _ _ (C_of_blk B1 (by decide)) (by decide) (C_of_blk B2 (by decide)) (by decide) al_a1).mono ?_
  rintro e w1 ⟨rfl, hb⟩
  replace B1 := B1.below hb
  replace B2 := B2.below hb
  replace H3 := Lib.hid (And.intro H3.out.1 (Kd.C_below H3.out.2 hb))
  replace HB := HB.below hb
  clear hb
  go_wp2_with fail
  refine (trace_Alike.calls (some ⟨w.heap.size, 0, none⟩) 5 alA (some ⟨w.heap.size + 1, 0, none⟩) 5 (alB.take 4) _ _ (C_of_blk B1 (by decide)) (by decide) (Kd.C_take (C_of_blk B2 (by decide)) (by decide)) (by decide) al_a2).mono ?_
  rintro e w1 ⟨rfl, hb⟩
  replace B1 := B1.below hb
  replace B2 := B2.below hb
  replace H3 := Lib.hid (And.intro H3.out.1 (Kd.C_below H3.out.2 hb))
  replace HB := HB.below hb
  clear hb
  go_wp2_with fail
  refine (trace_Live.calls (some ⟨w.heap.size, 0, none⟩) 5 alA _ _ (C_of_blk B1 (by decide)) (by decide) al_l1).mono ?_
  rintro e w1 ⟨v, rfl, hr6, hb⟩
  replace B1 := B1.below hb
  replace B2 := B2.below hb
  replace H3 := Lib.hid (And.intro H3.out.1 (Kd.C_below H3.out.2 hb))
  replace HB := HB.below hb
  clear hb
  obtain ⟨A7, c7, rfl, _, _⟩ := Kd.R_reads hr6
  clear hr6
  go_wp2_with fail
  refine (trace_Live.calls (some ⟨w.heap.size + 1, 0, none⟩) 5 (alB.take 3) _ _ (Kd.C_take (C_of_blk B2 (by decide)) (by decide)) (by decide) al_l2).mono ?_
  rintro e w1 ⟨v, rfl, hr6, hb⟩
  replace B1 := B1.below hb
  replace B2 := B2.below hb
  replace H3 := Lib.hid (And.intro H3.out.1 (Kd.C_below H3.out.2 hb))
  replace HB := HB.below hb
  clear hb
  obtain ⟨A8, c8, rfl, _, _⟩ := Kd.R_reads hr6
  clear hr6
  go_wp2_with fail
  refine (trace_Front.calls 20 (some ⟨w.heap.size, 0, none⟩) 5 (alA.take 2) (some ⟨w.heap.size, 0, none⟩) 5 alA _ _ (Kd.C_take (C_of_blk B1 (by decide)) (by decide)) (by decide) (C_of_blk B1 (by decide)) (by decide) al_f1).mono ?_
  rintro e w1 ⟨rfl, hd⟩
  have hb := drawn_below hd
  clear hd
  replace B1 := B1.below hb
  replace B2 := B2.below hb
  replace H3 := Lib.hid (And.intro H3.out.1 (Kd.C_below H3.out.2 hb))
  replace HB := HB.below hb
  clear hb
  go_wp2_with fail
  refine (trace_Front.calls 20 (some ⟨w.heap.size + 1, 0, none⟩) 5 alB (some ⟨w.heap.size, 0, none⟩) 5 alA _ _ (C_of_blk B2 (by decide)) (by decide) (C_of_blk B1 (by decide)) (by decide) al_f2).mono ?_
  rintro e w1 ⟨rfl, hd⟩
  have hb := drawn_below hd
  clear hd
  replace B1 := B1.below hb
  replace B2 := B2.below hb
  replace H3 := Lib.hid (And.intro H3.out.1 (Kd.C_below H3.out.2 hb))
  replace HB := HB.below hb
  clear hb
  go_wp2_with fail
  refine (droguelaw20_Same.calls 20 A3 c3 alA (some ⟨w.heap.size, 0, none⟩) 5 alA _ _ H3.out.2 H3.out.1 (C_of_blk B1 (by decide)) (by decide) al_m1).mono ?_
  rintro e w1 ⟨rfl, hd⟩
  have hb := drawn_below hd
  clear hd
  replace B1 := B1.below hb
  replace B2 := B2.below hb
  replace H3 := Lib.hid (And.intro H3.out.1 (Kd.C_below H3.out.2 hb))
  replace HB := HB.below hb
  clear hb
  go_wp2_with fail
  refine (trace_Text.calls (some ⟨w.heap.size, 0, none⟩) 5 alA _ _ (C_of_blk B1 (by decide)) (by decide) (HG.out.below HB.out) al_t1).mono ?_
  rintro e w1 ⟨rfl, hb⟩
  replace B1 := B1.below hb
  replace B2 := B2.below hb
  replace H3 := Lib.hid (And.intro H3.out.1 (Kd.C_below H3.out.2 hb))
  replace HB := HB.below hb
  clear hb
  go_wp2_with fail
  refine (trace_Line.calls 3 0 _ _ (HG.out.below HB.out) al_n1).mono ?_
  rintro e w1 ⟨rfl, hb⟩
  replace B1 := B1.below hb
  replace B2 := B2.below hb
  replace H3 := Lib.hid (And.intro H3.out.1 (Kd.C_below H3.out.2 hb))
  replace HB := HB.below hb
  clear hb
  go_wp2_with fail
  refine (trace_Right.calls 20 1 0 _ _ al_r1).mono ?_
  rintro e w1 ⟨rfl, hb⟩
  replace B1 := B1.below hb
  replace B2 := B2.below hb
  replace H3 := Lib.hid (And.intro H3.out.1 (Kd.C_below H3.out.2 hb))
  replace HB := HB.below hb
  clear hb
  go_wp2
  go_ret
  exact ⟨rfl, HB.out⟩
end Go.Proofs.YtlkppkmfpinocaaDoor.PT
