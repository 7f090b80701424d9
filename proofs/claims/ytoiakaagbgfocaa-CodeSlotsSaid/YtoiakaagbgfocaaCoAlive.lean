/- Package law of layer 22: alive: its contract. -/
import Derived.Test.YtoiakaagbgfocaaCoSmall
import Derived.Test.YtoiakaagbgfocaaPCx2
import Derived.Deep.RegionHeld3
namespace Go.Proofs.Ytoiakaagbgfocaa.PC
open Go.RowKit Go.Proofs.YtoiakaagbgfocaaW.PrintWords Go.Proofs.YtoiakaagbgfocaaW.PrintLast Go.Proofs.YtoiakaagbgfocaaW.PrintMore
set_option linter.unusedVariables false
set_option linter.unusedSimpArgs false

def bS : List Int := [68, 82, 79, 71, 49, 0, 2, 0, 2, 1, 0, 2, 2, 0, 2, 6, 2, 0, 129, 1, 0, 30, 0, 0, 0, 44, 0, 0, 0, 2, 0, 4, 4]
theorem bS_eq : bytesL smallGs (smallCs 0) 0 = bS := by kernel_rfl
theorem bS_img : imgB smallGs (smallCs 0) 0 = true := by kernel_rfl
theorem bS_wrong : imgB smallGs (smallCs 1) 0 = false := by kernel_rfl
theorem bS_parse : parseR bS = ((smallGs, smallCs 0, 0), 0) := by kernel_rfl
theorem bS_more : parseR (bS ++ [0]) = (emptyI, 10) := by kernel_rfl
theorem bS_less : parseR (bS.take 32) = (emptyI, 17) := by kernel_rfl
theorem bS_byt : Byt bS := ⟨by decide, by decide⟩
theorem same_small : decide (imgN smallGs (smallCs 0) 0 = imgN smallGs (smallCs 0) 0) = true := by simp
theorem same_wrong : decide (imgN smallGs (smallCs 1) 0 = imgN smallGs (smallCs 0) 0) = false := by decide +kernel
theorem RB.below {W W' : World} {base : Nat} {v : Value} {l : List Int} (h : RB W base v l) (hb : Below W.heap.size W W') : RB W' base v l := Kd.R_below h hb
theorem RB.reads {W : World} {base : Nat} {A : Option Addr} {c n : Nat} {l : List Int} (h : RB W base (.slice A n c) l) : n = l.length ∧ Kd.C (Kd.int .u8) W A l.length l ∧ l.length ≤ c := by
  obtain ⟨h1, h2, h3⟩ := Kd.R_reads' h
  exact ⟨h1, h1 ▸ h3, h1 ▸ h2⟩
theorem small_n (a : Int) : (imgN smallGs (smallCs a) 0).length ≤ 1000000 := by
  have h : (imgN smallGs (smallCs a) 0).length = 27 := rfl
  omega
theorem bytes_small (g : Nat) (w : World) (h : SmallAt 0 g w) : Calls Try.prog 9 #[(smallI 0 g).val] w fun e w' => ∃ A c, e = .returned (.tuple #[.slice A 33 c, .bool true]) ∧ RB w' w.heap.size (.slice A 33 c) bS ∧ Below w.heap.size w w' := by
  refine (bytes_calls (smallI 0 g) w h.In (smallI_sm 0 g) (small_n 0)).mono ?_
  rintro e w' ⟨v, he, hr, hb⟩
  have h1 : imgB (smallI 0 g).g (smallI 0 g).cs (smallI 0 g).m = true := bS_img
  rw [h1] at he hr
  rw [if_pos rfl] at hr
  have h2 : bytesL (smallI 0 g).g (smallI 0 g).cs (smallI 0 g).m = bS := bS_eq
  rw [h2] at hr
  obtain ⟨A, c, rfl⟩ := row_slice hr
  exact ⟨A, c, he, hr, hb⟩
theorem bytes_wrong (g : Nat) (w : World) (h : SmallAt 1 g w) : Calls Try.prog 9 #[(smallI 1 g).val] w fun e w' => ∃ v, e = .returned (.tuple #[v, .bool false]) ∧ Below w.heap.size w w' := by
  refine (bytes_calls (smallI 1 g) w h.In (smallI_sm 1 g) (small_n 1)).mono ?_
  rintro e w' ⟨v, he, _, hb⟩
  have h1 : imgB (smallI 1 g).g (smallI 1 g).cs (smallI 1 g).m = false := bS_wrong
  rw [h1] at he
  exact ⟨v, he, hb⟩
/-- an image that was read lies where its rows lie -/
structure MAt (vg vc : Value) (W : World) : Prop where mk :: (rows : ∃ A0 c0 A1 c1, vg = .slice A0 1 c0 ∧ vc = .slice A1 1 c1 ∧ (⟨A0, c0, smallGs, A1, c1, smallCs 0, 0⟩ : Im).In W)
theorem MAt.below {vg vc : Value} {W W' : World} (h : MAt vg vc W) (hb : Below W.heap.size W W') : MAt vg vc W' := by
  obtain ⟨A0, c0, A1, c1, h1, h2, h3⟩ := h.rows
  exact ⟨A0, c0, A1, c1, h1, h2, h3.below rfl hb⟩
theorem parse_small (A : Option Addr) (c : Nat) (base : Nat) (w : World) (h : RB w base (.slice A 33 c) bS) : Calls Try.prog 14 #[.slice A 33 c] w fun e w' => ∃ vg vc, e = .returned (.tuple #[.agg #[vg, vc, .int .i64 0], .int .i64 0]) ∧ MAt vg vc w' ∧ Below w.heap.size w w' := by
  refine (parse_calls A c bS w h.reads.2.1 h.reads.2.2 bS_byt (by decide) _ bS_parse).mono ?_
  rintro e w' ⟨vg, vc, he, hg, hc, hb⟩
  obtain ⟨A0, c0, rfl⟩ := row_slice hg
  obtain ⟨A1, c1, rfl⟩ := row_slice hc
  exact ⟨_, _, he, ⟨A0, c0, A1, c1, rfl, rfl, ⟨(Kd.R_reads' hg).2.2, (Kd.R_reads' hg).2.1, (Kd.R_reads' hc).2.2, (Kd.R_reads' hc).2.1⟩⟩, hb⟩
theorem cell_far (X : World) (g j : Nat) (v : Value) (B i : Nat) (h : B ≠ g) : (X.setCell ⟨g, j, none⟩ v).cell? ⟨B, i, none⟩ = X.cell? ⟨B, i, none⟩ := World.cell?_of_block (Below.heap_setCell X ⟨g, j, none⟩ v B h)
theorem parse_more (A : Option Addr) (c : Nat) (base : Nat) (w : World) (h : RB w base (.slice A 34 c) (bS ++ [0])) : Calls Try.prog 14 #[.slice A 34 c] w fun e w' => ∃ A0 n0 c0 A1 n1 c1, e = .returned (.tuple #[.agg #[.slice A0 n0 c0, .slice A1 n1 c1, .int .i64 0], .int .i64 10]) ∧ Below w.heap.size w w' := by
  refine (parse_calls A c (bS ++ [0]) w h.reads.2.1 h.reads.2.2 ⟨by decide, by decide⟩ (by decide) _ bS_more).mono ?_
  rintro e w' ⟨vg, vc, he, hg, hc, hb⟩
  obtain ⟨A0, c0, rfl⟩ := row_slice hg
  obtain ⟨A1, c1, rfl⟩ := row_slice hc
  exact ⟨_, _, _, _, _, _, he, hb⟩
theorem parse_less (A : Option Addr) (c : Nat) (base : Nat) (w : World) (h : RB w base (.slice A 33 c) bS) : Calls Try.prog 14 #[.slice A 32 c] w fun e w' => ∃ A0 n0 c0 A1 n1 c1, e = .returned (.tuple #[.agg #[.slice A0 n0 c0, .slice A1 n1 c1, .int .i64 0], .int .i64 17]) ∧ Below w.heap.size w w' := by
  refine (parse_calls A c (bS.take 32) w (Kd.C_take (m := 32) h.reads.2.1 (by decide)) (Nat.le_trans (by decide) h.reads.2.2) ⟨by decide, by decide⟩ (by decide) _ bS_less).mono ?_
  rintro e w' ⟨vg, vc, he, hg, hc, hb⟩
  obtain ⟨A0, c0, rfl⟩ := row_slice hg
  obtain ⟨A1, c1, rfl⟩ := row_slice hc
  exact ⟨_, _, _, _, _, _, he, hb⟩
theorem same_m (A0 : Option Addr) (c0 : Nat) (A1 : Option Addr) (c1 : Nat) (g : Nat) (w : World) (hm : (⟨A0, c0, smallGs, A1, c1, smallCs 0, 0⟩ : Im).In w) (h : SmallAt 0 g w) : Calls Try.prog 15 #[.agg #[.slice A0 1 c0, .slice A1 1 c1, .int .i64 0], (smallI 0 g).val] w fun e w' => e = .returned (.bool true) ∧ Below w.heap.size w w' :=
  (same_calls ⟨A0, c0, smallGs, A1, c1, smallCs 0, 0⟩ (smallI 0 g) w hm h.In ⟨by simp [smallGs], by simp [smallCs], by simp [smallGs], by simp [smallCs, smallXs, smallPs]⟩ (smallI_sm 0 g) (small_n 0) (small_n 0)).mono fun e w' h => ⟨by rw [h.1]; simp, h.2⟩
theorem same_w (g g' : Nat) (w : World) (hm : SmallAt 1 g w) (h : SmallAt 0 g' w) : Calls Try.prog 15 #[.agg #[.slice (some ⟨g + 4, 0, none⟩) 1 1, .slice (some ⟨g + 3, 0, none⟩) 1 1, .int .i64 0], (smallI 0 g').val] w fun e w' => e = .returned (.bool false) ∧ Below w.heap.size w w' :=
  (same_calls (smallI 1 g) (smallI 0 g') w hm.In h.In (smallI_sm 1 g) (smallI_sm 0 g') (small_n 1) (small_n 0)).mono fun e w' h => ⟨by
    have h1 : decide (imgN (smallI 1 g).g (smallI 1 g).cs (smallI 1 g).m = imgN (smallI 0 g').g (smallI 0 g').cs (smallI 0 g').m) = false := same_wrong
    rw [h.1, h1], h.2⟩
theorem right_s (g : Nat) (w : World) (h : SmallAt 0 g w) : Calls Try.prog 11 #[(smallI 0 g).val] w fun e w' => e = .returned (.bool true) ∧ Below w.heap.size w w' :=
  (img_calls (smallI 0 g) w h.In (by simp [smallGs]) (by simp [smallCs])).mono fun e w' h => ⟨by
    have h1 : imgB (smallI 0 g).g (smallI 0 g).cs (smallI 0 g).m = true := bS_img
    rw [h.1, h1], h.2⟩
theorem right_w (g : Nat) (w : World) (h : SmallAt 1 g w) : Calls Try.prog 11 #[.agg #[.slice (some ⟨g + 4, 0, none⟩) 1 1, .slice (some ⟨g + 3, 0, none⟩) 1 1, .int .i64 0]] w fun e w' => e = .returned (.bool false) ∧ Below w.heap.size w w' :=
  (img_calls (smallI 1 g) w h.In (by simp [smallGs]) (by simp [smallCs])).mono fun e w' h => ⟨by
    have h1 : imgB (smallI 1 g).g (smallI 1 g).cs (smallI 1 g).m = false := bS_wrong
    rw [h.1, h1], h.2⟩
/-- where alive stands at its end -/
structure AlS (w V : World) (X3 X8 g8 : Nat) (A0 : Option Addr) (c0 : Nat) (A1 : Option Addr) (c1 : Nat) : Prop where mk ::
  (bel : Below w.heap.size w V) (mx : Blk V X3 #[.slice A0 1 c0, .slice A1 1 c1, .int .i64 0] 25) (my : Blk V X8 #[.slice (some ⟨g8 + 4, 0, none⟩) 1 1, .slice (some ⟨g8 + 3, 0, none⟩) 1 1, .int .i64 0] 25)
  (ma : (⟨A0, c0, smallGs, A1, c1, smallCs 0, 0⟩ : Im).In V) (wr : SmallAt 1 g8 V)
theorem AlS.below {w V V' : World} {X3 X8 g8 : Nat} {A0 : Option Addr} {c0 : Nat} {A1 : Option Addr} {c1 : Nat} (h : AlS w V X3 X8 g8 A0 c0 A1 c1) (hb : Below V.heap.size V V') : AlS w V' X3 X8 g8 A0 c0 A1 c1 :=
  ⟨below_step h.bel hb, h.mx.below hb, h.my.below hb, h.ma.below rfl hb, h.wr.below hb⟩
theorem AlS.drew {w V : World} {X3 X8 g8 : Nat} {A0 : Option Addr} {c0 : Nat} {A1 : Option Addr} {c1 : Nat} (h : AlS w V X3 X8 g8 A0 c0 A1 c1) : AlS w V.drew X3 X8 g8 A0 c0 A1 c1 := h.below (below_drew (Below.refl _ _))
set_option maxHeartbeats 16000000 in
set_option maxRecDepth 100000 in
theorem alive_calls (w : World) : Calls Try.prog 7 #[] w fun e w' => e = .returned (.bool true) ∧ Below w.heap.size w w' := by
  go_enter Try.func7, Try.ntmps7
  go_wp2_with fail
  refine (small_calls _).mono ?_
  rintro e W1 ⟨g1, rfl, hs1, hg1, hb1⟩
  have HB := Aside0.mk hb1
  clear hb1
  go_wp2_with fail
  refine (bytes_small g1 _ hs1).mono ?_
  rintro e W2 ⟨A, c, rfl, hr2, hb2⟩
  replace HB := Aside0.mk (below_step HB.out hb2)
  have HR2 := Lib.hid hr2
  clear hb2 hs1 hr2
  go_wp2_with fail
  refine (parse_small A c _ _ HR2.out).mono ?_
  rintro e W3 ⟨vg, vc, rfl, hm3, hb3⟩
  have HX := Lib.hid (Blk.new W3 #[vg, vc, .int .i64 0] 25)
  have HR3 := Lib.hid (RB.below (RB.below HR2.out hb3) (below_alloc (Below.refl W3.heap.size W3) (.cells #[vg, vc, .int .i64 0] 25)))
  replace HB := Aside0.mk (below_alloc (below_step HB.out hb3) (.cells #[vg, vc, .int .i64 0] 25))
  obtain ⟨A0, c0, A1, c1, h1, h2, h3⟩ := hm3.rows
  subst h1
  subst h2
  have HM := Lib.hid (Im.In.below h3 rfl (below_alloc (Below.refl W3.heap.size W3) (.cells #[.slice A0 1 c0, .slice A1 1 c1, .int .i64 0] 25)))
  clear hm3 hb3 HR2 h3
  go_wp2_with fail
  refine (drogueref00_Own.calls A c bS bS _ HR3.out.reads.2.1 HR3.out.reads.2.2 (by kernel_rfl)).mono ?_
  rintro e W4 ⟨v4, rfl, hr4, hb4⟩
  have HR4 := Lib.hid hr4
  have HB4 := Lib.hid hb4
  clear hr4 hb4
  go_wp2_with ((with_reducible refine gate_builtin (b := .append) (xs := #[.tmp 24, .tmp 25]) rfl ?_); at_builtin; refine rx_append (base := (W3.alloc (.cells #[.slice A0 1 c0, .slice A1 1 c1, .int .i64 0] 25)).heap.size) rfl (.tmp 24) (.tmp 25) rfl v4 bS 0 rfl rfl (.inl HR4.out) HB4.out.size (by decide) ?_; intro v5 W5 hr5 hg5 hO5)
  have hb5 := HB4.out.grown hg5 HB4.out.size (fun k e => (row_type HR4.out e).1)
  obtain ⟨A5, c5, h5⟩ := row_slice hr5
  have h5' : v5 = .slice A5 34 c5 := h5
  subst h5'
  have HR5 := Lib.hid hr5
  replace HB := Aside0.mk (below_step HB.out hb5)
  replace HM := Lib.hid (HM.out.below rfl hb5)
  replace HX := Lib.hid (HX.out.below hb5)
  replace HR3 := Lib.hid (RB.below HR3.out hb5)
  clear hr5 hg5 hO5 hb5 HR4 HB4 h5
  refine (parse_more A5 c5 _ _ HR5.out).mono ?_
  rintro e W6 ⟨G0, G1, G2, G3, G4, G5, rfl, hb6⟩
  replace HB := Aside0.mk (below_alloc (below_step HB.out hb6) (.cells #[.slice G0 G1 G2, .slice G3 G4 G5, .int .i64 0] 25))
  replace HM := Lib.hid ((HM.out.below rfl hb6).below rfl (below_alloc (Below.refl W6.heap.size W6) (.cells #[.slice G0 G1 G2, .slice G3 G4 G5, .int .i64 0] 25)))
  replace HX := Lib.hid ((HX.out.below hb6).alloc (.cells #[.slice G0 G1 G2, .slice G3 G4 G5, .int .i64 0] 25))
  replace HR3 := Lib.hid (RB.below (RB.below HR3.out hb6) (below_alloc (Below.refl W6.heap.size W6) (.cells #[.slice G0 G1 G2, .slice G3 G4 G5, .int .i64 0] 25)))
  clear hb6 HR5
  obtain ⟨i5, hi5, _, _, _⟩ := info_parts info5
  have hcut := cut_to (P := Try.prog) 28 5 .i64 Try.underlying28 hi5 A 33 c (32 : Int) (by omega) (by omega) HR3.out.reads.2.2
  rw [show (32 : Int).toNat = 32 from rfl] at hcut
  go_wp2_with fail
  refine (parse_less A c _ _ HR3.out).mono ?_
  rintro e W7 ⟨H0, H1, H2, H3, H4, H5, rfl, hb7⟩
  replace HB := Aside0.mk (below_alloc (below_step HB.out hb7) (.cells #[.slice H0 H1 H2, .slice H3 H4 H5, .int .i64 0] 25))
  replace HM := Lib.hid ((HM.out.below rfl hb7).below rfl (below_alloc (Below.refl W7.heap.size W7) (.cells #[.slice H0 H1 H2, .slice H3 H4 H5, .int .i64 0] 25)))
  replace HX := Lib.hid ((HX.out.below hb7).alloc (.cells #[.slice H0 H1 H2, .slice H3 H4 H5, .int .i64 0] 25))
  clear hb7 HR3 hcut hi5
  go_wp2_with fail
  refine (small_calls _).mono ?_
  rintro e W8 ⟨g8, rfl, hs8, hg8, hb8⟩
  have hlt8 : g8 + 4 < W8.heap.size := hs8.bg.lt
  have hs9 := hs8.below (below_alloc (Below.refl W8.heap.size W8) (.cells #[.slice (some ⟨g8 + 4, 0, none⟩) 1 1, .slice (some ⟨g8 + 3, 0, none⟩) 1 1, .int .i64 0] 25))
  have hbX := (below_alloc hb8 (.cells #[.slice (some ⟨g8 + 4, 0, none⟩) 1 1, .slice (some ⟨g8 + 3, 0, none⟩) 1 1, .int .i64 0] 25)).setCell (p := ⟨g8 + 1, 1, none⟩) (show _ ≤ g8 + 1 by omega) (.int .i64 1)
  have HBX := Lib.hid hbX
  have HSX : Hid (SmallAt 1 g8 ((W8.alloc (.cells #[.slice (some ⟨g8 + 4, 0, none⟩) 1 1, .slice (some ⟨g8 + 3, 0, none⟩) 1 1, .int .i64 0] 25)).setCell ⟨g8 + 1, 1, none⟩ (.int .i64 1))) := Lib.hid ⟨hs9.bi.set 1 _, hs9.bp.far (by simp) _, hs9.bc.far (by simp) _, hs9.bg.far (by simp) _⟩
  have HY := Lib.hid ((Blk.new W8 #[.slice (some ⟨g8 + 4, 0, none⟩) 1 1, .slice (some ⟨g8 + 3, 0, none⟩) 1 1, .int .i64 0] 25).far (p := ⟨g8 + 1, 1, none⟩) (show W8.heap.size ≠ g8 + 1 by omega) (.int .i64 1))
  have s3 := fun o => cell_al (hs8.bc.cell 3) o
  have s1 := fun o => cell_al (show W8.cell? ⟨g8 + 1, 1, none⟩ = some (.int .i64 0) from hs8.bi.cell 1) o
  have t1 := fun o => (hs8.bi.alloc o).frozen 1
  have hfar := fun (X : World) (v : Value) (i : Nat) => cell_far X (g8 + 1) 1 v W8.heap.size i (by omega)
  have el1 : smallGs.length = 1 := rfl
  have el2 : (smallCs 0).length = 1 := rfl
  clear hb8 hs8 hg8 hs9 hbX
  go_wp2_with fail
  refine at_world (fun V => AlS w V W3.heap.size W8.heap.size g8 A0 c0 A1 c1) ⟨below_step HB.out HBX.out, HX.out.below HBX.out, HY.out, HM.out.below rfl HBX.out, HSX.out⟩ ?_
  clear HB HX HY HM HSX HBX s3 s1 t1 hfar hlt8
  generalize W3.heap.size = X3
  generalize W8.heap.size = X8
  rintro V0 hS0
  refine (bytes_wrong g8 V0 hS0.wr).mono ?_
  rintro e V1 ⟨vb, rfl, hb9⟩
  replace hS0 := hS0.below hb9
  have HS0 : Hid (AlS w V1 X3 X8 g8 A0 c0 A1 c1) := Lib.hid hS0
  obtain ⟨⟨m0, m1, m2⟩, -⟩ := hS0.mx.cells3
  obtain ⟨⟨n0, n1, n2⟩, -⟩ := hS0.my.cells3
  clear hb9 hS0
  go_wp2_with fail
  go_region_held3 (fun V => V.cell? ⟨X3, 0, none⟩ = some (.slice A0 1 c0) ∧ V.cell? ⟨X3, 1, none⟩ = some (.slice A1 1 c1) ∧ V.cell? ⟨X3, 2, none⟩ = some (.int .i64 0) ∧ V.cell? ⟨X8, 0, none⟩ = some (.slice (some ⟨g8 + 4, 0, none⟩) 1 1) ∧ V.cell? ⟨X8, 1, none⟩ = some (.slice (some ⟨g8 + 3, 0, none⟩) 1 1) ∧ V.cell? ⟨X8, 2, none⟩ = some (.int .i64 0)) (exact ⟨m0, m1, m2, n0, n1, n2⟩) (first
    | (have tok_ := HS0; go_at_call 17; clear tok_; refine at_world (fun V => AlS w V X3 X8 g8 A0 c0 A1 c1) (by first | exact HS0.out | exact HS0.out.drew) ?_; rintro U0 hU0; refine (small_calls U0).mono ?_; rintro e Z0 ⟨ga, rfl, hs0, hg0, hb0⟩; have hV1 := hU0.below hb0; have HZ1 := Lib.hid hs0; clear HS0 hU0 hs0 hg0 hb0; have HS1 := Lib.hid hV1; obtain ⟨⟨m0, m1, m2⟩, -⟩ := hV1.mx.cells3; obtain ⟨⟨n0, n1, n2⟩, -⟩ := hV1.my.cells3; clear hV1)
    | (have tok_ := HS1; go_at_call 15; clear tok_; refine at_world (fun V => AlS w V X3 X8 g8 A0 c0 A1 c1 ∧ SmallAt 0 ga V) (by first | exact ⟨HS1.out, HZ1.out⟩ | exact ⟨HS1.out.drew, HZ1.out.below (below_drew (Below.refl _ _))⟩) ?_; rintro U1 ⟨hU1, hz1⟩; refine (same_m A0 c0 A1 c1 ga U1 hU1.ma hz1).mono ?_; rintro e Z1 ⟨rfl, hb1⟩; have hV2 := hU1.below hb1; clear HS1 HZ1 hU1 hz1 hb1; have HS2 := Lib.hid hV2; obtain ⟨⟨m0, m1, m2⟩, -⟩ := hV2.mx.cells3; obtain ⟨⟨n0, n1, n2⟩, -⟩ := hV2.my.cells3; clear hV2)
    | (have tok_ := HS2; go_at_call 17; clear tok_; refine at_world (fun V => AlS w V X3 X8 g8 A0 c0 A1 c1) (by first | exact HS2.out | exact HS2.out.drew) ?_; rintro U2 hU2; refine (small_calls U2).mono ?_; rintro e Z2 ⟨gb, rfl, hs2, hg2, hb2⟩; have hV3 := hU2.below hb2; have HZ3 := Lib.hid hs2; clear HS2 hU2 hs2 hg2 hb2; have HS3 := Lib.hid hV3; obtain ⟨⟨m0, m1, m2⟩, -⟩ := hV3.mx.cells3; obtain ⟨⟨n0, n1, n2⟩, -⟩ := hV3.my.cells3; clear hV3)
    | (have tok_ := HS3; go_at_call 11; clear tok_; refine at_world (fun V => AlS w V X3 X8 g8 A0 c0 A1 c1 ∧ SmallAt 0 gb V) (by first | exact ⟨HS3.out, HZ3.out⟩ | exact ⟨HS3.out.drew, HZ3.out.below (below_drew (Below.refl _ _))⟩) ?_; rintro U3 ⟨hU3, hz3⟩; refine (right_s gb U3 hz3).mono ?_; rintro e Z3 ⟨rfl, hb3⟩; have hV4 := hU3.below hb3; clear HS3 HZ3 hU3 hz3 hb3; have HS4 := Lib.hid hV4; obtain ⟨⟨m0, m1, m2⟩, -⟩ := hV4.mx.cells3; obtain ⟨⟨n0, n1, n2⟩, -⟩ := hV4.my.cells3; clear hV4)
    | (have tok_ := HS4; go_at_call 11; clear tok_; refine at_world (fun V => AlS w V X3 X8 g8 A0 c0 A1 c1) (by first | exact HS4.out | exact HS4.out.drew) ?_; rintro U4 hU4; refine (right_w g8 U4 hU4.wr).mono ?_; rintro e Z4 ⟨rfl, hb4⟩; have hV5 := hU4.below hb4; clear HS4 hU4 hb4; have HS5 := Lib.hid hV5; obtain ⟨⟨m0, m1, m2⟩, -⟩ := hV5.mx.cells3; obtain ⟨⟨n0, n1, n2⟩, -⟩ := hV5.my.cells3; clear hV5)
    | (have tok_ := HS5; go_at_call 17; clear tok_; refine at_world (fun V => AlS w V X3 X8 g8 A0 c0 A1 c1) (by first | exact HS5.out | exact HS5.out.drew) ?_; rintro U5 hU5; refine (small_calls U5).mono ?_; rintro e Z5 ⟨gc, rfl, hs5, hg5, hb5⟩; have hV6 := hU5.below hb5; have HZ6 := Lib.hid hs5; clear HS5 hU5 hs5 hg5 hb5; have HS6 := Lib.hid hV6; obtain ⟨⟨m0, m1, m2⟩, -⟩ := hV6.mx.cells3; obtain ⟨⟨n0, n1, n2⟩, -⟩ := hV6.my.cells3; clear hV6)
    | (have tok_ := HS6; go_at_call 15; clear tok_; refine at_world (fun V => AlS w V X3 X8 g8 A0 c0 A1 c1 ∧ SmallAt 0 gc V) (by first | exact ⟨HS6.out, HZ6.out⟩ | exact ⟨HS6.out.drew, HZ6.out.below (below_drew (Below.refl _ _))⟩) ?_; rintro U6 ⟨hU6, hz6⟩; refine (same_w g8 gc U6 hU6.wr hz6).mono ?_; rintro e Z6 ⟨rfl, hb6⟩; have hV7 := hU6.below hb6; clear HS6 HZ6 hU6 hz6 hb6; have HS7 := Lib.hid hV7; obtain ⟨⟨m0, m1, m2⟩, -⟩ := hV7.mx.cells3; obtain ⟨⟨n0, n1, n2⟩, -⟩ := hV7.my.cells3; clear hV7))
  all_goals
    go_wp2
    go_ret
    exact ⟨rfl, HS7.out.bel⟩
end Go.Proofs.Ytoiakaagbgfocaa.PC
