/- Package code: Parse: its contract. -/
import Derived.Test.YtoiakaagbgfocaaCoImage
import Derived.Deep.QuietTactic
import Derived.BigQuiet
namespace Go.Proofs.Ytoiakaagbgfocaa.PC
open Go.RowKit Go.Proofs.YtoiakaagbgfocaaW.PrintWords Go.Proofs.YtoiakaagbgfocaaW.PrintLast Go.Proofs.YtoiakaagbgfocaaW.PrintMore
open Go.Proofs.Ytoiakaagbgfocaa.RG
attribute [local go_sem] max2_int min2_int max_two min_two
set_option linter.unusedVariables false
set_option linter.unusedSimpArgs false

def magicL : List Int := [68, 82, 79, 71, 49]
def emptyI : List S48 × List S40 × Int := ([], [], 0)
/-- the image of bytes, or an error -/
def parseR (l : List Int) : (List S48 × List S40 × Int) × Int :=
  if l.take 5 ≠ magicL.take (min l.length 5) then (emptyI, 10)
  else if l.length < 5 then (emptyI, 17)
  else if (imageR (l.drop 5) 0).2.2 ≠ 0 then (emptyI, (imageR (l.drop 5) 0).2.2)
  else if (imageR (l.drop 5) 0).2.1.length > 0 then (emptyI, 10)
  else if imgB (imageR (l.drop 5) 0).1.1 (imageR (l.drop 5) 0).1.2.1 (imageR (l.drop 5) 0).1.2.2 = false then (emptyI, 11)
  else ((imageR (l.drop 5) 0).1, 0)
theorem map_byte_inj : ∀ (a b : List Int), (∀ x ∈ a, 0 ≤ x ∧ x < 256) → (∀ x ∈ b, 0 ≤ x ∧ x < 256) → (a.map fun n => UInt8.ofNat n.toNat) = (b.map fun n => UInt8.ofNat n.toNat) → a = b
  | [], [], _, _, _ => rfl
  | [], _ :: _, _, _, h => by simp at h
  | _ :: _, [], _, _, h => by simp at h
  | x :: a, y :: b, ha, hb, h => by
    rw [List.map_cons, List.map_cons] at h
    injection h with h1 h2
    have hx := ha x (by simp)
    have hy := hb y (by simp)
    have h3 := congrArg UInt8.toNat h1
    simp only [UInt8.toNat_ofNat'] at h3
    rw [Nat.mod_eq_of_lt (by omega), Nat.mod_eq_of_lt (by omega)] at h3
    rw [show x = y by omega, map_byte_inj a b (fun z hz => ha z (by simp [hz])) (fun z hz => hb z (by simp [hz])) h2]
/-- a text of bytes is the magic's beginning, just if the bytes are -/
theorem magic_eq (l : List Int) (hl : Byt l) (n : Nat) (hn : n ≤ 5) (hn2 : n ≤ l.length) : ((strOfNums (l.take n)).toList == ((⟨#[68, 82, 79, 71, 49]⟩ : ByteArray).extract 0 n).toList) = decide (l.take n = magicL.take n) := by
  have hb : ∀ x ∈ l.take n, 0 ≤ x ∧ x < 256 := fun x hx => hl.byte x (List.mem_of_mem_take hx)
  have e1 : ((⟨#[68, 82, 79, 71, 49]⟩ : ByteArray).extract 0 n) = strOfNums (magicL.take n) := by
    have key : n = 0 ∨ n = 1 ∨ n = 2 ∨ n = 3 ∨ n = 4 ∨ n = 5 := by omega
    rcases key with rfl | rfl | rfl | rfl | rfl | rfl <;> decide
  rw [e1]
  have hm : ∀ x ∈ magicL.take n, 0 ≤ x ∧ x < 256 := fun x hx => by
    have h1 := List.mem_of_mem_take hx
    simp [magicL] at h1
    omega
  generalize l.take n = a at *
  generalize magicL.take n = b at *
  by_cases h : a = b
  · rw [h]
    simp
  · rw [decide_eq_false h]
    simp only [beq_eq_false_iff_ne]
    intro e
    refine h ?_
    have e2 : (strOfNums a).data.toList = (strOfNums b).data.toList := by
      have h1 : ∀ s : ByteArray, s.toList = s.data.toList := fun s => Go.ByteArray.toList_eq s
      rw [← h1, ← h1, e]
    rw [strOfNums_data, strOfNums_data] at e2
    exact map_byte_inj a b hb hm e2
theorem numU_dec (l0 : List Int) : ∀ (l : List Int) (k : Nat) (u : Int), l.length ≤ l0.length → (numU l0 l k u).2.2 = 0 → (numU l0 l k u).2.1.length < l0.length
  | [], k, u, _, h => by
    unfold numU at h
    exact absurd h (by simp)
  | c :: l, k, u, hl, h => by
    unfold numU at h ⊢
    simp at hl
    split
    · rename_i hb
      rw [if_pos hb] at h
      exact absurd h (by simp)
    · rename_i hb
      rw [if_neg hb] at h
      split
      · exact hl
      · rename_i hc
        rw [if_neg hc] at h
        exact numU_dec l0 l _ _ (by omega) h
theorem numR_dec (l : List Int) (e : Int) : (numR l e).2.1.length ≤ l.length ∧ ((numR l e).2.2 = 0 → e = 0 ∧ (numR l e).2.1.length < l.length) := by
  unfold numR
  by_cases h : e = 0
  · rw [if_pos h]
    exact ⟨numU_len l l 0 0 (Nat.le_refl _), fun h0 => ⟨h, numU_dec l l 0 0 (Nat.le_refl _) h0⟩⟩
  · rw [if_neg h]
    exact ⟨Nat.le_refl _, fun h0 => absurd h0 h⟩
theorem countR_dec (l : List Int) (e : Int) : (countR l e).2.1.length ≤ l.length := (numR_dec l e).1
/-- what a reading takes -/
def Dec {α : Type} (f : List Int → Int → α × List Int × Int) : Prop := ∀ l e, (f l e).2.1.length ≤ l.length ∧ ((f l e).2.2 = 0 → (f l e).2.1.length < l.length)
theorem num3_dec (l : List Int) (e : Int) : (num3R l e).2.1.length ≤ l.length ∧ ((num3R l e).2.2 = 0 → e = 0 ∧ (num3R l e).2.1.length < l.length) := by
  have h1 := numR_dec l e
  have h2 := numR_dec (numR l e).2.1 (numR l e).2.2
  have h3 := numR_dec (numR (numR l e).2.1 (numR l e).2.2).2.1 (numR (numR l e).2.1 (numR l e).2.2).2.2
  refine ⟨Nat.le_trans h3.1 (Nat.le_trans h2.1 h1.1), fun h => ?_⟩
  obtain ⟨h4, h5⟩ := h3.2 h
  obtain ⟨h6, h7⟩ := h2.2 h4
  obtain ⟨h8, h9⟩ := h1.2 h6
  exact ⟨h8, by show (numR _ _).2.1.length < _; omega⟩
theorem part_dec : Dec partR := fun l e => by
  have h1 := numR_dec l e
  have h2 := numR_dec (numR l e).2.1 (numR l e).2.2
  refine ⟨Nat.le_trans h2.1 h1.1, fun h => ?_⟩
  obtain ⟨h6, h7⟩ := h2.2 h
  show (numR _ _).2.1.length < _
  omega
theorem pad_dec : Dec padR := fun l e => ⟨(num3_dec l e).1, fun h => ((num3_dec l e).2 h).2⟩
theorem inst_dec : Dec instR := fun l e => by
  have h1 := numR_dec l e
  have h2 := num3_dec (numR l e).2.1 (numR l e).2.2
  refine ⟨Nat.le_trans h2.1 h1.1, fun h => ?_⟩
  obtain ⟨h6, h7⟩ := h2.2 h
  show (num3R _ _).2.1.length < _
  omega
theorem loop_dec {α : Type} {f : List Int → Int → α × List Int × Int} (hf : Dec f) : ∀ (k : Nat) (l : List Int) (e : Int) (acc : List α), (loopR f k l e acc).2.1.length ≤ l.length ∧ ((loopR f k l e acc).1.length + (loopR f k l e acc).2.1.length ≤ acc.length + l.length + 1) ∧ ((loopR f k l e acc).2.2 = 0 → e = 0 ∧ (loopR f k l e acc).1.length + (loopR f k l e acc).2.1.length ≤ acc.length + l.length)
  | 0, l, e, acc => ⟨Nat.le_refl _, by show acc.length + l.length ≤ _; omega, fun h => ⟨h, Nat.le_refl _⟩⟩
  | k + 1, l, e, acc => by
    unfold loopR
    by_cases h : e = 0
    · rw [if_pos h]
      have h1 := hf l e
      have h2 := loop_dec hf k (f l e).2.1 (f l e).2.2 (acc ++ [(f l e).1])
      rw [List.length_append, List.length_singleton] at h2
      by_cases h0 : (f l e).2.2 = 0
      · have h3 := h1.2 h0
        exact ⟨by omega, by omega, fun h4 => ⟨h, by have := (h2.2.2 h4).2; omega⟩⟩
      · rw [loopR_err _ _ _ _ _ h0]
        simp only [List.length_append, List.length_singleton]
        exact ⟨h1.1, by have := h1.1; omega, fun h4 => absurd h4 h0⟩
    · rw [if_neg h]
      exact ⟨Nat.le_refl _, by show acc.length + l.length ≤ _; omega, fun h0 => absurd h0 h⟩
theorem count_ok (l : List Int) (e : Int) (h : (countR l e).2.2 = 0) : (numR l e).2.2 = 0 := by
  unfold countR at h
  simp only at h
  split at h
  · assumption
  · assumption
theorem many_dec {α : Type} {f : List Int → Int → α × List Int × Int} (hf : Dec f) (l : List Int) (e : Int) : (manyR f l e).2.1.length ≤ l.length ∧ (manyR f l e).1.length ≤ l.length + 1 ∧ ((manyR f l e).2.2 = 0 → e = 0 ∧ (manyR f l e).1.length + (manyR f l e).2.1.length < l.length) := by
  have h1 := numR_dec l e
  have h2 := loop_dec hf (countR l e).1.toNat (countR l e).2.1 (countR l e).2.2 []
  have h3 := countR_dec l e
  refine ⟨Nat.le_trans h2.1 h3, ?_, fun h => ?_⟩
  · have := h2.2.1
    simp only [List.length_nil] at this
    show (loopR _ _ _ _ _).1.length ≤ _
    omega
  · obtain ⟨h4, h5⟩ := h2.2.2 h
    obtain ⟨h6, h7⟩ := h1.2 (count_ok l e h4)
    refine ⟨h6, ?_⟩
    show (loopR _ _ _ _ _).1.length + (loopR _ _ _ _ _).2.1.length < _
    simp only [List.length_nil] at h5
    have h8 : (countR l e).2.1.length < l.length := h7
    omega
theorem glue_dec : Dec glueR := fun l e => by
  have h1 := num3_dec l e
  have h2 := many_dec part_dec (num3R l e).2.1 (num3R l e).2.2
  refine ⟨Nat.le_trans h2.1 h1.1, fun h => ?_⟩
  obtain ⟨h6, h7⟩ := h2.2.2 h
  show (manyR _ _ _).2.1.length < _
  have := h1.1
  omega
theorem code_dec : Dec codeR := fun l e => by
  have h1 := num3_dec l e
  have h2 := many_dec inst_dec (num3R l e).2.1 (num3R l e).2.2
  have h3 := many_dec pad_dec (manyR instR (num3R l e).2.1 (num3R l e).2.2).2.1 (manyR instR (num3R l e).2.1 (num3R l e).2.2).2.2
  refine ⟨Nat.le_trans h3.1 (Nat.le_trans h2.1 h1.1), fun h => ?_⟩
  obtain ⟨h6, h7⟩ := h3.2.2 h
  show (manyR _ _ _).2.1.length < _
  have := h1.1
  have := h2.1
  omega
theorem image_len (l : List Int) (hl : Byt l) : (imageR l 0).1.1.length ≤ l.length + 1 ∧ (imageR l 0).1.2.1.length ≤ l.length + 1 := by
  have h1 := numR_dec l 0
  have h2 := many_dec glue_dec (numR l 0).2.1 (numR l 0).2.2
  have h3 := many_dec code_dec (manyR glueR (numR l 0).2.1 (numR l 0).2.2).2.1 (manyR glueR (numR l 0).2.1 (numR l 0).2.2).2.2
  exact ⟨by show (manyR _ _ _).1.length ≤ _; omega, by show (manyR _ _ _).1.length ≤ _; omega⟩
set_option maxRecDepth 100000 in
set_option maxHeartbeats 16000000 in
theorem parse_calls (A : Option Addr) (c : Nat) (l : List Int) (w : World) (hC : Kd.C (Kd.int .u8) w A l.length l) (hc : l.length ≤ c) (hl : Byt l) (hl2 : l.length ≤ 999999) (r : (List S48 × List S40 × Int) × Int) (hr : parseR l = r) :
    Calls Try.prog 14 #[.slice A l.length c] w fun e w' => ∃ vg vc, e = .returned (.tuple #[.agg #[vg, vc, .int .i64 r.1.2.2], .int .i64 r.2]) ∧ RW k48 48 w' w.heap.size vg r.1.1 ∧ RW k40 40 w' w.heap.size vc r.1.2.1 ∧ Below w.heap.size w w' := by
  obtain ⟨n, hn⟩ : ∃ n, n = l.length := ⟨_, rfl⟩
  rw [← hn] at hC hc hl2 ⊢
  have HN := Lib.hid hn
  have HC := Lib.hid hC
  have HCl := Lib.hid hc
  have HL := Lib.hid hl
  have HL2 := Lib.hid hl2
  obtain ⟨i0, hi0, _, hsz, _⟩ := info_parts info5
  have hC1 : ∀ (m : Nat) (W : World), m ≤ n → Below w.heap.size w W → (convert 28 9 (.slice A m c)).run Try.prog W = .ok (.string (strOfNums (l.take m))) W := fun m W hm hb => by
    have h1 := Kd.C_take (m := m) (hn ▸ Kd.C_below HC.out hb) (by omega)
    rw [show (l.take m).length = m by rw [List.length_take]; omega] at h1
    exact Kd.C_string Try.underlying28 Try.underlying5 Try.underlying9 h1
  have hcut1 : ∀ m : Nat, m ≤ n → ∀ W, (Instr.slice 28 (.slice A n c) none (some (.int .i64 (m : Int))) none).run Try.prog W = .ok (.slice A m c) W := fun m hm W => by
    have h1 := cut_to (P := Try.prog) 28 5 .i64 Try.underlying28 hi0 A n c (m : Int) (by omega) (by omega) HCl.out W
    rw [Int.toNat_natCast] at h1
    exact h1
  have hmg := magic_eq l hl
  unfold parseR at hr
  rw [← hn] at hr
  by_cases h5 : 5 ≤ n
  · have hs := hmg 5 (by omega) (by omega)
    have hcut := hcut1 5 (by omega)
    have hcv := fun k => hC1 5 ((w.alloc (.cells #[.slice none 0 0, .slice none 0 0, .int .i64 0] 25)).drewN k) (by omega) (pw_below_drewN (below_alloc (Below.refl _ _) _) k)
    rw [show min n 5 = 5 by omega] at hr
    have hcf := cut_from (P := Try.prog) 28 5 .i64 Try.underlying28 hi0 1 hsz A n c (5 : Int) (by omega) (by omega)
    rw [show (5 : Int).toNat = 5 from rfl] at hcf
    have hdr := Kd.C_drop (m := 5) (hn ▸ hC) (by omega) (hn ▸ hc)
    have hA3 : (if c = 5 then A else A.map (fun x => x.add (5 * 1))) = (if c = 5 then A else A.map (fun x => x.add (5 * (Kd.int .u8).sz))) := rfl
    rw [← hA3] at hdr
    rw [show n - 5 = (l.drop 5).length by rw [List.length_drop, hn]] at hcf
    have hdc : (l.drop 5).length ≤ c - 5 := by rw [List.length_drop]; omega
    have hdb : Byt (l.drop 5) := ⟨by have := hl.len; rw [List.length_drop]; omega, fun x hx => hl.byte x (List.mem_of_mem_drop hx)⟩
    generalize (if c = 5 then A else A.map (fun x => x.add (5 * 1))) = A2 at *
    generalize c - 5 = c2 at *
    obtain ⟨l2, hl2e⟩ : ∃ l2, l2 = l.drop 5 := ⟨_, rfl⟩
    rw [← hl2e] at hcf hdr hdc hdb hr
    have HDr := Lib.hid hdr
    have HDc := Lib.hid hdc
    have HDb := Lib.hid hdb
    have HDl : Hid (l2.length ≤ 999994) := Lib.hid (by rw [hl2e, List.length_drop]; omega)
    rw [show ((5 : Nat) : Int) = 5 from rfl] at hcut
    generalize strOfNums (l.take 5) = s at *
    have g1 : (if (5 : Int) < (n : Int) then (5 : Int) else (n : Int)) = 5 := by split <;> omega
    clear hC1 hcut1 hmg hC hc hl hl2 hA3 hdr hdc hdb hl2e
    by_cases hm : l.take 5 = magicL.take 5
    · rw [decide_eq_true hm] at hs
      rw [if_neg (by simpa using hm), if_neg (by omega)] at hr
      have HR := Lib.hid hr
      clear hm hr hn
      go_enter Try.func14, Try.ntmps14
      go_wp2_with fail
      go_quiet (fail)
      go_wp2_with fail
      refine at_world (fun V => Blk V w.heap.size #[.slice none 0 0, .slice none 0 0, .int .i64 0] 25 ∧ Blk V (w.heap.size + 1) #[.slice A2 l2.length c2, .int .i64 0] 62 ∧ Hid (Below w.heap.size w V))
        ⟨((Blk.new w _ _).drewN _).alloc _, Blk.new' (by simp) _ _, Lib.hid (below_alloc (pw_below_drewN (below_alloc (Below.refl _ _) _) _) _)⟩ ?_
      clear hcv hcut hcf hs g1
      rintro V ⟨hres, hrb, hbe⟩
      refine (image_r w V (w.heap.size + 1) l2 0 _ rfl hbe.out (by omega) ⟨A2, c2, hrb, HDr.out, HDc.out⟩ HDb.out).mono ?_
      have HSz := Lib.hid (image_len l2 HDb.out)
      obtain ⟨q, hq⟩ : ∃ q, q = imageR l2 0 := ⟨_, rfl⟩
      rw [← hq] at HR HSz ⊢
      clear hq
      obtain ⟨⟨gs, cs, m⟩, l3, e3⟩ := q
      simp only at HR HSz
      rintro e1 W1 ⟨vg, vc, rfl, hg, hcd, hrd, hch⟩
      have hVs : w.heap.size + 1 < V.heap.size := hrb.lt
      have hb1 : Below w.heap.size w W1 := hbe.out.trans (hch.below hbe.out.size (fun q h => by omega))
      have hres1 := hch.blk hres (by omega)
      obtain ⟨Ag, cg, rfl⟩ := row_slice hg
      obtain ⟨Ac, cc, rfl⟩ := row_slice hcd
      simp only at hg hcd
      have HG := Lib.hid (RW.chg hg (Chg.of_below (below_alloc (Below.refl W1.heap.size W1) (.cells #[.slice Ag gs.length cg, .slice Ac cs.length cc, .int .i64 m] 25)) (fun _ => False)) (fun k h _ => h.elim))
      have HCd := Lib.hid (RW.chg hcd (Chg.of_below (below_alloc (Below.refl W1.heap.size W1) (.cells #[.slice Ag gs.length cg, .slice Ac cs.length cc, .int .i64 m] 25)) (fun _ => False)) (fun k h _ => h.elim))
      have HX := Lib.hid (Blk.new W1 #[.slice Ag gs.length cg, .slice Ac cs.length cc, .int .i64 m] 25)
      have HRes := Lib.hid (hres1.alloc (.cells #[.slice Ag gs.length cg, .slice Ac cs.length cc, .int .i64 m] 25))
      have HB1 := Lib.hid (below_alloc hb1 (.cells #[.slice Ag gs.length cg, .slice Ac cs.length cc, .int .i64 m] 25))
      obtain ⟨A3, c3, hbk, hC3, hc3⟩ := hrd
      have b0 := fun o => cell_al hbk.cells2.1.1 o
      have b1 := fun o => cell_al hbk.cells2.1.2 o
      have r0 := fun o => cell_al hres1.cells3.1.1 o
      have r1 := fun o => cell_al hres1.cells3.1.2.1 o
      have r2 := fun o => cell_al hres1.cells3.1.2.2 o
      have f0 := fun o => (hres1.alloc o).frozen 0
      have f1 := fun o => (hres1.alloc o).frozen 1
      have f2 := fun o => (hres1.alloc o).frozen 2
      clear hg hcd hch hb1 hbe hres hrb hbk hC3 hc3 hres1
      by_cases he : e3 = 0
      · subst he
        rw [if_neg (by simp)] at HR
        by_cases hz : l3.length > 0
        · rw [if_pos hz] at HR
          have hz1 : decide (0 < l3.length) = true := decide_eq_true hz
          have hz2 : decide (0 < (l3.length : Int)) = true := decide_eq_true (by omega)
          obtain rfl := HR.out
          clear hz
          go_wp2_with fail
          have hrs : Blk ((((W1.alloc (.cells #[.slice Ag gs.length cg, .slice Ac cs.length cc, .int .i64 m] 25)).setCell ⟨w.heap.size, 0, none⟩ (.slice none 0 0)).setCell ⟨w.heap.size, 1, none⟩ (.slice none 0 0)).setCell ⟨w.heap.size, 2, none⟩ (.int .i64 0)) w.heap.size #[(.slice none 0 0), (.slice none 0 0), (.int .i64 0)] 25 := (((HRes.out.set 0 _).set 1 _).set 2 _)
          have hbl : Below w.heap.size w ((((W1.alloc (.cells #[.slice Ag gs.length cg, .slice Ac cs.length cc, .int .i64 m] 25)).setCell ⟨w.heap.size, 0, none⟩ (.slice none 0 0)).setCell ⟨w.heap.size, 1, none⟩ (.slice none 0 0)).setCell ⟨w.heap.size, 2, none⟩ (.int .i64 0)) := (((HB1.out.setCell (p := ⟨w.heap.size, 0, none⟩) (Nat.le_refl _) (.slice none 0 0)).setCell (p := ⟨w.heap.size, 1, none⟩) (Nat.le_refl _) (.slice none 0 0)).setCell (p := ⟨w.heap.size, 2, none⟩) (Nat.le_refl _) (.int .i64 0))
          obtain ⟨⟨z0, z1, z2⟩, -⟩ := hrs.cells3
          generalize ((((W1.alloc (.cells #[.slice Ag gs.length cg, .slice Ac cs.length cc, .int .i64 m] 25)).setCell ⟨w.heap.size, 0, none⟩ (.slice none 0 0)).setCell ⟨w.heap.size, 1, none⟩ (.slice none 0 0)).setCell ⟨w.heap.size, 2, none⟩ (.int .i64 0)) = X at *
          refine bodyPost_ret (v := .tuple #[.agg #[(.slice none 0 0), (.slice none 0 0), (.int .i64 0)], .int .i64 10]) (by simp [results, Try.results14, go_sem, z0, z1, z2]) rfl ?_
          exact ⟨_, _, rfl, Kd.R_nil _ _ _ _ _, Kd.R_nil _ _ _ _ _, hbl⟩
        · rw [if_neg hz] at HR
          have hz1 : decide (0 < l3.length) = false := decide_eq_false hz
          have hz2 : decide (0 < (l3.length : Int)) = false := decide_eq_false (by omega)
          have hx := HX.out.cells3
          obtain ⟨⟨x0, x1, x2⟩, -⟩ := hx
          have hIn : Im.In ⟨Ag, cg, gs, Ac, cc, cs, m⟩ (W1.alloc (.cells #[.slice Ag gs.length cg, .slice Ac cs.length cc, .int .i64 m] 25)) := ⟨(Kd.R_reads' HG.out).2.2, (Kd.R_reads' HG.out).2.1, (Kd.R_reads' HCd.out).2.2, (Kd.R_reads' HCd.out).2.1⟩
          have HIm := Lib.hid (img_calls ⟨Ag, cg, gs, Ac, cc, cs, m⟩ _ hIn (by have := HSz.out.1; have := HDl.out; simp only; omega) (by have := HSz.out.2; have := HDl.out; simp only; omega))
          clear hz hIn
          simp only at HIm
          cases hb : imgB gs cs m with
          | false =>
            rw [hb] at HIm HR
            rw [if_pos rfl] at HR
            obtain rfl := HR.out
            clear hb
            go_wp2_with fail
            refine HIm.out.mono ?_
            rintro e9 W9 ⟨rfl, hb9⟩
            have hrs9 := HRes.out.below hb9
            have hbl9 := below_step HB1.out hb9
            obtain ⟨⟨s0, s1, s2⟩, t0, t1, t2⟩ := hrs9.cells3
            have HRs9 := Lib.hid hrs9
            have HBl9 := Lib.hid hbl9
            clear r0 r1 r2 f0 f1 f2 b0 b1 x0 x1 x2 hrs9 hbl9 hb9
            go_wp2_with fail
            have hrs : Blk (((W9.setCell ⟨w.heap.size, 0, none⟩ (.slice none 0 0)).setCell ⟨w.heap.size, 1, none⟩ (.slice none 0 0)).setCell ⟨w.heap.size, 2, none⟩ (.int .i64 0)) w.heap.size #[(.slice none 0 0), (.slice none 0 0), (.int .i64 0)] 25 := (((HRs9.out.set 0 _).set 1 _).set 2 _)
            have hbl : Below w.heap.size w (((W9.setCell ⟨w.heap.size, 0, none⟩ (.slice none 0 0)).setCell ⟨w.heap.size, 1, none⟩ (.slice none 0 0)).setCell ⟨w.heap.size, 2, none⟩ (.int .i64 0)) := (((HBl9.out.setCell (p := ⟨w.heap.size, 0, none⟩) (Nat.le_refl _) (.slice none 0 0)).setCell (p := ⟨w.heap.size, 1, none⟩) (Nat.le_refl _) (.slice none 0 0)).setCell (p := ⟨w.heap.size, 2, none⟩) (Nat.le_refl _) (.int .i64 0))
            obtain ⟨⟨z0, z1, z2⟩, -⟩ := hrs.cells3
            generalize (((W9.setCell ⟨w.heap.size, 0, none⟩ (.slice none 0 0)).setCell ⟨w.heap.size, 1, none⟩ (.slice none 0 0)).setCell ⟨w.heap.size, 2, none⟩ (.int .i64 0)) = X at *
            refine bodyPost_ret (v := .tuple #[.agg #[(.slice none 0 0), (.slice none 0 0), (.int .i64 0)], .int .i64 11]) (by simp [results, Try.results14, go_sem, z0, z1, z2]) rfl ?_
            exact ⟨_, _, rfl, Kd.R_nil _ _ _ _ _, Kd.R_nil _ _ _ _ _, hbl⟩
          | true =>
            rw [hb] at HIm HR
            rw [if_neg (by simp)] at HR
            obtain rfl := HR.out
            clear hb
            go_wp2_with fail
            refine HIm.out.mono ?_
            rintro e9 W9 ⟨rfl, hb9⟩
            have hrs9 := HRes.out.below hb9
            have hbl9 := below_step HB1.out hb9
            have hx9 := HX.out.below hb9
            have hg9 := Kd.R_below HG.out hb9
            have hc9 := Kd.R_below HCd.out hb9
            obtain ⟨⟨s0, s1, s2⟩, t0, t1, t2⟩ := hrs9.cells3
            obtain ⟨⟨x0, x1, x2⟩, -⟩ := hx9.cells3
            have HRs9 := Lib.hid hrs9
            have HBl9 := Lib.hid hbl9
            have HG9 := Lib.hid hg9
            have HC9 := Lib.hid hc9
            have hWs := hb9.size
            clear r0 r1 r2 f0 f1 f2 b0 b1 hrs9 hbl9 hb9 hx9 hg9 hc9
            go_wp2_with fail
            have hch : Chg (fun q => q = w.heap.size) W9 (((W9.setCell ⟨w.heap.size, 0, none⟩ (.slice Ag gs.length cg)).setCell ⟨w.heap.size, 1, none⟩ (.slice Ac cs.length cc)).setCell ⟨w.heap.size, 2, none⟩ (.int .i64 m)) := (((Chg.refl (fun q => q = w.heap.size) W9).set (p := ⟨w.heap.size, 0, none⟩) rfl _).set (p := ⟨w.heap.size, 1, none⟩) rfl _).set (p := ⟨w.heap.size, 2, none⟩) rfl _
            have hg10 := RW.chg HG9.out hch (fun k hk _ => .inl (by omega))
            have hc10 := RW.chg HC9.out hch (fun k hk _ => .inl (by omega))
            clear hch
            have hrs : Blk (((W9.setCell ⟨w.heap.size, 0, none⟩ (.slice Ag gs.length cg)).setCell ⟨w.heap.size, 1, none⟩ (.slice Ac cs.length cc)).setCell ⟨w.heap.size, 2, none⟩ (.int .i64 m)) w.heap.size #[(.slice Ag gs.length cg), (.slice Ac cs.length cc), (.int .i64 m)] 25 := (((HRs9.out.set 0 _).set 1 _).set 2 _)
            have hbl : Below w.heap.size w (((W9.setCell ⟨w.heap.size, 0, none⟩ (.slice Ag gs.length cg)).setCell ⟨w.heap.size, 1, none⟩ (.slice Ac cs.length cc)).setCell ⟨w.heap.size, 2, none⟩ (.int .i64 m)) := (((HBl9.out.setCell (p := ⟨w.heap.size, 0, none⟩) (Nat.le_refl _) (.slice Ag gs.length cg)).setCell (p := ⟨w.heap.size, 1, none⟩) (Nat.le_refl _) (.slice Ac cs.length cc)).setCell (p := ⟨w.heap.size, 2, none⟩) (Nat.le_refl _) (.int .i64 m))
            obtain ⟨⟨z0, z1, z2⟩, -⟩ := hrs.cells3
            generalize (((W9.setCell ⟨w.heap.size, 0, none⟩ (.slice Ag gs.length cg)).setCell ⟨w.heap.size, 1, none⟩ (.slice Ac cs.length cc)).setCell ⟨w.heap.size, 2, none⟩ (.int .i64 m)) = X at *
            refine bodyPost_ret (v := .tuple #[.agg #[(.slice Ag gs.length cg), (.slice Ac cs.length cc), (.int .i64 m)], .int .i64 0]) (by simp [results, Try.results14, go_sem, z0, z1, z2]) rfl ?_
            exact ⟨_, _, rfl, Kd.R_lower hg10 (by omega), Kd.R_lower hc10 (by omega), hbl⟩
      · rw [if_pos he] at HR
        have he1 : (e3 != 0) = true := by simp [he]
        obtain rfl := HR.out
        go_wp2_with fail
        go_region
        all_goals
          go_wp2
          have hrs : Blk ((((W1.alloc (.cells #[.slice Ag gs.length cg, .slice Ac cs.length cc, .int .i64 m] 25)).setCell ⟨w.heap.size, 0, none⟩ (.slice none 0 0)).setCell ⟨w.heap.size, 1, none⟩ (.slice none 0 0)).setCell ⟨w.heap.size, 2, none⟩ (.int .i64 0)).drew w.heap.size #[(.slice none 0 0), (.slice none 0 0), (.int .i64 0)] 25 := (((HRes.out.set 0 _).set 1 _).set 2 _).drew
          have hbl : Below w.heap.size w ((((W1.alloc (.cells #[.slice Ag gs.length cg, .slice Ac cs.length cc, .int .i64 m] 25)).setCell ⟨w.heap.size, 0, none⟩ (.slice none 0 0)).setCell ⟨w.heap.size, 1, none⟩ (.slice none 0 0)).setCell ⟨w.heap.size, 2, none⟩ (.int .i64 0)).drew := below_drew (((HB1.out.setCell (p := ⟨w.heap.size, 0, none⟩) (Nat.le_refl _) (.slice none 0 0)).setCell (p := ⟨w.heap.size, 1, none⟩) (Nat.le_refl _) (.slice none 0 0)).setCell (p := ⟨w.heap.size, 2, none⟩) (Nat.le_refl _) (.int .i64 0))
          obtain ⟨⟨z0, z1, z2⟩, -⟩ := hrs.cells3
          generalize ((((W1.alloc (.cells #[.slice Ag gs.length cg, .slice Ac cs.length cc, .int .i64 m] 25)).setCell ⟨w.heap.size, 0, none⟩ (.slice none 0 0)).setCell ⟨w.heap.size, 1, none⟩ (.slice none 0 0)).setCell ⟨w.heap.size, 2, none⟩ (.int .i64 0)).drew = X at *
          refine bodyPost_ret (v := .tuple #[.agg #[(.slice none 0 0), (.slice none 0 0), (.int .i64 0)], .int .i64 e3]) (by simp [results, Try.results14, go_sem, z0, z1, z2]) rfl ?_
          exact ⟨_, _, rfl, Kd.R_nil _ _ _ _ _, Kd.R_nil _ _ _ _ _, hbl⟩
    · rw [decide_eq_false hm] at hs
      rw [if_pos (by simpa using hm)] at hr
      subst hr
      clear hm hn
      go_enter Try.func14, Try.ntmps14
      go_wp2_with fail
      go_quiet (fail)
      go_wp2_with fail
      have hrs : Blk (((((w.alloc (.cells #[.slice none 0 0, .slice none 0 0, .int .i64 0] 25)).drewN nq).setCell ⟨w.heap.size, 0, none⟩ (.slice none 0 0)).setCell ⟨w.heap.size, 1, none⟩ (.slice none 0 0)).setCell ⟨w.heap.size, 2, none⟩ (.int .i64 0)) w.heap.size #[(.slice none 0 0), (.slice none 0 0), (.int .i64 0)] 25 := (((((Blk.new w #[.slice none 0 0, .slice none 0 0, .int .i64 0] 25).drewN nq).set 0 _).set 1 _).set 2 _)
      have hbl : Below w.heap.size w (((((w.alloc (.cells #[.slice none 0 0, .slice none 0 0, .int .i64 0] 25)).drewN nq).setCell ⟨w.heap.size, 0, none⟩ (.slice none 0 0)).setCell ⟨w.heap.size, 1, none⟩ (.slice none 0 0)).setCell ⟨w.heap.size, 2, none⟩ (.int .i64 0)) := ((((pw_below_drewN (below_alloc (Below.refl w.heap.size w) (.cells #[.slice none 0 0, .slice none 0 0, .int .i64 0] 25)) nq).setCell (p := ⟨w.heap.size, 0, none⟩) (Nat.le_refl _) (.slice none 0 0)).setCell (p := ⟨w.heap.size, 1, none⟩) (Nat.le_refl _) (.slice none 0 0)).setCell (p := ⟨w.heap.size, 2, none⟩) (Nat.le_refl _) (.int .i64 0))
      obtain ⟨⟨z0, z1, z2⟩, -⟩ := hrs.cells3
      generalize (((((w.alloc (.cells #[.slice none 0 0, .slice none 0 0, .int .i64 0] 25)).drewN nq).setCell ⟨w.heap.size, 0, none⟩ (.slice none 0 0)).setCell ⟨w.heap.size, 1, none⟩ (.slice none 0 0)).setCell ⟨w.heap.size, 2, none⟩ (.int .i64 0)) = X at *
      refine bodyPost_ret (v := .tuple #[.agg #[(.slice none 0 0), (.slice none 0 0), (.int .i64 0)], .int .i64 10]) (by simp [results, Try.results14, go_sem, z0, z1, z2]) rfl ?_
      exact ⟨_, _, rfl, Kd.R_nil _ _ _ _ _, Kd.R_nil _ _ _ _ _, hbl⟩
  · have hs := hmg n (by omega) (by omega)
    have hcut := hcut1 n (Nat.le_refl _)
    have hcv := fun k => hC1 n ((w.alloc (.cells #[.slice none 0 0, .slice none 0 0, .int .i64 0] 25)).drewN k) (Nat.le_refl _) (pw_below_drewN (below_alloc (Below.refl _ _) _) k)
    rw [show min n 5 = n by omega] at hr
    have ht : l.take 5 = l.take n := by rw [List.take_of_length_le (by omega), List.take_of_length_le (by omega)]
    rw [ht] at hr
    generalize strOfNums (l.take n) = s at *
    have g1 : decide ((5 : Int) < (n : Int)) = false := decide_eq_false (by omega)
    have g2 : decide ((n : Int) < 5) = true := decide_eq_true (by omega)
    have g3 : decide (n < 5) = true := decide_eq_true (by omega)
    have g4 : (if (5 : Int) < (n : Int) then (5 : Int) else (n : Int)) = (n : Int) := by split <;> omega
    have g5 : (n ≤ 5) = True := eq_true (by omega)
    have g6 : (0 ≤ (n : Int)) = True := eq_true (by omega)
    clear hC1 hcut1 hmg hC hc hl hl2 ht
    by_cases hm : l.take n = magicL.take n
    · rw [decide_eq_true hm] at hs
      rw [if_neg (by simpa using hm), if_pos (by omega)] at hr
      subst hr
      clear hm hn
      go_enter Try.func14, Try.ntmps14
      go_wp2_with fail
      go_quiet (fail)
      go_wp2_with fail
      have hrs : Blk (((((w.alloc (.cells #[.slice none 0 0, .slice none 0 0, .int .i64 0] 25)).drewN nq).setCell ⟨w.heap.size, 0, none⟩ (.slice none 0 0)).setCell ⟨w.heap.size, 1, none⟩ (.slice none 0 0)).setCell ⟨w.heap.size, 2, none⟩ (.int .i64 0)) w.heap.size #[(.slice none 0 0), (.slice none 0 0), (.int .i64 0)] 25 := (((((Blk.new w #[.slice none 0 0, .slice none 0 0, .int .i64 0] 25).drewN nq).set 0 _).set 1 _).set 2 _)
      have hbl : Below w.heap.size w (((((w.alloc (.cells #[.slice none 0 0, .slice none 0 0, .int .i64 0] 25)).drewN nq).setCell ⟨w.heap.size, 0, none⟩ (.slice none 0 0)).setCell ⟨w.heap.size, 1, none⟩ (.slice none 0 0)).setCell ⟨w.heap.size, 2, none⟩ (.int .i64 0)) := ((((pw_below_drewN (below_alloc (Below.refl w.heap.size w) (.cells #[.slice none 0 0, .slice none 0 0, .int .i64 0] 25)) nq).setCell (p := ⟨w.heap.size, 0, none⟩) (Nat.le_refl _) (.slice none 0 0)).setCell (p := ⟨w.heap.size, 1, none⟩) (Nat.le_refl _) (.slice none 0 0)).setCell (p := ⟨w.heap.size, 2, none⟩) (Nat.le_refl _) (.int .i64 0))
      obtain ⟨⟨z0, z1, z2⟩, -⟩ := hrs.cells3
      generalize (((((w.alloc (.cells #[.slice none 0 0, .slice none 0 0, .int .i64 0] 25)).drewN nq).setCell ⟨w.heap.size, 0, none⟩ (.slice none 0 0)).setCell ⟨w.heap.size, 1, none⟩ (.slice none 0 0)).setCell ⟨w.heap.size, 2, none⟩ (.int .i64 0)) = X at *
      refine bodyPost_ret (v := .tuple #[.agg #[(.slice none 0 0), (.slice none 0 0), (.int .i64 0)], .int .i64 17]) (by simp [results, Try.results14, go_sem, z0, z1, z2]) rfl ?_
      exact ⟨_, _, rfl, Kd.R_nil _ _ _ _ _, Kd.R_nil _ _ _ _ _, hbl⟩
    · rw [decide_eq_false hm] at hs
      rw [if_pos (by simpa using hm)] at hr
      subst hr
      clear hm hn
      go_enter Try.func14, Try.ntmps14
      go_wp2_with fail
      go_quiet (fail)
      go_wp2_with fail
      have hrs : Blk (((((w.alloc (.cells #[.slice none 0 0, .slice none 0 0, .int .i64 0] 25)).drewN nq).setCell ⟨w.heap.size, 0, none⟩ (.slice none 0 0)).setCell ⟨w.heap.size, 1, none⟩ (.slice none 0 0)).setCell ⟨w.heap.size, 2, none⟩ (.int .i64 0)) w.heap.size #[(.slice none 0 0), (.slice none 0 0), (.int .i64 0)] 25 := (((((Blk.new w #[.slice none 0 0, .slice none 0 0, .int .i64 0] 25).drewN nq).set 0 _).set 1 _).set 2 _)
      have hbl : Below w.heap.size w (((((w.alloc (.cells #[.slice none 0 0, .slice none 0 0, .int .i64 0] 25)).drewN nq).setCell ⟨w.heap.size, 0, none⟩ (.slice none 0 0)).setCell ⟨w.heap.size, 1, none⟩ (.slice none 0 0)).setCell ⟨w.heap.size, 2, none⟩ (.int .i64 0)) := ((((pw_below_drewN (below_alloc (Below.refl w.heap.size w) (.cells #[.slice none 0 0, .slice none 0 0, .int .i64 0] 25)) nq).setCell (p := ⟨w.heap.size, 0, none⟩) (Nat.le_refl _) (.slice none 0 0)).setCell (p := ⟨w.heap.size, 1, none⟩) (Nat.le_refl _) (.slice none 0 0)).setCell (p := ⟨w.heap.size, 2, none⟩) (Nat.le_refl _) (.int .i64 0))
      obtain ⟨⟨z0, z1, z2⟩, -⟩ := hrs.cells3
      generalize (((((w.alloc (.cells #[.slice none 0 0, .slice none 0 0, .int .i64 0] 25)).drewN nq).setCell ⟨w.heap.size, 0, none⟩ (.slice none 0 0)).setCell ⟨w.heap.size, 1, none⟩ (.slice none 0 0)).setCell ⟨w.heap.size, 2, none⟩ (.int .i64 0)) = X at *
      refine bodyPost_ret (v := .tuple #[.agg #[(.slice none 0 0), (.slice none 0 0), (.int .i64 0)], .int .i64 10]) (by simp [results, Try.results14, go_sem, z0, z1, z2]) rfl ?_
      exact ⟨_, _, rfl, Kd.R_nil _ _ _ _ _, Kd.R_nil _ _ _ _ _, hbl⟩
end Go.Proofs.Ytoiakaagbgfocaa.PC
