/- Package trace: read: its contract. -/
import Derived.Test.YtlkppkmfpinocaaDoorTrText
import Derived.Lib.IndexLaws
import Derived.Lib.ParseIntB
import Derived.Lib.SlicesS
import Derived.Deep.QuietTactic
import Derived.BigQuiet
namespace Go.Proofs.YtlkppkmfpinocaaDoor.PT
open Go.RowKit Go.Proofs.YtlkppkmfpinocaaDoorW.PrintWords Go.Proofs.YtlkppkmfpinocaaDoorW.PrintLast Go.Proofs.YtlkppkmfpinocaaDoorW.PrintMore
set_option linter.unusedVariables false
set_option linter.unusedSimpArgs false

theorem ba_len (s : ByteArray) : s.data.toList.length = s.size := Array.length_toList
/-- where the first such byte stands, if anywhere -/
def findB (c : UInt8) (l : List UInt8) : Option Nat := if 0 ≤ Lib.indexByte l c then some (Lib.indexByte l c).toNat else none
theorem findB_some {c : UInt8} {l : List UInt8} {m : Nat} (h : findB c l = some m) : Lib.indexByte l c = (m : Int) ∧ m < l.length ∧ l[m]? = some c ∧ ∀ k, k < m → l[k]? ≠ some c := by
  unfold findB at h
  split at h
  · rename_i h0
    have hm := Option.some.inj h
    have hi : Lib.indexByte l c = (m : Int) := by omega
    obtain ⟨h1, h2⟩ := Lib.indexByte_some hi
    exact ⟨hi, (List.getElem?_eq_some_iff.1 h1).1, h1, h2⟩
  · cases h
theorem findB_none {c : UInt8} {l : List UInt8} (h : findB c l = none) : Lib.indexByte l c = -1 ∧ ∀ k : Nat, l[k]? ≠ some c := by
  unfold findB at h
  split at h
  · cases h
  · rename_i h0
    have hi : Lib.indexByte l c = -1 := by have := Lib.indexByte_ge l c; omega
    exact ⟨hi, Lib.indexByte_none hi⟩
/-- what stands ahead of the first blank, and behind it -/
def cutA (s : ByteArray) : ByteArray := match findB 32 s.data.toList with | some m => s.extract 0 m | none => s
def cutB (s : ByteArray) : ByteArray := match findB 32 s.data.toList with | some m => s.extract (m + 1) s.size | none => wd0
theorem cut_inner (s : ByteArray) (hs : s.size ≤ 140737488355328) (w : World) : Calls Tryd.prog 63 #[.string s, .string ⟨#[32]⟩] w fun e w' => (∃ b : Bool, e = .returned (.tuple #[.string (cutA s), .string (cutB s), .bool b])) ∧ ∃ n, w' = w.drewN n := by
  have HI := fun W => Tryd.stringslite_Index_one s 32 W
  unfold cutA cutB
  cases hf : findB 32 s.data.toList with
  | none =>
    obtain ⟨h1, _⟩ := findB_none hf
    rw [h1] at HI
    have HI' := Lib.hid HI
    clear HI h1
    go_enter Tryd.func63, Tryd.ntmps63
    go_wp2_with fail
    refine (HI'.out _).mono ?_
    rintro e w1 ⟨rfl, rfl⟩
    go_wp2
    refine bodyPost_ret (v := .tuple #[.string s, .string wd0, .bool false]) (by simp [results, Tryd.results63, go_sem]) rfl ⟨⟨_, rfl⟩, 0, rfl⟩
  | some m =>
    obtain ⟨h1, h2, _⟩ := findB_some hf
    rw [h1] at HI
    have HI' := Lib.hid HI
    have hm : m < s.size := by rw [ba_len] at h2; exact h2
    have p1 : (0 ≤ (m : Int)) = True := eq_true (by omega)
    have p2 : ((m : Int) ≤ (s.size : Int)) = True := eq_true (by omega)
    have p3 : (m ≤ s.size) = True := eq_true (by omega)
    have p4 : (m + 1 ≤ s.size) = True := eq_true (by omega)
    have p5 : IntKind.i64.wrap ((m : Int) + 1) = ((m + 1 : Nat) : Int) := by rw [i64_w]; unfold wrap64; omega
    have p6 : (0 ≤ (m : Int) + 1) = True := eq_true (by omega)
    have p7 : ((m : Int) + 1 ≤ (s.size : Int)) = True := eq_true (by omega)
    clear HI h1 h2 hm hf
    go_enter Tryd.func63, Tryd.ntmps63
    go_wp2_with fail
    refine (HI'.out _).mono ?_
    rintro e w1 ⟨rfl, rfl⟩
    go_wp2_with fail
    go_quiet (fail)
    go_wp2
    refine bodyPost_ret (v := .tuple #[.string (s.extract 0 m), .string (s.extract (m + 1) s.size), .bool true]) (by simp [results, Tryd.results63, go_sem]) rfl ⟨⟨_, rfl⟩, ?_⟩
    exact ⟨_, rfl⟩
theorem cut_calls (s : ByteArray) (hs : s.size ≤ 140737488355328) (w : World) : Calls Tryd.prog 49 #[.string s, .string ⟨#[32]⟩] w fun e w' => (∃ b : Bool, e = .returned (.tuple #[.string (cutA s), .string (cutB s), .bool b])) ∧ ∃ n, w' = w.drewN n := by
  have HI := Lib.hid (fun W => cut_inner s hs W)
  go_enter Tryd.func49, Tryd.ntmps49
  go_wp2_with fail
  refine (HI.out _).mono ?_
  rintro e w1 ⟨⟨b, rfl⟩, n, rfl⟩
  go_wp2
  refine bodyPost_ret (v := .tuple #[.string (cutA s), .string (cutB s), .bool b]) (by simp [results, Tryd.results49, go_sem]) rfl ⟨⟨_, rfl⟩, n, rfl⟩
/-- what ParseInt makes of digits -/
def parseV (l : List UInt8) : Int :=
  match Lib.parseIntB 64 l with
  | .ok v => v
  | .range => Lib.intSat 64 l
  | _ => 0
theorem parse_any (s : ByteArray) (hs : s.size ≤ 140737488355328) (W : World) (hG : Globs W) :
    Calls Tryd.prog 51 #[.string s, .int .i64 10, .int .i64 64] W fun e w' => (∃ q : Value, e = .returned (.tuple #[.int .i64 (parseV s.data.toList), q])) ∧ Below W.heap.size W w' := by
  cases hp : Lib.parseIntB 64 s.data.toList with
  | ok v =>
    have hv : parseV s.data.toList = v := by simp [parseV, hp]
    rw [hv]
    refine (Tryd.strconv_ParseInt_10_at64_ok s (by omega) v hp W).mono fun e w' hh => ⟨⟨_, hh.1⟩, ?_⟩
    rcases hh.2 with h2 | ⟨t, h2⟩
    · rw [h2]
      exact Below.refl _ _
    · rw [h2]
      exact Lib.bytesWorld_below W 5 t
  | range =>
    obtain ⟨tp, p, hv⟩ := hG.rng
    have hv2 : parseV s.data.toList = Lib.intSat 64 s.data.toList := by simp [parseV, hp]
    rw [hv2]
    refine (Tryd.strconv_ParseInt_10_at64_range_var s (by omega) hp tp p W hv).mono fun e w' hh => ?_
    obtain ⟨N, he, _, _, hb⟩ := hh
    exact ⟨⟨_, he⟩, hb⟩
  | _ =>
    obtain ⟨tp, p, hv⟩ := hG.syn
    have hv2 : parseV s.data.toList = 0 := by simp [parseV, hp]
    rw [hv2]
    refine (Tryd.strconv_ParseInt_10_at64_syntax_var s (by omega) hp tp p W hv).mono fun e w' hh => ?_
    obtain ⟨N, he, _, _, hb⟩ := hh
    exact ⟨⟨_, he⟩, hb⟩
def wdsB : List ByteArray := [wd0, wd1, wd2, wd3, wd4, wd5, wd6, wd7]
def readK (s : ByteArray) : Int := Lib.idxOfS wdsB (cutA s)
def readN (s : ByteArray) : Int := parseV (cutB s).data.toList
/-- the event of a line, and whether it is one -/
def readF (s : ByteArray) : Int × Int × Bool := if evB (readK s) (readN s) = true ∧ lineF (readK s) (readN s) = s then (readK s, readN s, true) else (0, 0, false)
theorem wds_at : ∀ j, j < wdsB.length → wds[j]? = some (Value.string (wdsB.getD j ByteArray.empty))
  | 0, _ => rfl
  | 1, _ => rfl
  | 2, _ => rfl
  | 3, _ => rfl
  | 4, _ => rfl
  | 5, _ => rfl
  | 6, _ => rfl
  | 7, _ => rfl
  | j + 8, h => absurd h (by simp [wdsB])
theorem index_calls (s : ByteArray) (g : Nat) (W : World) (B : Blk W g wds 43) : Calls Tryd.prog 50 #[.slice (some ⟨g, 0, none⟩) 8 8, .string (cutA s)] W fun e w' => e = .returned (.int .i64 (readK s)) ∧ w' = W :=
  Tryd.slices_Index_string g 0 8 8 wdsB (cutA s) W (by decide) (by decide) (fun j hj => by rw [Nat.zero_add]; exact (B.cell j).trans (wds_at j hj))
set_option maxHeartbeats 4000000 in
set_option maxRecDepth 100000 in
theorem read_walk (s : ByteArray) (k n rk rn : Int) (rb : Bool) (hcb : (cutB s).size ≤ 140737488355328) (hs : s.size ≤ 140737488351232) (hn : i64B n = true) (hk : readK s = k) (hv : readN s = n)
    (hcase : (evB k n = true ∧ lineF k n = s ∧ rk = k ∧ rn = n ∧ rb = true) ∨ (evB k n = true ∧ ((lineF k n).toList == s.toList) = false ∧ rk = 0 ∧ rn = 0 ∧ rb = false) ∨ (evB k n = false ∧ rk = 0 ∧ rn = 0 ∧ rb = false)) (w : World) (hG : Globs w) :
    Calls Tryd.prog 34 #[.string s] w fun e w' => e = .returned (.tuple #[.agg #[.int .i64 rk, .int .i64 rn], .bool rb]) ∧ Below w.heap.size w w' := by
  have HG := Lib.hid hG
  have HC := Lib.hid (fun W => cut_calls s (by omega) W)
  have HP := Lib.hid (fun W hG => parse_any (cutB s) hcb W hG)
  change Hid (∀ W hG, Calls _ _ _ W fun e w' => (∃ q : Value, e = .returned (.tuple #[.int .i64 (readN s), q])) ∧ _) at HP
  rw [hv] at HP
  have HR := Lib.hid (fun W => trace_Right.calls 2 k n _ W (right_f _ _ hn 0))
  have HL := Lib.hid (fun W hG => trace_Line.calls k n _ W hG (trace_Line.get _ _ hn))
  have HX := Lib.hid (index_calls s)
  rw [hk] at HX
  have HCs := Lib.hid hcase
  clear hcb hs hn hG hk hv hcase
  go_enter Tryd.func34, Tryd.ntmps34
  go_wp2_with fail
  refine at_world (fun W => Blk W w.heap.size #[.int .i64 0, .int .i64 0] 26 ∧ Bel w.heap.size w W) ⟨Blk.new _ _ _, (Bel.refl w).alloc _⟩ ?_
  rintro W ⟨B2, HB⟩
  refine (HC.out W).mono ?_
  rintro e w1 ⟨⟨b, rfl⟩, n1, rfl⟩
  replace B2 := B2.drewN n1
  replace HB := HB.drewN n1
  clear HC
  go_wp2_with fail
  refine (words_calls _).mono ?_
  rintro e w2 ⟨rfl, hb2⟩
  replace B2 := B2.below hb2.out
  replace HB := HB.below hb2.out
  clear hb2
  go_wp2_with fail
  refine at_world (fun W => Blk W w2.heap.size wds 43 ∧ Blk W w.heap.size #[.int .i64 0, .int .i64 0] 26 ∧ Bel w.heap.size w W) ⟨Blk.new _ _ _, B2.alloc _, HB.alloc _⟩ ?_
  clear B2 HB
  rintro W3 ⟨B7, B2, HB⟩
  generalize w2.heap.size = g7 at *
  refine (HX.out g7 W3 B7).mono ?_
  rintro e w4 ⟨rfl, rfl⟩
  clear HX B7
  go_wp2_with fail
  refine (HP.out _ (HG.out.below HB.out)).mono ?_
  rintro e w5 ⟨⟨q, rfl⟩, hb5⟩
  replace B2 := B2.below hb5
  replace HB := HB.below hb5
  clear hb5 HP
  go_wp2_with fail
  refine at_world (fun W => Blk W w5.heap.size #[.int .i64 k, .int .i64 n] 26 ∧ Blk W w.heap.size #[.int .i64 0, .int .i64 0] 26 ∧ Bel w.heap.size w W ∧ Aside0 (w.heap.size < w5.heap.size)) ⟨Blk.new _ _ _, B2.alloc _, HB.alloc _, ⟨B2.lt⟩⟩ ?_
  clear B2 HB
  rintro W6 ⟨B11, B2, HB, HLT⟩
  generalize w5.heap.size = g11 at *
  refine (HR.out W6).mono ?_
  rintro e w7 ⟨rfl, hb7⟩
  replace B2 := B2.below hb7
  replace B11 := B11.below hb7
  replace HB := HB.below hb7
  clear hb7 HR
  obtain ⟨⟨c0, c1⟩, f0, f1⟩ := B11.cells2
  have hne : w.heap.size ≠ g11 := Nat.ne_of_lt HLT.out
  have hcase := HCs.out
  clear HCs
  have fin : ∀ W : World, Blk W w.heap.size #[.int .i64 rk, .int .i64 rn] 26 → Bel w.heap.size w W → ∀ a : Act, a.tmps[2]? = some (.pointer (some ⟨w.heap.size, 0, none⟩)) → a.tmps[3]? = some (.bool rb) → a.defers = [] → bodyPost Tryd.prog Tryd.f34 (fun e w' => e = .returned (.tuple #[.agg #[.int .i64 rk, .int .i64 rn], .bool rb]) ∧ Below w.heap.size w w') .ret a W := by
    intro W B HB' a h2 h3 hd
    obtain ⟨⟨e0, e1⟩, _⟩ := B.cells2
    exact bodyPost_ret (v := .tuple #[.agg #[.int .i64 rk, .int .i64 rn], .bool rb]) (by simp [results, Tryd.results34, go_sem, e0, e1, h2, h3]) hd ⟨rfl, HB'.out⟩
  rcases hcase with ⟨he, hl, rfl, rfl, rfl⟩ | ⟨he, hl, rfl, rfl, rfl⟩ | ⟨he, rfl, rfl, rfl⟩
  · rw [he]
    go_wp2_with fail
    refine (HL.out _ (HG.out.below HB.out)).mono ?_
    rintro e w8 ⟨rfl, hb8⟩
    replace B2 := B2.below hb8
    replace B11 := B11.below hb8
    replace HB := HB.below hb8
    clear hb8 HL c0 c1 f0 f1 he
    obtain ⟨⟨c0, c1⟩, f0, f1⟩ := B11.cells2
    obtain ⟨⟨d0, d1⟩, f2, f3⟩ := B2.cells2
    rw [hl]
    clear hl
    go_wp2
    exact fin _ ((B2.set 0 _).set 1 _) ((HB.set (p := ⟨w.heap.size, 0, none⟩) (Nat.le_refl _) _).set (p := ⟨w.heap.size, 1, none⟩) (Nat.le_refl _) _) _ rfl rfl rfl
  · rw [he]
    go_wp2_with fail
    refine (HL.out _ (HG.out.below HB.out)).mono ?_
    rintro e w8 ⟨rfl, hb8⟩
    replace B2 := B2.below hb8
    replace HB := HB.below hb8
    clear hb8 HL c0 c1 f0 f1 he B11
    obtain ⟨⟨d0, d1⟩, f2, f3⟩ := B2.cells2
    go_wp2
    exact fin _ ((B2.set 0 _).set 1 _) ((HB.set (p := ⟨w.heap.size, 0, none⟩) (Nat.le_refl _) _).set (p := ⟨w.heap.size, 1, none⟩) (Nat.le_refl _) _) _ rfl rfl rfl
  · rw [he]
    clear he
    obtain ⟨⟨d0, d1⟩, f2, f3⟩ := B2.cells2
    go_wp2
    exact fin _ ((B2.set 0 _).set 1 _) ((HB.set (p := ⟨w.heap.size, 0, none⟩) (Nat.le_refl _) _).set (p := ⟨w.heap.size, 1, none⟩) (Nat.le_refl _) _) _ rfl rfl rfl
theorem bytes_inj {a b : ByteArray} (h : a.toList = b.toList) : a = b := by
  rw [ByteArray.toList_eq, ByteArray.toList_eq] at h
  apply ByteArray.ext
  exact Array.toList_inj.1 h
theorem intSat_i64 (l : List UInt8) : i64B (Lib.intSat 64 l) = true := by
  unfold Lib.intSat
  split <;> decide
theorem parse_i64 {l : List UInt8} {v : Int} (h : Lib.parseIntB 64 l = .ok v) : i64B v = true := by
  cases l with
  | nil => cases h
  | cons c r =>
    unfold Lib.parseIntB at h
    simp only at h
    generalize Lib.parseUintB 64 _ = q at h
    cases q with
    | ok u =>
      simp only at h
      by_cases h1 : ¬ c.toNat = 45 ∧ 2 ^ (64 - 1) ≤ u
      · rw [if_pos h1] at h
        cases h
      · rw [if_neg h1] at h
        by_cases h2 : c.toNat = 45 ∧ 2 ^ (64 - 1) < u
        · rw [if_pos h2] at h
          cases h
        · rw [if_neg h2] at h
          have := Lib.NumEnd.ok.inj h
          subst this
          simp only [Nat.reduceSub, Nat.reducePow] at h1 h2
          simp only [i64B, Bool.and_eq_true, decide_eq_true_eq]
          by_cases h3 : c.toNat = 45
          · rw [if_pos h3]
            have : ¬ 9223372036854775808 < u := fun h => h2 ⟨h3, h⟩
            omega
          · rw [if_neg h3]
            have : ¬ 9223372036854775808 ≤ u := fun h => h1 ⟨h3, h⟩
            omega
    | range => cases h
    | _ => cases h
theorem readN_i64 (s : ByteArray) : i64B (readN s) = true := by
  unfold readN parseV
  split
  · rename_i h
    exact parse_i64 h
  · exact intSat_i64 _
  · decide
theorem read_calls (s : ByteArray) (hs : s.size ≤ 140737488351232) (w : World) (hG : Globs w) :
    Calls Tryd.prog 34 #[.string s] w fun e w' => e = .returned (.tuple #[.agg #[.int .i64 (readF s).1, .int .i64 (readF s).2.1], .bool (readF s).2.2]) ∧ Below w.heap.size w w' := by
  have hcb : (cutB s).size ≤ 140737488355328 := by
    unfold cutB
    split
    · rw [ByteArray.size_extract]
      omega
    · decide
  refine read_walk s (readK s) (readN s) _ _ _ hcb hs (readN_i64 s) rfl rfl ?_ w hG
  unfold readF
  by_cases he : evB (readK s) (readN s) = true
  · by_cases hl : lineF (readK s) (readN s) = s
    · rw [if_pos ⟨he, hl⟩]
      exact .inl ⟨he, hl, rfl, rfl, rfl⟩
    · rw [if_neg (fun h => hl h.2)]
      refine .inr (.inl ⟨he, ?_, rfl, rfl, rfl⟩)
      rw [beq_eq_false_iff_ne]
      exact fun h => hl (bytes_inj h)
  · rw [if_neg (fun h => he h.1)]
    exact .inr (.inr ⟨by simpa using he, rfl, rfl, rfl⟩)
end Go.Proofs.YtlkppkmfpinocaaDoor.PT
