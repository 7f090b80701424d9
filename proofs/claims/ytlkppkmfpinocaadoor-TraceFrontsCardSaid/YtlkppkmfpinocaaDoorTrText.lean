/- Package trace: Text: its contract, with the Builder's WriteString. -/
import Derived.Test.YtlkppkmfpinocaaDoorTrRefLine
import Derived.Lib.Builder
import Derived.Lib.AppendStr
import Derived.Lib.Walk
import Derived.Laws.Externs
import Derived.Laws.IdiomCopy
import Derived.LoopTactic
namespace Go.Proofs.YtlkppkmfpinocaaDoor.PT
open Go.RowKit Go.Proofs.YtlkppkmfpinocaaDoorW.PrintWords Go.Proofs.YtlkppkmfpinocaaDoorW.PrintLast Go.Proofs.YtlkppkmfpinocaaDoorW.PrintMore
set_option linter.unusedVariables false
set_option linter.unusedSimpArgs false

theorem size59 : (Tryd.prog.info? 59).map (·.size) = some 2 := by kernel_rfl
theorem lies59 : liesAt Tryd.prog Tryd.prog.depth 59 (2 / Tryd.prog.cellsOf 59) 0 59 1 = true := by kernel_rfl
set_option maxHeartbeats 1000000 in
set_option maxRecDepth 100000 in
theorem copyCheck_used (b : Nat) (w : World) (h0 : w.cell? ⟨b, 0, none⟩ = some (.pointer (some ⟨b, 0, none⟩))) :
    Calls Tryd.prog 53 #[.pointer (some ⟨b, 0, none⟩)] w fun e w' => e = .returned (.tuple #[]) ∧ w' = w := by
  obtain ⟨j, hj, _⟩ := Option.map_eq_some_iff.1 size59
  go_enter Tryd.func53, Tryd.ntmps53
  go_wp2
  rw [Lib.run_neq_ptr_same w _ Tryd.underlying56 hj]
  go_wp2
  go_end0
  exact ⟨rfl, rfl⟩
set_option maxHeartbeats 1000000 in
set_option maxRecDepth 100000 in
theorem copyCheck_fresh (b : Nat) (w : World) (h0 : w.cell? ⟨b, 0, none⟩ = some (.pointer none)) (hsh : w.shape? b = some (59, 2)) (hfz : w.frozen? ⟨b, 0, none⟩ = false) :
    Calls Tryd.prog 53 #[.pointer (some ⟨b, 0, none⟩)] w fun e w' => e = .returned (.tuple #[]) ∧ w' = w.setCell ⟨b, 0, none⟩ (.pointer (some ⟨b, 0, none⟩)) := by
  obtain ⟨j, hj, hjs⟩ := Option.map_eq_some_iff.1 size59
  go_enter Tryd.func53, Tryd.ntmps53
  go_wp2
  rw [Lib.run_to_unsafe w ⟨b, 0, none⟩ Tryd.underlying56 Tryd.underlying95 hj (by rw [hjs]; decide) hsh (Nat.zero_lt_succ 1)]
  simp only [Result.andThen]
  rw [Oper.upon_value]
  go_wp2
  rw [run_callFunc_extern Tryd.func66 (by kernel_rfl) (by kernel_rfl) (by kernel_rfl) (e := Extern.AbiNoEscape.same) (by kernel_rfl)]
  rw [Lib.run_noEscape]
  simp only [Result.andThen]
  rw [Oper.upon_value]
  go_wp2
  rw [Lib.run_from_unsafe w ⟨b, 0, none⟩ Tryd.underlying95 Tryd.underlying56 hj hsh lies59]
  simp only [Result.andThen]
  rw [Oper.upon_value]
  go_wp2
  go_end0
  exact ⟨rfl, rfl⟩
theorem copyCheck (B b : Nat) (bs : List Value) (w : World) (h : Lib.IsBuilder 59 5 B b bs w) :
    Calls Tryd.prog 53 #[.pointer (some ⟨b, 0, none⟩)] w fun e w' => e = .returned (.tuple #[]) ∧ (Lib.BuilderAt 59 5 B b (.pointer (some ⟨b, 0, none⟩)) bs w' ∧ Below B w w') := by
  rcases h with h | h
  · refine (copyCheck_fresh b w h.cell0 h.shape h.frozen0).mono ?_
    rintro e w' ⟨rfl, rfl⟩
    exact ⟨rfl, h.used _, (Below.refl B w).setCell (p := ⟨b, 0, none⟩) h.1 _⟩
  · refine (copyCheck_used b w h.cell0).mono ?_
    rintro e w' ⟨rfl, rfl⟩
    exact ⟨rfl, h, Below.refl B _⟩
theorem info5 : (Tryd.prog.info? 5).map (fun i => (i.zero, i.size, i.bytes)) = some (some (.int .u8 0), 1, 1) := by kernel_rfl
set_option maxHeartbeats 1000000 in
set_option maxRecDepth 100000 in
theorem writeString (B b : Nat) (bs : List Value) (s : ByteArray) (w : World) (h : Lib.IsBuilder 59 5 B b bs w) (hlen : bs.length + s.size ≤ 140737488355328) (hBw : B ≤ w.heap.size) :
    Calls Tryd.prog 36 #[.pointer (some ⟨b, 0, none⟩), .string s] w fun e w' => e = .returned (.tuple #[.int .i64 s.size, .nilIface]) ∧ Lib.IsBuilder 59 5 B b (bs ++ Lib.strCells s) w' ∧ Below B w w' := by
  obtain ⟨i0, hi, hz0, hz1, hz2⟩ := info_parts info5
  go_enter Tryd.func36, Tryd.ntmps36
  go_wp2_with (go_at_call 53; refine (copyCheck B b bs _ h).mono ?_)
  rintro e w1 ⟨rfl, h1, hb1⟩
  obtain ⟨hB, v, hbk, hown, hne⟩ := h1
  have c0 : w1.cell? ⟨b, 0, none⟩ = some (.pointer (some ⟨b, 0, none⟩)) := by rw [Lib.cell_of_heap hbk]; rfl
  have c1 : w1.cell? ⟨b, 1, none⟩ = some v := by rw [Lib.cell_of_heap hbk]; rfl
  go_wp2_with (at_builtin; refine Lib.wpList_append_own_string _ rfl _ _ 57 9 rfl B 5 i0 Tryd.underlying57 Tryd.underlying9 hi hz0 hz1 hz2 _ _ _ rfl hown s rfl ?c3 ?c4 ?c5 ?_)
  case c3 => unfold maxLen; omega
  case c4 => omega
  case c5 => have := hb1.size; omega
  intro v' w2 hown' hgrow _
  have hlt : b < w1.heap.size := (Array.getElem?_eq_some_iff.1 hbk).1
  have hb2 : w2.heap[b]? = some (.cells #[.pointer (some ⟨b, 0, none⟩), v] 59 (0, 0)) := by
    rw [hgrow.block b hlt (fun e => hne e.symm)]
    exact hbk
  have d0 : w2.cell? ⟨b, 0, none⟩ = some (.pointer (some ⟨b, 0, none⟩)) := by rw [Lib.cell_of_heap hb2]; rfl
  have d1 : w2.cell? ⟨b, 1, none⟩ = some v := by rw [Lib.cell_of_heap hb2]; rfl
  have f1 : w2.frozen? ⟨b, 1, none⟩ = false := Lib.frozen_of_heap hb2 1
  obtain ⟨ao, n', cap, rfl⟩ : ∃ ao n' cap, v' = .slice ao n' cap := by
    rcases hown'.2 with ⟨hv, _⟩ | ⟨g, cap, cur, hv, _⟩
    · exact ⟨_, _, _, hv⟩
    · exact ⟨_, _, _, hv⟩
  go_wp2
  go_ret2
  refine ⟨rfl, .inr ?_, ?_⟩
  · exact Lib.BuilderAt.put (T := 59) (e := 5) hB hb2 (bs' := bs ++ Lib.strCells s) (by simpa [Lib.strCells_length] using hown') (by decide)
  · exact (hb1.grown hgrow (by have := hb1.size; omega) (fun k hk => (hown.lt k hk).1)).setCell (p := ⟨b, 1, none⟩) hB _
theorem builder_below {B b : Nat} {bs : List Value} {W W' : World} (h : Lib.IsBuilder 59 5 B b bs W) (hb : Below W.heap.size W W') : Lib.IsBuilder 59 5 B b bs W' := by
  have one : ∀ {p : Value}, Lib.BuilderAt 59 5 B b p bs W → Lib.BuilderAt 59 5 B b p bs W' := by
    rintro p ⟨hB, v, hbk, hown, hne⟩
    have hlt : b < W.heap.size := (Array.getElem?_eq_some_iff.1 hbk).1
    refine ⟨hB, v, (hb.block b hlt).trans hbk, ?_, hne⟩
    rcases hown.2 with h0 | ⟨g, cap, cur, hv, hg, hgb, r⟩
    · exact ⟨hown.1, .inl h0⟩
    · exact ⟨hown.1, .inr ⟨g, cap, cur, hv, hg, (hb.block g (Array.getElem?_eq_some_iff.1 hgb).1).trans hgb, r⟩⟩
  rcases h with h | h
  · exact .inl (one h)
  · exact .inr (one h)
/-- events' lines -/
def textL : List S26 → List UInt8
  | [] => []
  | e :: l => (if evB e.f0 e.f1 then (lineF e.f0 e.f1).data.toList ++ [10] else []) ++ textL l
theorem textL_app : ∀ (l m : List S26), textL (l ++ m) = textL l ++ textL m
  | [], m => rfl
  | e :: l, m => by simp [textL, textL_app l m]
theorem take_snoc (l : List S26) (k : Nat) (h : k < l.length) : l.take (k + 1) = l.take k ++ [rd_T26 l (k : Int)] := by
  rw [List.take_succ_eq_append_getElem h]
  simp [rd_T26, List.getD, h]
def i64s (l : List S26) : Bool := l.all fun e => i64B e.f1
theorem i64s_rd {l : List S26} (h : i64s l = true) (k : Nat) (hk : k < l.length) : i64B (rd_T26 l (k : Int)).f1 = true := by
  have := List.all_eq_true.1 h (l[k]) (List.getElem_mem hk)
  simpa [rd_T26, List.getD, hk] using this
theorem wordK_size (k : Int) : (wordK k).size ≤ 5 := by
  unfold wordK
  repeat' split
  all_goals decide
theorem lineF_size (k n : Int) (h : i64B n = true) : (lineF k n).size ≤ 27 := by
  obtain ⟨h0, h1⟩ := i64B_of h
  have hw := wordK_size k
  have ht := itoaT_size n h0 h1
  have h1' : (⟨#[32]⟩ : ByteArray).size = 1 := rfl
  have h0' : wd0.size = 0 := rfl
  unfold lineF
  split
  · split
    · omega
    · rw [ByteArray.size_append, ByteArray.size_append]
      omega
  · omega
theorem textL_len : ∀ (l : List S26), i64s l = true → (textL l).length ≤ 28 * l.length
  | [], _ => by simp [textL]
  | e :: l, h => by
    have h1 : i64B e.f1 = true ∧ i64s l = true := by simpa [i64s] using h
    have := textL_len l h1.2
    have hs := lineF_size e.f0 e.f1 h1.1
    have hs' : (lineF e.f0 e.f1).data.toList.length = (lineF e.f0 e.f1).size := by
      generalize lineF e.f0 e.f1 = s
      exact Array.length_toList
    unfold textL
    rw [List.length_append, List.length_cons]
    split
    · rw [List.length_append, hs']
      simp
      omega
    · simp
      omega
theorem of_guard {α : Type} {p : Prop} [Decidable p] {a r : α} (h : (if p then some a else none) = some r) : p ∧ a = r := by
  by_cases hp : p
  · rw [if_pos hp] at h
    exact ⟨hp, Option.some.inj h⟩
  · rw [if_neg hp] at h
    cases h
def trace_Text.f (l : List S26) : Option ByteArray := if i64s l = true ∧ l.length ≤ 100000 then some ⟨(textL l).toArray⟩ else none
theorem trace_Line.get (k n : Int) (h : i64B n = true) : trace_Line.f k n = some (lineF k n) := by unfold trace_Line.f; rw [if_pos h]
set_option maxHeartbeats 4000000 in
set_option maxRecDepth 100000 in
theorem trace_Text.calls (A0 : Option Addr) (c0 : Nat) (l0 : List S26) (r : ByteArray) (w : World) (hr0 : Kd.C k26 w A0 l0.length l0) (hc0 : l0.length ≤ c0) (hG : Globs w) (h : trace_Text.f l0 = some r) :
    Calls Tryd.prog 16 #[.slice A0 l0.length c0] w fun e w' => e = .returned (.string r) ∧ Below w.heap.size w w' := by
  unfold trace_Text.f at h
  obtain ⟨hh, rfl⟩ := of_guard h
  have HI := Aside0.mk hh
  have HG := Lib.hid hG
  have HR := Aside0.mk hr0
  clear h hh hG hr0
  go_enter Tryd.func16, Tryd.ntmps16
  go_wp2_with fail
  go_loopg [8] l0.length (fun kq v8 w' => ∃ x : Nat, v8 = .int .i64 (x : Int) ∧ Aside0 (x + kq = l0.length) ∧ Aside0 (Lib.IsBuilder 59 5 w.heap.size w.heap.size (Lib.byteCells (textL (l0.take x))) w') ∧ Aside0 (Below w.heap.size w w'))
  case atStart => exact ⟨0, rfl, ⟨by omega⟩, ⟨Lib.fresh_isBuilder _ _ _⟩, ⟨below_alloc (Below.refl _ _) _⟩⟩
  case round =>
    obtain ⟨x, rfl, HX, HBu, HB⟩ := hrel
    cases gk with
    | zero =>
      have cx : decide (x < l0.length) = false := decide_eq_false (by have := HX.out; omega)
      have hx : l0.take x = l0 := List.take_of_length_le (by have := HX.out; omega)
      rw [hx] at HBu
      clear hx
      go_wp2_with fail
      refine (Tryd.Builder_String_any _ _ _ _ HBu.out HB.out.size).mono ?_
      rintro e w2 ⟨rfl, hb2⟩
      have HB2 := Lib.hid (HB.out.trans hb2)
      clear hb2
      go_wp2
      go_ret
      exact ⟨rfl, HB2.out⟩
    | succ k1 =>
      have hxl : x < l0.length := by have := HX.out; omega
      have cx : decide (x < l0.length) = true := decide_eq_true hxl
      have cx' : decide ((x : Int) < (l0.length : Int)) = true := decide_eq_true (by omega)
      have wx : IntKind.i64.wrap ((x : Int) + 1) = ((x + 1 : Nat) : Int) := by rw [i64_w]; unfold wrap64; have := HI.out.2; omega
      have hT := take_snoc l0 x hxl
      have hi := i64s_rd HI.out.1 x hxl
      obtain ⟨ad, ea, hx0, hx1⟩ := at_T26 (Kd.C_below HR.out HB.out) (x : Int) (by omega) (by omega)
      cases ea
      simp only [Int.toNat_natCast] at hx0 hx1
      generalize rd_T26 l0 (x : Int) = t at *
      have hrt := fun W => trace_Right.calls 2 t.f0 t.f1 _ W (right_f t.f0 t.f1 hi 0)
      have HLn := fun W hG => trace_Line.calls t.f0 t.f1 _ W hG (trace_Line.get t.f0 t.f1 hi)
      have hls := lineF_size t.f0 t.f1 hi
      have htl := textL_len (l0.take x) (by
        have h1 := HI.out.1
        unfold i64s at h1 ⊢
        rw [List.all_eq_true] at h1 ⊢
        exact fun e he => h1 e (List.mem_of_mem_take he))
      have hl100 := HI.out.2
      have htk : (l0.take x).length ≤ l0.length := by rw [List.length_take]; omega
      have HT := Lib.hid hT
      have HS := Lib.hid (And.intro hls (And.intro htl (And.intro hl100 htk)))
      have HRt := Lib.hid hrt
      have HLn' := Lib.hid HLn
      clear hT hrt HLn hls htl hl100 htk hi
      have p1 := eq_true hxl
      have p2 : (0 ≤ (x : Int)) = True := eq_true (by omega)
      have p3 : ((x : Int) < (l0.length : Int)) = True := eq_true (by omega)
      clear hxl
      by_cases he : evB t.f0 t.f1 = true
      · have HE := Lib.hid he
        rw [he] at HRt
        clear he
        go_wp2_with fail
        refine at_world (fun W => Blk W wr.heap.size #[.int .i64 t.f0, .int .i64 t.f1] 26 ∧ Aside0 (Lib.IsBuilder 59 5 w.heap.size w.heap.size (Lib.byteCells (textL (l0.take x))) W) ∧ Aside0 (Below w.heap.size w W)) ⟨Blk.new _ _ _, ⟨builder_below HBu.out (below_alloc (Below.refl _ _) _)⟩, ⟨below_alloc HB.out _⟩⟩ ?_
        clear HBu HB hx0 hx1
        rintro W ⟨B5, HBu, HB⟩
        generalize wr.heap.size = g5 at *
        refine (HRt.out W).mono ?_
        rintro e w1 ⟨rfl, hb1⟩
        replace B5 := B5.below hb1
        replace HBu := Aside0.mk (builder_below HBu.out hb1)
        replace HB := Aside0.mk (below_step HB.out hb1)
        clear hb1
        obtain ⟨⟨c0, c1⟩, f0, f1⟩ := B5.cells2
        go_wp2_with fail
        refine (HLn'.out _ (HG.out.below HB.out)).mono ?_
        rintro e w2 ⟨rfl, hb2⟩
        replace B5 := B5.below hb2
        replace HBu := Aside0.mk (builder_below HBu.out hb2)
        replace HB := Aside0.mk (below_step HB.out hb2)
        clear hb2
        have z1 : (9223372036854775807 < (lineF t.f0 t.f1).size + 1) = False := eq_false (by have := HS.out.1; omega)
        go_wp2_with fail
        refine (writeString w.heap.size _ _ _ _ HBu.out ?_ HB.out.size).mono ?_
        · have := HS.out
          have h1 : (⟨#[10]⟩ : ByteArray).size = 1 := rfl
          rw [Lib.byteCells_length, ByteArray.size_append, h1]
          omega
        rintro e w3 ⟨rfl, hbu3, hb3⟩
        have HBu3 := Aside0.mk hbu3
        have HB3 := Aside0.mk (HB.out.trans hb3)
        clear HBu HB hbu3 hb3 c0 c1 f0 f1
        go_wp2_with fail
        go_roundg k1
        case measure => omega
        case rel =>
          refine ⟨x + 1, by simp [wx], ⟨by have := HX.out; omega⟩, ⟨?_⟩, ⟨HB3.out⟩⟩
          have h1 : textL (l0.take (x + 1)) = textL (l0.take x) ++ (lineF t.f0 t.f1 ++ (⟨#[10]⟩ : ByteArray)).data.toList := by
            rw [HT.out, textL_app]
            simp [textL, HE.out]
          rw [h1, Lib.byteCells_append]
          exact HBu3.out
      · have he' : evB t.f0 t.f1 = false := by simpa using he
        have HE := Lib.hid he
        rw [he'] at HRt
        clear he he'
        go_wp2_with fail
        refine at_world (fun W => Aside0 (Lib.IsBuilder 59 5 w.heap.size w.heap.size (Lib.byteCells (textL (l0.take x))) W) ∧ Aside0 (Below w.heap.size w W)) ⟨⟨builder_below HBu.out (below_alloc (Below.refl _ _) _)⟩, ⟨below_alloc HB.out _⟩⟩ ?_
        clear HBu HB hx0 hx1
        rintro W ⟨HBu, HB⟩
        refine (HRt.out W).mono ?_
        rintro e w1 ⟨rfl, hb1⟩
        replace HBu := Aside0.mk (builder_below HBu.out hb1)
        replace HB := Aside0.mk (below_step HB.out hb1)
        clear hb1
        go_wp2_with fail
        go_roundg k1
        case measure => omega
        case rel =>
          refine ⟨x + 1, by simp [wx], ⟨by have := HX.out; omega⟩, ⟨?_⟩, ⟨HB.out⟩⟩
          have h1 : textL (l0.take (x + 1)) = textL (l0.take x) := by
            rw [HT.out, textL_app]
            simp [textL, HE.out]
          rw [h1]
          exact HBu.out
end Go.Proofs.YtlkppkmfpinocaaDoor.PT
