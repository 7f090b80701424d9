/- Package trace: Alike: its contract, with slices.Collect. -/
import Derived.Test.YtlkppkmfpinocaaDoorTrRen
import Derived.Test.YtlkppkmfpinocaaDoorPTx5
namespace Go.Proofs.YtlkppkmfpinocaaDoor.PT
open Go.RowKit Go.Proofs.YtlkppkmfpinocaaDoorW.PrintWords Go.Proofs.YtlkppkmfpinocaaDoorW.PrintLast Go.Proofs.YtlkppkmfpinocaaDoorW.PrintMore
open Go.Proofs.YtlkppkmfpinocaaDoor.RG
set_option linter.unusedVariables false
set_option linter.unusedSimpArgs false
attribute [local go_sem] Oper.semAt_some

theorem ren_stops (n Bs n₀ : Nat) (l0 : List S26) (A0 : Option Addr) (c0 : Nat) (hi : i64s l0 = true) (hlen : l0.length ≤ 100000) (w : World) (hw : n₀ ≤ w.heap.size) (hBs : Bs < n₀) (hB : w.heap[Bs]? = some (.cells #[.slice A0 l0.length c0] 22 (0, 0))) (hr : ∀ W', Below n₀ w W' → Kd.C k26 W' A0 l0.length l0) :
    SeqT Fence.wide n Tryd.prog 56 #[.pointer (some ⟨Bs, 0, none⟩)] (fun x : S26 => #[Value.agg #[.int .i64 x.f0, .int .i64 x.f1]]) (KpR n₀) (fun _ => False) (fun _ _ => True) (fun ys => ys = renAll l0) (fun _ => True) (fun pre x => (renAll l0)[pre.length]? = some x) w := by
  intro l J Jx W hk hs hJ hJx _ hY h0
  refine (ren1_in n l Bs n₀ l0 A0 c0 hi hlen J Jx W (Nat.le_trans hw hs) hBs ((hk.1.block Bs hBs).trans hB) (hr W hk.1) (fun W' h => hr W' (hk.1.trans h)) (fun s A C row h hg hr => hJ s A C row h hg (fun r e => .inr (hr r e))) hY h0).mono ?_
  rintro e W' ⟨he, ⟨ys, hys, hj⟩ | ⟨pre, hj⟩⟩
  · exact ⟨he, .inl ⟨ys, hys, hj⟩⟩
  · exact ⟨he, .inr ⟨pre, trivial, hj⟩⟩
theorem ren_calls (v : Value) (hv : v.cells = #[v]) (A0 : Option Addr) (n c : Nat) (hvs : v = .slice A0 n c) (w : World) : Calls Tryd.prog 43 #[v] w fun e w' => e = .returned (.func (.func 56) #[] #[.pointer (some ⟨w.heap.size, 0, none⟩)]) ∧ w' = w.alloc (.cells #[v] 22) := by
  subst hvs
  clear hv
  go_enter Tryd.func43, Tryd.ntmps43
  go_wp2
  go_ret
  exact ⟨rfl, rfl⟩
theorem below_alloc' {n : Nat} {W : World} (h : n ≤ W.heap.size) (o : Obj) : Below n W (W.alloc o) := (Below.refl _ W).alloc h o
theorem keepsWalks_others {A C : World} (h : KeepsOthers A C) : KeepsWalks A C := h.walks
set_option maxRecDepth 100000 in
set_option maxHeartbeats 8000000 in
theorem appendSeq (g : Nat) (lb : Array Value) (xs : List S26) (hlen : xs.length ≤ 100000) (eg : ∀ args w, (callFunc g args).run Tryd.prog w = .ok (.enter g args) w) (w : World)
    (hseq : ∀ w0, Below w.heap.size w w0 → SeqT Fence.wide 4 Tryd.prog g lb (fun x : S26 => #[Value.agg #[.int .i64 x.f0, .int .i64 x.f1]]) (KpR w.heap.size) (fun _ => False) (fun _ _ => True) (fun ys => ys = xs) (fun _ => True) (fun pre x => xs[pre.length]? = some x) w0) :
    Calls Tryd.prog 55 #[.slice none 0 0, .func (.func g) #[] lb] w fun e w' => ∃ v0_ : Value, e = .returned v0_ ∧ Kd.R k26 26 w' w.heap.size (fun _ => True) v0_ xs ∧ Below w.heap.size w w' := by
  refine (callsIn_wide (n := 5)).1 ?_
  refine callsIn_of_wp_marks Tryd.func55 rfl trivial ?_ rfl
  simp only [Tryd.ntmps55, List.size_toArray, List.length_cons, List.length_nil, Nat.reduceAdd, Nat.reduceSub, Array.replicate_succ, Array.replicate_zero, List.push_toArray, List.append_toArray, List.nil_append, List.cons_append]
  have HLen := Lib.hid hlen
  clear hlen
  gi_wp2_with fail
  refine codeIn_at (fun W => Boxed W w.heap.size 22 (.slice none 0 0) ∧ Below w.heap.size w W ∧ Aside0 (W.heap.size = w.heap.size + 1)) ⟨Boxed.new _ _ _, below_alloc (Below.refl _ _) _, ⟨by simp⟩⟩ ?_
  rintro W1 ⟨B2, hb1, HZ⟩
  have hle : w.heap.size < W1.heap.size := by have := HZ.out; omega
  clear HZ
  refine range_out (F := Fence.wide) (n := 5) rfl (by decide) (gf := g) (lb := lb) rfl trivial eg
    (hseq W1 hb1) (fun r e => e.elim) (fun h k => KpR.trans h k)
    (fun W l o o' hl ho hc hw => ⟨(Below.refl _ W).grown (grownBy_putObj' W l o') (by have := (Array.getElem?_eq_some_iff.1 ho).1; omega) (fun k e => by cases e; omega), KeepsWalks.putObj o' ho hw⟩)
    (fun W o hl => ⟨(Below.refl _ W).alloc (by omega) o, KeepsWalks.alloc W o⟩)
    (KpR.refl _ _) (Nat.le_refl _) (fun _ => rfl)
    (fun pre W => (∃ v, Boxed W w.heap.size 22 v ∧ W.ownsRow (w.heap.size + 1) 26 2 v pre.length (flat26 pre)) ∧ Below w.heap.size w W ∧ W1.heap.size ≤ W.heap.size)
    (fun c pre W => False)
    ?hI ?hIx (fun _ _ _ => trivial) ?h0
    (fun x a' W => ∃ Bx, W1.heap.size ≤ Bx ∧ Blk W Bx #[.int .i64 x.f0, .int .i64 x.f1] 26 ∧ a' = { tmps := #[.slice none 0 0, .func (.func g) #[] lb, .pointer (some ⟨w.heap.size, 0, none⟩), undef, .slice none 0 0, .pointer (some ⟨Bx, 0, none⟩), .func (.func g) #[] lb, .agg #[.int .i64 x.f0, .int .i64 x.f1], undef, undef, undef, undef, undef], defers := [] })
    ?hAx ?assign ?body ?done ?stop
  case h0 => exact ⟨⟨_, B2, World.ownsRow_nil _ _ _ _⟩, hb1, Nat.le_refl _⟩
  case hI =>
    rintro pre A C row ⟨⟨v, hbx, hown⟩, hb, hsz⟩ hg hr
    refine ⟨⟨v, block_keptT hbx rfl hg id hr, hown.kept hg ?_⟩, OwnT.below (β := Unit) (T := fun _ => False) (Nat.le_of_lt hle) (Nat.le_refl _) (by intro r e; exact e.elim) () A C row hb hg hr, Nat.le_trans hsz hg.size⟩
    rcases hown.2 with ⟨rfl, _⟩ | ⟨g, cap, cur, rfl, hgb, hgg, _⟩
    · exact .inl rfl
    · refine .inr (fun e => ?_)
      rcases hr g e.symm with h | ⟨_, o, ho, hc⟩
      · exact h
      · rw [hgg] at ho
        cases ho
        cases hc
  case hIx => exact fun c pre A C row h _ _ => h
  case hAx =>
    rintro x a' u A C row ⟨Bx, h1, h2, h3⟩ hg hr
    exact ⟨Bx, h1, ⟨block_keptT h2.out rfl hg id hr⟩, h3⟩
  case assign =>
    intro l pre x W K hi hR hK
    obtain ⟨⟨v, hbx, hown⟩, hb, hsz⟩ := hi
    gi_wp2
    exact hK _ _ ((KeepsOthers.alloc _ _).from _) ⟨(Below.refl _ W).alloc hb.size _, KeepsWalks.alloc W _⟩ ⟨⟨v, hbx.alloc _, hown.alloc _⟩, hb.alloc hb.size _, by simp; omega⟩ ⟨W.heap.size, hsz, Blk.new _ _ _, rfl⟩
  case body =>
    rintro l pre x a' W hl hrec ⟨⟨v, hbx, hown⟩, hb, hsz⟩ ⟨Bx, hBx, bX, rfl⟩ hx
    have hpl : pre.length < 100000 := by
      have h1 := (List.getElem?_eq_some_iff.1 hx).1
      have := HLen.out
      omega
    obtain ⟨vA, vc, rfl⟩ := own_slice hown
    have c5 := bX.cells2.1.1
    have c6 := bX.cells2.1.2
    have c2 := hbx.cell
    have f2 := hbx.frozen
    have HX := Lib.hid hx
    have HW1 := Lib.hid hown
    have HP := Lib.hid hpl
    obtain ⟨i0, hi, hz0, hz1, hz2⟩ := info_parts info26'
    have HS : Stp w.heap.size w.heap.size W W := Stp.refl hb.size (by omega)
    clear hx hown hpl hrec
    gi_wp2_with (gi_at_builtin; refine wpListIn_append_own _ rfl _ _ 22 rfl (w.heap.size + 1) 26 i0 (.agg #[.int .i64 0, .int .i64 0]) 2 16 Tryd.underlying22 hi hz0 hz1 hz2 rfl (by decide) _ _ _ rfl (HW1.out.alloc _) ⟨W.heap.size, 0, none⟩ 1 1 [.int .i64 x.f0, .int .i64 x.f1] rfl rfl ?c1 ?c2 ?c3 ?c4 ?c5 ?_)
    case c1 =>
      have B9 := Blk.new W #[.int .i64 x.f0, .int .i64 x.f1] 26
      intro j u hu
      match j, hu with
      | 0, hu => exact (B9.cell 0).trans hu
      | 1, hu => exact (B9.cell 1).trans hu
      | j + 2, hu => simp at hu
    case c2 =>
      intro u hu
      simp at hu
      rcases hu with rfl | rfl <;> rfl
    case c3 => have := HP.out; unfold maxLen; omega
    case c4 => have := HP.out; omega
    case c5 => simp; omega
    intro v' w' hown' hgrow _
    obtain ⟨vA', vc', rfl⟩ := own_slice hown'
    have hbx1 := (hbx.alloc _).kept hgrow (Boxed.not_row hbx (by decide) HW1.out)
    have hko : KeepsOthers W w' := (KeepsOthers.alloc _ _).trans (KeepsOthers.of_grownBy hgrow (fun j o ej hj => by
      rcases (HW1.out.alloc _).2 with ⟨h0, _⟩ | ⟨g, cap, cur, h0, _, hgb, _⟩
      · rw [h0] at ej
        simp [Value.ownBlock] at ej
      · rw [h0] at ej
        have h1 : g = j := Option.some.inj ej
        subst h1
        rw [hgb] at hj
        cases hj
        rfl))
    have hbl : Below w.heap.size W w' := (below_alloc' hb.size _).grown hgrow (by simp; have := hb.size; omega) (fun k e => by have := (HW1.out.lt k e).1; omega)
    have HW2 := Lib.hid hown'
    have HKo := Lib.hid hko
    have HBl := Lib.hid (And.intro hbl (And.intro hb hsz))
    clear c2 f2 hbx hb HW1 hgrow hown' hko hbl c5 c6 bX
    have c5 := hbx1.cell
    have f5 := hbx1.frozen
    gi_wp2
    have hb := HBl.out.2.1
    have hst : Below w.heap.size W (w'.setCell ⟨w.heap.size, 0, none⟩ (.slice vA' (pre.length + 1) vc')) := HBl.out.1.setCell (p := ⟨w.heap.size, 0, none⟩) (Nat.le_refl _) _
    refine ⟨(HKo.out.trans (KeepsOthers.setCell _ _ _)).from _, ⟨hst, (HKo.out.trans (KeepsOthers.setCell _ _ _)).walks⟩, ⟨_, hbx1.set _, ?_⟩, hb.trans hst, Nat.le_trans HBl.out.2.2 (HKo.out.trans (KeepsOthers.setCell _ _ _)).size⟩
    rw [List.length_append, flat26_app]
    exact HW2.out.kept (grownBy_setCell' _ w.heap.size _) (own_ne HW2.out (by omega))
  case done =>
    rintro D ys W hD rfl ⟨⟨v, hbx, hown⟩, hb, hsz⟩ hK
    obtain ⟨vA, vc, rfl⟩ := own_slice hown
    have c5 := hbx.cell
    have HOwn := Lib.hid hown
    have HBl := Lib.hid hb
    have hDl := Lib.hid hD
    clear hown hb hD
    gi_wp2
    refine bodyPostM_ret (.slice vA ys.length vc) rfl hK ?_
    intro W' hW'
    have hD := hDl.out
    have hbl := HBl.out.trans ((Below.refl w.heap.size W).grown (grownBy_putObj' _ D (.deferred none)) HBl.out.size (fun k e => by cases e; omega))
    have how2 := ownsRow_putObj HOwn.out (.deferred none) hK rfl
    rw [← hW'] at hbl how2
    exact ⟨by simp [results, Tryd.results55, go_sem], _, rfl, R_of_owns (own_lower (by omega) how2), hbl⟩
  case stop =>
    rintro D c pre W _ _ h _
    exact h.elim
set_option maxHeartbeats 2000000 in
theorem collect (g : Nat) (lb : Array Value) (xs : List S26) (hlen : xs.length ≤ 100000) (eg : ∀ args w, (callFunc g args).run Tryd.prog w = .ok (.enter g args) w) (w : World)
    (hseq : ∀ w0, Below w.heap.size w w0 → SeqT Fence.wide 4 Tryd.prog g lb (fun x : S26 => #[Value.agg #[.int .i64 x.f0, .int .i64 x.f1]]) (KpR w.heap.size) (fun _ => False) (fun _ _ => True) (fun ys => ys = xs) (fun _ => True) (fun pre x => xs[pre.length]? = some x) w0) :
    Calls Tryd.prog 42 #[.func (.func g) #[] lb] w fun e w' => ∃ v0_ : Value, e = .returned v0_ ∧ Kd.R k26 26 w' w.heap.size (fun _ => True) v0_ xs ∧ Below w.heap.size w w' := by
  have HA := Lib.hid (appendSeq g lb xs hlen eg w hseq)
  clear hseq eg
  go_enter Tryd.func42, Tryd.ntmps42
  go_wp2_with fail
  refine HA.out.mono ?_
  rintro e w1 ⟨v, rfl, hv, hb⟩
  obtain ⟨A, c, rfl, _, _⟩ := Kd.R_reads hv
  have HV := Lib.hid hv
  have HB := Lib.hid hb
  clear hv hb
  go_wp2
  go_ret
  exact ⟨_, rfl, HV.out, HB.out⟩
def pr26 (e : S26) : Int × Int := (e.f0, e.f1)
theorem pr26_inj {a b : S26} (h : pr26 a = pr26 b) : a = b := by
  cases a
  cases b
  simp [pr26] at h
  simp [h]
/-- the same events -/
def eqL (a b : List S26) : Bool := decide (a.map pr26 = b.map pr26)
theorem eqL_iff (a b : List S26) : eqL a b = true ↔ a = b := by
  simp only [eqL, decide_eq_true_eq]
  constructor
  · intro h
    have h1 : a.length = b.length := by simpa using congrArg List.length h
    apply List.ext_getElem h1
    intro i h2 h3
    have h4 : (a.map pr26)[i]? = (b.map pr26)[i]? := by rw [h]
    rw [List.getElem?_map, List.getElem?_map, List.getElem?_eq_getElem h2, List.getElem?_eq_getElem h3] at h4
    exact pr26_inj (by simpa using h4)
  · intro h
    rw [h]
theorem equal_l0 (a b : List S26) (hab : a.length = b.length) (hl : a.length ≤ 1000000) : ∀ (n i : Nat), i + n = a.length → api_Event.l0 (n + 1) a b (a.length : Int) (i : Int) = some (eqL (a.drop i) (b.drop i))
  | 0, i, h => by
    unfold api_Event.l0
    rw [if_neg (by omega)]
    rw [List.drop_eq_nil_of_le (by omega), List.drop_eq_nil_of_le (by omega)]
    rfl
  | n + 1, i, h => by
    have wx : wrap64 ((i : Int) + 1) = ((i + 1 : Nat) : Int) := by unfold wrap64; omega
    unfold api_Event.l0
    rw [if_pos (by omega), if_pos (by omega), if_pos (by omega), if_pos (by omega), wx, equal_l0 a b hab hl n (i + 1) (by omega)]
    rw [drop_rd' a i (by omega), drop_rd' b i (by omega)]
    generalize rd_T26 a (i : Int) = x
    generalize rd_T26 b (i : Int) = y
    by_cases h0 : x.f0 = y.f0
    · by_cases h1 : x.f1 = y.f1
      · rw [if_neg (by simp [h0, h1])]
        simp [eqL, pr26, h0, h1]
      · rw [if_pos (by simp [h1])]
        simp [eqL, pr26, h1]
    · rw [if_pos (by simp [h0])]
      simp [eqL, pr26, h0]
theorem equal_f (a b : List S26) (hl : a.length ≤ 1000000) : api_Event.f (a.length + 1) a b = some (eqL a b) := by
  unfold api_Event.f
  by_cases h : a.length = b.length
  · rw [if_pos (by omega)]
    have := equal_l0 a b h hl a.length 0 (by omega)
    simpa using this
  · rw [if_neg (by omega)]
    congr 1
    symm
    rw [Bool.eq_false_iff]
    intro he
    rw [eqL_iff] at he
    exact h (by rw [he])
def trace_Alike.f (l m : List S26) : Option Bool := if (i64s l = true ∧ l.length ≤ 100000) ∧ i64s m = true ∧ m.length ≤ 100000 then some (eqL (renAll l) (renAll m)) else none
set_option maxHeartbeats 4000000 in
set_option maxRecDepth 100000 in
theorem trace_Alike.calls (A0 : Option Addr) (c0 : Nat) (l0 : List S26) (A1 : Option Addr) (c1 : Nat) (l1 : List S26) (r : Bool) (w : World) (hr0 : Kd.C k26 w A0 l0.length l0) (hc0 : l0.length ≤ c0) (hr1 : Kd.C k26 w A1 l1.length l1) (hc1 : l1.length ≤ c1) (h : trace_Alike.f l0 l1 = some r) :
    Calls Tryd.prog 25 #[.slice A0 l0.length c0, .slice A1 l1.length c1] w fun e w' => e = .returned (.bool r) ∧ Below w.heap.size w w' := by
  obtain ⟨⟨⟨hi0, hl0⟩, hi1, hl1⟩, rfl⟩ := of_guard h
  have hn0 : (renAll l0).length = l0.length := renGo_len _ _ _
  have hn1 : (renAll l1).length = l1.length := renGo_len _ _ _
  have HC := Lib.hid (And.intro hr0 hr1)
  have eg : ∀ args w, (callFunc 56 args).run Tryd.prog w = .ok (.enter 56 args) w := enters_of Tryd.func56 (by kernel_rfl) rfl
  have HE := Lib.hid eg
  have HL := Lib.hid (And.intro hi0 (And.intro hl0 (And.intro hi1 hl1)))
  have HN := Lib.hid (And.intro hn0 hn1)
  clear h hr0 hr1 eg hi0 hl0 hi1 hl1 hn0 hn1
  go_enter Tryd.func25, Tryd.ntmps25
  go_wp2_with fail
  refine (ren_calls _ rfl A0 _ _ rfl w).mono ?_
  rintro e w1 ⟨rfl, rfl⟩
  go_wp2_with fail
  obtain ⟨W1, hW1⟩ : ∃ W1, w.alloc (.cells #[.slice A0 l0.length c0] 22) = W1 := ⟨_, rfl⟩
  have B1 : Blk W1 w.heap.size #[.slice A0 l0.length c0] 22 := by rw [← hW1]; exact Blk.new _ _ _
  have hb1 : Below w.heap.size w W1 := by rw [← hW1]; exact below_alloc (Below.refl _ _) _
  rw [hW1]
  clear hW1
  refine (collect 56 #[.pointer (some ⟨w.heap.size, 0, none⟩)] (renAll l0) (by have := HN.out.1; have := HL.out.2.1; omega) HE.out W1 (fun w0 hw0 => ren_stops 4 w.heap.size W1.heap.size l0 A0 c0 HL.out.1 HL.out.2.1 w0 hw0.size B1.lt ((hw0.block _ B1.lt).trans B1.out) (fun W' h => Kd.C_below HC.out.1 (below_step hb1 (hw0.trans h))))).mono ?_
  rintro e w2 ⟨v2, rfl, hv2, hb2⟩
  obtain ⟨A2, c2, rfl, hc2, hC2⟩ := Kd.R_reads hv2
  have hb12 : Below w.heap.size w w2 := below_step hb1 hb2
  have hN0 := HN.out.1
  have HV2 := Lib.hid (And.intro hc2 (And.intro hC2 hb12))
  clear hv2 hb2 hb1 B1 hN0 hc2 hC2 hb12
  go_wp2_with fail
  refine (ren_calls _ rfl A1 _ _ rfl w2).mono ?_
  rintro e w3 ⟨rfl, rfl⟩
  go_wp2_with fail
  obtain ⟨W3, hW3⟩ : ∃ W3, w2.alloc (.cells #[.slice A1 l1.length c1] 22) = W3 := ⟨_, rfl⟩
  have B3 : Blk W3 w2.heap.size #[.slice A1 l1.length c1] 22 := by rw [← hW3]; exact Blk.new _ _ _
  have hb3 : Below w.heap.size w W3 := by rw [← hW3]; exact below_alloc HV2.out.2.2 _
  have hb23 : Below w2.heap.size w2 W3 := by rw [← hW3]; exact below_alloc (Below.refl _ _) _
  rw [hW3]
  clear hW3
  refine (collect 56 #[.pointer (some ⟨w2.heap.size, 0, none⟩)] (renAll l1) (by have := HN.out.2; have := HL.out.2.2.2; omega) HE.out W3 (fun w0 hw0 => ren_stops 4 w2.heap.size W3.heap.size l1 A1 c1 HL.out.2.2.1 HL.out.2.2.2 w0 hw0.size B3.lt ((hw0.block _ B3.lt).trans B3.out) (fun W' h => Kd.C_below HC.out.2 (below_step hb3 (hw0.trans h))))).mono ?_
  rintro e w4 ⟨v4, rfl, hv4, hb4⟩
  obtain ⟨A4, c4, rfl, hc4, hC4⟩ := Kd.R_reads hv4
  have hb34 : Below w.heap.size w w4 := below_step hb3 hb4
  have hC2' := Kd.C_below (Kd.C_below HV2.out.2.1 hb23) hb4
  have HV4 := Lib.hid (And.intro hc4 (And.intro hC4 (And.intro hb34 (And.intro hC2' HV2.out.1))))
  clear hv4 hb4 hb3 B3 hb23 hc4 hC4 hb34 hC2' HV2
  go_wp2_with fail
  refine (api_Event.calls _ A2 c2 (renAll l0) A4 c4 (renAll l1) _ w4 HV4.out.2.2.2.1 HV4.out.2.2.2.2 HV4.out.2.1 HV4.out.1 (equal_f (renAll l0) (renAll l1) (by have := HN.out.1; have := HL.out.2.1; omega))).mono ?_
  rintro e w5 ⟨rfl, hd5⟩
  obtain ⟨n5, rfl⟩ := hd5
  go_wp2
  go_ret
  exact ⟨rfl, pw_below_drewN HV4.out.2.2.1 n5⟩
end Go.Proofs.YtlkppkmfpinocaaDoor.PT
