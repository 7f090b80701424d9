/- Package trace: Parse: its contract. -/
import Derived.Test.YtlkppkmfpinocaaDoorTrLines
import Derived.Maps.AppendAt
import Derived.RangeFuncBox
namespace Go.Proofs.YtlkppkmfpinocaaDoor.PT
open Go.RowKit Go.Proofs.YtlkppkmfpinocaaDoorW.PrintWords Go.Proofs.YtlkppkmfpinocaaDoorW.PrintLast Go.Proofs.YtlkppkmfpinocaaDoorW.PrintMore
open Go.Proofs.YtlkppkmfpinocaaDoor.RG
set_option linter.unusedVariables false
set_option linter.unusedSimpArgs false
attribute [local go_sem] Oper.semAt_some

/-- events' cells -/
def flat26 : List S26 → List Value
  | [] => []
  | e :: l => .int .i64 e.f0 :: .int .i64 e.f1 :: flat26 l
theorem flat26_app : ∀ (l m : List S26), flat26 (l ++ m) = flat26 l ++ flat26 m
  | [], m => rfl
  | e :: l, m => by simp [flat26, flat26_app l m]
theorem flat26_reps (W : World) (base : Nat) (ok : Nat → Prop) (l : List S26) : Reps (k26.M W base ok) 2 l (flat26 l) := by
  have key : ∀ (m l : List S26) (cs : List Value), Reps (k26.M W base ok) 2 l cs → Reps (k26.M W base ok) 2 (l ++ m) (cs ++ flat26 m) := by
    intro m
    induction m with
    | nil => intro l cs h; simpa [flat26] using h
    | cons e m ih =>
      intro l cs h
      have h1 := ih (l ++ [e]) (cs ++ [.int .i64 e.f0, .int .i64 e.f1]) (Reps.snoc h (k26_mkM _ _ _ e) rfl)
      simpa [flat26] using h1
  exact key l [] [] (Reps.none _ _)
theorem R_of_owns {W : World} {base : Nat} {v : Value} {l : List S26} (h : W.ownsRow base 26 2 v l.length (flat26 l)) : Kd.R k26 26 W base (fun _ => True) v l :=
  ⟨fun _ _ => trivial, flat26 l, h, flat26_reps _ _ _ _⟩
theorem keepsOthers_below {W W' : World} (h : Below W.heap.size W W') : KeepsOthers W W' :=
  ⟨h.size, fun k o hk _ => (h.block k (Array.getElem?_eq_some_iff.1 hk).1).trans hk⟩
/-- what a piece of a round may do: no block but cells turns, what lay below n₀ lies as it lay, and so does the iterator's box -/
structure Stp (n₀ Bs : Nat) (W W' : World) : Prop where
  sz : n₀ ≤ W.heap.size
  bs : Bs < W.heap.size
  o : KeepsOthers W W'
  k : KpL n₀ Bs W W'
namespace Stp
variable {n₀ Bs : Nat} {W A C : World}
theorem refl (h : n₀ ≤ W.heap.size) (hb : Bs < W.heap.size) : Stp n₀ Bs W W := ⟨h, hb, KeepsOthers.refl _, KpL.refl _ _ _⟩
theorem size (h : Stp n₀ Bs W A) : W.heap.size ≤ A.heap.size := h.o.size
theorem below (h : Stp n₀ Bs W A) (hb : Below A.heap.size A C) : Stp n₀ Bs W C :=
  ⟨h.sz, h.bs, h.o.trans (keepsOthers_below hb), h.k.trans ⟨hb.mono (Nat.le_trans h.sz h.size), fun o ho => (hb.block Bs (Array.getElem?_eq_some_iff.1 ho).1).trans ho⟩⟩
theorem alloc (h : Stp n₀ Bs W A) (o : Obj) : Stp n₀ Bs W (A.alloc o) := h.below (below_alloc (Below.refl _ _) o)
theorem drew (h : Stp n₀ Bs W A) : Stp n₀ Bs W A.drew := h.below (below_drew (Below.refl _ _))
theorem set (h : Stp n₀ Bs W A) {p : Addr} (h1 : n₀ ≤ p.block) (h2 : Bs ≠ p.block) (u : Value) : Stp n₀ Bs W (A.setCell p u) :=
  ⟨h.sz, h.bs, h.o.trans (KeepsOthers.setCell _ _ _), h.k.trans ⟨(Below.refl _ _).setCell h1 u, fun o ho => (Below.heap_setCell A p u Bs h2).trans ho⟩⟩
theorem trans (h : Stp n₀ Bs W A) (k : KeepsOthers A C) (k2 : KpL n₀ Bs A C) : Stp n₀ Bs W C := ⟨h.sz, h.bs, h.o.trans k, h.k.trans k2⟩
end Stp
def trimT (x : ByteArray) : ByteArray := ⟨(Lib.trimSuffix x.data.toList [10]).toArray⟩
/-- is it an event's line, its end with it -/
def okL (x : ByteArray) : Bool := Lib.hasSuffix x.data.toList [10] && (readF (trimT x)).2.2
def evL (x : ByteArray) : S26 := ⟨(readF (trimT x)).1, (readF (trimT x)).2.1⟩
/-- the events of lines -/
def parseLs : List ByteArray → List S26 → Int → List S26 × Int × Int
  | [], acc, _ => (acc, 0, 0)
  | x :: xs, acc, n => if okL x then parseLs xs (acc ++ [evL x]) (n + 1) else ([], n + 1, 10)
def trace_Parse.f (s : ByteArray) : Option (List S26 × Int × Int) := if s.size ≤ 1000000 then some (parseLs (linesB s.size s) [] 0) else none
theorem parseLs_all : ∀ (xs : List ByteArray) (acc : List S26) (n : Int), (∀ x ∈ xs, okL x = true) → parseLs xs acc n = (acc ++ xs.map evL, 0, 0)
  | [], acc, n, _ => by simp [parseLs]
  | x :: xs, acc, n, h => by
    unfold parseLs
    rw [if_pos (h x (by simp)), parseLs_all xs _ _ (fun y hy => h y (by simp [hy]))]
    simp
theorem parseLs_bad : ∀ (pre : List ByteArray) (x : ByteArray) (xs : List ByteArray) (acc : List S26) (n : Int), (∀ y ∈ pre, okL y = true) → okL x = false → parseLs (pre ++ x :: xs) acc n = ([], n + pre.length + 1, 10)
  | [], x, xs, acc, n, _, h => by simp [parseLs, h]
  | y :: pre, x, xs, acc, n, h, hx => by
    rw [List.cons_append]
    unfold parseLs
    rw [if_pos (h y (by simp)), parseLs_bad pre x xs _ _ (fun z hz => h z (by simp [hz])) hx]
    simp
    omega
theorem linesB_len : ∀ (k : Nat) (s : ByteArray), (linesB k s).length ≤ k
  | 0, s => by simp [linesB]
  | k + 1, s => by
    unfold linesB
    split
    · simp
    · simp
      exact linesB_len k _
theorem linesB_mem : ∀ (k : Nat) (s : ByteArray), ∀ x ∈ linesB k s, x.size ≤ s.size
  | 0, s, x, h => by simp [linesB] at h
  | k + 1, s, x, h => by
    unfold linesB at h
    split at h
    · simp at h
    · rename_i h0
      rcases List.mem_cons.1 h with rfl | h
      · unfold nextA
        split
        · rw [ByteArray.size_extract]
          omega
        · exact Nat.le_refl _
      · have h1 := linesB_mem k (nextB s) x h
        have h2 := nextB_lt s (by omega)
        omega
theorem own_ne {W : World} {base k n : Nat} {v : Value} {xs : List Value} {e sz : Nat} (h : W.ownsRow base e sz v n xs) (hk : k < base) : v.ownBlock = none ∨ v.ownBlock ≠ some k := by
  rcases h.2 with ⟨rfl, _⟩ | ⟨g, cap, cur, rfl, hgb, _⟩
  · exact .inl rfl
  · exact .inr (fun e => by
      have h1 : g = k := Option.some.inj e
      omega)
theorem own_lower {W : World} {base base' n : Nat} {v : Value} {xs : List Value} {e sz : Nat} (hb : base' ≤ base) (h : W.ownsRow base e sz v n xs) : W.ownsRow base' e sz v n xs := by
  rcases h.2 with h0 | ⟨g, cap, cur, hv, hg, r⟩
  · exact ⟨h.1, .inl h0⟩
  · exact ⟨h.1, .inr ⟨g, cap, cur, hv, Nat.le_trans hb hg, r⟩⟩
theorem own_slice {W : World} {base n : Nat} {v : Value} {xs : List Value} {e sz : Nat} (h : W.ownsRow base e sz v n xs) : ∃ A c, v = .slice A n c := by
  rcases h.2 with ⟨rfl, rfl⟩ | ⟨g, cap, cur, rfl, _⟩
  · exact ⟨_, _, rfl⟩
  · exact ⟨_, _, rfl⟩
theorem own_below {W W' : World} {base n : Nat} {v : Value} {xs : List Value} {e sz : Nat} (h : W.ownsRow base e sz v n xs) (hb : Below W.heap.size W W') : W'.ownsRow base e sz v n xs := by
  rcases h.2 with h0 | ⟨g, cap, cur, hv, hg, hgb, r⟩
  · exact ⟨h.1, .inl h0⟩
  · exact ⟨h.1, .inr ⟨g, cap, cur, hv, hg, (hb.block g (Array.getElem?_eq_some_iff.1 hgb).1).trans hgb, r⟩⟩
theorem boxed_below {W W' : World} {B t : Nat} {v : Value} (h : Boxed W B t v) (hb : Below W.heap.size W W') : Boxed W' B t v := (hb.block B h.lt).trans h
theorem trimT_size (x : ByteArray) (h : x.size ≤ 1000000) : (trimT x).size ≤ 1000000 := by
  unfold trimT
  show (Lib.trimSuffix x.data.toList [10]).toArray.size ≤ 1000000
  rw [List.size_toArray]
  unfold Lib.trimSuffix
  have := ba_len x
  split
  · rw [List.length_take]
    omega
  · omega
theorem blk1_put {W : World} {g t : Nat} {a : Value} (h : Blk W g #[a] t) (u : Value) : Blk (W.setCell ⟨g, 0, none⟩ u) g #[u] t := h.set 0 u
theorem own_ne' {W : World} {base k n : Nat} {v : Value} {xs : List Value} {e sz : Nat} (h : W.ownsRow base e sz v n xs) (hk : k < base) : some k ≠ v.ownBlock := by
  rcases own_ne h hk with h1 | h1
  · rw [h1]
    exact fun e => by cases e
  · exact fun e => h1 e.symm
theorem blk_kept {W W' : World} {g t : Nat} {cs : Array Value} {row : Option Nat} (h : Blk W g cs t) (hg : W.grownBy W' row) (hne : some g ≠ row) : Blk W' g cs t := ⟨(hg.block g h.lt hne).trans h.out⟩
theorem Stp.grown {n₀ Bs : Nat} {W A C : World} {v : Value} {n : Nat} {xs : List Value} {e sz base : Nat} (h : Stp n₀ Bs W A) (hown : A.ownsRow base e sz v n xs) (hb : n₀ ≤ base) (hb2 : Bs < base) (hg : A.grownBy C v.ownBlock) : Stp n₀ Bs W C :=
  h.trans (KeepsOthers.of_grownBy hg (fun j o ej hj => by
    rcases hown.2 with ⟨rfl, _⟩ | ⟨g, cap, cur, rfl, _, hgb, _⟩
    · simp [Value.ownBlock] at ej
    · have h1 : g = j := Option.some.inj ej
      subst h1
      rw [hgb] at hj
      cases hj
      rfl))
    ⟨(Below.refl n₀ A).grown hg (Nat.le_trans h.sz h.size) (fun k e => by
      rcases hown.2 with ⟨rfl, _⟩ | ⟨g, cap, cur, rfl, hgb, _⟩
      · simp [Value.ownBlock] at e
      · have h1 : g = k := Option.some.inj e
        omega), fun o ho => (hg.block Bs (Array.getElem?_eq_some_iff.1 ho).1 (own_ne' hown hb2)).trans ho⟩
theorem prefix_snoc {α : Type} {pre xs : List α} {x : α} (h : pre <+: xs) (hx : xs[pre.length]? = some x) : pre ++ [x] <+: xs := by
  obtain ⟨t, rfl⟩ := h
  rw [List.getElem?_append_right (Nat.le_refl _), Nat.sub_self] at hx
  cases t with
  | nil => simp at hx
  | cons y t =>
    have : y = x := by simpa using hx
    subst this
    exact ⟨t, by simp⟩
theorem info26' : (Tryd.prog.info? 26).map (fun i => (i.zero, i.size, i.bytes)) = some (some (.agg #[.int .i64 0, .int .i64 0]), 2, 16) := by kernel_rfl
set_option maxRecDepth 100000 in
set_option maxHeartbeats 8000000 in
theorem parse_walk (s : ByteArray) (hs : s.size ≤ 1000000) (r : List S26 × Int × Int) (hr : parseLs (linesB s.size s) [] 0 = r) (w : World) (hG : Globs w) :
    Calls Tryd.prog 13 #[.string s] w fun e w' => ∃ v0_ : Value, e = .returned (.tuple #[v0_, .int .i64 r.2.1, .int .i64 r.2.2]) ∧ Kd.R k26 26 w' w.heap.size (fun _ => True) v0_ r.1 ∧ Below w.heap.size w w' := by
  refine (callsIn_wide (n := 5)).1 ?_
  refine callsIn_of_wp_marks Tryd.func13 rfl trivial ?_ rfl
  simp only [Tryd.ntmps13, List.size_toArray, List.length_cons, List.length_nil, Nat.reduceAdd, Nat.reduceSub, Array.replicate_succ, Array.replicate_zero, List.push_toArray, List.append_toArray, List.nil_append, List.cons_append]
  have HG := Lib.hid hG
  have HR := Lib.hid hr
  clear hG hr
  gi_wp2_with fail
  refine call_in0 ?_
  refine at_world (fun W => Blk W w.heap.size #[.slice none 0 0] 22 ∧ Blk W (w.heap.size + 1) #[.int .i64 0] 3 ∧ Blk W (w.heap.size + 1 + 1) #[.int .i64 0] 28 ∧ Blk W (w.heap.size + 1 + 1 + 1) #[.slice none 0 0] 22 ∧ Blk W (w.heap.size + 1 + 1 + 1 + 1) #[.int .i64 0] 3 ∧ Bel w.heap.size w W ∧ Aside0 (W.heap.size = w.heap.size + 5))
    ⟨(((((Blk.new w _ _).alloc _).alloc _).alloc _).alloc _), (((Blk.new' (by simp) _ _).alloc _).alloc _).alloc _, ((Blk.new' (by simp) _ _).alloc _).alloc _, (Blk.new' (by simp) _ _).alloc _, Blk.new' (by simp) _ _, ((((((Bel.refl w).alloc _).alloc _).alloc _).alloc _).alloc _), ⟨by simp⟩⟩ ?_
  rintro W0 ⟨B2, B3, B4, B5, B6, HB, HZ⟩
  refine (lines_calls s _).mono ?_
  rintro e w1 ⟨rfl, rfl⟩
  obtain ⟨W1, hW1⟩ : ∃ W1, W0.alloc (.cells #[.string s] 9) = W1 := ⟨_, rfl⟩
  have B7 : Blk W1 W0.heap.size #[.string s] 9 := by rw [← hW1]; exact Blk.new _ _ _
  replace B2 := B2.alloc (.cells #[.string s] 9)
  rw [hW1] at B2
  replace B3 := B3.alloc (.cells #[.string s] 9)
  rw [hW1] at B3
  replace B4 := B4.alloc (.cells #[.string s] 9)
  rw [hW1] at B4
  replace B5 := B5.alloc (.cells #[.string s] 9)
  rw [hW1] at B5
  replace B6 := B6.alloc (.cells #[.string s] 9)
  rw [hW1] at B6
  replace HB : Bel w.heap.size w W1 := by rw [← hW1]; exact HB.alloc _
  have hg7 : w.heap.size + 4 < W0.heap.size := by have := HZ.out; omega
  have hle : w.heap.size ≤ W1.heap.size := HB.size
  have h7 := B7.lt
  rw [hW1]
  clear hW1 HZ
  generalize W0.heap.size = g7 at *
  gi_wp2_with fail
  have n26 : (22 : Nat) ≠ 26 := by decide
  refine range_out (F := Fence.wide) (n := 5) rfl (by decide) (gf := 46) (lb := #[.pointer (some ⟨g7, 0, none⟩)]) rfl trivial (enters_of Tryd.func46 (by kernel_rfl) rfl)
    (lines_stops 4 g7 w.heap.size s (by omega) W1 B7.out) (fun r e => by cases e; exact B7.lt) (fun h k => KpL.trans h k)
    (fun W l o o' hl ho hc hw => ⟨(Below.refl _ W).grown (grownBy_putObj' W l o') (by have := (Array.getElem?_eq_some_iff.1 ho).1; omega) (fun k e => by cases e; omega), fun q hq => (World.putObj_heap_other (by omega)).trans hq⟩)
    (fun W o hl => ⟨(Below.refl _ W).alloc (by omega) o, fun q hq => (Below.heap_alloc W o g7 (Array.getElem?_eq_some_iff.1 hq).1).trans hq⟩)
    (KpL.refl _ _ _) (Nat.le_refl _) (fun _ => rfl)
    (fun pre W => (pre <+: linesB s.size s ∧ ∀ x ∈ pre, okL x = true) ∧ (∃ v, Boxed W (w.heap.size + 1 + 1 + 1) 22 v ∧ W.ownsRow (g7 + 1) 26 2 v pre.length (flat26 (pre.map evL))) ∧ Blk W (w.heap.size + 1 + 1 + 1 + 1) #[.int .i64 (pre.length : Int)] 3 ∧
      Blk W w.heap.size #[.slice none 0 0] 22 ∧ Blk W (w.heap.size + 1) #[.int .i64 0] 3 ∧ Blk W (w.heap.size + 1 + 1) #[.int .i64 0] 28 ∧ Below w.heap.size w W)
    (fun c pre W => c = .ret ∧ (∃ ini x, pre = ini ++ [x] ∧ pre <+: linesB s.size s ∧ (∀ y ∈ ini, okL y = true) ∧ okL x = false) ∧ Blk W w.heap.size #[.slice none 0 0] 22 ∧ Blk W (w.heap.size + 1) #[.int .i64 (pre.length : Int)] 3 ∧ Blk W (w.heap.size + 1 + 1) #[.int .i64 10] 28 ∧ Below w.heap.size w W)
    ?hI ?hIx (fun _ _ _ => trivial) ?h0
    (fun x a' _ => a' = { tmps := #[.string s, undef, .pointer (some ⟨w.heap.size, 0, none⟩), .pointer (some ⟨w.heap.size + 1, 0, none⟩), .pointer (some ⟨w.heap.size + 1 + 1, 0, none⟩), .pointer (some ⟨w.heap.size + 1 + 1 + 1, 0, none⟩), .pointer (some ⟨w.heap.size + 1 + 1 + 1 + 1, 0, none⟩), .string x, undef, undef, undef, undef, .string s, .func (.func 46) #[] #[.pointer (some ⟨g7, 0, none⟩)], .string x, undef, undef, undef, undef, undef, undef, undef, undef, undef, undef, undef, undef, undef, undef, undef, undef, undef, undef, undef, undef, undef, undef, undef, undef], defers := [] })
    (fun _ _ _ _ _ _ hs _ _ => hs) ?assign ?body ?done ?stop
  case h0 =>
    refine ⟨⟨List.nil_prefix, by simp⟩, ⟨_, B5.out, World.ownsRow_nil _ _ _ _⟩, B6, B2, B3, B4, HB.out⟩
  case assign =>
    intro l pre x W K hi hR hK
    gi_wp2
    exact hK _ _ (KeepsFrom.refl _ _) (KpL.refl _ _ _) hi rfl
  case hI =>
    rintro pre A C row ⟨hok, ⟨v, hbx, hown⟩, b6, b2, b3, b4, hb⟩ hg hr
    refine ⟨hok, ⟨v, block_keptT hbx rfl hg (by omega) hr, hown.kept hg ?_⟩, ⟨block_keptT b6.out rfl hg (by omega) hr⟩, ⟨block_keptT b2.out rfl hg (by omega) hr⟩, ⟨block_keptT b3.out rfl hg (by omega) hr⟩, ⟨block_keptT b4.out rfl hg (by omega) hr⟩, OwnT.below (β := Unit) (T := fun r => r = g7) hle (Nat.le_refl _) (by intro r e; omega) () A C row hb hg hr⟩
    rcases hown.2 with ⟨rfl, _⟩ | ⟨g, cap, cur, rfl, hgb, hgg, _⟩
    · exact .inl rfl
    · refine .inr (fun e => ?_)
      rcases hr g e.symm with h | ⟨_, o, ho, hc⟩
      · omega
      · rw [hgg] at ho
        cases ho
        cases hc
  case hIx =>
    rintro c pre A C row ⟨hc, hok, b2, b3, b4, hb⟩ hg hr
    exact ⟨hc, hok, ⟨block_keptT b2.out rfl hg (by omega) hr⟩, ⟨block_keptT b3.out rfl hg (by omega) hr⟩, ⟨block_keptT b4.out rfl hg (by omega) hr⟩, OwnT.below (β := Unit) (T := fun r => r = g7) hle (Nat.le_refl _) (by intro r e; omega) () A C row hb hg hr⟩
  case body =>
    clear B2 B3 B4 B5 B6 B7 HB
    rintro l pre x a' W hl hrec ⟨hok, ⟨v, hbx, hown⟩, b6, b2, b3, b4, hb⟩ rfl hx
    have hpl : pre.length < 1000000 := by
      have h1 := (List.getElem?_eq_some_iff.1 hx).1
      have h2 := linesB_len s.size s
      omega
    have hxs : x.size ≤ 1000000 := by
      have h1 := linesB_mem s.size s x (List.mem_of_getElem? hx)
      omega
    have w1 : IntKind.i64.wrap ((pre.length : Int) + 1) = ((pre.length + 1 : Nat) : Int) := by rw [i64_w]; unfold wrap64; omega
    have HS : Stp w.heap.size g7 W W := Stp.refl hb.size (by
      have := (Array.getElem?_eq_some_iff.1 hrec.choose_spec).1
      omega)
    obtain ⟨c6, f6⟩ := b6.cells1
    obtain ⟨vA, vc, rfl⟩ := own_slice hown
    have hmix : Tryd.prog.follows .mixedOrders = true := by kernel_rfl
    have HCS := Lib.hid (fun W => Tryd.strings_CutSuffix x ⟨#[10]⟩ W (by omega))
    change Hid (∀ W, Calls _ _ _ W fun e w' => e = .returned (.tuple #[.string (trimT x), .bool (Lib.hasSuffix x.data.toList [10])]) ∧ w' = W) at HCS
    have HRd := Lib.hid (fun W hG => read_calls (trimT x) (by have := trimT_size x hxs; omega) W hG)
    have HX := Lib.hid hx
    have HOK := Lib.hid hok
    have HW1 := Lib.hid hown
    have HP := Lib.hid hpl
    have hev : evL x = ⟨(readF (trimT x)).1, (readF (trimT x)).2.1⟩ := rfl
    have hok2 : okL x = (Lib.hasSuffix x.data.toList [10] && (readF (trimT x)).2.2) := rfl
    generalize readF (trimT x) = q at *
    obtain ⟨q1, q2, q3⟩ := q
    simp only at hev hok2
    generalize Lib.hasSuffix x.data.toList [10] = hsf at *
    have HE := Lib.hid hev
    have HO := Lib.hid hok2
    clear hx hok hown hpl hxs hrec hev hok2
    gi_wp2_with fail
    refine call_round0 ?_
    refine at_world (fun W' => Boxed W' (w.heap.size + 1 + 1 + 1) 22 (.slice vA pre.length vc) ∧ Blk W' (w.heap.size + 1 + 1 + 1 + 1) #[.int .i64 ((pre.length + 1 : Nat) : Int)] 3 ∧ Blk W' w.heap.size #[.slice none 0 0] 22 ∧ Blk W' (w.heap.size + 1) #[.int .i64 0] 3 ∧ Blk W' (w.heap.size + 1 + 1) #[.int .i64 0] 28 ∧ Aside0 (Below w.heap.size w W') ∧ Stp w.heap.size g7 W W' ∧ Hid (W'.ownsRow (g7 + 1) 26 2 (.slice vA pre.length vc) pre.length (flat26 (pre.map evL)))) ?_ ?_
    · have hge : w.heap.size ≤ w.heap.size + 1 + 1 + 1 + 1 := by omega
      exact ⟨hbx.other (by omega) _, (show Blk _ _ #[_] 3 from b6.set 0 _), b2.far (by simp; omega) _, b3.far (by simp) _, b4.far (by simp) _, ⟨hb.setCell (p := ⟨w.heap.size + 1 + 1 + 1 + 1, 0, none⟩) hge _⟩, HS.set (p := ⟨w.heap.size + 1 + 1 + 1 + 1, 0, none⟩) hge (by simp; omega) _, Lib.hid (HW1.out.kept (grownBy_setCell' W (w.heap.size + 1 + 1 + 1 + 1) _) (own_ne HW1.out (by omega)))⟩
    clear hbx b6 b2 b3 b4 hb HW1 c6 f6
    rintro Wa ⟨hbx, b6, b2, b3, b4, hb, HSa, HW1⟩
    refine (HCS.out Wa).mono ?_
    rintro e wa ⟨rfl, rfl⟩
    clear HCS
    gi_wp2_with fail
    refine call_round0 ((HRd.out _ (HG.out.below hb.out)).mono ?_)
    rintro e wb ⟨rfl, hbb⟩
    replace hbx := boxed_below hbx hbb
    replace b6 := b6.below hbb
    replace b2 := b2.below hbb
    replace b3 := b3.below hbb
    replace b4 := b4.below hbb
    replace hb := Aside0.mk (below_step hb.out hbb)
    replace HSa := HSa.below hbb
    replace HW1 := Lib.hid (own_below HW1.out hbb)
    clear hbb HRd
    have c6 := fun o => (b6.alloc o).cells1.1
    have f6 := fun o => (b6.alloc o).cells1.2
    have c2 := fun o => (b2.alloc o).cells1.1
    have f2 := fun o => (b2.alloc o).cells1.2
    have c3 := fun o => (b3.alloc o).cells1.1
    have f3 := fun o => (b3.alloc o).cells1.2
    have c4 := fun o => (b4.alloc o).cells1.1
    have f4 := fun o => (b4.alloc o).cells1.2
    have c5 := fun o => (hbx.alloc o).cell
    have f5 := fun o => (hbx.alloc o).frozen
    have HSr : Stp w.heap.size g7 wb wb := Stp.refl hb.out.size (Nat.lt_of_lt_of_le HSa.bs HSa.size)
    cases hsf with
    | false =>
      gi_wp2_with fail
      gi_region_with_o (fail)
      all_goals
        gi_wp2
        refine ⟨KeepsOthers.from ?ks _, rfl, ⟨pre, x, rfl, prefix_snoc HOK.out.1 HX.out, HOK.out.2, ?ok⟩, ?b2, ?b3, ?b4, ?hb⟩
        case ok => rw [HO.out]; rfl
        case b2 => repeat (first | exact b2 | with_reducible refine blk1_put (a := (.slice none 0 0 : Value)) ?_ _ | refine Blk.drew ?_ | refine Blk.alloc ?_ _ | refine Blk.far ?_ (by simp; try omega) _)
        case b3 =>
          rw [show (((pre ++ [x]).length : Nat) : Int) = (pre.length : Int) + 1 by simp]
          repeat (first | exact b3 | with_reducible refine blk1_put (a := (.int .i64 0 : Value)) ?_ _ | refine Blk.drew ?_ | refine Blk.alloc ?_ _ | refine Blk.far ?_ (by simp; try omega) _)
        case b4 => repeat (first | exact b4 | with_reducible refine blk1_put (a := (.int .i64 0 : Value)) ?_ _ | refine Blk.drew ?_ | refine Blk.alloc ?_ _ | refine Blk.far ?_ (by simp; try omega) _)
        case ks => refine (?_ : Stp w.heap.size g7 W _).o; repeat (first | exact HSa | refine Stp.drew ?_ | refine Stp.alloc ?_ _ | refine Stp.set ?_ (by simp; try omega) (by simp; omega) _)
        case hb => refine hb.out.trans (?_ : Stp w.heap.size g7 wb _).k.1; repeat (first | exact HSr | refine Stp.drew ?_ | refine Stp.alloc ?_ _ | refine Stp.set ?_ (by simp; try omega) (by simp; omega) _)
    | true =>
      cases q3 with
      | false =>
        gi_wp2_with fail
        gi_region_with_o (fail)
        all_goals
          gi_wp2
          refine ⟨KeepsOthers.from ?ks _, rfl, ⟨pre, x, rfl, prefix_snoc HOK.out.1 HX.out, HOK.out.2, ?ok⟩, ?b2, ?b3, ?b4, ?hb⟩
          case ok => rw [HO.out]; rfl
          case b2 => repeat (first | exact b2 | with_reducible refine blk1_put (a := (.slice none 0 0 : Value)) ?_ _ | refine Blk.drew ?_ | refine Blk.alloc ?_ _ | refine Blk.far ?_ (by simp; try omega) _)
          case b3 =>
            rw [show (((pre ++ [x]).length : Nat) : Int) = (pre.length : Int) + 1 by simp]
            repeat (first | exact b3 | with_reducible refine blk1_put (a := (.int .i64 0 : Value)) ?_ _ | refine Blk.drew ?_ | refine Blk.alloc ?_ _ | refine Blk.far ?_ (by simp; try omega) _)
          case b4 => repeat (first | exact b4 | with_reducible refine blk1_put (a := (.int .i64 0 : Value)) ?_ _ | refine Blk.drew ?_ | refine Blk.alloc ?_ _ | refine Blk.far ?_ (by simp; try omega) _)
          case ks => refine (?_ : Stp w.heap.size g7 W _).o; repeat (first | exact HSa | refine Stp.drew ?_ | refine Stp.alloc ?_ _ | refine Stp.set ?_ (by simp; try omega) (by simp; omega) _)
          case hb => refine hb.out.trans (?_ : Stp w.heap.size g7 wb _).k.1; repeat (first | exact HSr | refine Stp.drew ?_ | refine Stp.alloc ?_ _ | refine Stp.set ?_ (by simp; try omega) (by simp; omega) _)
      | true =>
        obtain ⟨i0, hi, hz0, hz1, hz2⟩ := info_parts info26'
        gi_wp2_with (gi_at_builtin; refine wpListIn_append_own _ rfl _ _ 22 rfl (g7 + 1) 26 i0 (.agg #[.int .i64 0, .int .i64 0]) 2 16 Tryd.underlying22 hi hz0 hz1 hz2 rfl (by decide) _ _ _ rfl ((HW1.out.alloc _).alloc _) ⟨wb.heap.size + 1, 0, none⟩ 1 1 [.int .i64 q1, .int .i64 q2] rfl rfl ?c1 ?c2 ?c3 ?c4 ?c5 ?_)
        case c1 =>
          have B9 : Blk ((wb.alloc (.cells #[.int .i64 q1, .int .i64 q2] 26)).alloc (.cells #[.int .i64 q1, .int .i64 q2] 26)) (wb.heap.size + 1) #[.int .i64 q1, .int .i64 q2] 26 := Blk.new' (by simp) _ _
          intro j u hu
          match j, hu with
          | 0, hu => exact (B9.cell 0).trans hu
          | 1, hu => exact (B9.cell 1).trans hu
          | j + 2, hu => simp at hu
        case c2 =>
          intro u hu
          simp at hu
          rcases hu with rfl | rfl <;> rfl
        case c3 => have := HP.out; unfold maxLen; omega
        case c4 => have := HP.out; omega
        case c5 => have := HSr.bs; simp; omega
        intro v' w' hown' hgrow _
        obtain ⟨vA', vc', rfl⟩ := own_slice hown'
        have HS2 : Stp w.heap.size g7 W w' := ((HSa.alloc _).alloc _).grown ((HW1.out.alloc _).alloc _) (by omega) (by omega) hgrow
        have hbx1 := ((hbx.alloc _).alloc _).kept hgrow (Boxed.not_row hbx (by decide) HW1.out)
        replace b6 := blk_kept ((b6.alloc _).alloc _) hgrow (own_ne' HW1.out (by omega))
        replace b2 := blk_kept ((b2.alloc _).alloc _) hgrow (own_ne' HW1.out (by omega))
        replace b3 := blk_kept ((b3.alloc _).alloc _) hgrow (own_ne' HW1.out (by omega))
        replace b4 := blk_kept ((b4.alloc _).alloc _) hgrow (own_ne' HW1.out (by omega))
        have hb' : Aside0 (Below w.heap.size w w') := ⟨hb.out.trans (((HSr.alloc _).alloc _).grown ((HW1.out.alloc _).alloc _) (by omega) (by omega) hgrow).k.1⟩
        have HW2 := Lib.hid hown'
        clear c2 c3 c4 c5 c6 f2 f3 f4 f5 f6 hbx hb HW1 HSa HSr hgrow hown'
        have c5 := hbx1.cell
        have f5 := hbx1.frozen
        gi_wp2
        have hge : w.heap.size ≤ w.heap.size + 1 + 1 + 1 := by omega
        refine ⟨(HS2.set (p := ⟨w.heap.size + 1 + 1 + 1, 0, none⟩) hge (by simp; omega) _).o.from _, (HS2.set (p := ⟨w.heap.size + 1 + 1 + 1, 0, none⟩) hge (by simp; omega) _).k, ?_, ⟨_, hbx1.set _, ?_⟩, ?_, b2.far (by simp; omega) _, b3.far (by simp) _, b4.far (by simp) _, hb'.out.setCell (p := ⟨w.heap.size + 1 + 1 + 1, 0, none⟩) hge _⟩
        · refine ⟨prefix_snoc HOK.out.1 HX.out, ?_⟩
          intro y hy
          rcases List.mem_append.1 hy with h1 | h1
          · exact HOK.out.2 y h1
          · rw [List.mem_singleton] at h1
            subst h1
            rw [HO.out]
            rfl
        · rw [List.length_append, List.map_append, flat26_app, List.map_cons, List.map_nil, HE.out]
          exact HW2.out.kept (grownBy_setCell' _ (w.heap.size + 1 + 1 + 1) _) (own_ne HW2.out (by omega))
        · rw [show (((pre ++ [x]).length : Nat) : Int) = ((pre.length + 1 : Nat) : Int) by simp]
          exact b6.far (by simp) _
  case done =>
    clear B2 B3 B4 B5 B6 B7 HB
    rintro D xs W hD rfl ⟨hok, ⟨v, hbx, hown⟩, b6, b2, b3, b4, hb⟩ hK
    obtain ⟨vA, vc, rfl⟩ := own_slice hown
    obtain ⟨c2, f2⟩ := b2.cells1
    obtain ⟨c3, f3⟩ := b3.cells1
    obtain ⟨c4, f4⟩ := b4.cells1
    have c5 := hbx.cell
    have f5 := hbx.frozen
    have HS : Stp w.heap.size g7 W W := Stp.refl hb.size (by
      have := (Array.getElem?_eq_some_iff.1 hK).1
      omega)
    have hfin := parseLs_all (linesB s.size s) [] 0 hok.2
    rw [HR.out] at hfin
    have HF := Lib.hid hfin
    have HOwn := Lib.hid hown
    have HBl := Lib.hid hb
    have hge : w.heap.size ≤ w.heap.size + 1 := by omega
    have hge2 : w.heap.size ≤ w.heap.size + 1 + 1 := by omega
    have hDl := Lib.hid hD
    clear hfin hown hb hok hD
    gi_wp2
    have HS' := ((HS.set (p := ⟨w.heap.size, 0, none⟩) (Nat.le_refl _) (by simp; omega) (.slice vA (linesB s.size s).length vc)).set (p := ⟨w.heap.size + 1, 0, none⟩) hge (by simp; omega) (.int .i64 0)).set (p := ⟨w.heap.size + 1 + 1, 0, none⟩) hge2 (by simp; omega) (.int .i64 0)
    have b2' := ((blk1_put b2 (.slice vA (linesB s.size s).length vc)).far (p := ⟨w.heap.size + 1, 0, none⟩) (by simp) (.int .i64 0)).far (p := ⟨w.heap.size + 1 + 1, 0, none⟩) (by simp; omega) (.int .i64 0)
    have b3' := (blk1_put (b3.far (p := ⟨w.heap.size, 0, none⟩) (by simp) (.slice vA (linesB s.size s).length vc)) (.int .i64 0)).far (p := ⟨w.heap.size + 1 + 1, 0, none⟩) (by simp) (.int .i64 0)
    have b4' := blk1_put ((b4.far (p := ⟨w.heap.size, 0, none⟩) (by simp; omega) (.slice vA (linesB s.size s).length vc)).far (p := ⟨w.heap.size + 1, 0, none⟩) (by simp) (.int .i64 0)) (.int .i64 0)
    have how := ((HOwn.out.kept (grownBy_setCell' _ w.heap.size (.slice vA (linesB s.size s).length vc)) (own_ne HOwn.out (by omega))).kept (grownBy_setCell' _ (w.heap.size + 1) (.int .i64 0)) (own_ne HOwn.out (by omega))).kept (grownBy_setCell' _ (w.heap.size + 1 + 1) (.int .i64 0)) (own_ne HOwn.out (by omega))
    have hK' := HS'.o.same D _ hK rfl
    refine bodyPostM_ret (.tuple #[.slice vA (linesB s.size s).length vc, .int .i64 0, .int .i64 0]) rfl hK' ?_
    intro W' hW'
    have hD := hDl.out
    have d2 := (blk_kept b2' (grownBy_putObj' _ D (.deferred none)) (by intro e; have := Option.some.inj e; omega)).cells1.1
    have d3 := (blk_kept b3' (grownBy_putObj' _ D (.deferred none)) (by intro e; have := Option.some.inj e; omega)).cells1.1
    have d4 := (blk_kept b4' (grownBy_putObj' _ D (.deferred none)) (by intro e; have := Option.some.inj e; omega)).cells1.1
    have hbl := HBl.out.trans (HS'.k.1.trans ((Below.refl w.heap.size _).grown (grownBy_putObj' _ D (.deferred none)) (Nat.le_trans HS'.sz HS'.size) (fun k e => by cases e; omega)))
    have how2 := ownsRow_putObj how (.deferred none) hK' rfl
    rw [← hW'] at d2 d3 d4 hbl how2
    refine ⟨by simp [results, Tryd.results13, go_sem, d2, d3, d4], _, by rw [HF.out], ?_, hbl⟩
    rw [HF.out]
    refine R_of_owns ?_
    simp only [List.nil_append, List.length_map]
    have h1 := how2
    exact own_lower (by omega) h1
  case stop =>
    clear B2 B3 B4 B5 B6 B7 HB
    rintro D c pre W hD _ ⟨rfl, ⟨ini, x, rfl, ⟨rest, hpre⟩, hini, hx⟩, b2, b3, b4, hb⟩ hK
    have hfin := parseLs_bad ini x rest [] 0 hini hx
    rw [show ini ++ x :: rest = linesB s.size s by rw [← hpre]; simp, HR.out] at hfin
    have HF := Lib.hid hfin
    have HS : Stp w.heap.size g7 W W := Stp.refl hb.size (by
      have := (Array.getElem?_eq_some_iff.1 hK).1
      omega)
    have hDl := Lib.hid hD
    have HBl := Lib.hid hb
    clear hfin hpre hini hx hb hD
    gi_wp2
    refine bodyPostM_ret (.tuple #[.slice none 0 0, .int .i64 ((ini ++ [x]).length : Int), .int .i64 10]) rfl hK ?_
    intro W' hW'
    have hD := hDl.out
    have d2 := (blk_kept b2 (grownBy_putObj' _ D (.deferred none)) (by intro e; have := Option.some.inj e; omega)).cells1.1
    have d3 := (blk_kept b3 (grownBy_putObj' _ D (.deferred none)) (by intro e; have := Option.some.inj e; omega)).cells1.1
    have d4 := (blk_kept b4 (grownBy_putObj' _ D (.deferred none)) (by intro e; have := Option.some.inj e; omega)).cells1.1
    have hbl := HBl.out.trans ((Below.refl w.heap.size W).grown (grownBy_putObj' _ D (.deferred none)) HS.sz (fun k e => by cases e; omega))
    rw [← hW'] at d2 d3 d4 hbl
    refine ⟨by simp only [List.length_append, List.length_singleton, Int.natCast_add] at d3 ⊢; simp [results, Tryd.results13, go_sem, d2, d3, d4], .slice none 0 0, by rw [HF.out]; simp, ?_, hbl⟩
    rw [HF.out]
    exact Kd.R_nil _ _ _ _ _
theorem trace_Parse.calls (a0 : ByteArray) (r1 : List S26) (r2 r3 : Int) (w : World) (hG : Globs w) (h : trace_Parse.f a0 = some (r1, r2, r3)) :
    Calls Tryd.prog 13 #[.string a0] w fun e w' => ∃ v0_ : Value, e = .returned (.tuple #[v0_, .int .i64 r2, .int .i64 r3]) ∧ Kd.R k26 26 w' w.heap.size (fun _ => True) v0_ r1 ∧ Below w.heap.size w w' := by
  obtain ⟨h1, h2⟩ := of_guard h
  exact parse_walk a0 h1 (r1, r2, r3) h2 w hG
end Go.Proofs.YtlkppkmfpinocaaDoor.PT
