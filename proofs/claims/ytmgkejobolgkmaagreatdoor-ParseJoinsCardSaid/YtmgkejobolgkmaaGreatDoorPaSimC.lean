/- Package parse, in plain words: of two readers that go in step as to their smallest steps what is read is the same, up to places. Package parse, in plain words: readers in step, the rest: statements, ends, blocks, declarations. Package parse, in plain words: what its smallest steps keep (places not below 0), its reader keeps. Package parse, in plain words: of tokens that are a program no front is one, unless it ends behind a declaration. Lexing in plain words: the tokens of a text's front, up to a token; what tokens are like. -/
import Derived.Test.YtmgkejobolgkmaaGreatDoorPaOne
import Derived.Test.YtmgkejobolgkmaaGreatDoorPaProg
import Derived.Test.YtmgkejobolgkmaaGreatDoorPlLex
namespace Go.Proofs.YtmgkejobolgkmaaGreatDoor.PL
section
open Go Go.RowKit Go.Proofs.YtmgkejobolgkmaaGreatDoorW.PrintWords Go.Proofs.YtmgkejobolgkmaaGreatDoorW.PrintLast Go.Proofs.YtmgkejobolgkmaaGreatDoorW.PrintMore
set_option linter.unusedVariables false
set_option linter.unusedSimpArgs false

/-- the words and signs that stand within a declaration -/
def insideB : List ByteArray := [⟨#[98, 111, 120]⟩, ⟨#[105, 110, 116]⟩, ⟨#[46]⟩, ⟨#[42]⟩, ⟨#[44]⟩, ⟨#[40]⟩, ⟨#[41]⟩, ⟨#[59]⟩, ⟨#[61]⟩, ⟨#[58]⟩, ⟨#[111, 117, 116]⟩, ⟨#[123]⟩, ⟨#[125]⟩, ⟨#[108, 101, 116]⟩, ⟨#[115, 97, 102, 101]⟩, ⟨#[104, 111, 111, 107]⟩]
/-- two readers go in step: R; or one of them has gone astray for good: X -/
structure Sim (g : Int → Int) (D : Int → Prop) (Pd : (Tok → Bool) → Prop) (R X : Rd → Rd → Prop) : Prop where mk ::
  (xl : ∀ t, Closed (fun s => X s t)) (xr : ∀ s, Closed (fun t => X s t))
  (bad : ∀ {s t : Rd}, R s t → (t.bad = -1 ↔ s.bad = -1))
  (at_ : ∀ {s t : Rd}, R s t → t.at_ = g s.at_ ∧ D s.at_)
  (next : ∀ {s t : Rd} {p : Tok → Bool}, R s t → Pd p → t.next p = s.next p)
  (tl : ∀ {s t : Rd} {p : Tok → Bool}, R s t → Pd p → s.next p = true → (t.hd.f0 = s.hd.f0 ∧ t.hd.f2 = s.hd.f2 ∧ t.hd.f3 = s.hd.f3) ∧ (X s.tl t.tl ∨ R s.tl t.tl))
  (fail : ∀ {s t : Rd}, R s t → X s.fail t.fail ∨ R s.fail t.fail)
  (more : ∀ {s t : Rd} {a : Int} (c : Bool), R s t → D a → X (s.more c a) (t.more c (g a)) ∨ R (s.more c a) (t.more c (g a)))
  (named : Pd namedP) (num : Pd numP) (made : Pd madeP) (ends : Pd endsP) (sees : ∀ x ∈ insideB, Pd (seesP [x])) (rm : Pd (seesP [⟨#[114, 101, 102]⟩, ⟨#[109, 117, 116]⟩]))
def Uc (R X : Rd → Rd → Prop) (C : Prop) (s t : Rd) : Prop := X s t ∨ (R s t ∧ C)
theorem Uc.mono {R X : Rd → Rd → Prop} {C C' : Prop} {s t : Rd} (u : Uc R X C s t) (h : C → C') : Uc R X C' s t := u.imp id (fun k => ⟨k.1, h k.2⟩)
def atStmt (g : Int → Int) (x : SStmt) : SStmt := ⟨g x.f0, x.f1, x.f2, x.f3, x.f4, x.f5, x.f6⟩
def atTerm (g : Int → Int) (x : STerm) : STerm := ⟨g x.f0, x.f1, x.f2, x.f3, x.f4, x.f5, x.f6⟩
def atBlock (g : Int → Int) (x : SBlock) : SBlock := ⟨g x.f0, x.f1, x.f2.map (atStmt g), atTerm g x.f3⟩
def atFunc (g : Int → Int) (x : SFunc) : SFunc := ⟨g x.f0, x.f1, x.f2, x.f3, x.f4, x.f5.map (atBlock g)⟩
def atStruct (g : Int → Int) (x : SStruct) : SStruct := ⟨g x.f0, x.f1, x.f2, x.f3, x.f4⟩
def atEnum (g : Int → Int) (x : SEnum) : SEnum := ⟨g x.f0, x.f1, x.f2⟩
def atProg (g : Int → Int) (x : SProg) : SProg := ⟨x.f0.map (atStruct g), x.f1.map (atEnum g), x.f2.map (atFunc g)⟩
namespace Sim
variable {g : Int → Int} {D : Int → Prop} {Pd : (Tok → Bool) → Prop} {R X : Rd → Rd → Prop} {C : Prop}
theorem both (h : Sim g D Pd R X) {s t s' t' : Rd} (x : X s t) (hl : ∀ {P : Rd → Prop}, Closed P → P s → P s') (hr : ∀ {P : Rd → Prop}, Closed P → P t → P t') : X s' t' := hr (h.xr s') (hl (h.xl t) x)
theorem u_at (h : Sim g D Pd R X) {s t : Rd} (u : Uc R X C s t) : Uc R X (C ∧ t.at_ = g s.at_ ∧ D s.at_) s t := u.imp id (fun k => ⟨k.1, k.2, h.at_ k.1⟩)
theorem u_fail (h : Sim g D Pd R X) {s t : Rd} (u : Uc R X C s t) : Uc R X C s.fail t.fail := by
  rcases u with x | ⟨r, c⟩
  · exact .inl (h.both x (fun hP hs => hP.fail hs) (fun hP hs => hP.fail hs))
  · exact (h.fail r).imp id (fun k => ⟨k, c⟩)
theorem u_more (h : Sim g D Pd R X) {s t : Rd} {c c' : Bool} {a a' : Int} (u : Uc R X C s t) (hc : C → c' = c ∧ a' = g a ∧ D a) : Uc R X C (s.more c a) (t.more c' a') := by
  rcases u with x | ⟨r, k⟩
  · exact .inl (h.both x (fun hP hs => hP.more _ _ hs) (fun hP hs => hP.more _ _ hs))
  · obtain ⟨rfl, rfl, hd⟩ := hc k
    exact (h.more c' r hd).imp id (fun q => ⟨q, k⟩)
theorem u_limit (h : Sim g D Pd R X) {s t : Rd} {m m' n : Int} (u : Uc R X C s t) (hc : C → m' = m) : Uc R X C (s.limit m n) (t.limit m' n) :=
  (h.u_more (h.u_at u) (fun k => ⟨by rw [hc k.1], k.2⟩)).mono (fun k => k.1)
theorem u_next (h : Sim g D Pd R X) {s t : Rd} {p : Tok → Bool} (u : Uc R X C s t) (hp : Pd p) : Uc R X (C ∧ t.next p = s.next p) s t := u.imp id (fun k => ⟨k.1, k.2, h.next k.1 hp⟩)
theorem u_may (h : Sim g D Pd R X) {s t : Rd} {x : ByteArray} (u : Uc R X C s t) (hp : Pd (seesP [x])) : Uc R X (C ∧ (t.may x).1 = (s.may x).1) (s.may x).2 (t.may x).2 := by
  rcases u with x1 | ⟨r, c⟩
  · exact .inl (h.both x1 (fun hP hs => hP.may _ hs) (fun hP hs => hP.may _ hs))
  · have e := h.next r hp
    unfold Rd.may Rd.sees
    rw [e]
    by_cases hn : s.next (seesP [x]) = true
    · rw [if_pos hn, if_pos hn]
      exact (h.tl r hp hn).2.imp id (fun k => ⟨k, c, rfl⟩)
    · rw [if_neg hn, if_neg hn]
      exact .inr ⟨r, c, rfl⟩
theorem u_must (h : Sim g D Pd R X) : ∀ {l : List ByteArray} {s t : Rd}, Uc R X C s t → (∀ x ∈ l, Pd (seesP [x])) → Uc R X C (Rd.must l s) (Rd.must l t)
  | [], s, t, u, hl => u
  | x :: l, s, t, u, hl => by
    unfold Rd.must
    refine h.u_must ?_ (fun y hy => hl y (List.mem_cons_of_mem _ hy))
    have u1 := h.u_may u (hl x List.mem_cons_self)
    rcases u1 with x1 | ⟨r, c, e⟩
    · refine .inl (h.both x1 (fun hP hs => ?_) (fun hP hs => ?_))
      · split
        · exact hs
        · exact hP.fail hs
      · split
        · exact hs
        · exact hP.fail hs
    · rw [e]
      split
      · exact .inr ⟨r, c⟩
      · exact h.u_fail (.inr ⟨r, c⟩)
theorem u_name (h : Sim g D Pd R X) {s t : Rd} (u : Uc R X C s t) : Uc R X (C ∧ t.name.1 = s.name.1) s.name.2 t.name.2 := by
  rcases u with x | ⟨r, c⟩
  · exact .inl (h.both x (fun hP hs => hP.name hs) (fun hP hs => hP.name hs))
  · have e := h.next r h.named
    unfold Rd.name Rd.named
    rw [e]
    by_cases hn : s.next namedP = true
    · rw [if_pos hn, if_pos hn]
      have k := h.tl r h.named hn
      exact k.2.imp id (fun q => ⟨q, c, k.1.2.1⟩)
    · rw [if_neg hn, if_neg hn]
      exact (h.fail r).imp id (fun q => ⟨q, c, rfl⟩)
theorem u_names (h : Sim g D Pd R X) : ∀ (k : Nat) {C : Prop} {s t : Rd} {out out' : List ByteArray}, Uc R X C s t → (C → out' = out) → Uc R X (C ∧ (Rd.names k t out').1 = (Rd.names k s out).1) (Rd.names k s out).2 (Rd.names k t out').2
  | 0, C, s, t, out, out', u, ho => u.mono (fun c => ⟨c, ho c⟩)
  | k + 1, C, s, t, out, out', u, ho => (h.u_names k (h.u_name u) (fun c => by rw [ho c.1, c.2])).mono (fun c => ⟨c.1.1, c.2⟩)
theorem u_boxes (h : Sim g D Pd R X) : ∀ (k : Nat) {C : Prop} {s t : Rd} (n : Nat) (out : ByteArray), Uc R X C s t → Uc R X (C ∧ (Rd.boxes k t n out).1 = (Rd.boxes k s n out).1) (Rd.boxes k s n out).2 (Rd.boxes k t n out).2
  | 0, C, s, t, n, out, u => u.mono (fun c => ⟨c, rfl⟩)
  | k + 1, C, s, t, n, out, u => by
    rcases h.u_may u (h.sees ⟨#[98, 111, 120]⟩ (by repeat (first | exact List.Mem.head _ | apply List.Mem.tail))) with x | ⟨r, c, e⟩
    · refine .inl (h.both x (fun hP hs => ?_) (fun hP hs => ?_)) <;> unfold Rd.boxes <;> split
      · exact hP.boxes k _ _ hs
      · exact hs
      · exact hP.boxes k _ _ hs
      · exact hs
    · unfold Rd.boxes
      rw [e]
      split
      · exact h.u_boxes k _ _ (.inr ⟨r, c⟩)
      · exact .inr ⟨r, c, rfl⟩
theorem u_plain2 (h : Sim g D Pd R X) {q q' : (Nat × ByteArray) × Rd} {a a' : Int} (u : Uc R X C q.2 q'.2) (hc : C → q'.1 = q.1 ∧ a' = g a ∧ D a) : Uc R X (C ∧ (Rd.plain2 q' a').1 = (Rd.plain2 q a).1) (Rd.plain2 q a).2 (Rd.plain2 q' a').2 := by
  rcases h.u_may (h.u_more (c := decide (8 < q.1.1)) (c' := decide (8 < q'.1.1)) (a := a) (a' := a') u (fun c => ⟨by rw [(hc c).1], (hc c).2⟩)) (h.sees ⟨#[105, 110, 116]⟩ (by repeat (first | exact List.Mem.head _ | apply List.Mem.tail))) with x | ⟨r, c, e⟩
  · refine .inl (h.both x (fun hP hs => ?_) (fun hP hs => ?_)) <;> unfold Rd.plain2 <;> split
    · exact hs
    · exact hP.name hs
    · exact hs
    · exact hP.name hs
  · unfold Rd.plain2
    rw [e]
    have e1 := (hc c).1
    split
    · exact .inr ⟨r, c, by rw [e1]⟩
    · exact (h.u_name (C := C) (.inr ⟨r, c⟩)).mono (fun k => ⟨k.1, by rw [k.2, e1]⟩)
theorem u_plain (h : Sim g D Pd R X) {s t : Rd} (u : Uc R X C s t) : Uc R X (C ∧ t.plain.1 = s.plain.1) s.plain.2 t.plain.2 :=
  (h.u_plain2 (h.u_boxes rdF 0 _ (h.u_at u)) (fun c => ⟨c.2, c.1.2⟩)).mono (fun c => ⟨c.1.1.1, c.2⟩)
theorem u_whole (h : Sim g D Pd R X) {s t : Rd} (u : Uc R X C s t) : Uc R X (C ∧ t.whole.1 = s.whole.1) s.whole.2 t.whole.2 := by
  rcases u with x | ⟨r, c⟩
  · exact .inl (h.both x (fun hP hs => hP.whole hs) (fun hP hs => hP.whole hs))
  · have e := h.next r h.rm
    unfold Rd.whole Rd.sees
    rw [e]
    by_cases hn : s.next (seesP [⟨#[114, 101, 102]⟩, ⟨#[109, 117, 116]⟩]) = true
    · rw [if_pos hn, if_pos hn]
      have k := h.tl r h.rm hn
      exact (h.u_plain (C := C) (k.2.imp id (fun q => ⟨q, c⟩))).mono (fun q => ⟨q.1, by rw [k.1.2.1, q.2]⟩)
    · rw [if_neg hn, if_neg hn]
      exact h.u_plain (.inr ⟨r, c⟩)
theorem u_steps (h : Sim g D Pd R X) : ∀ (k : Nat) {C : Prop} {s t : Rd} {out out' : List ByteArray}, Uc R X C s t → (C → out' = out) → Uc R X (C ∧ (Rd.steps k t out').1 = (Rd.steps k s out).1) (Rd.steps k s out).2 (Rd.steps k t out').2
  | 0, C, s, t, out, out', u, ho => u.mono (fun c => ⟨c, ho c⟩)
  | k + 1, C, s, t, out, out', u, ho => by
    rcases h.u_may u (h.sees ⟨#[46]⟩ (by repeat (first | exact List.Mem.head _ | apply List.Mem.tail))) with x | ⟨r, c, e⟩
    · refine .inl (h.both x (fun hP hs => ?_) (fun hP hs => ?_)) <;> unfold Rd.steps <;> split
      · split
        · exact hP.steps k _ (hP.may _ hs)
        · exact hP.steps k _ (hP.name (hP.may _ hs))
      · exact hs
      · split
        · exact hP.steps k _ (hP.may _ hs)
        · exact hP.steps k _ (hP.name (hP.may _ hs))
      · exact hs
    · unfold Rd.steps
      rw [e]
      split
      · rcases h.u_may (C := C) (.inr ⟨r, c⟩) (h.sees ⟨#[42]⟩ (by repeat (first | exact List.Mem.head _ | apply List.Mem.tail))) with x | ⟨r2, c2, e2⟩
        · refine .inl (h.both x (fun hP hs => ?_) (fun hP hs => ?_)) <;> split
          · exact hP.steps k _ hs
          · exact hP.steps k _ (hP.name hs)
          · exact hP.steps k _ hs
          · exact hP.steps k _ (hP.name hs)
        · rw [e2]
          split
          · exact h.u_steps k (.inr ⟨r2, c2⟩) (fun c => by rw [ho c])
          · exact (h.u_steps k (h.u_name (C := C) (.inr ⟨r2, c2⟩)) (fun c => by rw [ho c.1, c.2])).mono (fun c => ⟨c.1.1, c.2⟩)
      · exact .inr ⟨r, c, ho c⟩
theorem u_place (h : Sim g D Pd R X) {s t : Rd} (u : Uc R X C s t) : Uc R X (C ∧ t.place.1 = s.place.1) s.place.2 t.place.2 :=
  (h.u_more (h.u_steps rdF (h.u_name (h.u_at u)) (fun _ => rfl)) (fun c => ⟨by rw [c.2], c.1.1.2⟩)).mono (fun c => ⟨c.1.1.1, by unfold Rd.place; rw [c.2, c.1.2]⟩)
theorem u_places (h : Sim g D Pd R X) : ∀ (k : Nat) {C : Prop} {s t : Rd} {out out' : List SPlace}, Uc R X C s t → (C → out' = out) → Uc R X (C ∧ (Rd.places k t out').1 = (Rd.places k s out).1) (Rd.places k s out).2 (Rd.places k t out').2
  | 0, C, s, t, out, out', u, ho => u.mono (fun c => ⟨c, ho c⟩)
  | k + 1, C, s, t, out, out', u, ho => (h.u_places k (h.u_place u) (fun c => by rw [ho c.1, c.2])).mono (fun c => ⟨c.1.1, c.2⟩)
theorem u_row (h : Sim g D Pd R X) {α : Type} {one : Rd → α × Rd} (hcl : ∀ {P : Rd → Prop}, Closed P → ∀ {s : Rd}, P s → P (one s).2)
    (hone : ∀ {C : Prop} {s t : Rd}, Uc R X C s t → Uc R X (C ∧ (one t).1 = (one s).1) (one s).2 (one t).2) : ∀ (k : Nat) {C : Prop} {s t : Rd} {out out' : List α}, Uc R X C s t → (C → out' = out) → Uc R X (C ∧ (Rd.row one k t out').1 = (Rd.row one k s out).1) (Rd.row one k s out).2 (Rd.row one k t out').2
  | 0, C, s, t, out, out', u, ho => u.mono (fun c => ⟨c, ho c⟩)
  | k + 1, C, s, t, out, out', u, ho => by
    rcases h.u_may (hone (h.u_limit (m := out.length) (m' := out'.length) (n := 16) u (fun c => by rw [ho c]))) (h.sees ⟨#[44]⟩ (by repeat (first | exact List.Mem.head _ | apply List.Mem.tail))) with x | ⟨r, ⟨c, e1⟩, e⟩
    · refine .inl (h.both x (fun hP hs => ?_) (fun hP hs => ?_)) <;> unfold Rd.row <;> split
      · exact hP.row (hcl hP) k _ hs
      · exact hs
      · exact hP.row (hcl hP) k _ hs
      · exact hs
    · unfold Rd.row
      rw [e]
      split
      · exact h.u_row hcl hone k (.inr ⟨r, c⟩) (fun c => by rw [e1, ho c])
      · exact .inr ⟨r, c, by rw [e1, ho c]⟩
theorem u_args (h : Sim g D Pd R X) {s t : Rd} (u : Uc R X C s t) : Uc R X (C ∧ t.args.1 = s.args.1) s.args.2 t.args.2 := by
  have u1 := h.u_must (l := [⟨#[40]⟩]) u (fun x hx => h.sees x (by rw [List.mem_singleton.1 hx]; repeat (first | exact List.Mem.head _ | apply List.Mem.tail)))
  rcases h.u_may u1 (h.sees ⟨#[41]⟩ (by repeat (first | exact List.Mem.head _ | apply List.Mem.tail))) with x | ⟨r, c, e⟩
  · refine .inl (h.both x (fun hP hs => ?_) (fun hP hs => ?_)) <;> unfold Rd.args <;> simp only <;> split
    · exact hs
    · exact hP.must _ (hP.row hP.place _ _ hs)
    · exact hs
    · exact hP.must _ (hP.row hP.place _ _ hs)
  · unfold Rd.args
    simp only
    rw [e]
    split
    · exact .inr ⟨r, c, rfl⟩
    · exact h.u_must (h.u_row (fun hP => hP.place) h.u_place rdF (.inr ⟨r, c⟩) (fun _ => rfl)) (fun x hx => h.sees x (by rw [List.mem_singleton.1 hx]; repeat (first | exact List.Mem.head _ | apply List.Mem.tail)))
theorem u_more_places (h : Sim g D Pd R X) : ∀ (k : Nat) {C : Prop} {s t : Rd} {out out' : List SPlace}, Uc R X C s t → (C → out' = out) → Uc R X (C ∧ (Rd.more_places k t out').1 = (Rd.more_places k s out).1) (Rd.more_places k s out).2 (Rd.more_places k t out').2
  | 0, C, s, t, out, out', u, ho => u.mono (fun c => ⟨c, ho c⟩)
  | k + 1, C, s, t, out, out', u, ho => by
    rcases u with x | ⟨r, c⟩
    · exact .inl (h.both x (fun hP hs => hP.more_places _ _ hs) (fun hP hs => hP.more_places _ _ hs))
    · have e := h.next r h.named
      unfold Rd.more_places Rd.named
      rw [e]
      split
      · exact (h.u_more_places k (h.u_place (h.u_limit (m := out.length) (m' := out'.length) (n := 16) (C := C) (.inr ⟨r, c⟩) (fun c => by rw [ho c]))) (fun c => by rw [c.2, ho c.1])).mono (fun c => ⟨c.1.1, c.2⟩)
      · exact .inr ⟨r, c, ho c⟩
theorem u_arm (h : Sim g D Pd R X) {s t : Rd} (u : Uc R X C s t) : Uc R X (C ∧ t.arm.1 = s.arm.1) s.arm.2 t.arm.2 := by
  rcases h.u_name u with x | ⟨r, c, e⟩
  · refine .inl (h.both x (fun hP hs => ?_) (fun hP hs => ?_)) <;> unfold Rd.arm <;> simp only <;> refine hP.name (hP.must _ ?_) <;> split
    · exact hP.name hs
    · exact hs
    · exact hP.name hs
    · exact hs
  · have e2 := h.next r h.named
    unfold Rd.arm Rd.named
    simp only
    rw [e2]
    split
    · exact (h.u_name (h.u_must (l := [⟨#[58]⟩]) (h.u_name (C := C) (.inr ⟨r, c⟩)) (fun x hx => h.sees x (by rw [List.mem_singleton.1 hx]; repeat (first | exact List.Mem.head _ | apply List.Mem.tail))))).mono (fun k => ⟨k.1.1, by rw [e, k.1.2, k.2]⟩)
    · exact (h.u_name (h.u_must (l := [⟨#[58]⟩]) (C := C) (.inr ⟨r, c⟩) (fun x hx => h.sees x (by rw [List.mem_singleton.1 hx]; repeat (first | exact List.Mem.head _ | apply List.Mem.tail))))).mono (fun k => ⟨k.1, by rw [e, k.2]⟩)
theorem u_param (h : Sim g D Pd R X) {s t : Rd} (u : Uc R X C s t) : Uc R X (C ∧ t.param.1 = s.param.1) s.param.2 t.param.2 :=
  (h.u_whole (h.u_name u)).mono (fun c => ⟨c.1.1, by unfold Rd.param; rw [c.2, c.1.2]⟩)
theorem u_field (h : Sim g D Pd R X) {s t : Rd} (u : Uc R X C s t) : Uc R X (C ∧ t.field.1 = s.field.1) s.field.2 t.field.2 :=
  (h.u_plain (h.u_name u)).mono (fun c => ⟨c.1.1, by unfold Rd.field; rw [c.2, c.1.2]⟩)
theorem u_variant (h : Sim g D Pd R X) {s t : Rd} (u : Uc R X C s t) : Uc R X (C ∧ t.variant.1 = s.variant.1) s.variant.2 t.variant.2 := by
  rcases h.u_name u with x | ⟨r, c, e⟩
  · refine .inl (h.both x (fun hP hs => ?_) (fun hP hs => ?_)) <;> unfold Rd.variant <;> split
    · exact hs
    · exact hP.plain hs
    · exact hs
    · exact hP.plain hs
  · have e2 := h.next r (h.sees ⟨#[59]⟩ (by repeat (first | exact List.Mem.head _ | apply List.Mem.tail)))
    unfold Rd.variant Rd.sees
    rw [e2]
    split
    · exact .inr ⟨r, c, by rw [e]⟩
    · exact (h.u_plain (C := C) (.inr ⟨r, c⟩)).mono (fun c => ⟨c.1, by unfold Rd.field; rw [c.2, e]⟩)
end Sim
end
section
open Go Go.RowKit Go.Proofs.YtmgkejobolgkmaaGreatDoorW.PrintWords Go.Proofs.YtmgkejobolgkmaaGreatDoorW.PrintLast Go.Proofs.YtmgkejobolgkmaaGreatDoorW.PrintMore
set_option linter.unusedVariables false
set_option linter.unusedSimpArgs false

/-- declarations, up to their last sign -/
def Rd.function0 (a : Int) (s : Rd) : SFunc × Rd :=
  let n := s.name
  let u := Rd.must [⟨#[40]⟩] n.2
  let p := if u.sees [⟨#[41]⟩] then ([], u) else Rd.row Rd.param rdF u []
  let r := (Rd.must [⟨#[41]⟩] p.2).plain
  let v := Rd.must [⟨#[123]⟩] r.2
  let l := Rd.lets p.1.length rdF v []
  let b := Rd.blocks rdF l.2 []
  (⟨a, n.1, p.1, l.1, r.1, b.1⟩, b.2)
def Rd.fields0 (s : Rd) (least : Nat) (one : Rd → SVar × Rd) : List SVar × Rd := Rd.fields1 least one rdF (Rd.must [⟨#[123]⟩] s) []
def Rd.structure0 (a : Int) (s : Rd) : SStruct × Rd :=
  let n := s.name
  let b := n.2.may ⟨#[115, 97, 102, 101]⟩
  let h := b.2.may ⟨#[104, 111, 111, 107]⟩
  let f := h.2.fields0 0 Rd.field
  (⟨a, n.1, b.1, h.1, f.1⟩, f.2)
def Rd.enum0 (a : Int) (s : Rd) : SEnum × Rd :=
  let n := s.name
  let f := n.2.fields0 1 Rd.variant
  (⟨a, n.1, f.1⟩, f.2)
theorem Rd.function1_eq (a : Int) (s : Rd) : s.function1 a = ((s.function0 a).1, Rd.must [⟨#[125]⟩] (s.function0 a).2) := by simp only [Rd.function1, Rd.function0]
theorem Rd.structure1_eq (a : Int) (s : Rd) : s.structure1 a = ((s.structure0 a).1, Rd.must [⟨#[125]⟩] (s.structure0 a).2) := by simp only [Rd.structure1, Rd.structure0, Rd.fields, Rd.fields0]
theorem Rd.enum1_eq (a : Int) (s : Rd) : s.enum1 a = ((s.enum0 a).1, Rd.must [⟨#[125]⟩] (s.enum0 a).2) := by simp only [Rd.enum1, Rd.enum0, Rd.fields, Rd.fields0]
namespace Sim
variable {g : Int → Int} {D : Int → Prop} {Pd : (Tok → Bool) → Prop} {R X : Rd → Rd → Prop} {C : Prop}
theorem s1 (h : Sim g D Pd R X) {x : ByteArray} (hx : x ∈ insideB) : ∀ y ∈ [x], Pd (seesP [y]) := fun y hy => by rw [List.mem_singleton.1 hy]; exact h.sees x hx
theorem u_value (h : Sim g D Pd R X) {s t : Rd} {x x' : SStmt} (u : Uc R X C s t) (hx : C → x' = atStmt g x) : Uc R X (C ∧ (t.value x').1 = atStmt g (s.value x).1) (s.value x).2 (t.value x').2 := by
  rcases u with w | ⟨r, c⟩
  · exact .inl (h.both w (fun hP hs => hP.value _ hs) (fun hP hs => hP.value _ hs))
  · have e1 := h.next r h.num
    have e2 := h.next r h.made
    have ex := hx c
    subst ex
    unfold Rd.value
    rw [e1, e2]
    by_cases h1 : s.next numP = true
    · rw [if_pos h1, if_pos h1]
      have k := h.tl r h.num h1
      exact k.2.imp id (fun q => ⟨q, c, by rw [k.1.2.2]; rfl⟩)
    · rw [if_neg h1, if_neg h1]
      by_cases h2 : s.next madeP = true
      · rw [if_pos h2, if_pos h2]
        have k := h.tl r h.made h2
        have ek : t.hd.f2 = s.hd.f2 := k.1.2.1
        have ut : Uc R X C s.tl t.tl := k.2.imp id (fun q => ⟨q, c⟩)
        rw [ek]
        simp only
        split
        · exact (h.u_places 2 ut (fun _ => rfl)).mono (fun q => ⟨q.1, by rw [q.2]; rfl⟩)
        · split
          · exact (h.u_more_places rdF (h.u_name ut) (out := x.f6) (out' := (atStmt g x).f6) (fun _ => rfl)).mono (fun q => ⟨q.1.1, by rw [q.2, q.1.2]; rfl⟩)
          · split
            · rcases h.u_name (h.u_must (l := [⟨#[46]⟩]) (h.u_name ut) (h.s1 (by repeat (first | exact List.Mem.head _ | apply List.Mem.tail)))) with w | ⟨r3, ⟨c3, e3⟩, e4⟩
              · refine .inl (h.both w (fun hP hs => ?_) (fun hP hs => ?_)) <;> split
                · exact hP.places _ _ hs
                · exact hs
                · exact hP.places _ _ hs
                · exact hs
              · have e5 := h.next r3 h.named
                unfold Rd.named
                rw [e5]
                split
                · exact (h.u_places 1 (C := C) (.inr ⟨r3, c3⟩) (fun _ => rfl)).mono (fun q => ⟨q.1, by rw [q.2, e3, e4]; rfl⟩)
                · exact .inr ⟨r3, c3, by rw [e3, e4]; rfl⟩
            · exact (h.u_places 1 ut (fun _ => rfl)).mono (fun q => ⟨q.1, by rw [q.2]; rfl⟩)
      · rw [if_neg h2, if_neg h2]
        exact (h.fail r).imp id (fun q => ⟨q, c, rfl⟩)
theorem u_stmt (h : Sim g D Pd R X) {s t : Rd} (u : Uc R X C s t) : Uc R X (C ∧ t.stmt.1 = atStmt g s.stmt.1) s.stmt.2 t.stmt.2 := by
  rcases h.u_may (h.u_at u) (h.sees ⟨#[111, 117, 116]⟩ (by repeat (first | exact List.Mem.head _ | apply List.Mem.tail))) with w | ⟨r, ⟨c, ea, -⟩, e⟩
  · refine .inl (h.both w (fun hP hs => ?_) (fun hP hs => ?_)) <;> unfold Rd.stmt <;> simp only <;> split
    · exact hP.must _ (hP.places _ _ hs)
    · exact hP.must _ (hP.value _ (hP.must _ (hP.place hs)))
    · exact hP.must _ (hP.places _ _ hs)
    · exact hP.must _ (hP.value _ (hP.must _ (hP.place hs)))
  · unfold Rd.stmt
    simp only
    rw [e, ea]
    split
    · exact h.u_must ((h.u_places 1 (C := C) (.inr ⟨r, c⟩) (fun _ => rfl)).mono (fun q => ⟨q.1, by rw [q.2]; rfl⟩)) (h.s1 (by repeat (first | exact List.Mem.head _ | apply List.Mem.tail)))
    · refine h.u_must ((h.u_value (h.u_must (l := [⟨#[61]⟩]) (h.u_place (C := C) (.inr ⟨r, c⟩)) (h.s1 (by repeat (first | exact List.Mem.head _ | apply List.Mem.tail)))) (fun q => ?_)).mono (fun q => ⟨q.1.1, q.2⟩)) (h.s1 (by repeat (first | exact List.Mem.head _ | apply List.Mem.tail)))
      rw [q.2]
      rfl
theorem u_stmts (h : Sim g D Pd R X) : ∀ (k : Nat) {C : Prop} {s t : Rd} {out out' : List SStmt}, Uc R X C s t → (C → out' = out.map (atStmt g)) → Uc R X (C ∧ (Rd.stmts k t out').1 = (Rd.stmts k s out).1.map (atStmt g)) (Rd.stmts k s out).2 (Rd.stmts k t out').2
  | 0, C, s, t, out, out', u, ho => u.mono (fun c => ⟨c, ho c⟩)
  | k + 1, C, s, t, out, out', u, ho => by
    rcases u with x | ⟨r, c⟩
    · exact .inl (h.both x (fun hP hs => hP.stmts _ _ hs) (fun hP hs => hP.stmts _ _ hs))
    · have e := h.next r h.ends
      have eb := h.bad r
      unfold Rd.stmts Rd.ending
      rw [e]
      by_cases hc : s.bad = -1 ∧ s.next endsP = false
      · rw [if_pos hc, if_pos ⟨eb.2 hc.1, hc.2⟩]
        exact (h.u_stmts k (h.u_stmt (h.u_limit (m := out.length) (m' := out'.length) (n := 64) (C := C) (.inr ⟨r, c⟩) (fun c => by rw [ho c, List.length_map]))) (fun q => by rw [q.2, ho q.1, List.map_append]; rfl)).mono (fun q => ⟨q.1.1, q.2⟩)
      · rw [if_neg hc, if_neg (fun q => hc ⟨eb.1 q.1, q.2⟩)]
        exact .inr ⟨r, c, ho c⟩
theorem u_term (h : Sim g D Pd R X) {s t : Rd} (u : Uc R X C s t) : Uc R X (C ∧ t.term.1 = atTerm g s.term.1) s.term.2 t.term.2 := by
  rcases u with w | ⟨r, c⟩
  · exact .inl (h.both w (fun hP hs => hP.term hs) (fun hP hs => hP.term hs))
  · have e := h.next r h.ends
    have ea := (h.at_ r).1
    unfold Rd.term Rd.ending
    rw [e, ea]
    by_cases h1 : s.next endsP = true
    · rw [if_pos h1, if_pos h1]
      have k := h.tl r h.ends h1
      have ek : t.hd.f2 = s.hd.f2 := k.1.2.1
      have ut : Uc R X C s.tl t.tl := k.2.imp id (fun q => ⟨q, c⟩)
      rw [ek]
      simp only
      by_cases k1 : endsK s.hd.f2 = 1 ∨ endsK s.hd.f2 = 4
      · simp only [if_pos k1]
        exact h.u_must ((h.u_names 1 ut (fun _ => rfl)).mono (fun q => ⟨q.1, by rw [q.2]; rfl⟩)) (h.s1 (by repeat (first | exact List.Mem.head _ | apply List.Mem.tail)))
      · by_cases k2 : endsK s.hd.f2 = 2
        · simp only [if_neg k1, if_pos k2]
          exact h.u_must ((h.u_names 2 (h.u_places 1 ut (fun _ => rfl)) (fun _ => rfl)).mono (fun q => ⟨q.1.1, by rw [q.2, q.1.2]; rfl⟩)) (h.s1 (by repeat (first | exact List.Mem.head _ | apply List.Mem.tail)))
        · by_cases k3 : endsK s.hd.f2 = 3
          · simp only [if_neg k1, if_neg k2, if_pos k3]
            exact h.u_must ((h.u_row (fun hP => hP.arm) h.u_arm rdF (h.u_places 1 ut (fun _ => rfl)) (fun _ => rfl)).mono (fun q => ⟨q.1.1, by rw [q.2, q.1.2]; rfl⟩)) (h.s1 (by repeat (first | exact List.Mem.head _ | apply List.Mem.tail)))
          · by_cases k5 : endsK s.hd.f2 = 5 ∨ endsK s.hd.f2 = 6
            · simp only [if_neg k1, if_neg k2, if_neg k3, if_pos k5]
              exact h.u_must ((h.u_names 1 (h.u_args (h.u_name (h.u_must (l := [⟨#[61]⟩]) (h.u_place ut) (h.s1 (by repeat (first | exact List.Mem.head _ | apply List.Mem.tail)))))) (fun _ => rfl)).mono (fun q => ⟨q.1.1.1.1, by rw [q.2, q.1.2, q.1.1.2, q.1.1.1.2]; rfl⟩)) (h.s1 (by repeat (first | exact List.Mem.head _ | apply List.Mem.tail)))
            · by_cases k7 : endsK s.hd.f2 = 7
              · simp only [if_neg k1, if_neg k2, if_neg k3, if_neg k5, if_pos k7]
                exact h.u_must ((h.u_places 1 ut (fun _ => rfl)).mono (fun q => ⟨q.1, by rw [q.2]; rfl⟩)) (h.s1 (by repeat (first | exact List.Mem.head _ | apply List.Mem.tail)))
              · simp only [if_neg k1, if_neg k2, if_neg k3, if_neg k5, if_neg k7]
                exact h.u_must (ut.mono (fun q => ⟨q, rfl⟩)) (h.s1 (by repeat (first | exact List.Mem.head _ | apply List.Mem.tail)))
    · rw [if_neg h1, if_neg h1]
      exact (h.fail r).imp id (fun q => ⟨q, c, rfl⟩)
theorem u_block (h : Sim g D Pd R X) {s t : Rd} (u : Uc R X C s t) : Uc R X (C ∧ t.block.1 = atBlock g s.block.1) s.block.2 t.block.2 :=
  (h.u_term (h.u_stmts rdF (h.u_must (l := [⟨#[58]⟩]) (h.u_name (h.u_at u)) (h.s1 (by repeat (first | exact List.Mem.head _ | apply List.Mem.tail)))) (out := []) (out' := []) (fun _ => rfl))).mono (fun q => ⟨q.1.1.1.1, by
    unfold Rd.block atBlock
    simp only
    rw [q.2, q.1.2, q.1.1.2, q.1.1.1.2.1]⟩)
theorem u_lets (h : Sim g D Pd R X) (np : Int) : ∀ (k : Nat) {C : Prop} {s t : Rd} {out out' : List SVar}, Uc R X C s t → (C → out' = out) → Uc R X (C ∧ (Rd.lets np k t out').1 = (Rd.lets np k s out).1) (Rd.lets np k s out).2 (Rd.lets np k t out').2
  | 0, C, s, t, out, out', u, ho => u.mono (fun c => ⟨c, ho c⟩)
  | k + 1, C, s, t, out, out', u, ho => by
    rcases h.u_may u (h.sees ⟨#[108, 101, 116]⟩ (by repeat (first | exact List.Mem.head _ | apply List.Mem.tail))) with x | ⟨r, c, e⟩
    · refine .inl (h.both x (fun hP hs => ?_) (fun hP hs => ?_)) <;> unfold Rd.lets <;> simp only <;> split
      · exact hP.lets np k _ (hP.must _ (hP.param (hP.limit _ _ hs)))
      · exact hs
      · exact hP.lets np k _ (hP.must _ (hP.param (hP.limit _ _ hs)))
      · exact hs
    · unfold Rd.lets
      simp only
      rw [e]
      split
      · exact (h.u_lets np k (h.u_must (l := [⟨#[59]⟩]) (h.u_param (h.u_limit (m := np + out.length) (m' := np + out'.length) (n := 24) (C := C) (.inr ⟨r, c⟩) (fun c => by rw [ho c]))) (h.s1 (by repeat (first | exact List.Mem.head _ | apply List.Mem.tail)))) (fun q => by rw [q.2, ho q.1])).mono (fun q => ⟨q.1.1, q.2⟩)
      · exact .inr ⟨r, c, ho c⟩
theorem u_blocks (h : Sim g D Pd R X) : ∀ (k : Nat) {C : Prop} {s t : Rd} {out out' : List SBlock}, Uc R X C s t → (C → out' = out.map (atBlock g)) → Uc R X (C ∧ (Rd.blocks k t out').1 = (Rd.blocks k s out).1.map (atBlock g)) (Rd.blocks k s out).2 (Rd.blocks k t out').2
  | 0, C, s, t, out, out', u, ho => u.mono (fun c => ⟨c, ho c⟩)
  | k + 1, C, s, t, out, out', u, ho => by
    rcases u with x | ⟨r, c⟩
    · exact .inl (h.both x (fun hP hs => hP.blocks _ _ hs) (fun hP hs => hP.blocks _ _ hs))
    · have e := h.next r (h.sees ⟨#[125]⟩ (by repeat (first | exact List.Mem.head _ | apply List.Mem.tail)))
      have eb := h.bad r
      have en : out' = [] ↔ out = [] := by rw [ho c, List.map_eq_nil_iff]
      unfold Rd.blocks Rd.sees
      rw [e]
      by_cases hc : s.bad = -1 ∧ (out = [] ∨ s.next (seesP [⟨#[125]⟩]) = false)
      · rw [if_pos hc, if_pos ⟨eb.2 hc.1, hc.2.imp en.2 id⟩]
        exact (h.u_blocks k (h.u_block (h.u_limit (m := out.length) (m' := out'.length) (n := 64) (C := C) (.inr ⟨r, c⟩) (fun c => by rw [ho c, List.length_map]))) (fun q => by rw [q.2, ho q.1, List.map_append]; rfl)).mono (fun q => ⟨q.1.1, q.2⟩)
      · rw [if_neg hc, if_neg (fun q => hc ⟨eb.1 q.1, q.2.imp en.1 id⟩)]
        exact .inr ⟨r, c, ho c⟩
theorem u_function0 (h : Sim g D Pd R X) {s t : Rd} {a a' : Int} (u : Uc R X C s t) (ha : C → a' = g a) : Uc R X (C ∧ (t.function0 a').1 = atFunc g (s.function0 a).1) (s.function0 a).2 (t.function0 a').2 := by
  rcases h.u_must (l := [⟨#[40]⟩]) (h.u_name u) (h.s1 (by repeat (first | exact List.Mem.head _ | apply List.Mem.tail))) with x | ⟨r, c, e⟩
  · refine .inl (h.both x (fun hP hs => ?_) (fun hP hs => ?_)) <;> unfold Rd.function0 <;> simp only <;> refine hP.blocks _ _ (hP.lets _ _ _ (hP.must _ (hP.plain (hP.must _ ?_)))) <;> split
    · exact hs
    · exact hP.row hP.param _ _ hs
    · exact hs
    · exact hP.row hP.param _ _ hs
  · have e2 := h.next r (h.sees ⟨#[41]⟩ (by repeat (first | exact List.Mem.head _ | apply List.Mem.tail)))
    unfold Rd.function0 Rd.sees
    simp only
    rw [e2, e, ha c]
    have up : Uc R X (C ∧ (if (Rd.must [⟨#[40]⟩] s.name.2).next (seesP [⟨#[41]⟩]) = true then (([] : List SVar), Rd.must [⟨#[40]⟩] t.name.2) else Rd.row Rd.param rdF (Rd.must [⟨#[40]⟩] t.name.2) []).1 = (if (Rd.must [⟨#[40]⟩] s.name.2).next (seesP [⟨#[41]⟩]) = true then (([] : List SVar), Rd.must [⟨#[40]⟩] s.name.2) else Rd.row Rd.param rdF (Rd.must [⟨#[40]⟩] s.name.2) []).1) (if (Rd.must [⟨#[40]⟩] s.name.2).next (seesP [⟨#[41]⟩]) = true then (([] : List SVar), Rd.must [⟨#[40]⟩] s.name.2) else Rd.row Rd.param rdF (Rd.must [⟨#[40]⟩] s.name.2) []).2 (if (Rd.must [⟨#[40]⟩] s.name.2).next (seesP [⟨#[41]⟩]) = true then (([] : List SVar), Rd.must [⟨#[40]⟩] t.name.2) else Rd.row Rd.param rdF (Rd.must [⟨#[40]⟩] t.name.2) []).2 := by
      split
      · exact .inr ⟨r, c, rfl⟩
      · exact h.u_row (fun hP => hP.param) h.u_param rdF (.inr ⟨r, c⟩) (fun _ => rfl)
    generalize (if (Rd.must [⟨#[40]⟩] s.name.2).next (seesP [⟨#[41]⟩]) = true then (([] : List SVar), Rd.must [⟨#[40]⟩] s.name.2) else Rd.row Rd.param rdF (Rd.must [⟨#[40]⟩] s.name.2) []) = p at up ⊢
    generalize (if (Rd.must [⟨#[40]⟩] s.name.2).next (seesP [⟨#[41]⟩]) = true then (([] : List SVar), Rd.must [⟨#[40]⟩] t.name.2) else Rd.row Rd.param rdF (Rd.must [⟨#[40]⟩] t.name.2) []) = p' at up ⊢
    have u3 := h.u_must (l := [⟨#[123]⟩]) (h.u_plain (h.u_must (l := [⟨#[41]⟩]) up (h.s1 (by repeat (first | exact List.Mem.head _ | apply List.Mem.tail))))) (h.s1 (by repeat (first | exact List.Mem.head _ | apply List.Mem.tail)))
    by_cases hpp : p'.1 = p.1
    · rw [hpp]
      have u4 := h.u_lets (p.1.length : Int) rdF u3 (out := []) (out' := []) (fun _ => rfl)
      exact (h.u_blocks rdF u4 (out := []) (out' := []) (fun _ => rfl)).mono (fun q => ⟨q.1.1.1.1, by unfold atFunc; simp only; rw [q.2, q.1.2, q.1.1.2]⟩)
    · have u5 : X (Rd.must [⟨#[123]⟩] (Rd.must [⟨#[41]⟩] p.2).plain.2) (Rd.must [⟨#[123]⟩] (Rd.must [⟨#[41]⟩] p'.2).plain.2) := by
        rcases u3 with x | ⟨_, q⟩
        · exact x
        · exact absurd q.1.2 hpp
      exact .inl (h.both u5 (fun hP hs => hP.blocks _ _ (hP.lets _ _ _ hs)) (fun hP hs => hP.blocks _ _ (hP.lets _ _ _ hs)))
theorem u_function1 (h : Sim g D Pd R X) {s t : Rd} {a a' : Int} (u : Uc R X C s t) (ha : C → a' = g a) : Uc R X (C ∧ (t.function1 a').1 = atFunc g (s.function1 a).1) (s.function1 a).2 (t.function1 a').2 :=
  by
  rw [Rd.function1_eq, Rd.function1_eq]
  exact h.u_must (l := [⟨#[125]⟩]) (h.u_function0 u ha) (h.s1 (by repeat (first | exact List.Mem.head _ | apply List.Mem.tail)))
theorem u_fields1 (h : Sim g D Pd R X) (least : Nat) {one : Rd → SVar × Rd} (hcl : ∀ {P : Rd → Prop}, Closed P → ∀ {s : Rd}, P s → P (one s).2)
    (hone : ∀ {C : Prop} {s t : Rd}, Uc R X C s t → Uc R X (C ∧ (one t).1 = (one s).1) (one s).2 (one t).2) : ∀ (k : Nat) {C : Prop} {s t : Rd} {out out' : List SVar}, Uc R X C s t → (C → out' = out) → Uc R X (C ∧ (Rd.fields1 least one k t out').1 = (Rd.fields1 least one k s out).1) (Rd.fields1 least one k s out).2 (Rd.fields1 least one k t out').2
  | 0, C, s, t, out, out', u, ho => u.mono (fun c => ⟨c, ho c⟩)
  | k + 1, C, s, t, out, out', u, ho => by
    rcases u with x | ⟨r, c⟩
    · exact .inl (h.both x (fun hP hs => hP.fields1 least (hcl hP) _ _ hs) (fun hP hs => hP.fields1 least (hcl hP) _ _ hs))
    · have e := h.next r (h.sees ⟨#[125]⟩ (by repeat (first | exact List.Mem.head _ | apply List.Mem.tail)))
      have eb := h.bad r
      have eo := ho c
      subst eo
      unfold Rd.fields1 Rd.sees
      rw [e]
      by_cases hc : s.bad = -1 ∧ (out'.length < least ∨ s.next (seesP [⟨#[125]⟩]) = false)
      · rw [if_pos hc, if_pos ⟨eb.2 hc.1, hc.2⟩]
        exact (h.u_fields1 least hcl hone k (h.u_must (l := [⟨#[59]⟩]) (hone (h.u_limit (m := out'.length) (m' := out'.length) (n := 16) (C := C) (.inr ⟨r, c⟩) (fun _ => rfl))) (h.s1 (by repeat (first | exact List.Mem.head _ | apply List.Mem.tail)))) (fun q => by rw [q.2])).mono (fun q => ⟨q.1.1, q.2⟩)
      · rw [if_neg hc, if_neg (fun q => hc ⟨eb.1 q.1, q.2⟩)]
        exact .inr ⟨r, c, rfl⟩
theorem u_fields0 (h : Sim g D Pd R X) (least : Nat) {one : Rd → SVar × Rd} (hcl : ∀ {P : Rd → Prop}, Closed P → ∀ {s : Rd}, P s → P (one s).2)
    (hone : ∀ {C : Prop} {s t : Rd}, Uc R X C s t → Uc R X (C ∧ (one t).1 = (one s).1) (one s).2 (one t).2) {s t : Rd} (u : Uc R X C s t) : Uc R X (C ∧ (t.fields0 least one).1 = (s.fields0 least one).1) (s.fields0 least one).2 (t.fields0 least one).2 :=
  h.u_fields1 least hcl hone rdF (h.u_must (l := [⟨#[123]⟩]) u (h.s1 (by repeat (first | exact List.Mem.head _ | apply List.Mem.tail)))) (fun _ => rfl)
theorem u_structure0 (h : Sim g D Pd R X) {s t : Rd} {a a' : Int} (u : Uc R X C s t) (ha : C → a' = g a) : Uc R X (C ∧ (t.structure0 a').1 = atStruct g (s.structure0 a).1) (s.structure0 a).2 (t.structure0 a').2 :=
  (h.u_fields0 0 (fun hP => hP.field) h.u_field (h.u_may (h.u_may (h.u_name u) (h.sees ⟨#[115, 97, 102, 101]⟩ (by repeat (first | exact List.Mem.head _ | apply List.Mem.tail)))) (h.sees ⟨#[104, 111, 111, 107]⟩ (by repeat (first | exact List.Mem.head _ | apply List.Mem.tail))))).mono (fun q => ⟨q.1.1.1.1, by
    unfold Rd.structure0 atStruct
    simp only
    rw [q.2, q.1.2, q.1.1.2, q.1.1.1.2, ha q.1.1.1.1]⟩)
theorem u_enum0 (h : Sim g D Pd R X) {s t : Rd} {a a' : Int} (u : Uc R X C s t) (ha : C → a' = g a) : Uc R X (C ∧ (t.enum0 a').1 = atEnum g (s.enum0 a).1) (s.enum0 a).2 (t.enum0 a').2 :=
  (h.u_fields0 1 (fun hP => hP.variant) h.u_variant (h.u_name u)).mono (fun q => ⟨q.1.1, by
    unfold Rd.enum0 atEnum
    simp only
    rw [q.2, q.1.2, ha q.1.1]⟩)
theorem u_structure1 (h : Sim g D Pd R X) {s t : Rd} {a a' : Int} (u : Uc R X C s t) (ha : C → a' = g a) : Uc R X (C ∧ (t.structure1 a').1 = atStruct g (s.structure1 a).1) (s.structure1 a).2 (t.structure1 a').2 :=
  by
  rw [Rd.structure1_eq, Rd.structure1_eq]
  exact h.u_must (l := [⟨#[125]⟩]) (h.u_structure0 u ha) (h.s1 (by repeat (first | exact List.Mem.head _ | apply List.Mem.tail)))
theorem u_enum1 (h : Sim g D Pd R X) {s t : Rd} {a a' : Int} (u : Uc R X C s t) (ha : C → a' = g a) : Uc R X (C ∧ (t.enum1 a').1 = atEnum g (s.enum1 a).1) (s.enum1 a).2 (t.enum1 a').2 :=
  by
  rw [Rd.enum1_eq, Rd.enum1_eq]
  exact h.u_must (l := [⟨#[125]⟩]) (h.u_enum0 u ha) (h.s1 (by repeat (first | exact List.Mem.head _ | apply List.Mem.tail)))
end Sim
end
section
open Go Go.RowKit Go.Proofs.YtmgkejobolgkmaaGreatDoorW.PrintWords Go.Proofs.YtmgkejobolgkmaaGreatDoorW.PrintLast Go.Proofs.YtmgkejobolgkmaaGreatDoorW.PrintMore
set_option linter.unusedVariables false
set_option linter.unusedSimpArgs false

structure ClosedM (P : Rd → Prop) : Prop where mk ::
  (fail : ∀ {s : Rd}, P s → P s.fail) (tl : ∀ {s : Rd}, P s → s.toks ≠ [] → P s.tl) (much : ∀ {s : Rd} (a : Int), 0 ≤ a → P s → P ⟨s.toks, s.fin, s.bad, a⟩) (at_ : ∀ {s : Rd}, P s → 0 ≤ s.at_)
namespace ClosedM
variable {P : Rd → Prop}
theorem tlp (h : ClosedM P) {s : Rd} {p : Tok → Bool} (hs : P s) (hp : s.next p = true) : P s.tl := h.tl hs (Rd.next_ne hp)
theorem more (h : ClosedM P) {s : Rd} (c : Bool) (a : Int) (ha : 0 ≤ a) (hs : P s) : P (s.more c a) := by
  unfold Rd.more
  split
  · exact h.much _ ha hs
  · exact hs
theorem limit (h : ClosedM P) {s : Rd} (m n : Int) (hs : P s) : P (s.limit m n) := h.more _ _ (h.at_ hs) hs
theorem may (h : ClosedM P) {s : Rd} (x : ByteArray) (hs : P s) : P (s.may x).2 := by
  unfold Rd.may
  split
  · exact h.tlp hs (by assumption)
  · exact hs
theorem must (h : ClosedM P) : ∀ (l : List ByteArray) {s : Rd}, P s → P (Rd.must l s)
  | [], s, hs => hs
  | x :: l, s, hs => by
    unfold Rd.must
    refine h.must l ?_
    split
    · exact h.may x hs
    · exact h.fail (h.may x hs)
theorem name (h : ClosedM P) {s : Rd} (hs : P s) : P s.name.2 := by
  unfold Rd.name
  split
  · exact h.tlp hs (by assumption)
  · exact h.fail hs
theorem names (h : ClosedM P) : ∀ (k : Nat) {s : Rd} (out : List ByteArray), P s → P (Rd.names k s out).2
  | 0, s, out, hs => hs
  | k + 1, s, out, hs => h.names k _ (h.name hs)
theorem boxes (h : ClosedM P) : ∀ (k : Nat) {s : Rd} (n : Nat) (out : ByteArray), P s → P (Rd.boxes k s n out).2
  | 0, s, n, out, hs => hs
  | k + 1, s, n, out, hs => by
    unfold Rd.boxes
    split
    · exact h.boxes k _ _ (h.may _ hs)
    · exact h.may _ hs
theorem plain (h : ClosedM P) {s : Rd} (hs : P s) : P s.plain.2 := by
  unfold Rd.plain Rd.plain2
  split
  · exact h.may _ (h.more _ _ (h.at_ hs) (h.boxes _ _ _ hs))
  · exact h.name (h.may _ (h.more _ _ (h.at_ hs) (h.boxes _ _ _ hs)))
theorem whole (h : ClosedM P) {s : Rd} (hs : P s) : P s.whole.2 := by
  unfold Rd.whole
  split
  · exact h.plain (h.tlp hs (by assumption))
  · exact h.plain hs
theorem steps (h : ClosedM P) : ∀ (k : Nat) {s : Rd} (out : List ByteArray), P s → P (Rd.steps k s out).2
  | 0, s, out, hs => hs
  | k + 1, s, out, hs => by
    unfold Rd.steps
    split
    · split
      · exact h.steps k _ (h.may _ (h.may _ hs))
      · exact h.steps k _ (h.name (h.may _ (h.may _ hs)))
    · exact h.may _ hs
theorem place (h : ClosedM P) {s : Rd} (hs : P s) : P s.place.2 := h.more _ _ (h.at_ hs) (h.steps _ _ (h.name hs))
theorem places (h : ClosedM P) : ∀ (k : Nat) {s : Rd} (out : List SPlace), P s → P (Rd.places k s out).2
  | 0, s, out, hs => hs
  | k + 1, s, out, hs => h.places k _ (h.place hs)
theorem row (h : ClosedM P) {α : Type} {one : Rd → α × Rd} (ho : ∀ {s : Rd}, P s → P (one s).2) : ∀ (k : Nat) {s : Rd} (out : List α), P s → P (Rd.row one k s out).2
  | 0, s, out, hs => hs
  | k + 1, s, out, hs => by
    unfold Rd.row
    split
    · exact h.row ho k _ (h.may _ (ho (h.limit _ _ hs)))
    · exact h.may _ (ho (h.limit _ _ hs))
theorem args (h : ClosedM P) {s : Rd} (hs : P s) : P s.args.2 := by
  unfold Rd.args
  simp only
  split
  · exact h.may _ (h.must _ hs)
  · exact h.must _ (h.row h.place _ _ (h.may _ (h.must _ hs)))
theorem more_places (h : ClosedM P) : ∀ (k : Nat) {s : Rd} (out : List SPlace), P s → P (Rd.more_places k s out).2
  | 0, s, out, hs => hs
  | k + 1, s, out, hs => by
    unfold Rd.more_places
    split
    · exact h.more_places k _ (h.place (h.limit _ _ hs))
    · exact hs
theorem value (h : ClosedM P) {s : Rd} (x : SStmt) (hs : P s) : P (s.value x).2 := by
  unfold Rd.value
  split
  · exact h.tlp hs (by assumption)
  · split
    · have ht : P s.tl := h.tlp hs (by assumption)
      simp only
      split
      · exact h.places _ _ ht
      · split
        · exact h.more_places _ _ (h.name ht)
        · split
          · split
            · exact h.places _ _ (h.name (h.must _ (h.name ht)))
            · exact h.name (h.must _ (h.name ht))
          · exact h.places _ _ ht
    · exact h.fail hs
theorem stmt (h : ClosedM P) {s : Rd} (hs : P s) : P s.stmt.2 := by
  unfold Rd.stmt
  simp only
  split
  · exact h.must _ (h.places _ _ (h.may _ hs))
  · exact h.must _ (h.value _ (h.must _ (h.place (h.may _ hs))))
theorem arm (h : ClosedM P) {s : Rd} (hs : P s) : P s.arm.2 := by
  unfold Rd.arm
  simp only
  refine h.name (h.must _ ?_)
  split
  · exact h.name (h.name hs)
  · exact h.name hs
theorem term (h : ClosedM P) {s : Rd} (hs : P s) : P s.term.2 := by
  unfold Rd.term
  split
  · have ht : P s.tl := h.tlp (p := endsP) hs (by assumption)
    simp only
    refine h.must _ ?_
    split
    · exact h.names _ _ ht
    · split
      · exact h.names _ _ (h.places _ _ ht)
      · split
        · exact h.row h.arm _ _ (h.places _ _ ht)
        · split
          · exact h.names _ _ (h.args (h.name (h.must _ (h.place ht))))
          · split
            · exact h.places _ _ ht
            · exact ht
  · exact h.fail hs
theorem stmts (h : ClosedM P) : ∀ (k : Nat) {s : Rd} (out : List SStmt), P s → P (Rd.stmts k s out).2
  | 0, s, out, hs => hs
  | k + 1, s, out, hs => by
    unfold Rd.stmts
    split
    · exact h.stmts k _ (h.stmt (h.limit _ _ hs))
    · exact hs
theorem block (h : ClosedM P) {s : Rd} (hs : P s) : P s.block.2 := h.term (h.stmts _ _ (h.must _ (h.name hs)))
theorem param (h : ClosedM P) {s : Rd} (hs : P s) : P s.param.2 := h.whole (h.name hs)
theorem field (h : ClosedM P) {s : Rd} (hs : P s) : P s.field.2 := h.plain (h.name hs)
theorem variant (h : ClosedM P) {s : Rd} (hs : P s) : P s.variant.2 := by
  unfold Rd.variant
  split
  · exact h.name hs
  · exact h.field hs
theorem lets (h : ClosedM P) (np : Int) : ∀ (k : Nat) {s : Rd} (out : List SVar), P s → P (Rd.lets np k s out).2
  | 0, s, out, hs => hs
  | k + 1, s, out, hs => by
    unfold Rd.lets
    split
    · exact h.lets np k _ (h.must _ (h.param (h.limit _ _ (h.may _ hs))))
    · exact h.may _ hs
theorem blocks (h : ClosedM P) : ∀ (k : Nat) {s : Rd} (out : List SBlock), P s → P (Rd.blocks k s out).2
  | 0, s, out, hs => hs
  | k + 1, s, out, hs => by
    unfold Rd.blocks
    split
    · exact h.blocks k _ (h.block (h.limit _ _ hs))
    · exact hs
theorem function1 (h : ClosedM P) {s : Rd} (a : Int) (hs : P s) : P (s.function1 a).2 := by
  unfold Rd.function1
  simp only
  refine h.must _ (h.blocks _ _ (h.lets _ _ _ (h.must _ (h.plain (h.must _ ?_)))))
  split
  · exact h.must _ (h.name hs)
  · exact h.row h.param _ _ (h.must _ (h.name hs))
theorem function (h : ClosedM P) {s : Rd} (hs : P s) : P s.function.2 := h.function1 _ (h.must _ hs)
theorem fields1 (h : ClosedM P) (least : Nat) {one : Rd → SVar × Rd} (ho : ∀ {s : Rd}, P s → P (one s).2) : ∀ (k : Nat) {s : Rd} (out : List SVar), P s → P (Rd.fields1 least one k s out).2
  | 0, s, out, hs => hs
  | k + 1, s, out, hs => by
    unfold Rd.fields1
    split
    · exact h.fields1 least ho k _ (h.must _ (ho (h.limit _ _ hs)))
    · exact hs
theorem fields (h : ClosedM P) (least : Nat) {one : Rd → SVar × Rd} (ho : ∀ {s : Rd}, P s → P (one s).2) {s : Rd} (hs : P s) : P (s.fields least one).2 := h.must _ (h.fields1 least ho _ _ (h.must _ hs))
theorem structure1 (h : ClosedM P) {s : Rd} (a : Int) (hs : P s) : P (s.structure1 a).2 := h.fields 0 h.field (h.may _ (h.may _ (h.name hs)))
theorem structure_ (h : ClosedM P) {s : Rd} (hs : P s) : P s.structure.2 := h.structure1 _ (h.must _ hs)
theorem enum1 (h : ClosedM P) {s : Rd} (a : Int) (hs : P s) : P (s.enum1 a).2 := h.fields 1 h.variant (h.name hs)
theorem enum (h : ClosedM P) {s : Rd} (hs : P s) : P s.enum.2 := h.enum1 _ (h.must _ hs)
theorem program (h : ClosedM P) : ∀ (k : Nat) {s : Rd} (p : SProg), P s → P (Rd.program k s p).2
  | 0, s, p, hs => hs
  | k + 1, s, p, hs => by
    unfold Rd.program
    split
    · split
      · exact h.program k _ (h.structure_ (h.limit _ _ hs))
      · split
        · exact h.program k _ (h.enum (h.limit _ _ hs))
        · split
          · exact h.program k _ (h.function (h.limit _ _ hs))
          · exact h.program k _ (h.fail hs)
    · exact hs
end ClosedM
end
section
open Go Go.RowKit Go.Proofs.YtmgkejobolgkmaaGreatDoorW.PrintWords Go.Proofs.YtmgkejobolgkmaaGreatDoorW.PrintLast Go.Proofs.YtmgkejobolgkmaaGreatDoorW.PrintMore
set_option linter.unusedVariables false
set_option linter.unusedSimpArgs false

theorem badC : Closed (fun s => s.bad ≠ -1) := ⟨fun {s} h => by
      show (if s.bad = -1 then s.at_ else s.bad) ≠ -1
      rw [if_neg h]
      exact h, fun h _ => h, fun _ h => h⟩
theorem orC {P : Rd → Prop} (h : Closed P) (Q : Prop) : Closed (fun s => P s ∨ Q) := ⟨fun k => k.imp h.fail id, fun k hn => k.imp (fun k => h.tl k hn) id, fun a k => k.imp (h.much a) id⟩
theorem or'C {P : Rd → Prop} (h : Closed P) (Q : Prop) : Closed (fun s => Q ∨ P s) := ⟨fun k => k.imp id h.fail, fun k hn => k.imp id (fun k => h.tl k hn), fun a k => k.imp id (h.much a)⟩
theorem constC (Q : Prop) : Closed (fun _ => Q) := ⟨fun k => k, fun k _ => k, fun _ k => k⟩
theorem muchC : ClosedM (fun s => s.Ok ∧ s.much ≠ -1) := ⟨fun h => ⟨okC.fail h.1, h.2⟩, fun h hn => ⟨okC.tl h.1 hn, h.2⟩, fun a ha h => ⟨okC.much a h.1, by show a ≠ -1; omega⟩, fun h => h.1.at_⟩
/-- a reader that is at its end: nothing is left, and at most what is lacking there is noted -/
def Dd (p : Int) (t : Rd) : Prop := t.toks = [] ∧ t.fin = p ∧ (t.bad = -1 ∨ t.bad = p)
theorem ddC (p : Int) : Closed (Dd p) := ⟨fun {t} h => by
    obtain ⟨h1, h2, h3⟩ := h
    have ha : t.at_ = p := by
      unfold Rd.at_
      rw [h1]
      exact h2
    have hb : (if t.bad = -1 then t.at_ else t.bad) = p := by
      split
      · exact ha
      · exact h3.resolve_left (by assumption)
    exact ⟨rfl, hb, .inr hb⟩, fun h hn => absurd h.1 hn, fun a h => h⟩
/-- in step, within the front -/
def R1 (v : List Tok) (p : Int) (s t : Rd) : Prop := (∃ u, u ≠ [] ∧ s.toks = u ++ v ∧ t.toks = u) ∧ t.bad = s.bad ∧ t.much = s.much ∧ t.fin = p ∧ s.Ok
def X1 (p : Int) (s t : Rd) : Prop := s.bad ≠ -1 ∨ Dd p t
theorem R1.head {v : List Tok} {p : Int} {s t : Rd} (h : R1 v p s t) : ∃ x l, s.toks = x :: (l ++ v) ∧ t.toks = x :: l := by
  obtain ⟨⟨u, hu, h1, h2⟩, -⟩ := h
  cases u with
  | nil => exact absurd rfl hu
  | cons x l => exact ⟨x, l, h1, h2⟩
theorem R1.next {v : List Tok} {p : Int} {s t : Rd} (h : R1 v p s t) (q : Tok → Bool) : t.next q = s.next q := by
  obtain ⟨x, l, h1, h2⟩ := h.head
  unfold Rd.next
  rw [h.2.1, h1, h2]
theorem next_bad {s : Rd} {q : Tok → Bool} (h : s.next q = true) : s.bad = -1 := by
  unfold Rd.next at h
  exact of_decide_eq_true (Bool.and_eq_true_iff.1 h).1
theorem R1.tl {v : List Tok} {p : Int} {s t : Rd} (h : R1 v p s t) (hb : s.bad = -1) : (∃ u, s.tl.toks = u ++ v ∧ t.tl.toks = u ∧ (u ≠ [] → R1 v p s.tl t.tl) ∧ (u = [] → Dd p t.tl)) ∧ t.hd = s.hd := by
  obtain ⟨x, l, h1, h2⟩ := h.head
  obtain ⟨-, h3, h4, h5, h6⟩ := h
  refine ⟨⟨l, by simp [Rd.tl, h1], by simp [Rd.tl, h2], fun hl => ⟨⟨l, hl, by simp [Rd.tl, h1], by simp [Rd.tl, h2]⟩, h3, h4, h5, okC.tl h6 (by rw [h1]; simp)⟩, fun hl => ⟨by simp [Rd.tl, h2, hl], h5, .inl (h3.trans hb)⟩⟩, ?_⟩
  unfold Rd.hd
  rw [h1, h2]
theorem sim1 (v : List Tok) (p : Int) : Sim id (fun _ => True) (fun _ => True) (R1 v p) (X1 p) where
  xl t := orC badC _
  xr s := or'C (ddC p) _
  bad h := by rw [h.2.1]
  at_ h := by
    obtain ⟨x, l, h1, h2⟩ := h.head
    refine ⟨?_, trivial⟩
    show Rd.at_ _ = Rd.at_ _
    unfold Rd.at_
    rw [h1, h2]
  next h _ := h.next _
  tl h _ hn := by
    obtain ⟨⟨u, -, -, h3, h4⟩, h5⟩ := h.tl (next_bad hn)
    refine ⟨by rw [h5]; exact ⟨rfl, rfl, rfl⟩, ?_⟩
    by_cases hu : u = []
    · exact .inl (.inr (h4 hu))
    · exact .inr (h3 hu)
  fail h := .inl (.inl (Rd.fail_bad h.2.2.2.2))
  more c h _ := by
    obtain ⟨h1, h2, h3, h4, h5⟩ := h
    refine .inr ?_
    unfold Rd.more
    simp only [id, h3]
    split
    · exact ⟨h1, h2, rfl, h4, okC.much _ h5⟩
    · exact ⟨h1, h2, h3, h4, h5⟩
  named := trivial
  num := trivial
  made := trivial
  ends := trivial
  sees _ _ := trivial
  rm := trivial
/-- behind the last sign of a declaration -/
theorem last1 {v : List Tok} {p : Int} {s t : Rd} (x : ByteArray) (u : Uc (R1 v p) (X1 p) True s t) (hp : p ≠ -1) :
    (Rd.must [x] s).bad ≠ -1 ∨ R1 v p (Rd.must [x] s) (Rd.must [x] t) ∨ ((Rd.must [x] t).bad = p ∧ (Rd.must [x] t).toks = []) ∨ (Rd.must [x] s).toks = v := by
  rcases u with (hb | hd) | ⟨r, -⟩
  · exact .inl (badC.must _ hb)
  · refine .inr (.inr (.inl ?_))
    have hm : t.may x = (false, t) := by
      unfold Rd.may Rd.sees Rd.next
      rw [hd.1]
      simp
    show (if (t.may x).1 then (t.may x).2 else (t.may x).2.fail).bad = p ∧ (if (t.may x).1 then (t.may x).2 else (t.may x).2.fail).toks = []
    rw [hm]
    have hf := (ddC p).fail hd
    refine ⟨?_, hf.1⟩
    rcases hf.2.2 with h1 | h1
    · have h2 : t.fail.fin = p := hf.2.1
      have h3 : t.fail.fin = t.fail.bad := rfl
      exact absurd (h2.symm.trans (h3.trans h1)) hp
    · exact h1
  · have hn := r.next (seesP [x])
    show (if (s.may x).1 then (s.may x).2 else (s.may x).2.fail).bad ≠ -1 ∨ R1 v p (if (s.may x).1 then (s.may x).2 else (s.may x).2.fail) (if (t.may x).1 then (t.may x).2 else (t.may x).2.fail) ∨ ((if (t.may x).1 then (t.may x).2 else (t.may x).2.fail).bad = p ∧ (if (t.may x).1 then (t.may x).2 else (t.may x).2.fail).toks = []) ∨ (if (s.may x).1 then (s.may x).2 else (s.may x).2.fail).toks = v
    unfold Rd.may Rd.sees
    rw [hn]
    by_cases h1 : s.next (seesP [x]) = true
    · rw [if_pos h1, if_pos h1]
      simp only [if_true]
      obtain ⟨⟨u, e1, e2, h3, h4⟩, h5⟩ := r.tl (next_bad h1)
      by_cases hu : u = []
      · subst hu
        exact .inr (.inr (.inr e1))
      · exact .inr (.inl (h3 hu))
    · rw [if_neg h1, if_neg h1]
      exact .inl (Rd.fail_bad r.2.2.2.2)
/-- not a declaration's word -/
def noDecl (t : Tok) : Prop := seesP [⟨#[115, 116, 114, 117, 99, 116]⟩] t = false ∧ seesP [⟨#[101, 110, 117, 109]⟩] t = false ∧ seesP [⟨#[102, 110]⟩] t = false
theorem sees_head {s : Rd} {x : Tok} {l : List Tok} (h : s.toks = x :: l) (hb : s.bad = -1) (q : Tok → Bool) : s.next q = q x := by
  unfold Rd.next
  rw [h, hb]
  rfl
/-- as many declarations of each kind -/
def Alike (P Q : SProg) : Prop := Q.f0.length = P.f0.length ∧ Q.f1.length = P.f1.length ∧ Q.f2.length = P.f2.length
theorem Rd.structure_last (z : Rd) : z.structure.2 = Rd.must [⟨#[125]⟩] (Rd.structure0 z.at_ (Rd.must [⟨#[115, 116, 114, 117, 99, 116]⟩] z)).2 := by
  unfold Rd.structure
  rw [Rd.structure1_eq]
theorem Rd.enum_last (z : Rd) : z.enum.2 = Rd.must [⟨#[125]⟩] (Rd.enum0 z.at_ (Rd.must [⟨#[101, 110, 117, 109]⟩] z)).2 := by
  unfold Rd.enum
  rw [Rd.enum1_eq]
theorem Rd.function_last (z : Rd) : z.function.2 = Rd.must [⟨#[125]⟩] (Rd.function0 z.at_ (Rd.must [⟨#[102, 110]⟩] z)).2 := by
  unfold Rd.function
  rw [Rd.function1_eq]
theorem stepA {v : List Tok} {p : Int} (hp : p ≠ -1) {t0 : Tok} {v' : List Tok} (hv : v = t0 :: v') (hn : noDecl t0) {k : Nat} (IH : ∀ (s t : Rd) (P Q : SProg), Alike P Q → R1 v p s t → s.toks.length < k → (Rd.program k s P).2.bad = -1 → (Rd.program k t Q).2.bad = p)
    {s t : Rd} {P Q : SProg} (hPQ : Alike P Q) (h : s.bad ≠ -1 ∨ R1 v p s t ∨ (t.bad = p ∧ t.toks = []) ∨ s.toks = v) (hl : s.bad ≠ -1 ∨ s.toks.length < k) (hok : s.Ok) (hf : (Rd.program k s P).2.bad = -1) : (Rd.program k t Q).2.bad = p := by
  by_cases hb : s.bad = -1
  · rcases h with h | h | h | h
    · exact absurd hb h
    · exact IH s t P Q hPQ h (hl.resolve_left (fun e => e hb)) hf
    · rw [Rd.program_out k t Q (fun e => e.2 h.2)]
      exact h.1
    · exfalso
      have hl2 := hl.resolve_left (fun e => e hb)
      cases k with
      | zero => omega
      | succ k =>
        rw [hv] at h
        unfold Rd.program at hf
        rw [if_pos ⟨hb, by rw [h]; simp⟩] at hf
        have e1 : s.sees [⟨#[115, 116, 114, 117, 99, 116]⟩] = false := (sees_head h hb _).trans hn.1
        have e2 : s.sees [⟨#[101, 110, 117, 109]⟩] = false := (sees_head h hb _).trans hn.2.1
        have e3 : s.sees [⟨#[102, 110]⟩] = false := (sees_head h hb _).trans hn.2.2
        rw [e1, e2, e3] at hf
        simp only [Bool.false_eq_true, if_false] at hf
        exact absurd hf (badC.program k _ (Rd.fail_bad hok))
  · exact absurd hf (badC.program k _ hb)
theorem tt {x : ByteArray} : ∀ y ∈ [x], (fun _ : Tok → Bool => True) (seesP [y]) := fun _ _ => trivial
theorem cutA {v : List Tok} {p : Int} (hp : p ≠ -1) {t0 : Tok} {v' : List Tok} (hv : v = t0 :: v') (hn : noDecl t0) : ∀ (k : Nat) (s t : Rd) (P Q : SProg), Alike P Q → R1 v p s t → s.toks.length < k → (Rd.program k s P).2.bad = -1 → (Rd.program k t Q).2.bad = p
  | 0, s, t, P, Q, hPQ, h, hl, hf => absurd hl (by omega)
  | k + 1, s, t, P, Q, hPQ, h, hl, hf => by
    have IH := cutA hp hv hn k
    by_cases hb : s.bad = -1
    · obtain ⟨x, l, h1, h2⟩ := h.head
      have hs : s.bad = -1 ∧ s.toks ≠ [] := ⟨hb, by rw [h1]; simp⟩
      have ht : t.bad = -1 ∧ t.toks ≠ [] := ⟨h.2.1.trans hb, by rw [h2]; simp⟩
      have hok := h.2.2.2.2
      obtain ⟨q0, q1, q2⟩ := hPQ
      unfold Rd.program at hf ⊢
      rw [if_pos hs] at hf
      rw [if_pos ht]
      have e1 : t.sees [⟨#[115, 116, 114, 117, 99, 116]⟩] = s.sees [⟨#[115, 116, 114, 117, 99, 116]⟩] := h.next _
      have e2 : t.sees [⟨#[101, 110, 117, 109]⟩] = s.sees [⟨#[101, 110, 117, 109]⟩] := h.next _
      have e3 : t.sees [⟨#[102, 110]⟩] = s.sees [⟨#[102, 110]⟩] := h.next _
      rw [e1, e2, e3]
      simp only at hf ⊢
      have S := sim1 v p
      by_cases g1 : s.sees [⟨#[115, 116, 114, 117, 99, 116]⟩] = true
      · rw [if_pos g1] at hf ⊢
        have u0 := S.u_at (S.u_limit (m := P.f0.length) (m' := Q.f0.length) (n := 16) (C := True) (.inr ⟨h, trivial⟩) (fun _ => by rw [q0]))
        have u1 := S.u_must (l := [⟨#[115, 116, 114, 117, 99, 116]⟩]) u0 tt
        have u2 := (S.u_structure0 (a := (s.limit P.f0.length 16).at_) (a' := (t.limit Q.f0.length 16).at_) u1 (fun c => c.2.1)).mono (fun _ => trivial)
        have hx := last1 ⟨#[125]⟩ u2 hp
        rw [← Rd.structure_last, ← Rd.structure_last] at hx
        refine stepA hp hv hn IH ?_ hx (Rd.structure_prog (okC.limit _ _ hok) (by rw [Rd.limit_toks]; omega)) (okC.structure_ (okC.limit _ _ hok)) hf
        exact ⟨by simp only [List.length_append, List.length_singleton, q0], q1, q2⟩
      · rw [if_neg g1] at hf ⊢
        by_cases g2 : s.sees [⟨#[101, 110, 117, 109]⟩] = true
        · rw [if_pos g2] at hf ⊢
          have u0 := S.u_at (S.u_limit (m := P.f1.length) (m' := Q.f1.length) (n := 16) (C := True) (.inr ⟨h, trivial⟩) (fun _ => by rw [q1]))
          have u1 := S.u_must (l := [⟨#[101, 110, 117, 109]⟩]) u0 tt
          have u2 := (S.u_enum0 (a := (s.limit P.f1.length 16).at_) (a' := (t.limit Q.f1.length 16).at_) u1 (fun c => c.2.1)).mono (fun _ => trivial)
          have hx := last1 ⟨#[125]⟩ u2 hp
          rw [← Rd.enum_last, ← Rd.enum_last] at hx
          refine stepA hp hv hn IH ?_ hx (Rd.enum_prog (okC.limit _ _ hok) (by rw [Rd.limit_toks]; omega)) (okC.enum (okC.limit _ _ hok)) hf
          exact ⟨q0, by simp only [List.length_append, List.length_singleton, q1], q2⟩
        · rw [if_neg g2] at hf ⊢
          by_cases g3 : s.sees [⟨#[102, 110]⟩] = true
          · rw [if_pos g3] at hf ⊢
            have u0 := S.u_at (S.u_limit (m := P.f2.length) (m' := Q.f2.length) (n := 16) (C := True) (.inr ⟨h, trivial⟩) (fun _ => by rw [q2]))
            have u1 := S.u_must (l := [⟨#[102, 110]⟩]) u0 tt
            have u2 := (S.u_function0 (a := (s.limit P.f2.length 16).at_) (a' := (t.limit Q.f2.length 16).at_) u1 (fun c => c.2.1)).mono (fun _ => trivial)
            have hx := last1 ⟨#[125]⟩ u2 hp
            rw [← Rd.function_last, ← Rd.function_last] at hx
            refine stepA hp hv hn IH ?_ hx (Rd.function_prog (okC.limit _ _ hok) (by rw [Rd.limit_toks]; omega)) (okC.function (okC.limit _ _ hok)) hf
            exact ⟨q0, q1, by simp only [List.length_append, List.length_singleton, q2]⟩
          · rw [if_neg g3] at hf
            exact absurd hf (badC.program k _ (Rd.fail_bad hok))
    · unfold Rd.program at hf
      rw [if_neg (fun e => hb e.1)] at hf
      exact absurd hf hb
/-- a declaration's word -/
def declTok (t : Tok) : Prop := t.f0 = 2 ∧ (t.f2 = ⟨#[115, 116, 114, 117, 99, 116]⟩ ∨ t.f2 = ⟨#[101, 110, 117, 109]⟩ ∨ t.f2 = ⟨#[102, 110]⟩)
/-- in step, as long as the front lasts -/
def R2 (t0 : Tok) (v' : List Tok) (p : Int) (s t : Rd) : Prop := (∃ u, s.toks = u ++ t0 :: v' ∧ t.toks = u) ∧ t.bad = s.bad ∧ t.much = s.much ∧ t.fin = p ∧ t0.f1 = p ∧ s.Ok
def X2 (s t : Rd) : Prop := s.bad ≠ -1
theorem R2.next {t0 : Tok} {v' : List Tok} {p : Int} {s t : Rd} (h : R2 t0 v' p s t) {q : Tok → Bool} (hq : q t0 = false) : t.next q = s.next q := by
  obtain ⟨⟨u, h1, h2⟩, h3, -⟩ := h
  unfold Rd.next
  rw [h1, h2, h3]
  cases u with
  | nil => simp [hq]
  | cons x l => rfl
theorem R2.nextx {t0 : Tok} {v' : List Tok} {p : Int} {s t : Rd} (h : R2 t0 v' p s t) (hne : t.toks ≠ []) (q : Tok → Bool) : t.next q = s.next q := by
  obtain ⟨⟨u, h1, h2⟩, h3, -⟩ := h
  unfold Rd.next
  rw [h1, h2, h3]
  cases u with
  | nil => exact absurd h2 hne
  | cons x l => rfl
theorem R2.tl {t0 : Tok} {v' : List Tok} {p : Int} {s t : Rd} (h : R2 t0 v' p s t) (hne : t.toks ≠ []) : R2 t0 v' p s.tl t.tl ∧ t.hd = s.hd := by
  obtain ⟨⟨u, h1, h2⟩, h3, h4, h5, h6, h7⟩ := h
  cases u with
  | nil => exact absurd h2 hne
  | cons x l =>
    refine ⟨⟨⟨l, by simp [Rd.tl, h1], by simp [Rd.tl, h2]⟩, h3, h4, h5, h6, okC.tl h7 (by rw [h1]; simp)⟩, ?_⟩
    unfold Rd.hd
    rw [h1, h2]
    rfl
theorem sim2 (t0 : Tok) (v' : List Tok) (p : Int) (hd : declTok t0) : Sim id (fun _ => True) (fun q => q t0 = false) (R2 t0 v' p) X2 where
  xl t := badC
  xr s := constC _
  bad h := by rw [h.2.1]
  at_ h := by
    obtain ⟨⟨u, h1, h2⟩, h3, h4, h5, h6, h7⟩ := h
    refine ⟨?_, trivial⟩
    show Rd.at_ _ = Rd.at_ _
    unfold Rd.at_
    rw [h1, h2]
    cases u with
    | nil => exact h5.trans h6.symm
    | cons x l => rfl
  next h hq := h.next hq
  tl h hq hn := by
    have hne : _ ≠ [] := Rd.next_ne ((h.next hq).trans hn)
    obtain ⟨h1, h2⟩ := h.tl hne
    exact ⟨by rw [h2]; exact ⟨rfl, rfl, rfl⟩, .inr h1⟩
  fail h := .inl (Rd.fail_bad h.2.2.2.2.2)
  more c h _ := by
    obtain ⟨h1, h2, h3, h4, h5, h6⟩ := h
    refine .inr ?_
    unfold Rd.more
    simp only [id, h3]
    split
    · exact ⟨h1, h2, rfl, h4, h5, okC.much _ h6⟩
    · exact ⟨h1, h2, h3, h4, h5, h6⟩
  named := by
    show (t0.f0 == 1) = false
    rw [hd.1]
    rfl
  num := by
    show (t0.f0 == 3) = false
    rw [hd.1]
    rfl
  made := by
    show (madeK t0.f2 != 0) = false
    rcases hd.2 with e | e | e <;> rw [e] <;> decide
  ends := by
    show (endsK t0.f2 != 0) = false
    rcases hd.2 with e | e | e <;> rw [e] <;> decide
  sees x hx := by
    have hin : ∀ x ∈ insideB, hasT [x] ⟨#[115, 116, 114, 117, 99, 116]⟩ = false ∧ hasT [x] ⟨#[101, 110, 117, 109]⟩ = false ∧ hasT [x] ⟨#[102, 110]⟩ = false := by
      have hall : (insideB.all fun x => !hasT [x] ⟨#[115, 116, 114, 117, 99, 116]⟩ && (!hasT [x] ⟨#[101, 110, 117, 109]⟩ && !hasT [x] ⟨#[102, 110]⟩)) = true := by kernel_rfl
      intro x hx
      have := List.all_eq_true.1 hall x hx
      simpa using this
    show ((t0.f0 == 2 || t0.f0 == 4) && hasT [x] t0.f2) = false
    obtain ⟨e1, e2, e3⟩ := hin x hx
    rcases hd.2 with e | e | e <;> rw [e]
    · rw [e1, Bool.and_false]
    · rw [e2, Bool.and_false]
    · rw [e3, Bool.and_false]
  rm := by
    have h1 : hasT [⟨#[114, 101, 102]⟩, ⟨#[109, 117, 116]⟩] ⟨#[115, 116, 114, 117, 99, 116]⟩ = false := by kernel_rfl
    have h2 : hasT [⟨#[114, 101, 102]⟩, ⟨#[109, 117, 116]⟩] ⟨#[101, 110, 117, 109]⟩ = false := by kernel_rfl
    have h3 : hasT [⟨#[114, 101, 102]⟩, ⟨#[109, 117, 116]⟩] ⟨#[102, 110]⟩ = false := by kernel_rfl
    show ((t0.f0 == 2 || t0.f0 == 4) && hasT [⟨#[114, 101, 102]⟩, ⟨#[109, 117, 116]⟩] t0.f2) = false
    rcases hd.2 with e | e | e <;> rw [e]
    · rw [h1, Bool.and_false]
    · rw [h2, Bool.and_false]
    · rw [h3, Bool.and_false]
theorem limit_bad (s : Rd) (m n : Int) : (s.limit m n).bad = s.bad := by
  unfold Rd.limit Rd.more
  split <;> rfl
theorem R2.must {t0 : Tok} {v' : List Tok} {p : Int} {s t : Rd} (h : R2 t0 v' p s t) (x : ByteArray) (hne : t.toks ≠ []) (hn : s.next (seesP [x]) = true) : R2 t0 v' p (Rd.must [x] s) (Rd.must [x] t) := by
  have hn2 := (h.nextx hne (seesP [x])).trans hn
  show R2 t0 v' p (if (s.may x).1 then (s.may x).2 else (s.may x).2.fail) (if (t.may x).1 then (t.may x).2 else (t.may x).2.fail)
  unfold Rd.may Rd.sees
  rw [if_pos hn, if_pos hn2]
  exact (h.tl hne).1
/-- how many declarations there are -/
def cnt (P : SProg) : Nat := P.f0.length + P.f1.length + P.f2.length
theorem prog_len : ∀ (k : Nat) (s : Rd) (P : SProg), cnt P ≤ cnt (Rd.program k s P).1
  | 0, s, P => Nat.le_refl _
  | k + 1, s, P => by
    unfold Rd.program
    simp only
    split
    · split
      · refine Nat.le_trans ?_ (prog_len k _ _)
        unfold cnt
        simp only [List.length_append, List.length_singleton]
        omega
      · split
        · refine Nat.le_trans ?_ (prog_len k _ _)
          unfold cnt
          simp only [List.length_append, List.length_singleton]
          omega
        · split
          · refine Nat.le_trans ?_ (prog_len k _ _)
            unfold cnt
            simp only [List.length_append, List.length_singleton]
            omega
          · exact prog_len k _ _
    · exact Nat.le_refl _
theorem cutW {t0 : Tok} {v' : List Tok} {p : Int} (hd : declTok t0) (hp : t0.f1 = p) : ∀ (k : Nat) (s t : Rd) (P Q : SProg), Alike P Q → R2 t0 v' p s t → s.toks.length < k → (Rd.program k s P).2.bad = -1 → (Rd.program k s P).2.much = -1 →
    (Rd.program k t Q).2.bad = -1 ∧ (Rd.program k t Q).2.much = -1 ∧ cnt (Rd.program k t Q).1 ≤ cnt (Rd.program k s P).1
  | 0, s, t, P, Q, hPQ, h, hl, hf, hm => absurd hl (by omega)
  | k + 1, s, t, P, Q, hPQ, h, hl, hf, hm => by
    have hok := h.2.2.2.2.2
    by_cases hb : s.bad = -1
    · by_cases hu : t.toks = []
      · have e := Rd.program_out (k + 1) t Q (fun e => e.2 hu)
        rw [e]
        refine ⟨h.2.1.trans hb, ?_, ?_⟩
        · by_cases hmm : s.much = -1
          · exact h.2.2.1.trans hmm
          · exact absurd hm (muchC.program (k + 1) P ⟨hok, hmm⟩).2
        · refine Nat.le_trans ?_ (prog_len _ s P)
          obtain ⟨q0, q1, q2⟩ := hPQ
          show Q.f0.length + Q.f1.length + Q.f2.length ≤ P.f0.length + P.f1.length + P.f2.length
          omega
      · obtain ⟨q0, q1, q2⟩ := hPQ
        have h2 := hu
        obtain ⟨⟨u, h1, h2'⟩, -⟩ := id h
        have hs : s.bad = -1 ∧ s.toks ≠ [] := ⟨hb, by rw [h1]; simp⟩
        have ht : t.bad = -1 ∧ t.toks ≠ [] := ⟨h.2.1.trans hb, hu⟩
        obtain ⟨x, l, h2⟩ : ∃ x l, t.toks = x :: l := by
          cases ht2 : t.toks with
          | nil => exact absurd ht2 hu
          | cons x l => exact ⟨x, l, rfl⟩
        unfold Rd.program at hf hm ⊢
        rw [if_pos hs] at hf hm
        rw [if_pos ht, if_pos hs]
        have e1 : t.sees [⟨#[115, 116, 114, 117, 99, 116]⟩] = s.sees [⟨#[115, 116, 114, 117, 99, 116]⟩] := h.nextx hu _
        have e2 : t.sees [⟨#[101, 110, 117, 109]⟩] = s.sees [⟨#[101, 110, 117, 109]⟩] := h.nextx hu _
        have e3 : t.sees [⟨#[102, 110]⟩] = s.sees [⟨#[102, 110]⟩] := h.nextx hu _
        rw [e1, e2, e3]
        simp only at hf hm ⊢
        have S := sim2 t0 v' p hd
        by_cases g1 : s.sees [⟨#[115, 116, 114, 117, 99, 116]⟩] = true
        · rw [if_pos g1] at hf hm
          rw [if_pos g1, if_pos g1]
          have r0 : R2 t0 v' p (s.limit P.f0.length 16) (t.limit Q.f0.length 16) := by
            have u0 := S.u_limit (m := P.f0.length) (m' := Q.f0.length) (n := 16) (C := True) (.inr ⟨h, trivial⟩) (fun _ => by rw [q0])
            exact (u0.resolve_left (fun e => e (by rw [limit_bad]; exact hb))).1
          have hx1 : (s.limit P.f0.length 16).next (seesP [⟨#[115, 116, 114, 117, 99, 116]⟩]) = true := by rw [Rd.limit_next]; exact g1
          have hne : (t.limit Q.f0.length 16).toks ≠ [] := by rw [Rd.limit_toks, h2]; simp
          have ea : (t.limit Q.f0.length 16).at_ = (s.limit P.f0.length 16).at_ := (S.at_ r0).1
          have u1 : Uc (R2 t0 v' p) X2 True _ _ := .inr ⟨r0.must ⟨#[115, 116, 114, 117, 99, 116]⟩ hne hx1, trivial⟩
          have u2 := (S.u_structure1 (a := (s.limit P.f0.length 16).at_) (a' := (t.limit Q.f0.length 16).at_) u1 (fun _ => ea)).mono (fun _ => trivial)
          have hbx : (s.limit P.f0.length 16).structure.2.bad = -1 := by
            by_cases hbx : (s.limit P.f0.length 16).structure.2.bad = -1
            · exact hbx
            · exact absurd hf (badC.program k _ hbx)
          have r2 : R2 t0 v' p (s.limit P.f0.length 16).structure.2 (t.limit Q.f0.length 16).structure.2 := (u2.resolve_left (fun e => e hbx)).1
          have hl2 := (Rd.structure_prog (okC.limit P.f0.length 16 hok) (n := k) (by rw [Rd.limit_toks]; omega)).resolve_left (fun e => e hbx)
          exact cutW hd hp k _ _ _ _ ⟨by simp only [List.length_append, List.length_singleton, q0], q1, q2⟩ r2 hl2 hf hm
        · rw [if_neg g1] at hf hm
          rw [if_neg g1, if_neg g1]
          by_cases g2 : s.sees [⟨#[101, 110, 117, 109]⟩] = true
          · rw [if_pos g2] at hf hm
            rw [if_pos g2, if_pos g2]
            have r0 : R2 t0 v' p (s.limit P.f1.length 16) (t.limit Q.f1.length 16) := by
              have u0 := S.u_limit (m := P.f1.length) (m' := Q.f1.length) (n := 16) (C := True) (.inr ⟨h, trivial⟩) (fun _ => by rw [q1])
              exact (u0.resolve_left (fun e => e (by rw [limit_bad]; exact hb))).1
            have hx1 : (s.limit P.f1.length 16).next (seesP [⟨#[101, 110, 117, 109]⟩]) = true := by rw [Rd.limit_next]; exact g2
            have hne : (t.limit Q.f1.length 16).toks ≠ [] := by rw [Rd.limit_toks, h2]; simp
            have ea : (t.limit Q.f1.length 16).at_ = (s.limit P.f1.length 16).at_ := (S.at_ r0).1
            have u1 : Uc (R2 t0 v' p) X2 True _ _ := .inr ⟨r0.must ⟨#[101, 110, 117, 109]⟩ hne hx1, trivial⟩
            have u2 := (S.u_enum1 (a := (s.limit P.f1.length 16).at_) (a' := (t.limit Q.f1.length 16).at_) u1 (fun _ => ea)).mono (fun _ => trivial)
            have hbx : (s.limit P.f1.length 16).enum.2.bad = -1 := by
              by_cases hbx : (s.limit P.f1.length 16).enum.2.bad = -1
              · exact hbx
              · exact absurd hf (badC.program k _ hbx)
            have r2 : R2 t0 v' p (s.limit P.f1.length 16).enum.2 (t.limit Q.f1.length 16).enum.2 := (u2.resolve_left (fun e => e hbx)).1
            have hl2 := (Rd.enum_prog (okC.limit P.f1.length 16 hok) (n := k) (by rw [Rd.limit_toks]; omega)).resolve_left (fun e => e hbx)
            exact cutW hd hp k _ _ _ _ ⟨q0, by simp only [List.length_append, List.length_singleton, q1], q2⟩ r2 hl2 hf hm
          · rw [if_neg g2] at hf hm
            rw [if_neg g2, if_neg g2]
            by_cases g3 : s.sees [⟨#[102, 110]⟩] = true
            · rw [if_pos g3] at hf hm
              rw [if_pos g3, if_pos g3]
              have r0 : R2 t0 v' p (s.limit P.f2.length 16) (t.limit Q.f2.length 16) := by
                have u0 := S.u_limit (m := P.f2.length) (m' := Q.f2.length) (n := 16) (C := True) (.inr ⟨h, trivial⟩) (fun _ => by rw [q2])
                exact (u0.resolve_left (fun e => e (by rw [limit_bad]; exact hb))).1
              have hx1 : (s.limit P.f2.length 16).next (seesP [⟨#[102, 110]⟩]) = true := by rw [Rd.limit_next]; exact g3
              have hne : (t.limit Q.f2.length 16).toks ≠ [] := by rw [Rd.limit_toks, h2]; simp
              have ea : (t.limit Q.f2.length 16).at_ = (s.limit P.f2.length 16).at_ := (S.at_ r0).1
              have u1 : Uc (R2 t0 v' p) X2 True _ _ := .inr ⟨r0.must ⟨#[102, 110]⟩ hne hx1, trivial⟩
              have u2 := (S.u_function1 (a := (s.limit P.f2.length 16).at_) (a' := (t.limit Q.f2.length 16).at_) u1 (fun _ => ea)).mono (fun _ => trivial)
              have hbx : (s.limit P.f2.length 16).function.2.bad = -1 := by
                by_cases hbx : (s.limit P.f2.length 16).function.2.bad = -1
                · exact hbx
                · exact absurd hf (badC.program k _ hbx)
              have r2 : R2 t0 v' p (s.limit P.f2.length 16).function.2 (t.limit Q.f2.length 16).function.2 := (u2.resolve_left (fun e => e hbx)).1
              have hl2 := (Rd.function_prog (okC.limit P.f2.length 16 hok) (n := k) (by rw [Rd.limit_toks]; omega)).resolve_left (fun e => e hbx)
              exact cutW hd hp k _ _ _ _ ⟨q0, q1, by simp only [List.length_append, List.length_singleton, q2]⟩ r2 hl2 hf hm
            · rw [if_neg g3] at hf
              exact absurd hf (badC.program k _ (Rd.fail_bad hok))
    · unfold Rd.program at hf
      rw [if_neg (fun e => hb e.1)] at hf
      exact absurd hf hb
/-- of a program's tokens: what a front is -/
theorem cut_plain (T : List Tok) (n : Int) (hT : Rd.Ok ⟨T, n, -1, -1⟩) (cut : Nat) (t0 : Tok) (v' : List Tok) (hcut : T.drop cut = t0 :: v') (P : SProg) (hfull : parseT T n = (P, [])) :
    (cut ≠ 0 → noDecl t0 → (parseT (T.take cut) t0.f1).2 = [(t0.f1, 2)]) ∧ ((cut = 0 ∨ declTok t0) → (parseT (T.take cut) t0.f1).2 = [] ∧ cnt (parseT (T.take cut) t0.f1).1 ≤ cnt P) := by
  have hmem : t0 ∈ T := List.mem_of_mem_drop (by rw [hcut]; exact List.mem_cons_self)
  have hp0 : 0 ≤ t0.f1 := (hT.tok t0 hmem).2
  have hTT : T = T.take cut ++ t0 :: v' := by rw [← hcut, List.take_append_drop]
  have hF : (Rd.program rdF ⟨T, n, -1, -1⟩ prog0).2.bad = -1 ∧ (Rd.program rdF ⟨T, n, -1, -1⟩ prog0).2.much = -1 ∧ (Rd.program rdF ⟨T, n, -1, -1⟩ prog0).1 = P := by
    unfold parseT at hfull
    simp only at hfull
    split at hfull
    · simp at hfull
    · rename_i hb
      split at hfull
      · simp at hfull
      · rename_i hm
        simp only [Prod.mk.injEq, and_true] at hfull
        exact ⟨Decidable.not_not.1 hb, Decidable.not_not.1 hm, hfull⟩
  have hlen : (⟨T, n, -1, -1⟩ : Rd).toks.length < rdF := by
    have := hT.len
    show T.length < 100001
    have h2 : T.length ≤ 100000 := this
    omega
  obtain ⟨hb, hm, hP⟩ := hF
  refine ⟨fun hc hn => ?_, fun hw => ?_⟩
  · have hr : R1 (t0 :: v') t0.f1 ⟨T, n, -1, -1⟩ ⟨T.take cut, t0.f1, -1, -1⟩ := by
      refine ⟨⟨T.take cut, ?_, hTT, rfl⟩, rfl, rfl, rfl, hT⟩
      intro e
      have hl := congrArg List.length hTT
      rw [e] at hl
      have hd := congrArg List.length hcut
      rw [List.length_drop] at hd
      simp only [List.nil_append, List.length_cons] at hl hd
      omega
    have h := cutA (p := t0.f1) (by omega) rfl hn rdF _ _ prog0 prog0 ⟨rfl, rfl, rfl⟩ hr hlen hb
    unfold parseT
    simp only
    rw [if_pos (by rw [h]; omega), h]
  · have key : (Rd.program rdF ⟨T.take cut, t0.f1, -1, -1⟩ prog0).2.bad = -1 ∧ (Rd.program rdF ⟨T.take cut, t0.f1, -1, -1⟩ prog0).2.much = -1 ∧ cnt (Rd.program rdF ⟨T.take cut, t0.f1, -1, -1⟩ prog0).1 ≤ cnt P := by
      rcases hw with h0 | hd
      · have e := Rd.program_out rdF ⟨T.take cut, t0.f1, -1, -1⟩ prog0 (fun e => e.2 (by rw [h0]; rfl))
        rw [e]
        exact ⟨rfl, rfl, Nat.zero_le _⟩
      · have hr : R2 t0 v' t0.f1 ⟨T, n, -1, -1⟩ ⟨T.take cut, t0.f1, -1, -1⟩ := ⟨⟨T.take cut, hTT, rfl⟩, rfl, rfl, rfl, rfl, hT⟩
        have h := cutW hd rfl rdF _ _ prog0 prog0 ⟨rfl, rfl, rfl⟩ hr hlen hb hm
        rw [hP] at h
        exact h
    unfold parseT
    simp only
    rw [if_neg (by rw [key.1]; decide), if_neg (by rw [key.2.1]; decide)]
    exact ⟨rfl, key.2.2⟩
end
section
open Go.RowKit Go.Proofs.YtmgkejobolgkmaaGreatDoorW.PrintWords Go.Proofs.YtmgkejobolgkmaaGreatDoorW.PrintLast Go.Proofs.YtmgkejobolgkmaaGreatDoorW.PrintMore
set_option linter.unusedVariables false
set_option linter.unusedSimpArgs false

theorem span_take (p : Int → Bool) (d : Nat) : ∀ (l : List UInt8), spanN p (l.take (spanN p l + d)) = spanN p l
  | [] => by simp
  | c :: l => by
    rw [spanN_cons]
    by_cases h : p (c.toNat : Int) = true
    · rw [if_pos h, show spanN p l + 1 + d = (spanN p l + d) + 1 by omega, List.take_succ_cons, spanN_cons, if_pos h, span_take p d l]
    · rw [if_neg h]
      cases d with
      | zero => simp [spanN]
      | succ d => rw [Nat.zero_add, List.take_succ_cons, spanN_cons, if_neg h]
theorem tokB_take {c : UInt8} {l : List UInt8} {k v : Int} {m : Nat} (h : tokB (c :: l) = some (k, m + 1, v)) (d : Nat) : tokB (c :: l.take (m + d)) = some (k, m + 1, v) := by
  have hcons : c :: l.take (m + d) = (c :: l).take (m + 1 + d) := by rw [show m + 1 + d = (m + d) + 1 by omega, List.take_succ_cons]
  by_cases hc : isLetB (c.toNat : Int) = true
  · rw [tokB_let hc] at h ⊢
    split at h
    · simp only [Option.some.injEq, Prod.mk.injEq] at h
      obtain ⟨h1, h2, h3⟩ := h
      have e : spanN innerB (c :: l.take (m + d)) = spanN innerB (c :: l) := by rw [hcons, ← h2, span_take]
      rw [e]
      rename_i hs
      rw [if_pos hs]
      have e2 : (c :: l.take (m + d)).take (spanN innerB (c :: l)) = (c :: l).take (spanN innerB (c :: l)) := by
        rw [hcons, List.take_take, h2, Nat.min_eq_left (by omega)]
      rw [e2]
      simp only [Option.some.injEq, Prod.mk.injEq]
      exact ⟨h1, h2, h3⟩
    · cases h
  · by_cases h2 : c = 45 ∨ isDig c = true
    · rw [tokB_num hc h2] at h ⊢
      split at h
      · cases h
      · rename_i hn
        simp only [Option.some.injEq, Prod.mk.injEq] at h
        obtain ⟨k1, k2, k3⟩ := h
        have em : spanN isDigB l = m := by omega
        have e : spanN isDigB (l.take (m + d)) = spanN isDigB l := by rw [← em, span_take]
        have eD : digsOf c (l.take (m + d)) = digsOf c l := by
          unfold digsOf
          rw [e, em]
          split
          · rw [List.take_take, Nat.min_eq_left (by omega)]
          · rw [hcons, List.take_take, Nat.min_eq_left (by omega)]
        rw [eD, e, if_neg hn]
        simp only [Option.some.injEq, Prod.mk.injEq]
        exact ⟨k1, k2, k3⟩
    · rw [tokB_sign hc h2] at h ⊢
      exact h
/-- the tokens of a text's front -/
theorem Lexes.front {i : Nat} {l : List UInt8} {R : Except Nat (List S42)} (h : Lexes i l R) : ∀ ts, R = .ok ts → ∀ (cut : Nat) (t : S42), ts[cut]? = some t → ∃ d : Nat, t.f1 = ((i + d : Nat) : Int) ∧ d ≤ l.length ∧ Lexes i (l.take d) (.ok (ts.take cut)) := by
  induction h with
  | nil i =>
    intro ts hR cut t ht
    cases hR
    simp at ht
  | @blank i c l R hb _ ih =>
    intro ts hR cut t ht
    obtain ⟨d, h1, h2, h3⟩ := ih ts hR cut t ht
    exact ⟨d + 1, by rw [h1]; omega, by simp only [List.length_cons]; omega, by rw [List.take_succ_cons]; exact .blank hb h3⟩
  | @remark i l R _ ih =>
    intro ts hR cut t ht
    obtain ⟨d, h1, h2, h3⟩ := ih ts hR cut t ht
    have hle := spanN_le notLF l
    rw [List.length_drop] at h2
    refine ⟨spanN notLF l + d + 1, by rw [h1]; omega, by simp only [List.length_cons]; omega, ?_⟩
    rw [List.take_succ_cons]
    refine .remark ?_
    rw [span_take, List.drop_take, show spanN notLF l + d - spanN notLF l = d by omega]
    exact h3
  | @bad i c l hb h35 ht => intro ts hR; cases hR
  | @tok i c l R k v m hb h35 ht hR2 ih =>
    intro ts hR cut t htc
    cases R with
    | error p => cases hR
    | ok l2 =>
      unfold consR at hR
      injection hR with hR
      subst hR
      cases cut with
      | zero =>
        simp at htc
        subst htc
        exact ⟨0, rfl, Nat.zero_le _, .nil i⟩
      | succ cut =>
        simp only [List.getElem?_cons_succ] at htc
        obtain ⟨d, h1, h2, h3⟩ := ih l2 rfl cut t htc
        have hm := (tokB_pos ht).2
        simp only [List.length_cons] at hm
        rw [List.length_drop] at h2
        refine ⟨m + d + 1, by rw [h1]; omega, by simp only [List.length_cons]; omega, ?_⟩
        rw [List.take_succ_cons, List.take_succ_cons]
        have hx : (c :: l.take (m + d)).take (m + 1) = (c :: l).take (m + 1) := by
          rw [List.take_succ_cons, List.take_succ_cons, List.take_take, Nat.min_eq_left (by omega)]
        have := Lexes.tok (i := i) (c := c) (l := l.take (m + d)) (m := m) (R := .ok (l2.take cut)) hb h35 (tokB_take ht d) (by rw [List.drop_take, show m + d - m = d by omega]; exact h3)
        rw [hx] at this
        exact this
theorem word3 : wordB ⟨#[115, 116, 114, 117, 99, 116]⟩ = true ∧ wordB ⟨#[101, 110, 117, 109]⟩ = true ∧ wordB ⟨#[102, 110]⟩ = true := ⟨by kernel_rfl, by kernel_rfl, by kernel_rfl⟩
/-- what tokens are like -/
theorem Lexes.like {i : Nat} {l : List UInt8} {R : Except Nat (List S42)} (h : Lexes i l R) : ∀ ts, R = .ok ts → ∀ t ∈ ts, t.f2.size ≤ l.length ∧ (i : Int) ≤ t.f1 ∧ ((t.f2 = ⟨#[115, 116, 114, 117, 99, 116]⟩ ∨ t.f2 = ⟨#[101, 110, 117, 109]⟩ ∨ t.f2 = ⟨#[102, 110]⟩) → t.f0 = 2) := by
  induction h with
  | nil i =>
    intro ts hR t ht
    cases hR
    cases ht
  | @blank i c l R hb _ ih =>
    intro ts hR t ht
    obtain ⟨h1, h2, h3⟩ := ih ts hR t ht
    exact ⟨by simp only [List.length_cons]; omega, by omega, h3⟩
  | @remark i l R _ ih =>
    intro ts hR t ht
    obtain ⟨h1, h2, h3⟩ := ih ts hR t ht
    rw [List.length_drop] at h1
    exact ⟨by simp only [List.length_cons]; omega, by omega, h3⟩
  | @bad i c l hb h35 ht => intro ts hR; cases hR
  | @tok i c l R k v m hb h35 ht hR2 ih =>
    intro ts hR t htm
    cases R with
    | error p => cases hR
    | ok l2 =>
      unfold consR at hR
      injection hR with hR
      subst hR
      rcases List.mem_cons.1 htm with rfl | htm
      · refine ⟨?_, by simp, fun hw => ?_⟩
        · show ((c :: l).take (m + 1)).toArray.size ≤ _
          rw [List.size_toArray, List.length_take]
          exact Nat.min_le_right _ _
        · have hc : ∀ (x : UInt8) (r : List UInt8), (⟨((c :: l).take (m + 1)).toArray⟩ : ByteArray) = ⟨(x :: r).toArray⟩ → c = x := by
            intro x r e
            have := congrArg (fun b : ByteArray => b.data.toList) e
            simp only [List.take_succ_cons, List.toList_toArray, List.cons.injEq] at this
            exact this.1
          have hl : isLetB (c.toNat : Int) = true := by
            rcases hw with e | e | e
            · rw [hc 115 [116, 114, 117, 99, 116] e]
              decide
            · rw [hc 101 [110, 117, 109] e]
              decide
            · rw [hc 102 [110] e]
              decide
          rw [tokB_let hl] at ht
          split at ht
          · simp only [Option.some.injEq, Prod.mk.injEq] at ht
            obtain ⟨k1, k2, k3⟩ := ht
            rw [k2] at k1
            have hwb : wordB ⟨((c :: l).take (m + 1)).toArray⟩ = true := by
              rcases hw with e | e | e
              · exact (congrArg wordB e).trans word3.1
              · exact (congrArg wordB e).trans word3.2.1
              · exact (congrArg wordB e).trans word3.2.2
            rw [hwb] at k1
            exact k1.symm
          · cases ht
      · obtain ⟨h1, h2, h3⟩ := ih l2 rfl t htm
        rw [List.length_drop] at h1
        exact ⟨by simp only [List.length_cons]; omega, by omega, h3⟩
end
end Go.Proofs.YtmgkejobolgkmaaGreatDoor.PL
