/- Package parse, in plain words: what its reader reads as a program. Package parse, in plain words: what its smallest steps keep, its reader keeps. Package parse's reader: how its functions' contracts fit together; must and limit. Package parse's reader: names, plain, whole. Package parse's reader: plain and whole. Package parse's reader: place. Package parse's reader: param, field, variant, arm. Package parse's reader: places, and rows of things with a sign between each two. Package parse's reader: args. -/
import Derived.Test.YtmgkejobolgkmaaGreatDoorPaNext
import Derived.Deep.RegionHeldLaw
import Derived.Deep.RegionLaw
import Derived.Laws.Concat
import Derived.Defers
namespace Go.Proofs.YtmgkejobolgkmaaGreatDoor.PL
section
open Go Go.RowKit Go.Proofs.YtmgkejobolgkmaaGreatDoorW.PrintWords Go.Proofs.YtmgkejobolgkmaaGreatDoorW.PrintLast Go.Proofs.YtmgkejobolgkmaaGreatDoorW.PrintMore
set_option linter.unusedVariables false
set_option linter.unusedSimpArgs false

abbrev SVar := S99
abbrev SStruct := S77
abbrev SEnum := S80
abbrev SPlace := S50
abbrev SStmt := S53
abbrev SArm := S92
abbrev STerm := S57
abbrev SBlock := S59
abbrev SFunc := S63
abbrev SProg := S27
/-- how many rounds a loop may take: more than there are tokens -/
abbrev rdF : Nat := 100001
/-- the earliest place of what is more than there may be, if c -/
def Rd.more (s : Rd) (c : Bool) (at_ : Int) : Rd := if c && (decide (s.much = -1) || decide (at_ < s.much)) then ⟨s.toks, s.fin, s.bad, at_⟩ else s
def Rd.limit (s : Rd) (many most : Int) : Rd := s.more (decide (most ≤ many)) s.at_
def Rd.names : Nat → Rd → List ByteArray → List ByteArray × Rd
  | 0, s, out => (out, s)
  | k + 1, s, out => Rd.names k s.name.2 (out ++ [s.name.1])
/-- box, so often -/
def Rd.boxes : Nat → Rd → Nat → ByteArray → (Nat × ByteArray) × Rd
  | 0, s, n, out => ((n, out), s)
  | k + 1, s, n, out => if (s.may ⟨#[98, 111, 120]⟩).1 then Rd.boxes k (s.may ⟨#[98, 111, 120]⟩).2 (n + 1) (out ++ ⟨#[98, 111, 120, 32]⟩) else ((n, out), (s.may ⟨#[98, 111, 120]⟩).2)
def Rd.plain2 (r : (Nat × ByteArray) × Rd) (first : Int) : ByteArray × Rd :=
  if ((r.2.more (decide (8 < r.1.1)) first).may ⟨#[105, 110, 116]⟩).1 then (r.1.2 ++ ⟨#[105, 110, 116]⟩, ((r.2.more (decide (8 < r.1.1)) first).may ⟨#[105, 110, 116]⟩).2)
  else (r.1.2 ++ ((r.2.more (decide (8 < r.1.1)) first).may ⟨#[105, 110, 116]⟩).2.name.1, ((r.2.more (decide (8 < r.1.1)) first).may ⟨#[105, 110, 116]⟩).2.name.2)
def Rd.plain (s : Rd) : ByteArray × Rd := Rd.plain2 (Rd.boxes rdF s 0 ⟨#[]⟩) s.at_
def Rd.whole (s : Rd) : ByteArray × Rd := if s.sees [⟨#[114, 101, 102]⟩, ⟨#[109, 117, 116]⟩] then (s.hd.f2 ++ ⟨#[32]⟩ ++ s.tl.plain.1, s.tl.plain.2) else s.plain
def Rd.steps : Nat → Rd → List ByteArray → List ByteArray × Rd
  | 0, s, out => (out, s)
  | k + 1, s, out =>
    if (s.may ⟨#[46]⟩).1 then
      (if ((s.may ⟨#[46]⟩).2.may ⟨#[42]⟩).1 then Rd.steps k ((s.may ⟨#[46]⟩).2.may ⟨#[42]⟩).2 (out ++ [⟨#[42]⟩])
        else Rd.steps k ((s.may ⟨#[46]⟩).2.may ⟨#[42]⟩).2.name.2 (out ++ [((s.may ⟨#[46]⟩).2.may ⟨#[42]⟩).2.name.1]))
    else (out, (s.may ⟨#[46]⟩).2)
def Rd.place (s : Rd) : SPlace × Rd :=
  (⟨s.name.1, (Rd.steps rdF s.name.2 []).1⟩, (Rd.steps rdF s.name.2 []).2.more (decide (8 < (Rd.steps rdF s.name.2 []).1.length)) s.at_)
def Rd.places : Nat → Rd → List SPlace → List SPlace × Rd
  | 0, s, out => (out, s)
  | k + 1, s, out => Rd.places k s.place.2 (out ++ [s.place.1])
/-- things with a sign between each two -/
def Rd.row {α : Type} (one : Rd → α × Rd) : Nat → Rd → List α → List α × Rd
  | 0, s, out => (out, s)
  | k + 1, s, out =>
    if ((one (s.limit out.length 16)).2.may ⟨#[44]⟩).1 then Rd.row one k ((one (s.limit out.length 16)).2.may ⟨#[44]⟩).2 (out ++ [(one (s.limit out.length 16)).1])
    else (out ++ [(one (s.limit out.length 16)).1], ((one (s.limit out.length 16)).2.may ⟨#[44]⟩).2)
def Rd.args (s : Rd) : List SPlace × Rd :=
  let s1 := Rd.must [⟨#[40]⟩] s
  let r := s1.may ⟨#[41]⟩
  if r.1 then ([], r.2) else ((Rd.row Rd.place rdF r.2 []).1, Rd.must [⟨#[41]⟩] (Rd.row Rd.place rdF r.2 []).2)
/-- the kinds of statements by their words -/
def madeK (x : ByteArray) : Int :=
  if x.data.toList = [97, 100, 100] then 2 else if x.data.toList = [115, 117, 98] then 3 else if x.data.toList = [108, 101, 115, 115] then 4 else if x.data.toList = [117, 115, 101] then 5
  else if x.data.toList = [98, 111, 120] then 6 else if x.data.toList = [110, 101, 119] then 7 else if x.data.toList = [116, 97, 103] then 8 else if x.data.toList = [114, 101, 102] then 9
  else if x.data.toList = [109, 117, 116] then 10 else 0
def endsK (x : ByteArray) : Int :=
  if x.data.toList = [103, 111, 116, 111] then 1 else if x.data.toList = [105, 102] then 2 else if x.data.toList = [109, 97, 116, 99, 104] then 3 else if x.data.toList = [99, 104, 101, 99, 107] then 4
  else if x.data.toList = [99, 97, 108, 108] then 5 else if x.data.toList = [99, 97, 116, 99, 104] then 6 else if x.data.toList = [114, 101, 116, 117, 114, 110] then 7 else 0
def madeP (t : Tok) : Bool := madeK t.f2 != 0
def endsP (t : Tok) : Bool := endsK t.f2 != 0
/-- places with names ahead of each, as long as there are names -/
def Rd.more_places : Nat → Rd → List SPlace → List SPlace × Rd
  | 0, s, out => (out, s)
  | k + 1, s, out => if s.named then Rd.more_places k (s.limit out.length 16).place.2 (out ++ [(s.limit out.length 16).place.1]) else (out, s)
/-- what a statement makes -/
def Rd.value (s : Rd) (x : SStmt) : SStmt × Rd :=
  if s.next numP then ({x with f1 := 1, f3 := s.hd.f3}, s.tl)
  else if s.next madeP then
    let k := madeK s.hd.f2
    let y := {x with f1 := k}
    let u := s.tl
    if k = 2 ∨ k = 3 ∨ k = 4 then ({y with f6 := (Rd.places 2 u []).1}, (Rd.places 2 u []).2)
    else if k = 7 then ({y with f4 := u.name.1, f6 := (Rd.more_places rdF u.name.2 x.f6).1}, (Rd.more_places rdF u.name.2 x.f6).2)
    else if k = 8 then
      let v := Rd.must [⟨#[46]⟩] u.name.2
      if v.name.2.named then ({y with f4 := u.name.1, f5 := v.name.1, f6 := (Rd.places 1 v.name.2 []).1}, (Rd.places 1 v.name.2 []).2)
      else ({y with f4 := u.name.1, f5 := v.name.1}, v.name.2)
    else ({y with f6 := (Rd.places 1 u []).1}, (Rd.places 1 u []).2)
  else (x, s.fail)
def stmt0 (a : Int) : SStmt := ⟨a, 0, ⟨⟨#[]⟩, []⟩, 0, ⟨#[]⟩, ⟨#[]⟩, []⟩
def Rd.stmt (s : Rd) : SStmt × Rd :=
  let r := s.may ⟨#[111, 117, 116]⟩
  if r.1 then ({stmt0 s.at_ with f1 := 11, f6 := (Rd.places 1 r.2 []).1}, Rd.must [⟨#[59]⟩] (Rd.places 1 r.2 []).2)
  else
    let v := (Rd.must [⟨#[61]⟩] r.2.place.2).value {stmt0 s.at_ with f2 := r.2.place.1}
    (v.1, Rd.must [⟨#[59]⟩] v.2)
/-- a variant of a match -/
def Rd.arm (s : Rd) : SArm × Rd :=
  let r := s.name
  let q := if r.2.named then r.2.name else (⟨#[]⟩, r.2)
  let v := (Rd.must [⟨#[58]⟩] q.2).name
  (⟨r.1, q.1, v.1⟩, v.2)
def Rd.ending (s : Rd) : Bool := s.next endsP
def term0 (a : Int) : STerm := ⟨a, 0, ⟨⟨#[]⟩, []⟩, ⟨#[]⟩, [], [], []⟩
def Rd.term (s : Rd) : STerm × Rd :=
  if s.ending then
    let k := endsK s.hd.f2
    let u := s.tl
    let t := {term0 s.at_ with f1 := k}
    let r := if k = 1 ∨ k = 4 then ({t with f5 := (Rd.names 1 u []).1}, (Rd.names 1 u []).2)
      else if k = 2 then
        let p := Rd.places 1 u []
        let n := Rd.names 2 p.2 []
        ({t with f4 := p.1, f5 := n.1}, n.2)
      else if k = 3 then
        let p := Rd.places 1 u []
        let n := Rd.row Rd.arm rdF p.2 []
        ({t with f4 := p.1, f6 := n.1}, n.2)
      else if k = 5 ∨ k = 6 then
        let p := u.place
        let n := (Rd.must [⟨#[61]⟩] p.2).name
        let a := n.2.args
        let b := Rd.names 1 a.2 []
        ({t with f2 := p.1, f3 := n.1, f4 := a.1, f5 := b.1}, b.2)
      else if k = 7 then ({t with f4 := (Rd.places 1 u []).1}, (Rd.places 1 u []).2)
      else (t, u)
    (r.1, Rd.must [⟨#[59]⟩] r.2)
  else (term0 s.at_, s.fail)
def Rd.stmts : Nat → Rd → List SStmt → List SStmt × Rd
  | 0, s, out => (out, s)
  | k + 1, s, out => if s.bad = -1 ∧ s.ending = false then Rd.stmts k (s.limit out.length 64).stmt.2 (out ++ [(s.limit out.length 64).stmt.1]) else (out, s)
def Rd.block (s : Rd) : SBlock × Rd :=
  let n := s.name
  let u := Rd.must [⟨#[58]⟩] n.2
  let r := Rd.stmts rdF u []
  let t := r.2.term
  (⟨s.at_, n.1, r.1, t.1⟩, t.2)
def Rd.param (s : Rd) : SVar × Rd := (⟨s.name.1, s.name.2.whole.1⟩, s.name.2.whole.2)
def Rd.field (s : Rd) : SVar × Rd := (⟨s.name.1, s.name.2.plain.1⟩, s.name.2.plain.2)
def Rd.variant (s : Rd) : SVar × Rd := if s.name.2.sees [⟨#[59]⟩] then (⟨s.name.1, ⟨#[]⟩⟩, s.name.2) else s.field
def Rd.lets (np : Int) : Nat → Rd → List SVar → List SVar × Rd
  | 0, s, out => (out, s)
  | k + 1, s, out =>
    if (s.may ⟨#[108, 101, 116]⟩).1 then
      let r := ((s.may ⟨#[108, 101, 116]⟩).2.limit (np + out.length) 24).param
      Rd.lets np k (Rd.must [⟨#[59]⟩] r.2) (out ++ [r.1])
    else (out, (s.may ⟨#[108, 101, 116]⟩).2)
def Rd.blocks : Nat → Rd → List SBlock → List SBlock × Rd
  | 0, s, out => (out, s)
  | k + 1, s, out => if s.bad = -1 ∧ (out = [] ∨ s.sees [⟨#[125]⟩] = false) then Rd.blocks k (s.limit out.length 64).block.2 (out ++ [(s.limit out.length 64).block.1]) else (out, s)
def Rd.function1 (a : Int) (s : Rd) : SFunc × Rd :=
  let n := s.name
  let u := Rd.must [⟨#[40]⟩] n.2
  let p := if u.sees [⟨#[41]⟩] then ([], u) else Rd.row Rd.param rdF u []
  let r := (Rd.must [⟨#[41]⟩] p.2).plain
  let v := Rd.must [⟨#[123]⟩] r.2
  let l := Rd.lets p.1.length rdF v []
  let b := Rd.blocks rdF l.2 []
  (⟨a, n.1, p.1, l.1, r.1, b.1⟩, Rd.must [⟨#[125]⟩] b.2)
def Rd.function (s : Rd) : SFunc × Rd := Rd.function1 s.at_ (Rd.must [⟨#[102, 110]⟩] s)
def Rd.fields1 (least : Nat) (one : Rd → SVar × Rd) : Nat → Rd → List SVar → List SVar × Rd
  | 0, s, out => (out, s)
  | k + 1, s, out => if s.bad = -1 ∧ (out.length < least ∨ s.sees [⟨#[125]⟩] = false) then Rd.fields1 least one k (Rd.must [⟨#[59]⟩] (one (s.limit out.length 16)).2) (out ++ [(one (s.limit out.length 16)).1]) else (out, s)
def Rd.fields (s : Rd) (least : Nat) (one : Rd → SVar × Rd) : List SVar × Rd :=
  let u := Rd.must [⟨#[123]⟩] s
  let r := Rd.fields1 least one rdF u []
  (r.1, Rd.must [⟨#[125]⟩] r.2)
def Rd.structure1 (a : Int) (s : Rd) : SStruct × Rd :=
  let n := s.name
  let b := n.2.may ⟨#[115, 97, 102, 101]⟩
  let h := b.2.may ⟨#[104, 111, 111, 107]⟩
  let f := h.2.fields 0 Rd.field
  (⟨a, n.1, b.1, h.1, f.1⟩, f.2)
def Rd.structure (s : Rd) : SStruct × Rd := Rd.structure1 s.at_ (Rd.must [⟨#[115, 116, 114, 117, 99, 116]⟩] s)
def Rd.enum1 (a : Int) (s : Rd) : SEnum × Rd :=
  let n := s.name
  let f := n.2.fields 1 Rd.variant
  (⟨a, n.1, f.1⟩, f.2)
def Rd.enum (s : Rd) : SEnum × Rd := Rd.enum1 s.at_ (Rd.must [⟨#[101, 110, 117, 109]⟩] s)
def Rd.program : Nat → Rd → SProg → SProg × Rd
  | 0, s, p => (p, s)
  | k + 1, s, p =>
    if s.bad = -1 ∧ s.toks ≠ [] then
      if s.sees [⟨#[115, 116, 114, 117, 99, 116]⟩] then
        let r := (s.limit p.f0.length 16).structure
        Rd.program k r.2 ⟨p.f0 ++ [r.1], p.f1, p.f2⟩
      else if s.sees [⟨#[101, 110, 117, 109]⟩] then
        let r := (s.limit p.f1.length 16).enum
        Rd.program k r.2 ⟨p.f0, p.f1 ++ [r.1], p.f2⟩
      else if s.sees [⟨#[102, 110]⟩] then
        let r := (s.limit p.f2.length 16).function
        Rd.program k r.2 ⟨p.f0, p.f1, p.f2 ++ [r.1]⟩
      else Rd.program k s.fail p
    else (p, s)
def prog0 : SProg := ⟨[], [], []⟩
/-- what tokens are, as a program -/
def parseT (l : List Tok) (n : Int) : SProg × List (Int × Int) :=
  let r := Rd.program rdF ⟨l, n, -1, -1⟩ prog0
  if r.2.bad ≠ -1 then (prog0, [(r.2.bad, 2)]) else if r.2.much ≠ -1 then (prog0, [(r.2.much, 3)]) else (r.1, [])
end
section
open Go Go.RowKit Go.Proofs.YtmgkejobolgkmaaGreatDoorW.PrintWords Go.Proofs.YtmgkejobolgkmaaGreatDoorW.PrintLast Go.Proofs.YtmgkejobolgkmaaGreatDoorW.PrintMore
set_option linter.unusedVariables false
set_option linter.unusedSimpArgs false

structure Closed (P : Rd → Prop) : Prop where mk ::
  (fail : ∀ {s : Rd}, P s → P s.fail) (tl : ∀ {s : Rd}, P s → s.toks ≠ [] → P s.tl) (much : ∀ {s : Rd} (a : Int), P s → P ⟨s.toks, s.fin, s.bad, a⟩)
namespace Closed
variable {P : Rd → Prop}
theorem tlp (h : Closed P) {s : Rd} {p : Tok → Bool} (hs : P s) (hp : s.next p = true) : P s.tl := h.tl hs (Rd.next_ne hp)
theorem more (h : Closed P) {s : Rd} (c : Bool) (a : Int) (hs : P s) : P (s.more c a) := by
  unfold Rd.more
  split
  · exact h.much _ hs
  · exact hs
theorem limit (h : Closed P) {s : Rd} (m n : Int) (hs : P s) : P (s.limit m n) := h.more _ _ hs
theorem may (h : Closed P) {s : Rd} (x : ByteArray) (hs : P s) : P (s.may x).2 := by
  unfold Rd.may
  split
  · exact h.tlp hs (by assumption)
  · exact hs
theorem must (h : Closed P) : ∀ (l : List ByteArray) {s : Rd}, P s → P (Rd.must l s)
  | [], s, hs => hs
  | x :: l, s, hs => by
    unfold Rd.must
    refine h.must l ?_
    split
    · exact h.may x hs
    · exact h.fail (h.may x hs)
theorem name (h : Closed P) {s : Rd} (hs : P s) : P s.name.2 := by
  unfold Rd.name
  split
  · exact h.tlp hs (by assumption)
  · exact h.fail hs
theorem names (h : Closed P) : ∀ (k : Nat) {s : Rd} (out : List ByteArray), P s → P (Rd.names k s out).2
  | 0, s, out, hs => hs
  | k + 1, s, out, hs => h.names k _ (h.name hs)
theorem boxes (h : Closed P) : ∀ (k : Nat) {s : Rd} (n : Nat) (out : ByteArray), P s → P (Rd.boxes k s n out).2
  | 0, s, n, out, hs => hs
  | k + 1, s, n, out, hs => by
    unfold Rd.boxes
    split
    · exact h.boxes k _ _ (h.may _ hs)
    · exact h.may _ hs
theorem plain (h : Closed P) {s : Rd} (hs : P s) : P s.plain.2 := by
  unfold Rd.plain Rd.plain2
  split
  · exact h.may _ (h.more _ _ (h.boxes _ _ _ hs))
  · exact h.name (h.may _ (h.more _ _ (h.boxes _ _ _ hs)))
theorem whole (h : Closed P) {s : Rd} (hs : P s) : P s.whole.2 := by
  unfold Rd.whole
  split
  · exact h.plain (h.tlp hs (by assumption))
  · exact h.plain hs
theorem steps (h : Closed P) : ∀ (k : Nat) {s : Rd} (out : List ByteArray), P s → P (Rd.steps k s out).2
  | 0, s, out, hs => hs
  | k + 1, s, out, hs => by
    unfold Rd.steps
    split
    · split
      · exact h.steps k _ (h.may _ (h.may _ hs))
      · exact h.steps k _ (h.name (h.may _ (h.may _ hs)))
    · exact h.may _ hs
theorem place (h : Closed P) {s : Rd} (hs : P s) : P s.place.2 := h.more _ _ (h.steps _ _ (h.name hs))
theorem places (h : Closed P) : ∀ (k : Nat) {s : Rd} (out : List SPlace), P s → P (Rd.places k s out).2
  | 0, s, out, hs => hs
  | k + 1, s, out, hs => h.places k _ (h.place hs)
theorem row (h : Closed P) {α : Type} {one : Rd → α × Rd} (ho : ∀ {s : Rd}, P s → P (one s).2) : ∀ (k : Nat) {s : Rd} (out : List α), P s → P (Rd.row one k s out).2
  | 0, s, out, hs => hs
  | k + 1, s, out, hs => by
    unfold Rd.row
    split
    · exact h.row ho k _ (h.may _ (ho (h.limit _ _ hs)))
    · exact h.may _ (ho (h.limit _ _ hs))
theorem args (h : Closed P) {s : Rd} (hs : P s) : P s.args.2 := by
  unfold Rd.args
  simp only
  split
  · exact h.may _ (h.must _ hs)
  · exact h.must _ (h.row h.place _ _ (h.may _ (h.must _ hs)))
theorem more_places (h : Closed P) : ∀ (k : Nat) {s : Rd} (out : List SPlace), P s → P (Rd.more_places k s out).2
  | 0, s, out, hs => hs
  | k + 1, s, out, hs => by
    unfold Rd.more_places
    split
    · exact h.more_places k _ (h.place (h.limit _ _ hs))
    · exact hs
theorem value (h : Closed P) {s : Rd} (x : SStmt) (hs : P s) : P (s.value x).2 := by
  unfold Rd.value
  split
  · exact h.tlp hs (by assumption)
  · split
    · have ht : P s.tl := h.tlp hs (by assumption)
      simp only
      split
      · exact h.places _ _ ht
      · split
        · exact h.more_places _ _ (h.name ht)
        · split
          · split
            · exact h.places _ _ (h.name (h.must _ (h.name ht)))
            · exact h.name (h.must _ (h.name ht))
          · exact h.places _ _ ht
    · exact h.fail hs
theorem stmt (h : Closed P) {s : Rd} (hs : P s) : P s.stmt.2 := by
  unfold Rd.stmt
  simp only
  split
  · exact h.must _ (h.places _ _ (h.may _ hs))
  · exact h.must _ (h.value _ (h.must _ (h.place (h.may _ hs))))
theorem arm (h : Closed P) {s : Rd} (hs : P s) : P s.arm.2 := by
  unfold Rd.arm
  simp only
  refine h.name (h.must _ ?_)
  split
  · exact h.name (h.name hs)
  · exact h.name hs
theorem term (h : Closed P) {s : Rd} (hs : P s) : P s.term.2 := by
  unfold Rd.term
  split
  · have ht : P s.tl := h.tlp (p := endsP) hs (by assumption)
    simp only
    refine h.must _ ?_
    split
    · exact h.names _ _ ht
    · split
      · exact h.names _ _ (h.places _ _ ht)
      · split
        · exact h.row h.arm _ _ (h.places _ _ ht)
        · split
          · exact h.names _ _ (h.args (h.name (h.must _ (h.place ht))))
          · split
            · exact h.places _ _ ht
            · exact ht
  · exact h.fail hs
theorem stmts (h : Closed P) : ∀ (k : Nat) {s : Rd} (out : List SStmt), P s → P (Rd.stmts k s out).2
  | 0, s, out, hs => hs
  | k + 1, s, out, hs => by
    unfold Rd.stmts
    split
    · exact h.stmts k _ (h.stmt (h.limit _ _ hs))
    · exact hs
theorem block (h : Closed P) {s : Rd} (hs : P s) : P s.block.2 := h.term (h.stmts _ _ (h.must _ (h.name hs)))
theorem param (h : Closed P) {s : Rd} (hs : P s) : P s.param.2 := h.whole (h.name hs)
theorem field (h : Closed P) {s : Rd} (hs : P s) : P s.field.2 := h.plain (h.name hs)
theorem variant (h : Closed P) {s : Rd} (hs : P s) : P s.variant.2 := by
  unfold Rd.variant
  split
  · exact h.name hs
  · exact h.field hs
theorem lets (h : Closed P) (np : Int) : ∀ (k : Nat) {s : Rd} (out : List SVar), P s → P (Rd.lets np k s out).2
  | 0, s, out, hs => hs
  | k + 1, s, out, hs => by
    unfold Rd.lets
    split
    · exact h.lets np k _ (h.must _ (h.param (h.limit _ _ (h.may _ hs))))
    · exact h.may _ hs
theorem blocks (h : Closed P) : ∀ (k : Nat) {s : Rd} (out : List SBlock), P s → P (Rd.blocks k s out).2
  | 0, s, out, hs => hs
  | k + 1, s, out, hs => by
    unfold Rd.blocks
    split
    · exact h.blocks k _ (h.block (h.limit _ _ hs))
    · exact hs
theorem function1 (h : Closed P) {s : Rd} (a : Int) (hs : P s) : P (s.function1 a).2 := by
  unfold Rd.function1
  simp only
  refine h.must _ (h.blocks _ _ (h.lets _ _ _ (h.must _ (h.plain (h.must _ ?_)))))
  split
  · exact h.must _ (h.name hs)
  · exact h.row h.param _ _ (h.must _ (h.name hs))
theorem function (h : Closed P) {s : Rd} (hs : P s) : P s.function.2 := h.function1 _ (h.must _ hs)
theorem fields1 (h : Closed P) (least : Nat) {one : Rd → SVar × Rd} (ho : ∀ {s : Rd}, P s → P (one s).2) : ∀ (k : Nat) {s : Rd} (out : List SVar), P s → P (Rd.fields1 least one k s out).2
  | 0, s, out, hs => hs
  | k + 1, s, out, hs => by
    unfold Rd.fields1
    split
    · exact h.fields1 least ho k _ (h.must _ (ho (h.limit _ _ hs)))
    · exact hs
theorem fields (h : Closed P) (least : Nat) {one : Rd → SVar × Rd} (ho : ∀ {s : Rd}, P s → P (one s).2) {s : Rd} (hs : P s) : P (s.fields least one).2 := h.must _ (h.fields1 least ho _ _ (h.must _ hs))
theorem structure1 (h : Closed P) {s : Rd} (a : Int) (hs : P s) : P (s.structure1 a).2 := h.fields 0 h.field (h.may _ (h.may _ (h.name hs)))
theorem structure_ (h : Closed P) {s : Rd} (hs : P s) : P s.structure.2 := h.structure1 _ (h.must _ hs)
theorem enum1 (h : Closed P) {s : Rd} (a : Int) (hs : P s) : P (s.enum1 a).2 := h.fields 1 h.variant (h.name hs)
theorem enum (h : Closed P) {s : Rd} (hs : P s) : P s.enum.2 := h.enum1 _ (h.must _ hs)
theorem program (h : Closed P) : ∀ (k : Nat) {s : Rd} (p : SProg), P s → P (Rd.program k s p).2
  | 0, s, p, hs => hs
  | k + 1, s, p, hs => by
    unfold Rd.program
    split
    · split
      · exact h.program k _ (h.structure_ (h.limit _ _ hs))
      · split
        · exact h.program k _ (h.enum (h.limit _ _ hs))
        · split
          · exact h.program k _ (h.function (h.limit _ _ hs))
          · exact h.program k _ (h.fail hs)
    · exact hs
end Closed
end
section
open Go Go.RowKit Go.Proofs.YtmgkejobolgkmaaGreatDoorW.PrintWords Go.Proofs.YtmgkejobolgkmaaGreatDoorW.PrintLast Go.Proofs.YtmgkejobolgkmaaGreatDoorW.PrintMore
set_option linter.unusedVariables false
set_option linter.unusedSimpArgs false

theorem Blk.grown {W W' : World} {g t : Nat} {cs : Array Value} {row : Option Nat} (h : Blk W g cs t) (hg : W.grownBy W' row) (hne : some g ≠ row) : Blk W' g cs t := ⟨(hg.block g h.lt hne).trans h.out⟩
theorem RdIn.app {w0 W W' : World} {B : Nat} {s : Rd} {row : Option Nat} (h : RdIn w0 W B s) (hg : W.grownBy W' row) (hne : some B ≠ row) (hr : ∀ q, row = some q → w0.heap.size ≤ q) : RdIn w0 W' B s := by
  obtain ⟨A, c, h1, h2, h3, h4, h5, h6⟩ := h
  refine ⟨A, c, h1.grown hg hne, h2, h3, ?_, h5, h6⟩
  exact ⟨hg.os.trans h4.os, hg.tape.trans h4.tape, hg.output.trans h4.output, Nat.le_trans h4.size hg.size, fun k hk => (hg.block k (Nat.lt_of_lt_of_le hk h4.size) (fun e => by have := hr k e.symm; omega)).trans (h4.block k hk)⟩
theorem RdIn.base {w0 W : World} {B : Nat} {s : Rd} (h : RdIn w0 W B s) : w0.heap.size ≤ W.heap.size := by
  obtain ⟨A, c, h1, h2, h3, h4, h5, h6⟩ := h
  exact h4.size
theorem RdIn.len {w0 W : World} {B : Nat} {s : Rd} (h : RdIn w0 W B s) : s.toks.length ≤ 100000 := by
  obtain ⟨A, c, h1, h2, h3, h4, h5, h6⟩ := h
  exact h6
/-- a reader's box B at W, since W0: all else that lay in W0 lies as it lay -/
structure PS (w0 W0 W : World) (B : Nat) (s : Rd) : Prop where mk ::
  (r : RdIn w0 W B s) (g : W0.grownBy W (some B)) (b : B < W0.heap.size) (z : w0.heap.size ≤ W0.heap.size)
namespace PS
variable {w0 W0 W W' : World} {B : Nat} {s s' : Rd}
theorem start (h : RdIn w0 W B s) : PS w0 W W B s := ⟨h, grown_refl _ _, h.lt, h.base⟩
theorem of (h : RdIn w0 W B s) (hr : RdIn w0 W' B s') (hg : W.grownBy W' (some B)) : PS w0 W W' B s' := ⟨hr, hg, h.lt, h.base⟩
theorem size (h : PS w0 W0 W B s) : W0.heap.size ≤ W.heap.size := h.g.size
theorem on (h : PS w0 W0 W B s) (k : PS w0 W W' B s') : PS w0 W0 W' B s' := ⟨k.r, grown_trans h.g k.g, h.b, h.z⟩
theorem bel (h : PS w0 W0 W B s) (k : Below W.heap.size W W') : PS w0 W0 W' B s := ⟨h.r.below k, grown_trans h.g (grown_below k), h.b, h.z⟩
theorem alloc (h : PS w0 W0 W B s) (o : Obj) : PS w0 W0 (W.alloc o) B s := h.bel (below_alloc (Below.refl _ _) o)
theorem app (h : PS w0 W0 W B s) {row : Option Nat} (k : W.grownBy W' row) (hr : ∀ q, row = some q → W0.heap.size ≤ q) : PS w0 W0 W' B s :=
  ⟨h.r.app k (fun e => by have := hr B e.symm; have := h.b; omega) (fun q e => Nat.le_trans h.z (hr q e)),
    ⟨k.os.trans h.g.os, k.tape.trans h.g.tape, k.output.trans h.g.output, Nat.le_trans h.g.size k.size, fun q hq hne => (k.block q (Nat.lt_of_lt_of_le hq h.g.size) (fun e => by have := hr q e.symm; omega)).trans (h.g.block q hq hne)⟩, h.b, h.z⟩
theorem set (h : PS w0 W0 W B s) {p : Addr} (hp : W0.heap.size ≤ p.block) (u : Value) : PS w0 W0 (W.setCell p u) B s := h.app (grown_set W p u) (fun q e => by cases e; exact hp)
theorem drewN (h : PS w0 W0 W B s) (n : Nat) : PS w0 W0 (W.drewN n) B s := h.bel (pw_below_drewN (Below.refl _ _) n)
theorem blk (h : PS w0 W0 W B s) {g t : Nat} {cs : Array Value} (hb : Blk W0 g cs t) (hne : g ≠ B) : Blk W g cs t := hb.grown h.g (fun e => by cases e; exact hne rfl)
end PS
/-- an own row of things -/
abbrev RW {α : Type} (d : Kd α) (e : Nat) (W : World) (base : Nat) (v : Value) (xs : List α) : Prop := d.R e W base (fun _ => True) v xs
theorem RW.grown {α : Type} {d : Kd α} {e base : Nat} {W W1 : World} {v : Value} {xs : List α} (h : RW d e W base v xs) {B : Nat} (hg : W.grownBy W1 (some B)) (hB : B < base) : RW d e W1 base v xs :=
  Kd.R_mono (Kd.R_move (Kd.R_bound h) (fun k hk => hg.block k hk.2.2.1 (fun e => by cases e; have := hk.2.1; omega))) (fun _ _ => trivial)
theorem RW.ps {α : Type} {d : Kd α} {e base : Nat} {W W1 w0 : World} {v : Value} {xs : List α} {B : Nat} {s : Rd} (h : RW d e W base v xs) (hp : PS w0 W W1 B s) (hB : B < base) : RW d e W1 base v xs := h.grown hp.g hB
theorem RW.bel {α : Type} {d : Kd α} {e base : Nat} {W W1 : World} {v : Value} {xs : List α} (h : RW d e W base v xs) (hb : Below W.heap.size W W1) : RW d e W1 base v xs := Kd.R_below h hb
theorem RW.nil {α : Type} (d : Kd α) (e base : Nat) (W : World) : RW d e W base (.slice none 0 0) [] := Kd.R_nil _ _ _ _ _
/-- a thing's cells, its rows made since -/
abbrev MW {α : Type} (d : Kd α) (W : World) (base : Nat) (x : α) (cs : List Value) : Prop := d.M W base (fun _ => True) x cs
theorem MW.grown {α : Type} {d : Kd α} {base : Nat} {W W1 : World} {x : α} {cs : List Value} (h : MW d W base x cs) {B : Nat} (hg : W.grownBy W1 (some B)) (hB : B < base) : MW d W1 base x cs :=
  d.M_mono (fun _ _ => trivial) (d.M_move (fun k hk => hg.block k hk.2.2.1 (fun e => by cases e; have := hk.2.1; omega)) (d.M_bound h))
theorem MW.bel {α : Type} {d : Kd α} {base : Nat} {W W1 : World} {x : α} {cs : List Value} (h : MW d W base x cs) (hb : Below W.heap.size W W1) : MW d W1 base x cs := Kd.M_below h hb
theorem MW.lower {α : Type} {d : Kd α} {base base' : Nat} {W : World} {x : α} {cs : List Value} (h : MW d W base x cs) (hb : base' ≤ base) : MW d W base' x cs := d.M_lower hb h
/-- append of a thing, its cells newer than the row -/
theorem row_append {ops : Array Oper} {o : Oper} {a : Act} {Q : Exit → Act → World → Prop} {rest : List Oper} {P : Program} {α : Type} (d : Kd α) {W : World} (base N : Nat) (hgd : o.guard = none) (s x : Operand) (t e : TypeId) (z : Value) (bytes : Nat)
    (ho : o.op = .call { callee := .builtin .append, args := #[s, x], argTypes := #[t, t] })
    (ht : P.underlying t = some (.slice e)) (hinfo : (P.info? e).map (fun i => (i.zero, i.size, i.bytes)) = some (some z, d.sz, bytes)) (hz : z.cells.size = d.sz) (hs0 : 0 < d.sz) (hb0 : 0 < bytes)
    (v : Value) (xs : List α) (p : α) (cs : List Value) (hs : a.eval s = v) (hx : a.eval x = .slice (some ⟨W.heap.size, 0, none⟩) 1 1)
    (hp : MW d W N p cs) (hv : RW d e W base v xs) (hvN : ∀ k, v.ownBlock = some k → k < N) (hbN : base ≤ N) (hbase : base ≤ W.heap.size) (hl : (xs.length + 1) * bytes ≤ 140737488355328)
    (h : ∀ v1 w1, RW d e w1 base v1 (xs ++ [p]) → W.grownBy w1 v.ownBlock → (∀ k, v.ownBlock = some k → base ≤ k) → wpList P ops Q rest (a.put o.dst v1) w1) :
    wpList P ops Q (o :: rest) a (W.alloc (.cells cs.toArray e)) := by
  refine Kd.R_append d (w0 := W) base hgd s x t e z bytes ho ht hinfo hz hs0 hb0 v xs p cs (fun _ => True) (fun k => N ≤ k) hs hx ?_ (fun k hk => ⟨trivial, fun e => ?_⟩) (fun _ _ => trivial) hv (Below.refl _ _) hbase hl ?_
  · exact d.M_lower hbN (d.M_mono (fun k hk => hk.2.1) (d.M_bound hp))
  · have := hvN k e.symm
    omega
  · intro v1 w1 h1 _ hg _
    exact h v1 w1 h1 hg (Kd.R_base hv)
/-- the same as one step of a region that draws its order -/
theorem row_append_step {ops : Array Oper} {o : Oper} {a : Act} {Q : Exit → Act → World → Prop} {Kc : Act → World → Prop} {P : Program} {α : Type} (d : Kd α) {W : World} (base N : Nat) (hw : Region.wanted o (yielded ops a.tmps) = true) (s x : Operand) (t e : TypeId) (z : Value) (bytes : Nat)
    (ho : o.op = .call { callee := .builtin .append, args := #[s, x], argTypes := #[t, t] })
    (ht : P.underlying t = some (.slice e)) (hinfo : (P.info? e).map (fun i => (i.zero, i.size, i.bytes)) = some (some z, d.sz, bytes)) (hz : z.cells.size = d.sz) (hs0 : 0 < d.sz) (hb0 : 0 < bytes)
    (v : Value) (xs : List α) (p : α) (cs : List Value) (hs : a.eval s = v) (hx : a.eval x = .slice (some ⟨W.heap.size, 0, none⟩) 1 1)
    (hp : MW d W N p cs) (hv : RW d e W base v xs) (hvN : ∀ k, v.ownBlock = some k → k < N) (hbN : base ≤ N) (hbase : base ≤ W.heap.size) (hl : (xs.length + 1) * bytes ≤ 140737488355328)
    (h : ∀ v1 w1, RW d e w1 base v1 (xs ++ [p]) → W.grownBy w1 v.ownBlock → (∀ k, v.ownBlock = some k → base ≤ k) → Kc (a.put o.dst v1) w1) :
    if Region.wanted o (yielded ops a.tmps) = true then Oper.wp P o a (W.alloc (.cells cs.toArray e)) Kc Q else Kc (a.put o.dst undef) (W.alloc (.cells cs.toArray e)) := by
  refine Kd.R_append_step d (w0 := W) base hw s x t e z bytes ho ht hinfo hz hs0 hb0 v xs p cs (fun _ => True) (fun k => N ≤ k) hs hx ?_ (fun k hk => ⟨trivial, fun e => ?_⟩) (fun _ _ => trivial) hv (Below.refl _ _) hbase hl ?_
  · exact d.M_lower hbN (d.M_mono (fun k hk => hk.2.1) (d.M_bound hp))
  · have := hvN k e.symm
    omega
  · intro v1 w1 h1 _ hg _
    exact h v1 w1 h1 hg (Kd.R_base hv)
set_option maxHeartbeats 2000000 in
set_option maxRecDepth 100000 in
theorem must1_calls (w0 W : World) (B : Nat) (s : Rd) (h : RdIn w0 W B s) (x : ByteArray) (T : Nat) (t : TypeId) (hT : Blk W T #[.string x] t) (hTB : T ≠ B) :
    Calls Tryz.prog 98 #[.pointer (some ⟨B, 0, none⟩), .slice (some ⟨T, 0, none⟩) 1 1] W fun e W' => (∃ v, e = .returned v) ∧ PS w0 W W' B (Rd.must [x] s) := by
  have HM := Lib.hid (may_calls w0 W B s x h)
  have HP := Lib.hid (PS.start h)
  have c0 := hT.cells1.1
  obtain ⟨r, hr⟩ : ∃ r, r = s.may x := ⟨_, rfl⟩
  have hfin : Rd.must [x] s = if r.1 then r.2 else r.2.fail := by rw [hr]; rfl
  rw [← hr] at HM
  have HF := Lib.hid hfin
  clear hT hfin hr h
  obtain ⟨b, s1⟩ := r
  simp only at HM HF
  go_enter Tryz.func98, Tryz.ntmps98
  go_wp2_with fail
  go_loopg [8] 1 (fun kq v8 w' => ∃ i : Nat, v8 = .int .i64 (i : Int) ∧ Aside0 (i + kq = 1) ∧ Aside0 (i = 0 → w' = W) ∧ Aside0 (i = 1 → PS w0 W w' B (Rd.must [x] s)))
  case atStart => exact ⟨0, rfl, ⟨rfl⟩, ⟨fun _ => rfl⟩, ⟨fun e => by omega⟩⟩
  case round =>
    obtain ⟨i, rfl, HI, H0, H1⟩ := hrel
    cases gk with
    | zero =>
      obtain rfl : i = 1 := by have := HI.out; omega
      go_wp2_with fail
      go_end0
      exact ⟨⟨_, rfl⟩, H1.out (by first | rfl | trivial)⟩
    | succ kk =>
      obtain rfl : kk = 0 := by have := HI.out; omega
      obtain rfl : i = 0 := by have := HI.out; omega
      obtain rfl := H0.out rfl
      clear H0 H1 HI
      go_wp2_with fail
      refine HM.out.mono ?_
      rintro e W1 ⟨rfl, hr1, hg1⟩
      have HP1 := Lib.hid (HP.out.on (PS.of HP.out.r hr1 hg1))
      clear hr1 hg1
      cases b with
      | true =>
        go_wp2_with fail
        go_roundg 0
        case measure => omega
        case rel => exact ⟨1, rfl, ⟨rfl⟩, ⟨fun e => by omega⟩, ⟨fun _ => by rw [HF.out]; exact HP1.out⟩⟩
      | false =>
        go_wp2_with fail
        refine (fail_calls w0 W1 B s1 HP1.out.r).mono ?_
        rintro e W2 ⟨⟨v, rfl⟩, hr2, hg2⟩
        have HP2 := Lib.hid (HP1.out.on (PS.of HP1.out.r hr2 hg2))
        clear hr2 hg2
        go_wp2_with fail
        go_roundg 0
        case measure => omega
        case rel => exact ⟨1, rfl, ⟨rfl⟩, ⟨fun e => by omega⟩, ⟨fun _ => by rw [HF.out]; exact HP2.out⟩⟩
/-- must of one word, in the walk: its row is made just ahead of the call -/
theorem must_at {w0 W0 W : World} {B : Nat} {s : Rd} (h : PS w0 W0 W B s) (x : ByteArray) :
    Calls Tryz.prog 98 #[.pointer (some ⟨B, 0, none⟩), .slice (some ⟨W.heap.size, 0, none⟩) 1 1] (W.alloc (.cells #[.string x] 9)) fun e W' => (∃ v, e = .returned v) ∧ PS w0 W0 W' B (Rd.must [x] s) ∧ W.grownBy W' (some B) := by
  refine (must1_calls w0 _ B s (h.alloc _).r x W.heap.size 9 (Blk.new W _ _) (fun e => by have := h.b; have := h.size; omega)).mono ?_
  rintro e W' ⟨he, hp⟩
  exact ⟨he, (h.alloc _).on hp, grown_trans (grown_below (below_alloc (Below.refl _ _) _)) hp.g⟩
set_option maxHeartbeats 2000000 in
set_option maxRecDepth 100000 in
theorem limit_calls (w0 W : World) (B : Nat) (s : Rd) (h : RdIn w0 W B s) (m n : Int) :
    Calls Tryz.prog 53 #[.pointer (some ⟨B, 0, none⟩), .int .i64 m, .int .i64 n] W fun e W' => (∃ v, e = .returned v) ∧ PS w0 W W' B (s.limit m n) := by
  have HP := Lib.hid (PS.start h)
  obtain ⟨A, c, hb, hC, hc, hbl, hB, hl⟩ := h
  obtain ⟨a, ha⟩ : ∃ a, a = s.at_ := ⟨_, rfl⟩
  have HAt : Hid (∀ V, RdIn w0 V B s → Calls Tryz.prog 97 #[.pointer (some ⟨B, 0, none⟩)] V fun e W' => e = .returned (.int .i64 a) ∧ V = W') := Lib.hid (fun V hV => by rw [ha]; exact at_calls w0 V B s hV)
  have hlim : s.limit m n = if decide (n ≤ m) && (decide (s.much = -1) || decide (a < s.much)) then ⟨s.toks, s.fin, s.bad, a⟩ else s := by rw [ha]; rfl
  obtain ⟨⟨d0, d1, d2, d3⟩, f0, f1, f2, f3⟩ := hb.cells4
  have HSet : Hid (∀ (V : World) (u : Int), Blk V B (s.cells A c) 66 → Below w0.heap.size w0 V → RdIn w0 (V.setCell ⟨B, 3, none⟩ (.int .i64 u)) B ⟨s.toks, s.fin, s.bad, u⟩) := Lib.hid (fun V u hV hbV => ⟨A, c, hV.set 3 _, hC, hc, hbV.setCell (p := ⟨B, 3, none⟩) hB _, hB, hl⟩)
  have HBk := Lib.hid hb
  have HBl := Lib.hid hbl
  clear hC hc hB hl hb hbl ha
  by_cases h1 : n ≤ m
  · have q1 : decide (m ≥ n) = true := decide_eq_true h1
    have q1' : decide (n ≤ m) = true := decide_eq_true h1
    rw [q1', Bool.true_and] at hlim
    by_cases h2 : s.much = -1
    · have q2 : (s.much == -1) = true := by rw [h2]; rfl
      rw [decide_eq_true h2, Bool.true_or, if_pos rfl] at hlim
      have HL := Lib.hid hlim
      clear hlim h1 h2
      go_enter Tryz.func53, Tryz.ntmps53
      go_wp2_with fail
      go_quiet (fail)
      have HD := Lib.hid (pw_below_drewN (Below.refl W.heap.size W) nq)
      go_wp2_with fail
      refine (HAt.out _ (HP.out.r.below HD.out)).mono ?_
      rintro e W1 ⟨rfl, rfl⟩
      go_wp2_with fail
      go_end0
      have hp := HP.out.bel HD.out
      exact ⟨⟨_, rfl⟩, by rw [HL.out]; exact PS.of HP.out.r (HSet.out _ _ (HBk.out.drewN nq) (pw_below_drewN HBl.out nq)) (grown_trans (grown_below HD.out) (grown_set _ ⟨B, 3, none⟩ _))⟩
    · have q2 : (s.much == -1) = false := by rw [beq_eq_false_iff_ne]; exact h2
      rw [decide_eq_false h2, Bool.false_or] at hlim
      by_cases h3 : a < s.much
      · have q3 : decide (a < s.much) = true := decide_eq_true h3
        rw [q3, if_pos rfl] at hlim
        have HL := Lib.hid hlim
        clear hlim h1 h2 h3
        go_enter Tryz.func53, Tryz.ntmps53
        go_wp2_with fail
        go_quiet (exact (HAt.out _ (HP.out.r.below (pw_below_drewN (Below.refl W.heap.size W) _))).mono (fun e W1 h => ⟨h.1, ⟨_, h.2.symm⟩⟩))
        have HD := Lib.hid (pw_below_drewN (Below.refl W.heap.size W) nq)
        go_wp2_with fail
        refine (HAt.out _ (HP.out.r.below HD.out)).mono ?_
        rintro e W1 ⟨rfl, rfl⟩
        go_wp2_with fail
        go_end0
        exact ⟨⟨_, rfl⟩, by rw [HL.out]; exact PS.of HP.out.r (HSet.out _ _ (HBk.out.drewN nq) (pw_below_drewN HBl.out nq)) (grown_trans (grown_below HD.out) (grown_set _ ⟨B, 3, none⟩ _))⟩
      · have q3 : decide (a < s.much) = false := decide_eq_false h3
        rw [q3, if_neg (by decide)] at hlim
        have HL := Lib.hid hlim
        clear hlim h1 h2 h3
        go_enter Tryz.func53, Tryz.ntmps53
        go_wp2_with fail
        go_quiet (exact (HAt.out _ (HP.out.r.below (pw_below_drewN (Below.refl W.heap.size W) _))).mono (fun e W1 h => ⟨h.1, ⟨_, h.2.symm⟩⟩))
        have HD := Lib.hid (pw_below_drewN (Below.refl W.heap.size W) nq)
        go_wp2_with fail
        go_end0
        exact ⟨⟨_, rfl⟩, by rw [HL.out]; exact HP.out.bel HD.out⟩
  · have q1 : decide (m ≥ n) = false := decide_eq_false h1
    have q1' : decide (n ≤ m) = false := decide_eq_false h1
    rw [q1', Bool.false_and, if_neg (by decide)] at hlim
    have HL := Lib.hid hlim
    clear hlim h1
    go_enter Tryz.func53, Tryz.ntmps53
    go_wp2_with fail
    go_quiet (fail)
    have HD := Lib.hid (pw_below_drewN (Below.refl W.heap.size W) nq)
    go_wp2_with fail
    go_end0
    exact ⟨⟨_, rfl⟩, by rw [HL.out]; exact HP.out.bel HD.out⟩
end
section
open Go Go.RowKit Go.Proofs.YtmgkejobolgkmaaGreatDoorW.PrintWords Go.Proofs.YtmgkejobolgkmaaGreatDoorW.PrintLast Go.Proofs.YtmgkejobolgkmaaGreatDoorW.PrintMore
set_option linter.unusedVariables false
set_option linter.unusedSimpArgs false

theorem may_at {w0 W0 W : World} {B : Nat} {s : Rd} (h : PS w0 W0 W B s) (x : ByteArray) : Calls Tryz.prog 100 #[.pointer (some ⟨B, 0, none⟩), .string x] W fun e W' => e = .returned (.bool (s.may x).1) ∧ PS w0 W0 W' B (s.may x).2 ∧ W.grownBy W' (some B) := by
  refine (may_calls w0 W B s x h.r).mono ?_
  rintro e W' ⟨he, hr, hg⟩
  exact ⟨he, h.on (PS.of h.r hr hg), hg⟩
theorem name_at {w0 W0 W : World} {B : Nat} {s : Rd} (h : PS w0 W0 W B s) : Calls Tryz.prog 99 #[.pointer (some ⟨B, 0, none⟩)] W fun e W' => e = .returned (.string s.name.1) ∧ PS w0 W0 W' B s.name.2 ∧ W.grownBy W' (some B) := by
  refine (name_calls w0 W B s h.r).mono ?_
  rintro e W' ⟨he, hr, hg⟩
  exact ⟨he, h.on (PS.of h.r hr hg), hg⟩
theorem take_at {w0 W0 W : World} {B : Nat} {s : Rd} (h : PS w0 W0 W B s) (hne : s.toks ≠ []) : Calls Tryz.prog 135 #[.pointer (some ⟨B, 0, none⟩)] W fun e W' => e = .returned (.agg #[.int .i64 s.hd.f0, .int .i64 s.hd.f1, .string s.hd.f2, .int .i64 s.hd.f3]) ∧ PS w0 W0 W' B s.tl ∧ W.grownBy W' (some B) := by
  refine (take_calls w0 W B s h.r hne).mono ?_
  rintro e W' ⟨he, hr, hg⟩
  exact ⟨he, h.on (PS.of h.r hr hg), hg⟩
theorem fail_at {w0 W0 W : World} {B : Nat} {s : Rd} (h : PS w0 W0 W B s) : Calls Tryz.prog 57 #[.pointer (some ⟨B, 0, none⟩)] W fun e W' => (∃ v, e = .returned v) ∧ PS w0 W0 W' B s.fail ∧ W.grownBy W' (some B) := by
  refine (fail_calls w0 W B s h.r).mono ?_
  rintro e W' ⟨he, hr, hg⟩
  exact ⟨he, h.on (PS.of h.r hr hg), hg⟩
theorem limit_at {w0 W0 W : World} {B : Nat} {s : Rd} (h : PS w0 W0 W B s) (m n : Int) : Calls Tryz.prog 53 #[.pointer (some ⟨B, 0, none⟩), .int .i64 m, .int .i64 n] W fun e W' => (∃ v, e = .returned v) ∧ PS w0 W0 W' B (s.limit m n) ∧ W.grownBy W' (some B) := by
  refine (limit_calls w0 W B s h.r m n).mono ?_
  rintro e W' ⟨he, hp⟩
  exact ⟨he, h.on hp, hp.g⟩
theorem named_at {w0 W0 W : World} {B : Nat} {s : Rd} (h : PS w0 W0 W B s) : Calls Tryz.prog 134 #[.pointer (some ⟨B, 0, none⟩)] W fun e W' => e = .returned (.bool s.named) ∧ PS w0 W0 W' B s ∧ W.grownBy W' (some B) := by
  refine (named_calls w0 W B s h.r).mono ?_
  rintro e W' ⟨he, hb⟩
  exact ⟨he, h.bel hb, grown_below hb⟩
theorem see_at {w0 W0 W : World} {B : Nat} {s : Rd} (h : PS w0 W0 W B s) (x : ByteArray) :
    Calls Tryz.prog 52 #[.pointer (some ⟨B, 0, none⟩), .slice (some ⟨W.heap.size, 0, none⟩) 1 1] (W.alloc (.cells #[.string x] 9)) fun e W' => e = .returned (.bool (s.sees [x])) ∧ PS w0 W0 W' B s ∧ W.grownBy W' (some B) := by
  refine (sees_calls w0 _ B s (h.alloc _).r [x] (some ⟨W.heap.size, 0, none⟩) 1 (by simp) (one_text W x 9) (by simp)).mono ?_
  rintro e W' ⟨he, hb⟩
  have hb2 := below_step (below_alloc (Below.refl _ _) _) hb
  exact ⟨he, h.bel hb2, grown_below hb2⟩
/-- two texts, in a row of their own -/
theorem two_texts (W : World) (x y : ByteArray) (t : TypeId) : Kd.C Kd.string (W.alloc (.cells #[.string x, .string y] t)) (some ⟨W.heap.size, 0, none⟩) [x, y].length [x, y] := by
  refine ⟨rfl, by simp, fun _ => ⟨⟨W.heap.size, 0, none⟩, rfl, fun j e hj => ?_⟩⟩
  match j, hj with
  | 0, hj =>
    injection hj with hj
    subst hj
    refine ⟨[.string x], rfl, rfl, fun i u hu => ?_⟩
    match i, hu with
    | 0, hu => exact ((Blk.new W #[.string x, .string y] t).cell 0).trans hu
  | 1, hj =>
    injection hj with hj
    subst hj
    refine ⟨[.string y], rfl, rfl, fun i u hu => ?_⟩
    match i, hu with
    | 0, hu => exact ((Blk.new W #[.string x, .string y] t).cell 1).trans hu
  | j + 2, hj => simp at hj
theorem see2_at {w0 W0 W : World} {B : Nat} {s : Rd} (h : PS w0 W0 W B s) (x y : ByteArray) :
    Calls Tryz.prog 52 #[.pointer (some ⟨B, 0, none⟩), .slice (some ⟨W.heap.size, 0, none⟩) 2 2] (W.alloc (.cells #[.string x, .string y] 9)) fun e W' => e = .returned (.bool (s.sees [x, y])) ∧ PS w0 W0 W' B s ∧ W.grownBy W' (some B) := by
  refine (sees_calls w0 _ B s (h.alloc _).r [x, y] (some ⟨W.heap.size, 0, none⟩) 2 (by simp) (two_texts W x y 9) (by simp)).mono ?_
  rintro e W' ⟨he, hb⟩
  have hb2 := below_step (below_alloc (Below.refl _ _) _) hb
  exact ⟨he, h.bel hb2, grown_below hb2⟩
theorem infoStr : (Tryz.prog.info? 9).map (fun i => (i.zero, i.size, i.bytes)) = some (some (.string ⟨#[]⟩), 1, 16) := by kernel_rfl
set_option maxHeartbeats 2000000 in
set_option maxRecDepth 100000 in
theorem names_calls (w0 W : World) (B : Nat) (s : Rd) (h : RdIn w0 W B s) (k : Nat) (hk : k ≤ 10) :
    Calls Tryz.prog 167 #[.pointer (some ⟨B, 0, none⟩), .int .i64 (k : Int)] W fun e W' => ∃ v, e = .returned v ∧ RW Kd.string 9 W' W.heap.size v (Rd.names k s []).1 ∧ PS w0 W W' B (Rd.names k s []).2 := by
  have HP := Lib.hid (PS.start h)
  obtain ⟨fin, hfin⟩ : ∃ fin, fin = Rd.names k s [] := ⟨_, rfl⟩
  rw [← hfin]
  have HF := Lib.hid hfin
  have HK := Lib.hid hk
  clear h hfin hk
  go_enter Tryz.func167, Tryz.ntmps167
  go_wp2_with fail
  go_loopg [5, 7] k (fun kq v5 v7 w' => ∃ (i : Nat) (s' : Rd) (out : List ByteArray), v7 = .int .i64 (i : Int) ∧ Aside0 (i + kq = k) ∧ Aside0 (out.length = i) ∧ Aside0 (Rd.names kq s' out = fin) ∧ Aside0 (RW Kd.string 9 w' W.heap.size v5 out) ∧ Aside0 (PS w0 W w' B s'))
  case atStart => exact ⟨0, s, [], rfl, ⟨by omega⟩, ⟨rfl⟩, ⟨HF.out.symm⟩, ⟨RW.nil _ _ _ _⟩, ⟨HP.out⟩⟩
  case round =>
    clear HP HF
    obtain ⟨i, s', out, rfl, HI, HLn, HF, HW, HPS⟩ := hrel
    cases gk with
    | zero =>
      have cx : decide (i < k) = false := decide_eq_false (by have := HI.out; omega)
      have cx' : decide ((i : Int) < (k : Int)) = false := decide_eq_false (by have := HI.out; omega)
      have hf := HF.out
      unfold Rd.names at hf
      subst hf
      go_wp2_with fail
      go_ret
      exact ⟨_, rfl, HW.out, HPS.out⟩
    | succ kk =>
      have cx : decide (i < k) = true := decide_eq_true (by have := HI.out; omega)
      have cx' : decide ((i : Int) < (k : Int)) = true := decide_eq_true (by have := HI.out; omega)
      have wk : IntKind.i64.wrap ((i : Int) + 1) = (i : Int) + 1 := by rw [i64_w]; unfold wrap64; have := HI.out; have := HK.out; omega
      have hf := HF.out
      unfold Rd.names at hf
      have HF2 := Lib.hid hf
      clear hf HF
      go_wp2_with fail
      refine (name_at HPS.out).mono ?_
      rintro e W1 ⟨rfl, hp1, hg1⟩
      have HW1 := Lib.hid (HW.out.grown hg1 HPS.out.b)
      have HLt := Lib.hid (Kd.R_lt HW1.out)
      have HP1 := Lib.hid hp1
      have HSz := Lib.hid hp1.size
      clear hp1 hg1 HW HPS
      generalize s'.name = r at *
      obtain ⟨x, s2⟩ := r
      simp only at HF2 HP1
      go_wp2_with ((with_reducible refine gate_builtin (b := .append) (xs := #[.tmp 9, .tmp 12]) rfl ?_); at_builtin; refine row_append Kd.string W.heap.size W1.heap.size rfl (.tmp 9) (.tmp 12) 48 9 (.string ⟨#[]⟩) 16 rfl Tryz.underlying48 infoStr rfl (by decide) (by decide) _ out x [.string x] rfl rfl rfl HW1.out HLt.out HSz.out HSz.out (by have := HI.out; have := HK.out; have := HLn.out; omega) ?_; intro v2 W2 hw2 hg2 hb2; have HW2 := Lib.hid hw2; have HP2 := Lib.hid (HP1.out.app hg2 hb2); clear hw2 hg2 hb2 HW1 HLt HP1 HSz)
      go_roundg kk
      case measure => omega
      case rel => exact ⟨i + 1, s2, out ++ [x], by simp [wk], ⟨by have := HI.out; omega⟩, ⟨by rw [List.length_append]; have := HLn.out; simp; omega⟩, ⟨HF2.out⟩, ⟨HW2.out⟩, ⟨HP2.out⟩⟩
end
section
open Go Go.RowKit Go.Proofs.YtmgkejobolgkmaaGreatDoorW.PrintWords Go.Proofs.YtmgkejobolgkmaaGreatDoorW.PrintLast Go.Proofs.YtmgkejobolgkmaaGreatDoorW.PrintMore
set_option linter.unusedVariables false
set_option linter.unusedSimpArgs false

theorem Rd.tl_lt {s : Rd} (h : s.toks ≠ []) : s.tl.toks.length < s.toks.length := by
  obtain ⟨toks, a, b, c⟩ := s
  cases toks with
  | nil => exact absurd rfl h
  | cons t l => simp [Rd.tl]
theorem lenC (n : Nat) : Closed (fun s => s.toks.length ≤ n) :=
  ⟨fun _ => Nat.zero_le _, fun {s} h hne => Nat.le_trans (Nat.le_of_lt (Rd.tl_lt hne)) h, fun _ h => h⟩
/-- a reader's tokens are no longer than texts are, their places not below 0 -/
structure Rd.Ok (s : Rd) : Prop where mk ::
  (len : s.toks.length ≤ 100000) (tok : ∀ t ∈ s.toks, t.f2.size ≤ 1000000 ∧ 0 ≤ t.f1) (fin : 0 ≤ s.fin) (bad : s.bad = -1 ∨ 0 ≤ s.bad)
theorem Rd.Ok.at_ {s : Rd} (h : s.Ok) : 0 ≤ s.at_ := by
  obtain ⟨toks, a, b, c⟩ := s
  cases toks with
  | nil => exact h.fin
  | cons t l => exact (h.tok t List.mem_cons_self).2
theorem okC : Closed Rd.Ok :=
  ⟨fun {s} h => by
      have ha := h.at_
      have hb : 0 ≤ (if s.bad = -1 then s.at_ else s.bad) := by
        split
        · exact ha
        · exact h.bad.resolve_left (by assumption)
      exact ⟨Nat.zero_le _, fun t ht => by simp [Rd.fail] at ht, hb, .inr hb⟩,
    fun {s} h hne => ⟨Nat.le_trans (Nat.le_of_lt (Rd.tl_lt hne)) h.len, fun t ht => h.tok t (List.mem_of_mem_tail ht), h.fin, h.bad⟩,
    fun {s} a h => ⟨h.len, h.tok, h.fin, h.bad⟩⟩
theorem Rd.Ok.name {s : Rd} (h : s.Ok) : s.name.1.size ≤ 1000000 := by
  unfold Rd.name
  split
  · obtain ⟨toks, a, b, c⟩ := s
    cases toks with
    | nil => exact Nat.zero_le _
    | cons t l => exact (h.tok t List.mem_cons_self).1
  · exact Nat.zero_le _
theorem Rd.Ok.hd {s : Rd} (h : s.Ok) : s.hd.f2.size ≤ 1000000 := by
  obtain ⟨toks, a, b, c⟩ := s
  cases toks with
  | nil => exact Nat.zero_le _
  | cons t l => exact (h.tok t List.mem_cons_self).1
theorem Rd.may_lt {s : Rd} {x : ByteArray} (h : (s.may x).1 = true) : (s.may x).2.toks.length < s.toks.length := by
  unfold Rd.may at h ⊢
  split at h
  · rename_i hs
    rw [if_pos hs]
    exact Rd.tl_lt (Rd.next_ne hs)
  · exact absurd h (by simp)
theorem PS.much {w0 W0 W : World} {B : Nat} {s : Rd} (h : PS w0 W0 W B s) (u : Int) : PS w0 W0 (W.setCell ⟨B, 3, none⟩ (.int .i64 u)) B ⟨s.toks, s.fin, s.bad, u⟩ := by
  obtain ⟨⟨A, c, h1, h2, h3, h4, h5, h6⟩, g, b, z⟩ := h
  exact ⟨⟨A, c, h1.set 3 _, h2, h3, h4.setCell (p := ⟨B, 3, none⟩) h5 _, h5, h6⟩, grown_trans g (grown_set _ ⟨B, 3, none⟩ _), b, z⟩
theorem PS.cells {w0 W0 W : World} {B : Nat} {s : Rd} (h : PS w0 W0 W B s) : ∃ A c, (W.cell? ⟨B, 0, none⟩ = some (.slice A s.toks.length c) ∧ W.cell? ⟨B, 1, none⟩ = some (.int .i64 s.fin) ∧ W.cell? ⟨B, 2, none⟩ = some (.int .i64 s.bad) ∧ W.cell? ⟨B, 3, none⟩ = some (.int .i64 s.much)) ∧ W.frozen? ⟨B, 3, none⟩ = false := by
  obtain ⟨⟨A, c, h1, h2, h3, h4, h5, h6⟩, g, b, z⟩ := h
  exact ⟨A, c, h1.cells4.1, h1.cells4.2.2.2.2⟩
/-- whether the earliest place is turned: three ways -/
theorem Rd.more_cases (s : Rd) (c : Bool) (a : Int) : (c = false ∧ s.more c a = s) ∨ (c = true ∧ (s.much == -1) = false ∧ decide (a < s.much) = false ∧ s.more c a = s) ∨ (c = true ∧ (s.much == -1) = true ∧ s.more c a = ⟨s.toks, s.fin, s.bad, a⟩) ∨ (c = true ∧ (s.much == -1) = false ∧ decide (a < s.much) = true ∧ s.more c a = ⟨s.toks, s.fin, s.bad, a⟩) := by
  unfold Rd.more
  cases c with
  | false => exact .inl ⟨rfl, rfl⟩
  | true =>
    by_cases h : s.much = -1
    · exact .inr (.inr (.inl ⟨rfl, by rw [h]; rfl, by simp [h]⟩))
    · have h1 : (s.much == -1) = false := by rw [beq_eq_false_iff_ne]; exact h
      by_cases h2 : a < s.much
      · exact .inr (.inr (.inr ⟨rfl, h1, decide_eq_true h2, by simp [h, h2]⟩))
      · exact .inr (.inl ⟨rfl, h1, decide_eq_false h2, by simp [h, h2]⟩)
set_option maxHeartbeats 4000000 in
set_option maxRecDepth 100000 in
theorem plain_calls (w0 W : World) (B : Nat) (s : Rd) (h : RdIn w0 W B s) (hok : s.Ok) :
    Calls Tryz.prog 106 #[.pointer (some ⟨B, 0, none⟩)] W fun e W' => e = .returned (.string s.plain.1) ∧ PS w0 W W' B s.plain.2 := by
  have HP := Lib.hid (PS.start h)
  have HLen := Lib.hid h.len
  have HOk := Lib.hid hok
  obtain ⟨fin, hfin⟩ : ∃ fin, fin = s.plain := ⟨_, rfl⟩
  rw [← hfin]
  have HAt := Lib.hid (at_calls w0 W B s h)
  unfold Rd.plain at hfin
  obtain ⟨a, ha⟩ : ∃ a, a = s.at_ := ⟨_, rfl⟩
  rw [← ha] at hfin HAt
  obtain ⟨bx, hbx⟩ : ∃ bx, bx = Rd.boxes rdF s 0 ⟨#[]⟩ := ⟨_, rfl⟩
  rw [← hbx] at hfin
  have HF := Lib.hid hfin
  have HBx := Lib.hid hbx
  obtain ⟨F, hF⟩ : ∃ F, F = rdF := ⟨_, rfl⟩
  rw [← hF] at HBx
  have HFF : Hid (F = 100001) := Lib.hid hF
  clear h hfin hbx hF ha hok
  go_enter Tryz.func106, Tryz.ntmps106
  go_wp2_with fail
  refine HAt.out.mono ?_
  rintro e W1 ⟨rfl, rfl⟩
  clear HAt
  go_wp2_with fail
  go_loopg [4, 5] F (fun kq v4 v5 w' => ∃ (n : Nat) (s' : Rd) (out : ByteArray), v4 = .string out ∧ v5 = .int .i64 (n : Int) ∧ Aside0 (n + kq = F ∧ out.size = 4 * n ∧ s'.Ok) ∧ Aside0 (s'.toks.length < kq) ∧ Aside0 (Rd.boxes kq s' n out = bx) ∧ Aside0 (PS w0 W w' B s'))
  case atStart => exact ⟨0, s, ⟨#[]⟩, rfl, rfl, ⟨by omega, rfl, HOk.out⟩, ⟨by have := HLen.out; have := HFF.out; omega⟩, ⟨HBx.out.symm⟩, ⟨HP.out⟩⟩
  case round =>
    clear HP HBx HLen
    obtain ⟨n, s', out, rfl, rfl, HI, HLn, HB, HPS⟩ := hrel
    cases gk with
    | zero => exact absurd HLn.out (by omega)
    | succ kk =>
      have wk : IntKind.i64.wrap ((n : Int) + 1) = (n : Int) + 1 := by rw [i64_w]; unfold wrap64; have := HI.out.1; have := HFF.out; omega
      have hb := HB.out
      unfold Rd.boxes at hb
      have HMl : Hid ((s'.may ⟨#[98, 111, 120]⟩).1 = true → (s'.may ⟨#[98, 111, 120]⟩).2.toks.length < s'.toks.length) := Lib.hid Rd.may_lt
      have HM := Lib.hid (may_at HPS.out ⟨#[98, 111, 120]⟩)
      have HO1 := Lib.hid (okC.may ⟨#[98, 111, 120]⟩ HI.out.2.2)
      have hadd : ∀ w, (Op.stringOp .add out ⟨#[98, 111, 120, 32]⟩).run Tryz.prog w = .ok (.string (out ++ ⟨#[98, 111, 120, 32]⟩)) w := fun w => run_string_add_sum w _ _ (by have := HI.out; have := HFF.out; have : (⟨#[98, 111, 120, 32]⟩ : ByteArray).size = 4 := rfl; omega)
      clear HB HPS
      generalize s'.may ⟨#[98, 111, 120]⟩ = r at *
      obtain ⟨b, s1⟩ := r
      simp only at hb HM HMl HO1
      cases b with
      | true =>
        rw [if_pos rfl] at hb
        have HB := Lib.hid hb
        have HMl2 := Lib.hid (HMl.out rfl)
        clear hb HMl
        go_wp2_with fail
        refine HM.out.mono ?_
        rintro e W2 ⟨rfl, hp2, hg2⟩
        have HP2 := Lib.hid hp2
        clear hp2 hg2 HM
        go_wp2_with fail
        go_roundg kk
        case measure => omega
        case rel => exact ⟨n + 1, s1, out ++ ⟨#[98, 111, 120, 32]⟩, by simp, by simp [wk], ⟨by have := HI.out.1; omega, by rw [ByteArray.size_append]; have := HI.out.2.1; have : (⟨#[98, 111, 120, 32]⟩ : ByteArray).size = 4 := rfl; omega, HO1.out⟩, ⟨by have := HMl2.out; have := HLn.out; omega⟩, ⟨HB.out⟩, ⟨HP2.out⟩⟩
      | false =>
        rw [if_neg (by decide)] at hb
        have hf := HF.out
        rw [← hb] at hf
        unfold Rd.plain2 at hf
        simp only at hf
        clear hb HMl HF
        have HF := Lib.hid hf
        clear hf
        go_wp2_with fail
        refine HM.out.mono ?_
        rintro e W2 ⟨rfl, hp2, hg2⟩
        have HP2 := Lib.hid hp2
        obtain ⟨A, c, ⟨d0, d1, d2, d3⟩, f3⟩ := hp2.cells
        clear hp2 hg2 HM d0 d1 d2
        have q8 : decide ((n : Int) > 8) = decide (8 < n) := by
          by_cases h8 : 8 < n
          · rw [decide_eq_true h8]; exact decide_eq_true (by omega)
          · rw [decide_eq_false h8]; exact decide_eq_false (by omega)
        have q8b : decide (8 < (n : Int)) = decide (8 < n) := by
          by_cases h8 : 8 < n
          · rw [decide_eq_true h8]; exact decide_eq_true (by omega)
          · rw [decide_eq_false h8]; exact decide_eq_false (by omega)
        have HMore := Lib.hid (Rd.more_cases s1 (decide (8 < n)) a)
        generalize hcc : decide (8 < n) = cc at *
        clear hcc
        rcases HMore.out with ⟨rfl, hm⟩ | ⟨rfl, m1, m2, hm⟩ | ⟨rfl, m1, hm⟩ | ⟨rfl, m1, m2, hm⟩
        · have HF3 := HF.out
          rw [hm] at HF3
          have HF2 := Lib.hid HF3
          clear hm HF3 HF HMore
          go_wp2_with fail
          refine (may_at (HP2.out) ⟨#[105, 110, 116]⟩).mono ?_
          generalize hr : Rd.may _ ⟨#[105, 110, 116]⟩ = r at *
          have HO3 : Hid (r.2.Ok) := Lib.hid (by rw [← hr]; exact okC.may _ (HO1.out))
          clear hr
          obtain ⟨b, s3⟩ := r
          simp only at HF2 HO3
          rintro e W3 ⟨rfl, hp3, hg3⟩
          have HP3 := Lib.hid hp3
          clear hp3 hg3
          cases b with
          | true =>
            have hadd : ∀ w, (Op.stringOp .add out ⟨#[105, 110, 116]⟩).run Tryz.prog w = .ok (.string (out ++ ⟨#[105, 110, 116]⟩)) w := fun w => run_string_add_sum w _ _ (by have := HI.out; have := HFF.out; have : (⟨#[105, 110, 116]⟩ : ByteArray).size = 3 := rfl; omega)
            have hf := HF2.out
            rw [if_pos rfl] at hf
            clear HF2
            have HF := Lib.hid hf
            clear hf
            go_wp2_with fail
            go_ret
            exact ⟨by rw [HF.out]; rfl, by rw [HF.out]; exact HP3.out⟩
          | false =>
            have hf := HF2.out
            rw [if_neg (by decide)] at hf
            clear HF2
            have HF := Lib.hid hf
            clear hf
            have hadd : ∀ w, (Op.stringOp .add out s3.name.1).run Tryz.prog w = .ok (.string (out ++ s3.name.1)) w := fun w => run_string_add_sum w _ _ (by have := HI.out; have := HFF.out; have := HO3.out.name; omega)
            go_wp2_with fail
            refine (name_at HP3.out).mono ?_
            rintro e W4 ⟨rfl, hp4, hg4⟩
            go_wp2_with fail
            go_ret
            exact ⟨by rw [HF.out]; rfl, by rw [HF.out]; exact hp4⟩

        · have HF3 := HF.out
          rw [hm] at HF3
          have HF2 := Lib.hid HF3
          clear hm HF3 HF HMore
          go_wp2_with fail
          refine (may_at (HP2.out) ⟨#[105, 110, 116]⟩).mono ?_
          generalize hr : Rd.may _ ⟨#[105, 110, 116]⟩ = r at *
          have HO3 : Hid (r.2.Ok) := Lib.hid (by rw [← hr]; exact okC.may _ (HO1.out))
          clear hr
          obtain ⟨b, s3⟩ := r
          simp only at HF2 HO3
          rintro e W3 ⟨rfl, hp3, hg3⟩
          have HP3 := Lib.hid hp3
          clear hp3 hg3
          cases b with
          | true =>
            have hadd : ∀ w, (Op.stringOp .add out ⟨#[105, 110, 116]⟩).run Tryz.prog w = .ok (.string (out ++ ⟨#[105, 110, 116]⟩)) w := fun w => run_string_add_sum w _ _ (by have := HI.out; have := HFF.out; have : (⟨#[105, 110, 116]⟩ : ByteArray).size = 3 := rfl; omega)
            have hf := HF2.out
            rw [if_pos rfl] at hf
            clear HF2
            have HF := Lib.hid hf
            clear hf
            go_wp2_with fail
            go_ret
            exact ⟨by rw [HF.out]; rfl, by rw [HF.out]; exact HP3.out⟩
          | false =>
            have hf := HF2.out
            rw [if_neg (by decide)] at hf
            clear HF2
            have HF := Lib.hid hf
            clear hf
            have hadd : ∀ w, (Op.stringOp .add out s3.name.1).run Tryz.prog w = .ok (.string (out ++ s3.name.1)) w := fun w => run_string_add_sum w _ _ (by have := HI.out; have := HFF.out; have := HO3.out.name; omega)
            go_wp2_with fail
            refine (name_at HP3.out).mono ?_
            rintro e W4 ⟨rfl, hp4, hg4⟩
            go_wp2_with fail
            go_ret
            exact ⟨by rw [HF.out]; rfl, by rw [HF.out]; exact hp4⟩

        · have HF3 := HF.out
          rw [hm] at HF3
          have HF2 := Lib.hid HF3
          clear hm HF3 HF HMore
          go_wp2_with fail
          refine (may_at (HP2.out.much a) ⟨#[105, 110, 116]⟩).mono ?_
          generalize hr : Rd.may _ ⟨#[105, 110, 116]⟩ = r at *
          have HO3 : Hid (r.2.Ok) := Lib.hid (by rw [← hr]; exact okC.may _ (okC.much _ HO1.out))
          clear hr
          obtain ⟨b, s3⟩ := r
          simp only at HF2 HO3
          rintro e W3 ⟨rfl, hp3, hg3⟩
          have HP3 := Lib.hid hp3
          clear hp3 hg3
          cases b with
          | true =>
            have hadd : ∀ w, (Op.stringOp .add out ⟨#[105, 110, 116]⟩).run Tryz.prog w = .ok (.string (out ++ ⟨#[105, 110, 116]⟩)) w := fun w => run_string_add_sum w _ _ (by have := HI.out; have := HFF.out; have : (⟨#[105, 110, 116]⟩ : ByteArray).size = 3 := rfl; omega)
            have hf := HF2.out
            rw [if_pos rfl] at hf
            clear HF2
            have HF := Lib.hid hf
            clear hf
            go_wp2_with fail
            go_ret
            exact ⟨by rw [HF.out]; rfl, by rw [HF.out]; exact HP3.out⟩
          | false =>
            have hf := HF2.out
            rw [if_neg (by decide)] at hf
            clear HF2
            have HF := Lib.hid hf
            clear hf
            have hadd : ∀ w, (Op.stringOp .add out s3.name.1).run Tryz.prog w = .ok (.string (out ++ s3.name.1)) w := fun w => run_string_add_sum w _ _ (by have := HI.out; have := HFF.out; have := HO3.out.name; omega)
            go_wp2_with fail
            refine (name_at HP3.out).mono ?_
            rintro e W4 ⟨rfl, hp4, hg4⟩
            go_wp2_with fail
            go_ret
            exact ⟨by rw [HF.out]; rfl, by rw [HF.out]; exact hp4⟩

        · have HF3 := HF.out
          rw [hm] at HF3
          have HF2 := Lib.hid HF3
          clear hm HF3 HF HMore
          go_wp2_with fail
          refine (may_at (HP2.out.much a) ⟨#[105, 110, 116]⟩).mono ?_
          generalize hr : Rd.may _ ⟨#[105, 110, 116]⟩ = r at *
          have HO3 : Hid (r.2.Ok) := Lib.hid (by rw [← hr]; exact okC.may _ (okC.much _ HO1.out))
          clear hr
          obtain ⟨b, s3⟩ := r
          simp only at HF2 HO3
          rintro e W3 ⟨rfl, hp3, hg3⟩
          have HP3 := Lib.hid hp3
          clear hp3 hg3
          cases b with
          | true =>
            have hadd : ∀ w, (Op.stringOp .add out ⟨#[105, 110, 116]⟩).run Tryz.prog w = .ok (.string (out ++ ⟨#[105, 110, 116]⟩)) w := fun w => run_string_add_sum w _ _ (by have := HI.out; have := HFF.out; have : (⟨#[105, 110, 116]⟩ : ByteArray).size = 3 := rfl; omega)
            have hf := HF2.out
            rw [if_pos rfl] at hf
            clear HF2
            have HF := Lib.hid hf
            clear hf
            go_wp2_with fail
            go_ret
            exact ⟨by rw [HF.out]; rfl, by rw [HF.out]; exact HP3.out⟩
          | false =>
            have hf := HF2.out
            rw [if_neg (by decide)] at hf
            clear HF2
            have HF := Lib.hid hf
            clear hf
            have hadd : ∀ w, (Op.stringOp .add out s3.name.1).run Tryz.prog w = .ok (.string (out ++ s3.name.1)) w := fun w => run_string_add_sum w _ _ (by have := HI.out; have := HFF.out; have := HO3.out.name; omega)
            go_wp2_with fail
            refine (name_at HP3.out).mono ?_
            rintro e W4 ⟨rfl, hp4, hg4⟩
            go_wp2_with fail
            go_ret
            exact ⟨by rw [HF.out]; rfl, by rw [HF.out]; exact hp4⟩
theorem plain_at {w0 W0 W : World} {B : Nat} {s : Rd} (h : PS w0 W0 W B s) (hok : s.Ok) : Calls Tryz.prog 106 #[.pointer (some ⟨B, 0, none⟩)] W fun e W' => e = .returned (.string s.plain.1) ∧ PS w0 W0 W' B s.plain.2 ∧ W.grownBy W' (some B) := by
  refine (plain_calls w0 W B s h.r hok).mono ?_
  rintro e W' ⟨he, hp⟩
  exact ⟨he, h.on hp, hp.g⟩
theorem Rd.boxes_size : ∀ (k : Nat) (s : Rd) (n : Nat) (out : ByteArray), (Rd.boxes k s n out).1.2.size ≤ out.size + 4 * k
  | 0, s, n, out => Nat.le_refl _
  | k + 1, s, n, out => by
    unfold Rd.boxes
    split
    · have h := Rd.boxes_size k (s.may ⟨#[98, 111, 120]⟩).2 (n + 1) (out ++ ⟨#[98, 111, 120, 32]⟩)
      rw [ByteArray.size_append] at h
      have : (⟨#[98, 111, 120, 32]⟩ : ByteArray).size = 4 := rfl
      omega
    · show out.size ≤ _
      omega
theorem Rd.Ok.plain {s : Rd} (h : s.Ok) : s.plain.1.size ≤ 2000000 := by
  have hb := Rd.boxes_size rdF s 0 ⟨#[]⟩
  have hF : rdF = 100001 := rfl
  have h0 : (⟨#[]⟩ : ByteArray).size = 0 := rfl
  have h3 : (⟨#[105, 110, 116]⟩ : ByteArray).size = 3 := rfl
  unfold Rd.plain Rd.plain2
  split
  · show ByteArray.size (_ ++ _) ≤ _
    rw [ByteArray.size_append]
    omega
  · show ByteArray.size (_ ++ _) ≤ _
    rw [ByteArray.size_append]
    have hn := (okC.may ⟨#[105, 110, 116]⟩ (okC.more (decide (8 < (Rd.boxes rdF s 0 ⟨#[]⟩).1.1)) s.at_ (okC.boxes rdF 0 ⟨#[]⟩ h))).name
    omega
set_option maxHeartbeats 2000000 in
set_option maxRecDepth 100000 in
theorem whole_calls (w0 W : World) (B : Nat) (s : Rd) (h : RdIn w0 W B s) (hok : s.Ok) :
    Calls Tryz.prog 136 #[.pointer (some ⟨B, 0, none⟩)] W fun e W' => e = .returned (.string s.whole.1) ∧ PS w0 W W' B s.whole.2 := by
  have HP := Lib.hid (PS.start h)
  have HOk := Lib.hid hok
  obtain ⟨fin, hfin⟩ : ∃ fin, fin = s.whole := ⟨_, rfl⟩
  rw [← hfin]
  unfold Rd.whole at hfin
  have HS := Lib.hid (see2_at HP.out ⟨#[114, 101, 102]⟩ ⟨#[109, 117, 116]⟩)
  clear h hok
  cases hs : s.sees [⟨#[114, 101, 102]⟩, ⟨#[109, 117, 116]⟩] with
  | false =>
    rw [hs] at hfin HS
    have HF : Hid (fin = s.plain) := Lib.hid hfin
    clear hfin hs
    go_enter Tryz.func136, Tryz.ntmps136
    go_wp2_with fail
    refine HS.out.mono ?_
    rintro e W1 ⟨rfl, hp1, hg1⟩
    have HP1 := Lib.hid hp1
    clear hp1 hg1
    go_wp2_with fail
    refine (plain_at HP1.out HOk.out).mono ?_
    rintro e W2 ⟨rfl, hp2, hg2⟩
    go_wp2_with fail
    go_ret
    exact ⟨by rw [HF.out]; rfl, by rw [HF.out]; exact hp2⟩
  | true =>
    rw [hs] at hfin HS
    have HF : Hid (fin = (s.hd.f2 ++ ⟨#[32]⟩ ++ s.tl.plain.1, s.tl.plain.2)) := Lib.hid hfin
    have HNe := Lib.hid (Rd.next_ne hs)
    have h1 : (⟨#[32]⟩ : ByteArray).size = 1 := rfl
    have HOk2 := Lib.hid (okC.tl HOk.out (Rd.next_ne hs))
    have hfd : ∀ (W : World), (Instr.field 42 (.agg #[.int .i64 s.hd.f0, .int .i64 s.hd.f1, .string s.hd.f2, .int .i64 s.hd.f3]) 2).run Tryz.prog W = .ok (.string s.hd.f2) W := fun _ => by kernel_rfl
    have hadd1 : ∀ w, (Op.stringOp .add s.hd.f2 ⟨#[32]⟩).run Tryz.prog w = .ok (.string (s.hd.f2 ++ ⟨#[32]⟩)) w := fun w => run_string_add_sum w _ _ (by have := HOk.out.hd; omega)
    have hadd2 : ∀ w, (Op.stringOp .add (s.hd.f2 ++ ⟨#[32]⟩) s.tl.plain.1).run Tryz.prog w = .ok (.string (s.hd.f2 ++ ⟨#[32]⟩ ++ s.tl.plain.1)) w := fun w => run_string_add_sum w _ _ (by rw [ByteArray.size_append]; have := HOk.out.hd; have := HOk2.out.plain; omega)
    clear hfin hs h1
    go_enter Tryz.func136, Tryz.ntmps136
    go_wp2_with fail
    refine HS.out.mono ?_
    rintro e W1 ⟨rfl, hp1, hg1⟩
    have HP1 := Lib.hid hp1
    clear hp1 hg1
    go_wp2_with fail
    refine (take_at HP1.out HNe.out).mono ?_
    rintro e W2 ⟨rfl, hp2, hg2⟩
    have HP2 := Lib.hid hp2
    clear hp2 hg2
    go_wp2_with fail
    refine (plain_at HP2.out HOk2.out).mono ?_
    rintro e W3 ⟨rfl, hp3, hg3⟩
    go_wp2_with fail
    go_ret
    exact ⟨by rw [HF.out]; rfl, by rw [HF.out]; exact hp3⟩
theorem whole_at {w0 W0 W : World} {B : Nat} {s : Rd} (h : PS w0 W0 W B s) (hok : s.Ok) : Calls Tryz.prog 136 #[.pointer (some ⟨B, 0, none⟩)] W fun e W' => e = .returned (.string s.whole.1) ∧ PS w0 W0 W' B s.whole.2 ∧ W.grownBy W' (some B) := by
  refine (whole_calls w0 W B s h.r hok).mono ?_
  rintro e W' ⟨he, hp⟩
  exact ⟨he, h.on hp, hp.g⟩
end
section
open Go Go.RowKit Go.Proofs.YtmgkejobolgkmaaGreatDoorW.PrintWords Go.Proofs.YtmgkejobolgkmaaGreatDoorW.PrintLast Go.Proofs.YtmgkejobolgkmaaGreatDoorW.PrintMore
set_option linter.unusedVariables false
set_option linter.unusedSimpArgs false

theorem cell_al {W : World} {a : Addr} {v : Value} (h : W.cell? a = some v) (o : Obj) : (W.alloc o).cell? a = some v := cell_bel rfl (below_alloc (Below.refl W.heap.size W) o) h
theorem RW.set {α : Type} {d : Kd α} {e base : Nat} {W : World} {v : Value} {xs : List α} (h : RW d e W base v xs) {g t : Nat} {cs : Array Value} (hb : Blk W g cs t) (ht : ∀ q, q ∈ e :: d.E → q ≠ t) (j : Nat) (u : Value) : RW d e (W.setCell ⟨g, j, none⟩ u) base v xs := Kd.R_set h hb.out ht j u
theorem RW.far {α : Type} {d : Kd α} {e base : Nat} {W : World} {v : Value} {xs : List α} (h : RW d e W base v xs) {g t : Nat} {cs : Array Value} (hb : Blk W g cs t) (ht : e ≠ t) : some g ≠ v.ownBlock := Kd.R_ne h hb.out ht
theorem RW.slice {α : Type} {d : Kd α} {e base : Nat} {W : World} {v : Value} {xs : List α} (h : RW d e W base v xs) : ∃ A n c, v = .slice A n c := by
  obtain ⟨A, c, h1⟩ := Kd.R_slice h
  exact ⟨A, _, c, h1⟩
set_option maxHeartbeats 8000000 in
set_option maxRecDepth 100000 in
theorem place_calls (w0 W : World) (B : Nat) (s : Rd) (h : RdIn w0 W B s) (hok : s.Ok) :
    Calls Tryz.prog 165 #[.pointer (some ⟨B, 0, none⟩)] W fun e W' => ∃ v, e = .returned (.agg #[.string s.place.1.f0, v]) ∧ RW Kd.string 9 W' W.heap.size v s.place.1.f1 ∧ PS w0 W W' B s.place.2 := by
  have HP0 := Lib.hid (PS.start h)
  have HLen := Lib.hid h.len
  have HOk := Lib.hid hok
  have HLt := Lib.hid h.lt
  obtain ⟨fin, hfin⟩ : ∃ fin, fin = s.place := ⟨_, rfl⟩
  rw [← hfin]
  unfold Rd.place at hfin
  obtain ⟨a, ha⟩ : ∃ a, a = s.at_ := ⟨_, rfl⟩
  have HAt := Lib.hid (fun V (hV : RdIn w0 V B s) => at_calls w0 V B s hV)
  have HNl : Hid (s.name.2.toks.length ≤ s.toks.length) := Lib.hid ((lenC s.toks.length).name (Nat.le_refl _))
  have HOk1 := Lib.hid (okC.name hok)
  rw [← ha] at hfin HAt
  obtain ⟨st, hst⟩ : ∃ st, st = Rd.steps rdF s.name.2 [] := ⟨_, rfl⟩
  rw [← hst] at hfin
  have HF := Lib.hid hfin
  have HSt := Lib.hid hst
  obtain ⟨F, hF⟩ : ∃ F, F = rdF := ⟨_, rfl⟩
  rw [← hF] at HSt
  have HFF : Hid (F = 100001) := Lib.hid hF
  clear h hfin hst hF ha hok
  go_enter Tryz.func165, Tryz.ntmps165
  go_wp2_with fail
  refine at_world (fun V => Blk V W.heap.size #[.string ⟨#[]⟩, .slice none 0 0] 50 ∧ PS w0 W V B s) ⟨Blk.new _ _ _, HP0.out.alloc _⟩ ?_
  rintro V0 ⟨HRes, hp0⟩
  have HP := Lib.hid hp0
  clear hp0 HP0
  refine (HAt.out V0 HP.out.r).mono ?_
  rintro e W1 ⟨rfl, rfl⟩
  clear HAt
  have HN := Lib.hid (name_at HP.out)
  generalize s.name = nm at *
  obtain ⟨x, s1⟩ := nm
  simp only at HN HF HSt HNl HOk1
  go_wp2_with fail
  refine HN.out.mono ?_
  rintro e W2 ⟨rfl, hp2, hg2⟩
  have HRes2 := Lib.hid ((HRes.grown hg2 (fun e => by cases e; exact absurd HLt.out (Nat.lt_irrefl _))).alloc (.cells #[.string x, .slice none 0 0] 50))
  have HG := Lib.hid (Blk.new W2 #[.string x, .slice none 0 0] 50)
  have HP2 := Lib.hid (hp2.alloc (.cells #[.string x, .slice none 0 0] 50))
  have HSz : Hid (W.heap.size < W2.heap.size) := Lib.hid (HRes.grown hg2 (fun e => by cases e; exact absurd HLt.out (Nat.lt_irrefl _))).lt
  clear hp2 hg2 HRes HN HP
  go_wp2_with fail
  go_loopg [] F (fun kq w' => ∃ (s' : Rd) (out : List ByteArray) (v : Value), Aside0 (out.length + kq = F ∧ s'.Ok) ∧ Aside0 (s'.toks.length < kq) ∧ Aside0 (Rd.steps kq s' out = st) ∧ Aside0 (Blk w' W.heap.size #[.string ⟨#[]⟩, .slice none 0 0] 50) ∧ Aside0 (Blk w' W2.heap.size #[.string x, v] 50) ∧ Aside0 (RW Kd.string 9 w' W.heap.size v out) ∧ Aside0 (PS w0 W w' B s'))
  case atStart => exact ⟨s1, [], .slice none 0 0, ⟨by simp, HOk1.out⟩, ⟨by have := HLen.out; have := HNl.out; have := HFF.out; omega⟩, ⟨HSt.out.symm⟩, ⟨HRes2.out⟩, ⟨HG.out⟩, ⟨RW.nil _ _ _ _⟩, ⟨HP2.out⟩⟩
  case round =>
    clear HP2 HG HRes2 HSt HNl HLen HOk1
    obtain ⟨s', out, v, HI, HLn, HB, HRes, HG, HW, HPS⟩ := hrel
    generalize hG : W2.heap.size = G at *
    clear hG
    cases gk with
    | zero => exact absurd HLn.out (by omega)
    | succ kk =>
      have hb := HB.out
      unfold Rd.steps at hb
      have HMl : Hid ((s'.may ⟨#[46]⟩).1 = true → (s'.may ⟨#[46]⟩).2.toks.length < s'.toks.length) := Lib.hid Rd.may_lt
      have HM := Lib.hid (may_at HPS.out ⟨#[46]⟩)
      have HO1 := Lib.hid (okC.may ⟨#[46]⟩ HI.out.2)
      clear HB
      generalize s'.may ⟨#[46]⟩ = r at *
      obtain ⟨b, s1⟩ := r
      simp only at hb HM HMl HO1
      cases b with
      | true =>
        rw [if_pos rfl] at hb
        have HMl2 := Lib.hid (HMl.out rfl)
        clear HMl
        go_wp2_with fail
        refine HM.out.mono ?_
        rintro e W3 ⟨rfl, hp3, hg3⟩
        have HP3 := Lib.hid hp3
        have HR3 := Lib.hid (HRes.out.grown hg3 (fun e => by cases e; exact absurd HLt.out (Nat.lt_irrefl _)))
        have HG3 := Lib.hid (HG.out.grown hg3 (fun e => by cases e; have := HLt.out; have := HSz.out; omega))
        have HW3 := Lib.hid (HW.out.grown hg3 HLt.out)
        clear hp3 hg3 HM HRes HG HW HPS
        have HM := Lib.hid (may_at HP3.out ⟨#[42]⟩)
        have HMl3 : Hid ((s1.may ⟨#[42]⟩).2.toks.length ≤ s1.toks.length) := Lib.hid ((lenC s1.toks.length).may _ (Nat.le_refl _))
        have HO3 := Lib.hid (okC.may ⟨#[42]⟩ HO1.out)
        generalize s1.may ⟨#[42]⟩ = r at *
        obtain ⟨b, s2⟩ := r
        simp only at hb HM HMl3 HO3
        go_wp2_with fail
        refine HM.out.mono ?_
        rintro e W4 ⟨rfl, hp4, hg4⟩
        have HP4 := Lib.hid hp4
        have HR4 := Lib.hid (HR3.out.grown hg4 (fun e => by cases e; exact absurd HLt.out (Nat.lt_irrefl _)))
        have HG4 := Lib.hid (HG3.out.grown hg4 (fun e => by cases e; have := HLt.out; have := HSz.out; omega))
        have HW4 := Lib.hid (HW3.out.grown hg4 HLt.out)
        have HVl := Lib.hid (Kd.R_lt HW4.out)
        obtain ⟨⟨g0, g1⟩, f0, f1⟩ := HG4.out.cells2
        clear hp4 hg4 HM HR3 HG3 HW3 HP3
        cases b with
        | true =>
          rw [if_pos rfl] at hb
          have HB := Lib.hid hb
          clear hb
          go_wp2_with ((with_reducible refine gate_builtin (b := .append) (xs := #[.tmp 15, .tmp 16]) rfl ?_); at_builtin; refine row_append Kd.string W.heap.size W4.heap.size rfl (.tmp 15) (.tmp 16) 48 9 (.string ⟨#[]⟩) 16 rfl Tryz.underlying48 infoStr rfl (by decide) (by decide) _ out ⟨#[42]⟩ [.string ⟨#[42]⟩] rfl rfl rfl HW4.out HVl.out HP4.out.size HP4.out.size (by have := HI.out.1; have := HFF.out; omega) ?_; intro v2 W5 hw5 hg5 hb5; obtain ⟨A2, n2, c2, rfl⟩ := RW.slice hw5; have HW5 := Lib.hid hw5; have HP5 := Lib.hid (HP4.out.app hg5 hb5); have HG5 := Lib.hid (HG4.out.grown hg5 (HW4.out.far HG4.out (by decide))); have HR5 := Lib.hid (HR4.out.grown hg5 (HW4.out.far HR4.out (by decide))); clear hw5 hg5 hb5 HW4 HVl HP4 HG4 HR4 g0 g1 f0 f1; obtain ⟨⟨g0, g1⟩, f0, f1⟩ := HG5.out.cells2)
          go_roundg kk
          case measure => omega
          case rel => exact ⟨s2, out ++ [⟨#[42]⟩], .slice A2 n2 c2, ⟨by rw [List.length_append]; have := HI.out.1; simp; omega, HO3.out⟩, ⟨by have := HMl3.out; have := HMl2.out; have := HLn.out; omega⟩, ⟨HB.out⟩, ⟨HR5.out.far (Nat.ne_of_lt HSz.out) _⟩, ⟨HG5.out.set 1 _⟩, ⟨HW5.out.set HG5.out (by decide) 1 _⟩, ⟨HP5.out.set (Nat.le_of_lt HSz.out) _⟩⟩
        | false =>
          rw [if_neg (by decide)] at hb
          have HN := Lib.hid (name_at HP4.out)
          have HN' := Lib.hid (name_at (HP4.out.bel (below_drew (Below.refl _ _))))
          have HMl4 : Hid (s2.name.2.toks.length ≤ s2.toks.length) := Lib.hid ((lenC s2.toks.length).name (Nat.le_refl _))
          have HO4 := Lib.hid (okC.name HO3.out)
          generalize s2.name = r at *
          obtain ⟨y, s3⟩ := r
          simp only at hb HN HN' HMl4 HO4
          have HB := Lib.hid hb
          clear hb
          go_wp2_with fail
          go_region_law (first
            | (go_simp; refine HN'.out.mono ?_; rintro e W5 ⟨rfl, hp5, hg5⟩; have hg5' := grown_trans (grown_below (below_drew (Below.refl W4.heap.size W4))) hg5; have HP5 := Lib.hid hp5; have HR5 := Lib.hid (HR4.out.grown hg5' (fun e => by cases e; exact absurd HLt.out (Nat.lt_irrefl _))); have HG5 := Lib.hid (HG4.out.grown hg5' (fun e => by cases e; have := HLt.out; have := HSz.out; omega)); have HW5 := Lib.hid (HW4.out.grown hg5' HLt.out); have HVl5 := Lib.hid (Kd.R_lt HW5.out); have q1 := HG5.out.cells2.1.2; have q2 := fun o => cell_al HG5.out.cells2.1.2 o; clear hp5 hg5 hg5')
            | (refine row_append_step Kd.string W.heap.size W5.heap.size rfl (.tmp 20) (.tmp 23) 48 9 (.string ⟨#[]⟩) 16 rfl Tryz.underlying48 infoStr rfl (by decide) (by decide) _ out y [.string y] rfl rfl rfl HW5.out HVl5.out HP5.out.size HP5.out.size (by have := HI.out.1; have := HFF.out; omega) ?_; intro v2 W6 hw6 hg6 hb6; obtain ⟨A2, n2, c2, rfl⟩ := RW.slice hw6; have HW6 := Lib.hid hw6; have HP6 := Lib.hid (HP5.out.app hg6 hb6); have HG6 := Lib.hid (HG5.out.grown hg6 (HW5.out.far HG5.out (by decide))); have HR6 := Lib.hid (HR5.out.grown hg6 (HW5.out.far HR5.out (by decide))); clear hw6 hg6 hb6; obtain ⟨⟨p0, p1⟩, e0, e1⟩ := HG6.out.cells2))
          all_goals
            go_wp2_with fail
            go_roundg kk
            case measure => omega
            case rel => exact ⟨s3, out ++ [y], .slice A2 n2 c2, ⟨by rw [List.length_append]; have := HI.out.1; simp; omega, HO4.out⟩, ⟨by have := HMl4.out; have := HMl3.out; have := HMl2.out; have := HLn.out; omega⟩, ⟨HB.out⟩, ⟨HR6.out.far (Nat.ne_of_lt HSz.out) _⟩, ⟨HG6.out.set 1 _⟩, ⟨HW6.out.set HG6.out (by decide) 1 _⟩, ⟨HP6.out.set (Nat.le_of_lt HSz.out) _⟩⟩
      | false =>
        rw [if_neg (by decide)] at hb
        have hf := HF.out
        rw [← hb] at hf
        simp only at hf
        clear hb HMl HF
        have HF := Lib.hid hf
        clear hf
        go_wp2_with fail
        refine HM.out.mono ?_
        rintro e W3 ⟨rfl, hp3, hg3⟩
        have HP3 := Lib.hid hp3
        have HR3 := Lib.hid (HRes.out.grown hg3 (fun e => by cases e; exact absurd HLt.out (Nat.lt_irrefl _)))
        have HW3 := Lib.hid (HW.out.grown hg3 HLt.out)
        obtain ⟨A, c, rfl⟩ := Kd.R_slice HW3.out
        have HG3 := Lib.hid (HG.out.grown hg3 (fun e => by cases e; have := HLt.out; have := HSz.out; omega))
        obtain ⟨A', c', ⟨d0, d1, d2, d3⟩, f3⟩ := hp3.cells
        obtain ⟨⟨g0, g1⟩, g2, g3⟩ := HG3.out.cells2
        clear hp3 hg3 HM d0 d1 d2 HRes HW HG HPS
        have q8 : decide ((out.length : Int) > 8) = decide (8 < out.length) := by
          by_cases h8 : 8 < out.length
          · rw [decide_eq_true h8]; exact decide_eq_true (by omega)
          · rw [decide_eq_false h8]; exact decide_eq_false (by omega)
        have q8b : decide (8 < (out.length : Int)) = decide (8 < out.length) := by
          by_cases h8 : 8 < out.length
          · rw [decide_eq_true h8]; exact decide_eq_true (by omega)
          · rw [decide_eq_false h8]; exact decide_eq_false (by omega)
        have HMore := Lib.hid (Rd.more_cases s1 (decide (8 < out.length)) a)
        have hres : W.heap.size ≠ G := Nat.ne_of_lt HSz.out
        obtain ⟨⟨r0, r1⟩, r2, r3⟩ := HR3.out.cells2
        obtain ⟨m, hm⟩ : ∃ m, m = out.length := ⟨_, rfl⟩
        rw [← hm] at q8 q8b HMore g1
        have HMm := Lib.hid hm
        have hBG : (B = G) = False := eq_false (by have := HLt.out; have := HSz.out; omega)
        have hGB : (G = B) = False := eq_false (by have := HLt.out; have := HSz.out; omega)
        have hBR : (B = W.heap.size) = False := eq_false (by have := HLt.out; omega)
        have hRB : (W.heap.size = B) = False := eq_false (by have := HLt.out; omega)
        have HRG := Lib.hid hres
        have HBG : Hid (B ≠ G) := Lib.hid (fun e => by have := HLt.out; have := HSz.out; omega)
        have HBR : Hid (B ≠ W.heap.size) := Lib.hid (fun e => by have := HLt.out; omega)
        have HC : Hid (decide (8 < m) = decide (8 < out.length)) := Lib.hid (by rw [hm])
        clear hres hm
        generalize hcc : decide (8 < m) = cc at *
        clear hcc
        rcases HMore.out with ⟨rfl, hm⟩ | ⟨rfl, m1, m2, hm⟩ | ⟨rfl, m1, hm⟩ | ⟨rfl, m1, m2, hm⟩
        · have HF2 : Hid (fin.1 = ⟨x, out⟩ ∧ PS w0 W (W3) B fin.2 → True) := Lib.hid (fun _ => trivial)
          have hf := HF.out
          rw [← HC.out, hm] at hf
          have HF3 := Lib.hid hf
          clear hf hm HF HMore HF2
          go_wp2_with fail
          refine post_at (fun U => Blk U W.heap.size #[.string x, .slice A m c] 50 ∧ RW Kd.string 9 U W.heap.size (.slice A out.length c) out ∧ PS w0 W U B fin.2) ⟨?_, ?_, ?_⟩ ?_
          · exact ((HR3.out : Blk _ _ _ _).set 0 _).set 1 _
          · exact ((HW3.out : RW _ _ _ _ _ _).set (HR3.out : Blk _ _ _ _) (by decide) 0 _).set ((HR3.out : Blk _ _ _ _).set 0 _) (by decide) 1 _
          · rw [HF3.out]
            exact ((HP3.out : PS _ _ _ _ _).set (p := ⟨W.heap.size, 0, none⟩) (Nat.le_refl _) _).set (p := ⟨W.heap.size, 1, none⟩) (Nat.le_refl _) _
          · rintro U ⟨hbx, hrw, hps⟩
            obtain ⟨⟨z0, z1⟩, -⟩ := hbx.cells2
            exact bodyPost_ret (v := .agg #[.string x, .slice A m c]) (by simp [results, Tryz.results165, go_sem, z0, z1]) rfl ⟨.slice A out.length c, by rw [HF3.out, HMm.out], by rw [HF3.out]; exact hrw, hps⟩

        · have HF2 : Hid (fin.1 = ⟨x, out⟩ ∧ PS w0 W (W3) B fin.2 → True) := Lib.hid (fun _ => trivial)
          have hf := HF.out
          rw [← HC.out, hm] at hf
          have HF3 := Lib.hid hf
          clear hf hm HF HMore HF2
          go_wp2_with fail
          refine post_at (fun U => Blk U W.heap.size #[.string x, .slice A m c] 50 ∧ RW Kd.string 9 U W.heap.size (.slice A out.length c) out ∧ PS w0 W U B fin.2) ⟨?_, ?_, ?_⟩ ?_
          · exact ((HR3.out : Blk _ _ _ _).set 0 _).set 1 _
          · exact ((HW3.out : RW _ _ _ _ _ _).set (HR3.out : Blk _ _ _ _) (by decide) 0 _).set ((HR3.out : Blk _ _ _ _).set 0 _) (by decide) 1 _
          · rw [HF3.out]
            exact ((HP3.out : PS _ _ _ _ _).set (p := ⟨W.heap.size, 0, none⟩) (Nat.le_refl _) _).set (p := ⟨W.heap.size, 1, none⟩) (Nat.le_refl _) _
          · rintro U ⟨hbx, hrw, hps⟩
            obtain ⟨⟨z0, z1⟩, -⟩ := hbx.cells2
            exact bodyPost_ret (v := .agg #[.string x, .slice A m c]) (by simp [results, Tryz.results165, go_sem, z0, z1]) rfl ⟨.slice A out.length c, by rw [HF3.out, HMm.out], by rw [HF3.out]; exact hrw, hps⟩

        · have HF2 : Hid (fin.1 = ⟨x, out⟩ ∧ PS w0 W (W3) B fin.2 → True) := Lib.hid (fun _ => trivial)
          have hf := HF.out
          rw [← HC.out, hm] at hf
          have HF3 := Lib.hid hf
          clear hf hm HF HMore HF2
          go_wp2_with fail
          refine post_at (fun U => Blk U W.heap.size #[.string x, .slice A m c] 50 ∧ RW Kd.string 9 U W.heap.size (.slice A out.length c) out ∧ PS w0 W U B fin.2) ⟨?_, ?_, ?_⟩ ?_
          · exact ((HR3.out.far HBR.out.symm _ : Blk _ _ _ _).set 0 _).set 1 _
          · exact ((HW3.out.grown (grown_set W3 ⟨B, 3, none⟩ _) HLt.out : RW _ _ _ _ _ _).set (HR3.out.far HBR.out.symm _ : Blk _ _ _ _) (by decide) 0 _).set ((HR3.out.far HBR.out.symm _ : Blk _ _ _ _).set 0 _) (by decide) 1 _
          · rw [HF3.out]
            exact ((HP3.out.much a : PS _ _ _ _ _).set (p := ⟨W.heap.size, 0, none⟩) (Nat.le_refl _) _).set (p := ⟨W.heap.size, 1, none⟩) (Nat.le_refl _) _
          · rintro U ⟨hbx, hrw, hps⟩
            obtain ⟨⟨z0, z1⟩, -⟩ := hbx.cells2
            exact bodyPost_ret (v := .agg #[.string x, .slice A m c]) (by simp [results, Tryz.results165, go_sem, z0, z1]) rfl ⟨.slice A out.length c, by rw [HF3.out, HMm.out], by rw [HF3.out]; exact hrw, hps⟩

        · have HF2 : Hid (fin.1 = ⟨x, out⟩ ∧ PS w0 W (W3) B fin.2 → True) := Lib.hid (fun _ => trivial)
          have hf := HF.out
          rw [← HC.out, hm] at hf
          have HF3 := Lib.hid hf
          clear hf hm HF HMore HF2
          go_wp2_with fail
          refine post_at (fun U => Blk U W.heap.size #[.string x, .slice A m c] 50 ∧ RW Kd.string 9 U W.heap.size (.slice A out.length c) out ∧ PS w0 W U B fin.2) ⟨?_, ?_, ?_⟩ ?_
          · exact ((HR3.out.far HBR.out.symm _ : Blk _ _ _ _).set 0 _).set 1 _
          · exact ((HW3.out.grown (grown_set W3 ⟨B, 3, none⟩ _) HLt.out : RW _ _ _ _ _ _).set (HR3.out.far HBR.out.symm _ : Blk _ _ _ _) (by decide) 0 _).set ((HR3.out.far HBR.out.symm _ : Blk _ _ _ _).set 0 _) (by decide) 1 _
          · rw [HF3.out]
            exact ((HP3.out.much a : PS _ _ _ _ _).set (p := ⟨W.heap.size, 0, none⟩) (Nat.le_refl _) _).set (p := ⟨W.heap.size, 1, none⟩) (Nat.le_refl _) _
          · rintro U ⟨hbx, hrw, hps⟩
            obtain ⟨⟨z0, z1⟩, -⟩ := hbx.cells2
            exact bodyPost_ret (v := .agg #[.string x, .slice A m c]) (by simp [results, Tryz.results165, go_sem, z0, z1]) rfl ⟨.slice A out.length c, by rw [HF3.out, HMm.out], by rw [HF3.out]; exact hrw, hps⟩
end
section
open Go Go.RowKit Go.Proofs.YtmgkejobolgkmaaGreatDoorW.PrintWords Go.Proofs.YtmgkejobolgkmaaGreatDoorW.PrintLast Go.Proofs.YtmgkejobolgkmaaGreatDoorW.PrintMore
set_option linter.unusedVariables false
set_option linter.unusedSimpArgs false

theorem Blk.ps {W W1 : World} {B : Nat} {g t : Nat} {cs : Array Value} (h : Blk W g cs t) (hg : W.grownBy W1 (some B)) (hne : g ≠ B) : Blk W1 g cs t := h.grown hg (fun e => by cases e; exact hne rfl)
theorem see_at' {w0 W0 W : World} {B n : Nat} {s : Rd} (h : PS w0 W0 W B s) (x : ByteArray) (hn : W.heap.size = n) :
    Calls Tryz.prog 52 #[.pointer (some ⟨B, 0, none⟩), .slice (some ⟨n, 0, none⟩) 1 1] (W.alloc (.cells #[.string x] 9)) fun e W' => e = .returned (.bool (s.sees [x])) ∧ PS w0 W0 W' B s ∧ W.grownBy W' (some B) := by
  subst hn
  exact see_at h x
theorem must_at' {w0 W0 W : World} {B n : Nat} {s : Rd} (h : PS w0 W0 W B s) (x : ByteArray) (hn : W.heap.size = n) :
    Calls Tryz.prog 98 #[.pointer (some ⟨B, 0, none⟩), .slice (some ⟨n, 0, none⟩) 1 1] (W.alloc (.cells #[.string x] 9)) fun e W' => (∃ v, e = .returned v) ∧ PS w0 W0 W' B (Rd.must [x] s) ∧ W.grownBy W' (some B) := by
  subst hn
  exact must_at h x
theorem place_at {w0 W0 W : World} {B : Nat} {s : Rd} (h : PS w0 W0 W B s) (hok : s.Ok) :
    Calls Tryz.prog 165 #[.pointer (some ⟨B, 0, none⟩)] W fun e W' => ∃ A n c, e = .returned (.agg #[.string s.place.1.f0, .slice A n c]) ∧ RW Kd.string 9 W' W.heap.size (.slice A n c) s.place.1.f1 ∧ PS w0 W0 W' B s.place.2 ∧ W.grownBy W' (some B) := by
  refine (place_calls w0 W B s h.r hok).mono ?_
  rintro e W' ⟨v, he, hrw, hp⟩
  obtain ⟨A, n, c, rfl⟩ := RW.slice hrw
  exact ⟨A, n, c, he, hrw, h.on hp, hp.g⟩
set_option maxHeartbeats 4000000 in
set_option maxRecDepth 100000 in
theorem param_calls (w0 W : World) (B : Nat) (s : Rd) (h : RdIn w0 W B s) (hok : s.Ok) :
    Calls Tryz.prog 105 #[.pointer (some ⟨B, 0, none⟩)] W fun e W' => e = .returned (.agg #[.string s.param.1.f0, .string s.param.1.f1]) ∧ PS w0 W W' B s.param.2 := by
  have HP0 := Lib.hid (PS.start h)
  have HLt := Lib.hid h.lt
  obtain ⟨fin, hfin⟩ : ∃ fin, fin = s.param := ⟨_, rfl⟩
  rw [← hfin]
  unfold Rd.param at hfin
  have HOk1 := Lib.hid (okC.name hok)
  go_enter Tryz.func105, Tryz.ntmps105
  go_wp2_with fail
  refine at_world (fun V => Blk V W.heap.size #[.string ⟨#[]⟩, .string ⟨#[]⟩] 99 ∧ PS w0 W V B s) ⟨Blk.new _ _ _, HP0.out.alloc _⟩ ?_
  rintro V0 ⟨HRes, hp0⟩
  have HP := Lib.hid hp0
  have HF := Lib.hid hfin
  clear hp0 HP0 h hok hfin
  have HN := Lib.hid (name_at HP.out)
  generalize s.name = nm at *
  obtain ⟨x, s1⟩ := nm
  simp only at HN HF HOk1
  refine HN.out.mono ?_
  rintro e W1 ⟨rfl, hp2, hg2⟩
  have HRes1 := Lib.hid (HRes.grown hg2 (fun e => by cases e; exact absurd HLt.out (Nat.lt_irrefl _)))
  have HP2 := Lib.hid hp2
  clear hp2 hg2 HRes HN HP
  go_wp2_with fail
  refine (whole_at HP2.out HOk1.out).mono ?_
  rintro e W2 ⟨rfl, hp3, hg3⟩
  have HRes2 := Lib.hid (HRes1.out.grown hg3 (fun e => by cases e; exact absurd HLt.out (Nat.lt_irrefl _)))
  have HP3 := Lib.hid hp3
  obtain ⟨⟨r0, r1⟩, r2, r3⟩ := HRes2.out.cells2
  clear hp3 hg3 HRes1
  generalize s1.whole = q at *
  obtain ⟨y, s2⟩ := q
  simp only at HP3 HF
  go_wp2_with fail
  refine post_at (fun U => Blk U W.heap.size #[.string x, .string y] 99 ∧ PS w0 W U B s2) ⟨?_, ?_⟩ ?_
  · exact (HRes2.out.set 0 _).set 1 _
  · exact (HP3.out.set (p := ⟨W.heap.size, 0, none⟩) (Nat.le_refl _) _).set (p := ⟨W.heap.size, 1, none⟩) (Nat.le_refl _) _
  · rintro U ⟨hbx, hps⟩
    obtain ⟨⟨z0, z1⟩, -⟩ := hbx.cells2
    exact bodyPost_ret (v := .agg #[.string x, .string y]) (by simp [results, Tryz.results105, go_sem, z0, z1]) rfl ⟨by rw [HF.out], by rw [HF.out]; exact hps⟩
theorem param_at {w0 W0 W : World} {B : Nat} {s : Rd} (h : PS w0 W0 W B s) (hok : s.Ok) :
    Calls Tryz.prog 105 #[.pointer (some ⟨B, 0, none⟩)] W fun e W' => e = .returned (.agg #[.string s.param.1.f0, .string s.param.1.f1]) ∧ PS w0 W0 W' B s.param.2 ∧ W.grownBy W' (some B) := by
  refine (param_calls w0 W B s h.r hok).mono ?_
  rintro e W' ⟨he, hp⟩
  exact ⟨he, h.on hp, hp.g⟩

set_option maxHeartbeats 4000000 in
set_option maxRecDepth 100000 in
theorem field_calls (w0 W : World) (B : Nat) (s : Rd) (h : RdIn w0 W B s) (hok : s.Ok) :
    Calls Tryz.prog 102 #[.pointer (some ⟨B, 0, none⟩)] W fun e W' => e = .returned (.agg #[.string s.field.1.f0, .string s.field.1.f1]) ∧ PS w0 W W' B s.field.2 := by
  have HP0 := Lib.hid (PS.start h)
  have HLt := Lib.hid h.lt
  obtain ⟨fin, hfin⟩ : ∃ fin, fin = s.field := ⟨_, rfl⟩
  rw [← hfin]
  unfold Rd.field at hfin
  have HOk1 := Lib.hid (okC.name hok)
  go_enter Tryz.func102, Tryz.ntmps102
  go_wp2_with fail
  refine at_world (fun V => Blk V W.heap.size #[.string ⟨#[]⟩, .string ⟨#[]⟩] 99 ∧ PS w0 W V B s) ⟨Blk.new _ _ _, HP0.out.alloc _⟩ ?_
  rintro V0 ⟨HRes, hp0⟩
  have HP := Lib.hid hp0
  have HF := Lib.hid hfin
  clear hp0 HP0 h hok hfin
  have HN := Lib.hid (name_at HP.out)
  generalize s.name = nm at *
  obtain ⟨x, s1⟩ := nm
  simp only at HN HF HOk1
  refine HN.out.mono ?_
  rintro e W1 ⟨rfl, hp2, hg2⟩
  have HRes1 := Lib.hid (HRes.grown hg2 (fun e => by cases e; exact absurd HLt.out (Nat.lt_irrefl _)))
  have HP2 := Lib.hid hp2
  clear hp2 hg2 HRes HN HP
  go_wp2_with fail
  refine (plain_at HP2.out HOk1.out).mono ?_
  rintro e W2 ⟨rfl, hp3, hg3⟩
  have HRes2 := Lib.hid (HRes1.out.grown hg3 (fun e => by cases e; exact absurd HLt.out (Nat.lt_irrefl _)))
  have HP3 := Lib.hid hp3
  obtain ⟨⟨r0, r1⟩, r2, r3⟩ := HRes2.out.cells2
  clear hp3 hg3 HRes1
  generalize s1.plain = q at *
  obtain ⟨y, s2⟩ := q
  simp only at HP3 HF
  go_wp2_with fail
  refine post_at (fun U => Blk U W.heap.size #[.string x, .string y] 99 ∧ PS w0 W U B s2) ⟨?_, ?_⟩ ?_
  · exact (HRes2.out.set 0 _).set 1 _
  · exact (HP3.out.set (p := ⟨W.heap.size, 0, none⟩) (Nat.le_refl _) _).set (p := ⟨W.heap.size, 1, none⟩) (Nat.le_refl _) _
  · rintro U ⟨hbx, hps⟩
    obtain ⟨⟨z0, z1⟩, -⟩ := hbx.cells2
    exact bodyPost_ret (v := .agg #[.string x, .string y]) (by simp [results, Tryz.results102, go_sem, z0, z1]) rfl ⟨by rw [HF.out], by rw [HF.out]; exact hps⟩
theorem field_at {w0 W0 W : World} {B : Nat} {s : Rd} (h : PS w0 W0 W B s) (hok : s.Ok) :
    Calls Tryz.prog 102 #[.pointer (some ⟨B, 0, none⟩)] W fun e W' => e = .returned (.agg #[.string s.field.1.f0, .string s.field.1.f1]) ∧ PS w0 W0 W' B s.field.2 ∧ W.grownBy W' (some B) := by
  refine (field_calls w0 W B s h.r hok).mono ?_
  rintro e W' ⟨he, hp⟩
  exact ⟨he, h.on hp, hp.g⟩
set_option maxHeartbeats 4000000 in
set_option maxRecDepth 100000 in
theorem variant_calls (w0 W : World) (B : Nat) (s : Rd) (h : RdIn w0 W B s) (hok : s.Ok) :
    Calls Tryz.prog 103 #[.pointer (some ⟨B, 0, none⟩)] W fun e W' => e = .returned (.agg #[.string s.variant.1.f0, .string s.variant.1.f1]) ∧ PS w0 W W' B s.variant.2 := by
  have HP0 := Lib.hid (PS.start h)
  have HLt := Lib.hid h.lt
  obtain ⟨fin, hfin⟩ : ∃ fin, fin = s.variant := ⟨_, rfl⟩
  rw [← hfin]
  unfold Rd.variant Rd.field at hfin
  have HOk1 := Lib.hid (okC.name hok)
  go_enter Tryz.func103, Tryz.ntmps103
  go_wp2_with fail
  refine at_world (fun V => Blk V W.heap.size #[.string ⟨#[]⟩, .string ⟨#[]⟩] 99 ∧ PS w0 W V B s) ⟨Blk.new _ _ _, HP0.out.alloc _⟩ ?_
  rintro V0 ⟨HRes, hp0⟩
  have HP := Lib.hid hp0
  have HF := Lib.hid hfin
  clear hp0 HP0 h hok hfin
  have HN := Lib.hid (name_at HP.out)
  generalize s.name = nm at *
  obtain ⟨x, s1⟩ := nm
  simp only at HN HF HOk1
  refine HN.out.mono ?_
  rintro e W1 ⟨rfl, hp2, hg2⟩
  have HRes0 := HRes.grown hg2 (fun e => by cases e; exact absurd HLt.out (Nat.lt_irrefl _))
  have HLG : Hid (W.heap.size < W1.heap.size) := Lib.hid HRes0.lt
  have HRes1 := Lib.hid (HRes0.alloc (.cells #[.string x, .string ⟨#[]⟩] 99))
  have HG := Lib.hid (Blk.new W1 #[.string x, .string ⟨#[]⟩] 99)
  have HP2 := Lib.hid (hp2.alloc (.cells #[.string x, .string ⟨#[]⟩] 99))
  clear hp2 hg2 HRes HN HP HRes0
  have HS := Lib.hid (see_at' (n := W1.heap.size + 1) HP2.out ⟨#[59]⟩ (by simp))
  have HGB : Hid (W1.heap.size ≠ B) := Lib.hid (fun e => by have := HLt.out; have := HLG.out; omega)
  have HRB : Hid (W.heap.size ≠ B) := Lib.hid (fun e => by have := HLt.out; omega)
  cases hs : s1.sees [⟨#[59]⟩] with
  | true =>
    have hf := HF.out
    rw [hs, if_pos rfl] at hf
    rw [hs] at HS
    clear hs HF
    have HF := Lib.hid hf
    clear hf
    go_wp2_with fail
    refine HS.out.mono ?_
    rintro e W2 ⟨rfl, hp3, hg3⟩
    have HRes2 := Lib.hid (HRes1.out.grown hg3 (fun e => by cases e; exact HRB.out rfl))
    have HG2 := Lib.hid (HG.out.grown hg3 (fun e => by cases e; exact HGB.out rfl))
    have HP3 := Lib.hid hp3
    obtain ⟨⟨r0, r1⟩, r2, r3⟩ := HRes2.out.cells2
    obtain ⟨⟨g0, g1⟩, g2, g3⟩ := HG2.out.cells2
    clear hp3 hg3 HRes1 HG HS HP2
    go_wp2_with fail
    refine post_at (fun U => Blk U W.heap.size #[.string x, .string ⟨#[]⟩] 99 ∧ PS w0 W U B s1) ⟨?_, ?_⟩ ?_
    · exact (HRes2.out.set 0 _).set 1 _
    · exact (HP3.out.set (p := ⟨W.heap.size, 0, none⟩) (Nat.le_refl _) _).set (p := ⟨W.heap.size, 1, none⟩) (Nat.le_refl _) _
    · rintro U ⟨hbx, hps⟩
      obtain ⟨⟨z0, z1⟩, -⟩ := hbx.cells2
      exact bodyPost_ret (v := .agg #[.string x, .string ⟨#[]⟩]) (by simp [results, Tryz.results103, go_sem, z0, z1]) rfl ⟨by rw [HF.out], by rw [HF.out]; exact hps⟩
  | false =>
    have hf := HF.out
    rw [hs, if_neg (by decide)] at hf
    rw [hs] at HS
    clear hs HF
    have HF := Lib.hid hf
    clear hf
    go_wp2_with fail
    refine HS.out.mono ?_
    rintro e W2 ⟨rfl, hp3, hg3⟩
    have HRes2 := Lib.hid (HRes1.out.grown hg3 (fun e => by cases e; exact HRB.out rfl))
    have HG2 := Lib.hid (HG.out.grown hg3 (fun e => by cases e; exact HGB.out rfl))
    have HP3 := Lib.hid hp3
    clear hp3 hg3 HRes1 HG HS HP2
    go_wp2_with fail
    refine (plain_at HP3.out HOk1.out).mono ?_
    rintro e W3 ⟨rfl, hp4, hg4⟩
    have HRes3 := Lib.hid (HRes2.out.grown hg4 (fun e => by cases e; exact HRB.out rfl))
    have HG3 := Lib.hid (HG2.out.grown hg4 (fun e => by cases e; exact HGB.out rfl))
    have HP4 := Lib.hid hp4
    obtain ⟨⟨r0, r1⟩, r2, r3⟩ := HRes3.out.cells2
    obtain ⟨⟨g0, g1⟩, g2, g3⟩ := HG3.out.cells2
    have hGR : (W1.heap.size = W.heap.size) = False := eq_false (by have := HLG.out; omega)
    have hRG : (W.heap.size = W1.heap.size) = False := eq_false (by have := HLG.out; omega)
    generalize s1.plain = q at *
    obtain ⟨y, s2⟩ := q
    simp only at HP4 HF
    clear hp4 hg4 HRes2 HG2 HP3
    go_wp2_with fail
    refine post_at (fun U => Blk U W.heap.size #[.string x, .string y] 99 ∧ PS w0 W U B s2) ⟨?_, ?_⟩ ?_
    · exact ((HRes3.out.far (p := ⟨W1.heap.size, 1, none⟩) (Nat.ne_of_lt HLG.out) _).set 0 _).set 1 _
    · exact ((HP4.out.set (p := ⟨W1.heap.size, 1, none⟩) (Nat.le_of_lt HLG.out) _).set (p := ⟨W.heap.size, 0, none⟩) (Nat.le_refl _) _).set (p := ⟨W.heap.size, 1, none⟩) (Nat.le_refl _) _
    · rintro U ⟨hbx, hps⟩
      obtain ⟨⟨z0, z1⟩, -⟩ := hbx.cells2
      exact bodyPost_ret (v := .agg #[.string x, .string y]) (by simp [results, Tryz.results103, go_sem, z0, z1]) rfl ⟨by rw [HF.out], by rw [HF.out]; exact hps⟩
theorem variant_at {w0 W0 W : World} {B : Nat} {s : Rd} (h : PS w0 W0 W B s) (hok : s.Ok) :
    Calls Tryz.prog 103 #[.pointer (some ⟨B, 0, none⟩)] W fun e W' => e = .returned (.agg #[.string s.variant.1.f0, .string s.variant.1.f1]) ∧ PS w0 W0 W' B s.variant.2 ∧ W.grownBy W' (some B) := by
  refine (variant_calls w0 W B s h.r hok).mono ?_
  rintro e W' ⟨he, hp⟩
  exact ⟨he, h.on hp, hp.g⟩
set_option maxHeartbeats 4000000 in
set_option maxRecDepth 100000 in
theorem arm_calls (w0 W : World) (B : Nat) (s : Rd) (h : RdIn w0 W B s) :
    Calls Tryz.prog 169 #[.pointer (some ⟨B, 0, none⟩)] W fun e W' => e = .returned (.agg #[.string s.arm.1.f0, .string s.arm.1.f1, .string s.arm.1.f2]) ∧ PS w0 W W' B s.arm.2 := by
  have HP0 := Lib.hid (PS.start h)
  have HLt := Lib.hid h.lt
  obtain ⟨fin, hfin⟩ : ∃ fin, fin = s.arm := ⟨_, rfl⟩
  rw [← hfin]
  unfold Rd.arm at hfin
  simp only at hfin
  go_enter Tryz.func169, Tryz.ntmps169
  go_wp2_with fail
  refine at_world (fun V => Blk V W.heap.size #[.string ⟨#[]⟩, .string ⟨#[]⟩, .string ⟨#[]⟩] 92 ∧ PS w0 W V B s) ⟨Blk.new _ _ _, HP0.out.alloc _⟩ ?_
  rintro V0 ⟨HRes, hp0⟩
  have HP := Lib.hid hp0
  have HF := Lib.hid hfin
  clear hp0 HP0 h hfin
  have HN := Lib.hid (name_at HP.out)
  generalize s.name = nm at *
  obtain ⟨x, s1⟩ := nm
  simp only at HN HF
  refine HN.out.mono ?_
  rintro e W1 ⟨rfl, hp2, hg2⟩
  have HRes0 := HRes.grown hg2 (fun e => by cases e; exact absurd HLt.out (Nat.lt_irrefl _))
  have HLG : Hid (W.heap.size < W1.heap.size) := Lib.hid HRes0.lt
  have HRes1 := Lib.hid (HRes0.alloc (.cells #[.string x, .string ⟨#[]⟩, .string ⟨#[]⟩] 92))
  have HG := Lib.hid (Blk.new W1 #[.string x, .string ⟨#[]⟩, .string ⟨#[]⟩] 92)
  have HP2 := Lib.hid (hp2.alloc (.cells #[.string x, .string ⟨#[]⟩, .string ⟨#[]⟩] 92))
  clear hp2 hg2 HRes HN HP HRes0
  have HGB : Hid (W1.heap.size ≠ B) := Lib.hid (fun e => by have := HLt.out; have := HLG.out; omega)
  have HRB : Hid (W.heap.size ≠ B) := Lib.hid (fun e => by have := HLt.out; omega)
  have HRG : Hid (W.heap.size ≠ W1.heap.size) := Lib.hid (fun e => by have := HLG.out; omega)
  have hGR : (W1.heap.size = W.heap.size) = False := eq_false (by have := HLG.out; omega)
  have hRG : (W.heap.size = W1.heap.size) = False := eq_false (by have := HLG.out; omega)
  have HS := Lib.hid (named_at HP2.out)
  have HLe : Hid (W.heap.size ≤ W1.heap.size) := Lib.hid (Nat.le_of_lt HLG.out)
  cases hs : s1.named with
  | true =>
    have hf := HF.out
    rw [hs, if_pos rfl] at hf
    rw [hs] at HS
    clear hs HF
    have HF := Lib.hid hf
    clear hf
    go_wp2_with fail
    refine HS.out.mono ?_
    rintro e W2 ⟨rfl, hp3, hg3⟩
    have HRes2 := Lib.hid (HRes1.out.ps hg3 HRB.out)
    have HG2 := Lib.hid (HG.out.ps hg3 HGB.out)
    have HP3 := Lib.hid hp3
    clear hp3 hg3 HRes1 HG HS HP2
    go_wp2_with fail; refine (name_at HP3.out).mono ?_; rintro e W3 ⟨rfl, hp4, hg4⟩; have HRes3 := Lib.hid ((HRes2.out.ps hg4 HRB.out).far (p := ⟨W1.heap.size, 1, none⟩) HRG.out (.string s1.name.1)); have HG3 := Lib.hid ((HG2.out.ps hg4 HGB.out).set 1 (.string s1.name.1)); have HP4 := Lib.hid (hp4.set (p := ⟨W1.heap.size, 1, none⟩) HLe.out (.string s1.name.1)); obtain ⟨⟨g0, g1, g2⟩, f0, f1, f2⟩ := (HG2.out.ps hg4 HGB.out).cells3; clear hp4 hg4 HRes2 HG2 HP3; obtain ⟨y, hy⟩ : ∃ y, y = s1.name.1 := ⟨_, rfl⟩; obtain ⟨s2, hs2⟩ : ∃ s2, s2 = s1.name.2 := ⟨_, rfl⟩; rw [← hy, ← hs2] at HF; rw [← hy] at HRes3 HG3; rw [← hy, ← hs2] at HP4; rw [← hy]; have HZ : Hid ((W3.setCell ⟨W1.heap.size, 1, none⟩ (.string y)).heap.size = W3.heap.size) := Lib.hid (by simp); clear hy hs2
    go_wp2_with fail
    refine (must_at' (n := W3.heap.size) HP4.out ⟨#[58]⟩ (HZ.out)).mono ?_
    rintro e W5 ⟨⟨v5, rfl⟩, hp5, hg5⟩
    have HRes5 := Lib.hid (HRes3.out.ps hg5 HRB.out)
    have HG5 := Lib.hid (HG3.out.ps hg5 HGB.out)
    have HP5 := Lib.hid hp5
    clear hp5 hg5 HRes3 HG3 HP4 HZ
    go_wp2_with fail
    refine (name_at HP5.out).mono ?_
    rintro e W6 ⟨rfl, hp6, hg6⟩
    have HRes6 := Lib.hid (HRes5.out.ps hg6 HRB.out)
    have HG6 := Lib.hid (HG5.out.ps hg6 HGB.out)
    have HP6 := Lib.hid hp6
    clear hp6 hg6 HRes5 HG5 HP5
    generalize (Rd.must [⟨#[58]⟩] s2).name = q at *
    obtain ⟨z, s3⟩ := q
    simp only at HP6 HF
    obtain ⟨⟨r0, r1, r2⟩, r3, r4, r5⟩ := HRes6.out.cells3
    have hG6 : Blk W6 W1.heap.size #[.string x, .string y, .string ⟨#[]⟩] 92 := HG6.out
    obtain ⟨⟨k0, k1, k2⟩, k3, k4, k5⟩ := hG6.cells3
    clear hG6
    go_wp2_with fail
    refine post_at (fun U => Blk U W.heap.size #[.string x, .string y, .string z] 92 ∧ PS w0 W U B s3) ⟨?_, ?_⟩ ?_
    · exact (((HRes6.out.far (p := ⟨W1.heap.size, 2, none⟩) HRG.out _).set 0 _).set 1 _).set 2 _
    · exact (((HP6.out.set (p := ⟨W1.heap.size, 2, none⟩) HLe.out _).set (p := ⟨W.heap.size, 0, none⟩) (Nat.le_refl _) _).set (p := ⟨W.heap.size, 1, none⟩) (Nat.le_refl _) _).set (p := ⟨W.heap.size, 2, none⟩) (Nat.le_refl _) _
    · rintro U ⟨hbx, hps⟩
      obtain ⟨⟨z0, z1, z2⟩, -⟩ := hbx.cells3
      exact bodyPost_ret (v := .agg #[.string x, .string y, .string z]) (by simp [results, Tryz.results169, go_sem, z0, z1, z2]) rfl ⟨by rw [HF.out], by rw [HF.out]; exact hps⟩

  | false =>
    have hf := HF.out
    rw [hs, if_neg (by decide)] at hf
    rw [hs] at HS
    clear hs HF
    have HF := Lib.hid hf
    clear hf
    go_wp2_with fail
    refine HS.out.mono ?_
    rintro e W2 ⟨rfl, hp3, hg3⟩
    have HRes2 := Lib.hid (HRes1.out.ps hg3 HRB.out)
    have HG2 := Lib.hid (HG.out.ps hg3 HGB.out)
    have HP3 := Lib.hid hp3
    clear hp3 hg3 HRes1 HG HS HP2
    have HRes3 := HRes2; have HG3 := HG2; have HP4 := HP3; clear HRes2 HG2 HP3; obtain ⟨y, hy⟩ : ∃ y : ByteArray, y = ⟨#[]⟩ := ⟨_, rfl⟩; obtain ⟨s2, hs2⟩ : ∃ s2, s2 = s1 := ⟨_, rfl⟩; rw [← hs2] at HP4; rw [← hy, ← hs2] at HF; have HGy : Hid (Blk W2 W1.heap.size #[.string x, .string y, .string ⟨#[]⟩] _) := Lib.hid (by rw [hy]; exact HG3.out); clear HG3; have HG3 := HGy; clear HGy; have HZ : Hid True := Lib.hid trivial; clear hs2 hy
    go_wp2_with fail
    refine (must_at' (n := W2.heap.size) HP4.out ⟨#[58]⟩ (rfl)).mono ?_
    rintro e W5 ⟨⟨v5, rfl⟩, hp5, hg5⟩
    have HRes5 := Lib.hid (HRes3.out.ps hg5 HRB.out)
    have HG5 := Lib.hid (HG3.out.ps hg5 HGB.out)
    have HP5 := Lib.hid hp5
    clear hp5 hg5 HRes3 HG3 HP4 HZ
    go_wp2_with fail
    refine (name_at HP5.out).mono ?_
    rintro e W6 ⟨rfl, hp6, hg6⟩
    have HRes6 := Lib.hid (HRes5.out.ps hg6 HRB.out)
    have HG6 := Lib.hid (HG5.out.ps hg6 HGB.out)
    have HP6 := Lib.hid hp6
    clear hp6 hg6 HRes5 HG5 HP5
    generalize (Rd.must [⟨#[58]⟩] s2).name = q at *
    obtain ⟨z, s3⟩ := q
    simp only at HP6 HF
    obtain ⟨⟨r0, r1, r2⟩, r3, r4, r5⟩ := HRes6.out.cells3
    have hG6 : Blk W6 W1.heap.size #[.string x, .string y, .string ⟨#[]⟩] 92 := HG6.out
    obtain ⟨⟨k0, k1, k2⟩, k3, k4, k5⟩ := hG6.cells3
    clear hG6
    go_wp2_with fail
    refine post_at (fun U => Blk U W.heap.size #[.string x, .string y, .string z] 92 ∧ PS w0 W U B s3) ⟨?_, ?_⟩ ?_
    · exact (((HRes6.out.far (p := ⟨W1.heap.size, 2, none⟩) HRG.out _).set 0 _).set 1 _).set 2 _
    · exact (((HP6.out.set (p := ⟨W1.heap.size, 2, none⟩) HLe.out _).set (p := ⟨W.heap.size, 0, none⟩) (Nat.le_refl _) _).set (p := ⟨W.heap.size, 1, none⟩) (Nat.le_refl _) _).set (p := ⟨W.heap.size, 2, none⟩) (Nat.le_refl _) _
    · rintro U ⟨hbx, hps⟩
      obtain ⟨⟨z0, z1, z2⟩, -⟩ := hbx.cells3
      exact bodyPost_ret (v := .agg #[.string x, .string y, .string z]) (by simp [results, Tryz.results169, go_sem, z0, z1, z2]) rfl ⟨by rw [HF.out], by rw [HF.out]; exact hps⟩
theorem arm_at {w0 W0 W : World} {B : Nat} {s : Rd} (h : PS w0 W0 W B s) :
    Calls Tryz.prog 169 #[.pointer (some ⟨B, 0, none⟩)] W fun e W' => e = .returned (.agg #[.string s.arm.1.f0, .string s.arm.1.f1, .string s.arm.1.f2]) ∧ PS w0 W0 W' B s.arm.2 ∧ W.grownBy W' (some B) := by
  refine (arm_calls w0 W B s h.r).mono ?_
  rintro e W' ⟨he, hp⟩
  exact ⟨he, h.on hp, hp.g⟩
end
section
open Go Go.RowKit Go.Proofs.YtmgkejobolgkmaaGreatDoorW.PrintWords Go.Proofs.YtmgkejobolgkmaaGreatDoorW.PrintLast Go.Proofs.YtmgkejobolgkmaaGreatDoorW.PrintMore
set_option linter.unusedVariables false
set_option linter.unusedSimpArgs false

theorem infoPlace : (Tryz.prog.info? 50).map (fun i => (i.zero, i.size, i.bytes)) = some (some (.agg #[.string ⟨#[]⟩, .slice none 0 0]), 2, 40) := by kernel_rfl
theorem infoArm : (Tryz.prog.info? 92).map (fun i => (i.zero, i.size, i.bytes)) = some (some (.agg #[.string ⟨#[]⟩, .string ⟨#[]⟩, .string ⟨#[]⟩]), 3, 48) := by kernel_rfl
theorem infoVar : (Tryz.prog.info? 99).map (fun i => (i.zero, i.size, i.bytes)) = some (some (.agg #[.string ⟨#[]⟩, .string ⟨#[]⟩]), 2, 32) := by kernel_rfl
set_option maxHeartbeats 2000000 in
set_option maxRecDepth 100000 in
theorem places_calls (w0 W : World) (B : Nat) (s : Rd) (h : RdIn w0 W B s) (hok : s.Ok) (k : Nat) (hk : k ≤ 10) :
    Calls Tryz.prog 164 #[.pointer (some ⟨B, 0, none⟩), .int .i64 (k : Int)] W fun e W' => ∃ v, e = .returned v ∧ RW k50 50 W' W.heap.size v (Rd.places k s []).1 ∧ PS w0 W W' B (Rd.places k s []).2 := by
  have HP := Lib.hid (PS.start h)
  have HO := Lib.hid hok
  obtain ⟨fin, hfin⟩ : ∃ fin, fin = Rd.places k s [] := ⟨_, rfl⟩
  rw [← hfin]
  have HF := Lib.hid hfin
  have HK := Lib.hid hk
  clear h hfin hk hok
  go_enter Tryz.func164, Tryz.ntmps164
  go_wp2_with fail
  go_loopg [5, 7] k (fun kq v5 v7 w' => ∃ (i : Nat) (s' : Rd) (out : List SPlace), v7 = .int .i64 (i : Int) ∧ Aside0 (i + kq = k) ∧ Aside0 (out.length = i) ∧ Aside0 (Rd.places kq s' out = fin) ∧ Aside0 (RW k50 50 w' W.heap.size v5 out) ∧ Aside0 (PS w0 W w' B s') ∧ Aside0 s'.Ok)
  case atStart => exact ⟨0, s, [], rfl, ⟨by omega⟩, ⟨rfl⟩, ⟨HF.out.symm⟩, ⟨RW.nil _ _ _ _⟩, ⟨HP.out⟩, ⟨HO.out⟩⟩
  case round =>
    clear HP HF HO
    obtain ⟨i, s', out, rfl, HI, HLn, HF, HW, HPS, HO⟩ := hrel
    cases gk with
    | zero =>
      have cx : decide (i < k) = false := decide_eq_false (by have := HI.out; omega)
      have cx' : decide ((i : Int) < (k : Int)) = false := decide_eq_false (by have := HI.out; omega)
      have hf := HF.out
      unfold Rd.places at hf
      subst hf
      go_wp2_with fail
      go_ret
      exact ⟨_, rfl, HW.out, HPS.out⟩
    | succ kk =>
      have cx : decide (i < k) = true := decide_eq_true (by have := HI.out; omega)
      have cx' : decide ((i : Int) < (k : Int)) = true := decide_eq_true (by have := HI.out; omega)
      have wk : IntKind.i64.wrap ((i : Int) + 1) = (i : Int) + 1 := by rw [i64_w]; unfold wrap64; have := HI.out; have := HK.out; omega
      have hf := HF.out
      unfold Rd.places at hf
      have HF2 := Lib.hid hf
      have HO1 := Lib.hid (okC.place HO.out)
      clear hf HF
      go_wp2_with fail
      refine (place_at HPS.out HO.out).mono ?_
      rintro e W1 ⟨A1, n1, c1, rfl, hrw, hp1, hg1⟩
      have HW1 := Lib.hid (HW.out.grown hg1 HPS.out.b)
      have HLt := Lib.hid (Kd.R_lt HW.out)
      have HM := Lib.hid (k50_mkM W1 _ (fun _ => True) s'.place.1 hrw)
      have HP1 := Lib.hid hp1
      have HSz := Lib.hid hp1.size
      have HSw := Lib.hid HPS.out.size
      clear hp1 hg1 HW HPS hrw HO
      generalize s'.place = r at *
      obtain ⟨x, s2⟩ := r
      simp only at HF2 HP1 HM HO1
      go_wp2_with ((with_reducible refine gate_builtin (b := .append) (xs := #[.tmp 9, .tmp 12]) rfl ?_); at_builtin; refine row_append k50 W.heap.size _ rfl (.tmp 9) (.tmp 12) 51 50 _ 40 rfl Tryz.underlying51 infoPlace rfl (by decide) (by decide) _ out x [.string x.f0, .slice A1 n1 c1] rfl rfl HM.out HW1.out HLt.out HSw.out HSz.out (by have := HI.out; have := HK.out; have := HLn.out; omega) ?_; intro v2 W2 hw2 hg2 hb2; have HW2 := Lib.hid hw2; have HP2 := Lib.hid (HP1.out.app hg2 hb2); clear hw2 hg2 hb2 HW1 HLt HP1 HSz HM HSw)
      go_roundg kk
      case measure => omega
      case rel => exact ⟨i + 1, s2, out ++ [x], by simp [wk], ⟨by have := HI.out; omega⟩, ⟨by rw [List.length_append]; have := HLn.out; simp; omega⟩, ⟨HF2.out⟩, ⟨HW2.out⟩, ⟨HP2.out⟩, ⟨HO1.out⟩⟩
theorem places_at {w0 W0 W : World} {B : Nat} {s : Rd} (h : PS w0 W0 W B s) (hok : s.Ok) (k : Nat) (hk : k ≤ 10) :
    Calls Tryz.prog 164 #[.pointer (some ⟨B, 0, none⟩), .int .i64 (k : Int)] W fun e W' => ∃ A n c, e = .returned (.slice A n c) ∧ RW k50 50 W' W.heap.size (.slice A n c) (Rd.places k s []).1 ∧ PS w0 W0 W' B (Rd.places k s []).2 ∧ W.grownBy W' (some B) := by
  refine (places_calls w0 W B s h.r hok k hk).mono ?_
  rintro e W' ⟨v, he, hrw, hp⟩
  obtain ⟨A, n, c, rfl⟩ := RW.slice hrw
  exact ⟨A, n, c, he, hrw, h.on hp, hp.g⟩
theorem names_at {w0 W0 W : World} {B : Nat} {s : Rd} (h : PS w0 W0 W B s) (k : Nat) (hk : k ≤ 10) :
    Calls Tryz.prog 167 #[.pointer (some ⟨B, 0, none⟩), .int .i64 (k : Int)] W fun e W' => ∃ A n c, e = .returned (.slice A n c) ∧ RW Kd.string 9 W' W.heap.size (.slice A n c) (Rd.names k s []).1 ∧ PS w0 W0 W' B (Rd.names k s []).2 ∧ W.grownBy W' (some B) := by
  refine (names_calls w0 W B s h.r k hk).mono ?_
  rintro e W' ⟨v, he, hrw, hp⟩
  obtain ⟨A, n, c, rfl⟩ := RW.slice hrw
  exact ⟨A, n, c, he, hrw, h.on hp, hp.g⟩
set_option maxHeartbeats 4000000 in
set_option maxRecDepth 100000 in
theorem row_place_calls (w0 W : World) (B : Nat) (s : Rd) (h : RdIn w0 W B s) (hok : s.Ok) :
    Calls Tryz.prog 191 #[.pointer (some ⟨B, 0, none⟩), .func (.func 165) #[.pointer (some ⟨B, 0, none⟩)] #[]] W fun e W' => ∃ v, e = .returned v ∧ RW k50 50 W' W.heap.size v (Rd.row Rd.place rdF s []).1 ∧ PS w0 W W' B (Rd.row Rd.place rdF s []).2 := by
  have HP := Lib.hid (PS.start h)
  have HO := Lib.hid hok
  have HLen := Lib.hid hok.len
  obtain ⟨fin, hfin⟩ : ∃ fin, fin = Rd.row Rd.place rdF s [] := ⟨_, rfl⟩
  rw [← hfin]
  obtain ⟨F, hF⟩ : ∃ F, F = rdF := ⟨_, rfl⟩
  rw [← hF] at hfin
  have HF := Lib.hid hfin
  have HFF : Hid (F = 100001) := Lib.hid hF
  clear h hfin hok hF
  go_enter Tryz.func191, Tryz.ntmps191
  go_wp2_with fail
  go_loopg [5] F (fun kq v5 w' => ∃ (s' : Rd) (out : List S50), Aside0 (out.length + kq = F) ∧ Aside0 (s'.toks.length < kq) ∧ Aside0 (Rd.row Rd.place kq s' out = fin) ∧ Aside0 (RW k50 50 w' W.heap.size v5 out) ∧ Aside0 (PS w0 W w' B s') ∧ Aside0 s'.Ok)
  case atStart => exact ⟨s, [], ⟨by simp⟩, ⟨by have := HLen.out; have := HFF.out; omega⟩, ⟨HF.out.symm⟩, ⟨RW.nil _ _ _ _⟩, ⟨HP.out⟩, ⟨HO.out⟩⟩
  case round =>
    clear HP HF HO HLen
    obtain ⟨s', out, HI, HLn, HF, HW, HPS, HO⟩ := hrel
    obtain ⟨A, c, rfl⟩ := Kd.R_slice HW.out
    cases gk with
    | zero => exact absurd HLn.out (by omega)
    | succ kk =>
      have hf := HF.out
      unfold Rd.row at hf
      have HO1 := Lib.hid (okC.limit out.length 16 HO.out)
      have HL1 : Hid ((s'.limit out.length 16).toks.length ≤ s'.toks.length) := Lib.hid ((lenC s'.toks.length).limit _ _ (Nat.le_refl _))
      have HLi := Lib.hid (limit_at HPS.out out.length 16)
      generalize s'.limit out.length 16 = s1 at *
      have HF2 := Lib.hid hf
      clear hf HF
      go_wp2_with fail
      refine HLi.out.mono ?_
      rintro e W1 ⟨⟨v1, rfl⟩, hp1, hg1⟩
      have HW1 := Lib.hid (HW.out.grown hg1 HPS.out.b)
      have HP1 := Lib.hid hp1
      have HB1 := Lib.hid hp1.b
      clear hp1 hg1 HW HPS HLi HO
      go_wp2_with fail
      refine (place_at HP1.out HO1.out).mono ?_
      rintro e W2 ⟨A2, n2, c2, rfl, hrw, hp2, hg2⟩
      have HW2 := Lib.hid (HW1.out.grown hg2 HB1.out)
      have HLt := Lib.hid (Kd.R_lt HW1.out)
      have HM := Lib.hid (k50_mkM W2 W1.heap.size (fun _ => True) s1.place.1 hrw)
      have HP2 := Lib.hid hp2
      have HSz := Lib.hid hp2.size
      have HSw := Lib.hid HP1.out.size
      have HO2 := Lib.hid (okC.place HO1.out)
      have HL2 : Hid (s1.place.2.toks.length ≤ s1.toks.length) := Lib.hid ((lenC s1.toks.length).place (Nat.le_refl _))
      (try clear hrw)
      clear hp2 hg2 HW1 HP1 HO1
      generalize s1.place = r at *
      obtain ⟨x, s2⟩ := r
      simp only at HF2 HP2 HM HO2 HL2
      have HMl : Hid ((s2.may ⟨#[44]⟩).1 = true → (s2.may ⟨#[44]⟩).2.toks.length < s2.toks.length) := Lib.hid Rd.may_lt
      have HO3 := Lib.hid (okC.may ⟨#[44]⟩ HO2.out)
      go_wp2_with ((with_reducible refine gate_builtin (b := .append) (xs := #[.tmp 10, .tmp 13]) rfl ?_); at_builtin; refine row_append k50 W.heap.size W1.heap.size rfl (.tmp 10) (.tmp 13) 51 50 _ 40 rfl Tryz.underlying51 infoPlace rfl (by decide) (by decide) _ out x [.string x.f0, .slice A2 n2 c2] rfl rfl HM.out HW2.out HLt.out HSw.out HSz.out (by have := HI.out; have := HFF.out; omega) ?_; intro v3 W3 hw3 hg3 hb3; have HW3 := Lib.hid hw3; have HP3 := Lib.hid (HP2.out.app hg3 hb3); clear hw3 hg3 hb3 HW2 HLt HP2 HSz HM HSw)
      have HM := Lib.hid (may_at HP3.out ⟨#[44]⟩)
      generalize s2.may ⟨#[44]⟩ = r at *
      obtain ⟨b, s3⟩ := r
      simp only at HF2 HM HO3 HMl
      refine HM.out.mono ?_
      rintro e W4 ⟨rfl, hp4, hg4⟩
      have HP4 := Lib.hid hp4
      have HW4 := Lib.hid (HW3.out.grown hg4 HP3.out.b)
      clear hp4 hg4 HP3 HW3 HM
      cases b with
      | true =>
        have hf := HF2.out
        rw [if_pos rfl] at hf
        have HF3 := Lib.hid hf
        have HMl2 := Lib.hid (HMl.out rfl)
        clear hf HF2 HMl
        go_wp2_with fail
        go_roundg kk
        case measure => omega
        case rel =>
          exact ⟨s3, out ++ [x], ⟨by rw [List.length_append]; have := HI.out; simp; omega⟩, ⟨by have := HMl2.out; have := HL2.out; have := HL1.out; have := HLn.out; omega⟩, ⟨HF3.out⟩, ⟨HW4.out⟩, ⟨HP4.out⟩, ⟨HO3.out⟩⟩
      | false =>
        have hf := HF2.out
        rw [if_neg (by decide)] at hf
        subst hf
        go_wp2_with fail
        go_ret
        exact ⟨_, rfl, HW4.out, HP4.out⟩
theorem row_place_at {w0 W0 W : World} {B : Nat} {s : Rd} (h : PS w0 W0 W B s) (hok : s.Ok) :
    Calls Tryz.prog 191 #[.pointer (some ⟨B, 0, none⟩), .func (.func 165) #[.pointer (some ⟨B, 0, none⟩)] #[]] W fun e W' => ∃ A n c, e = .returned (.slice A n c) ∧ RW k50 50 W' W.heap.size (.slice A n c) (Rd.row Rd.place rdF s []).1 ∧ PS w0 W0 W' B (Rd.row Rd.place rdF s []).2 ∧ W.grownBy W' (some B) := by
  refine (row_place_calls w0 W B s h.r hok).mono ?_
  rintro e W' ⟨v, he, hrw, hp⟩
  obtain ⟨A, n, c, rfl⟩ := RW.slice hrw
  exact ⟨A, n, c, he, hrw, h.on hp, hp.g⟩

set_option maxHeartbeats 4000000 in
set_option maxRecDepth 100000 in
theorem row_arm_calls (w0 W : World) (B : Nat) (s : Rd) (h : RdIn w0 W B s) (hok : s.Ok) :
    Calls Tryz.prog 168 #[.pointer (some ⟨B, 0, none⟩), .func (.func 169) #[.pointer (some ⟨B, 0, none⟩)] #[]] W fun e W' => ∃ v, e = .returned v ∧ RW k92 92 W' W.heap.size v (Rd.row Rd.arm rdF s []).1 ∧ PS w0 W W' B (Rd.row Rd.arm rdF s []).2 := by
  have HP := Lib.hid (PS.start h)
  have HO := Lib.hid hok
  have HLen := Lib.hid hok.len
  obtain ⟨fin, hfin⟩ : ∃ fin, fin = Rd.row Rd.arm rdF s [] := ⟨_, rfl⟩
  rw [← hfin]
  obtain ⟨F, hF⟩ : ∃ F, F = rdF := ⟨_, rfl⟩
  rw [← hF] at hfin
  have HF := Lib.hid hfin
  have HFF : Hid (F = 100001) := Lib.hid hF
  clear h hfin hok hF
  go_enter Tryz.func168, Tryz.ntmps168
  go_wp2_with fail
  go_loopg [5] F (fun kq v5 w' => ∃ (s' : Rd) (out : List S92), Aside0 (out.length + kq = F) ∧ Aside0 (s'.toks.length < kq) ∧ Aside0 (Rd.row Rd.arm kq s' out = fin) ∧ Aside0 (RW k92 92 w' W.heap.size v5 out) ∧ Aside0 (PS w0 W w' B s') ∧ Aside0 s'.Ok)
  case atStart => exact ⟨s, [], ⟨by simp⟩, ⟨by have := HLen.out; have := HFF.out; omega⟩, ⟨HF.out.symm⟩, ⟨RW.nil _ _ _ _⟩, ⟨HP.out⟩, ⟨HO.out⟩⟩
  case round =>
    clear HP HF HO HLen
    obtain ⟨s', out, HI, HLn, HF, HW, HPS, HO⟩ := hrel
    obtain ⟨A, c, rfl⟩ := Kd.R_slice HW.out
    cases gk with
    | zero => exact absurd HLn.out (by omega)
    | succ kk =>
      have hf := HF.out
      unfold Rd.row at hf
      have HO1 := Lib.hid (okC.limit out.length 16 HO.out)
      have HL1 : Hid ((s'.limit out.length 16).toks.length ≤ s'.toks.length) := Lib.hid ((lenC s'.toks.length).limit _ _ (Nat.le_refl _))
      have HLi := Lib.hid (limit_at HPS.out out.length 16)
      generalize s'.limit out.length 16 = s1 at *
      have HF2 := Lib.hid hf
      clear hf HF
      go_wp2_with fail
      refine HLi.out.mono ?_
      rintro e W1 ⟨⟨v1, rfl⟩, hp1, hg1⟩
      have HW1 := Lib.hid (HW.out.grown hg1 HPS.out.b)
      have HP1 := Lib.hid hp1
      have HB1 := Lib.hid hp1.b
      clear hp1 hg1 HW HPS HLi HO
      go_wp2_with fail
      refine (arm_at HP1.out).mono ?_
      rintro e W2 ⟨rfl, hp2, hg2⟩
      have HW2 := Lib.hid (HW1.out.grown hg2 HB1.out)
      have HLt := Lib.hid (Kd.R_lt HW1.out)
      have HM := Lib.hid (k92_mkM W2 W1.heap.size (fun _ => True) s1.arm.1 )
      have HP2 := Lib.hid hp2
      have HSz := Lib.hid hp2.size
      have HSw := Lib.hid HP1.out.size
      have HO2 := Lib.hid (okC.arm HO1.out)
      have HL2 : Hid (s1.arm.2.toks.length ≤ s1.toks.length) := Lib.hid ((lenC s1.toks.length).arm (Nat.le_refl _))
      (try clear hrw)
      clear hp2 hg2 HW1 HP1 HO1
      generalize s1.arm = r at *
      obtain ⟨x, s2⟩ := r
      simp only at HF2 HP2 HM HO2 HL2
      have HMl : Hid ((s2.may ⟨#[44]⟩).1 = true → (s2.may ⟨#[44]⟩).2.toks.length < s2.toks.length) := Lib.hid Rd.may_lt
      have HO3 := Lib.hid (okC.may ⟨#[44]⟩ HO2.out)
      go_wp2_with ((with_reducible refine gate_builtin (b := .append) (xs := #[.tmp 10, .tmp 13]) rfl ?_); at_builtin; refine row_append k92 W.heap.size W1.heap.size rfl (.tmp 10) (.tmp 13) 55 92 _ 48 rfl Tryz.underlying55 infoArm rfl (by decide) (by decide) _ out x [.string x.f0, .string x.f1, .string x.f2] rfl rfl HM.out HW2.out HLt.out HSw.out HSz.out (by have := HI.out; have := HFF.out; omega) ?_; intro v3 W3 hw3 hg3 hb3; have HW3 := Lib.hid hw3; have HP3 := Lib.hid (HP2.out.app hg3 hb3); clear hw3 hg3 hb3 HW2 HLt HP2 HSz HM HSw)
      have HM := Lib.hid (may_at HP3.out ⟨#[44]⟩)
      generalize s2.may ⟨#[44]⟩ = r at *
      obtain ⟨b, s3⟩ := r
      simp only at HF2 HM HO3 HMl
      refine HM.out.mono ?_
      rintro e W4 ⟨rfl, hp4, hg4⟩
      have HP4 := Lib.hid hp4
      have HW4 := Lib.hid (HW3.out.grown hg4 HP3.out.b)
      clear hp4 hg4 HP3 HW3 HM
      cases b with
      | true =>
        have hf := HF2.out
        rw [if_pos rfl] at hf
        have HF3 := Lib.hid hf
        have HMl2 := Lib.hid (HMl.out rfl)
        clear hf HF2 HMl
        go_wp2_with fail
        go_roundg kk
        case measure => omega
        case rel =>
          exact ⟨s3, out ++ [x], ⟨by rw [List.length_append]; have := HI.out; simp; omega⟩, ⟨by have := HMl2.out; have := HL2.out; have := HL1.out; have := HLn.out; omega⟩, ⟨HF3.out⟩, ⟨HW4.out⟩, ⟨HP4.out⟩, ⟨HO3.out⟩⟩
      | false =>
        have hf := HF2.out
        rw [if_neg (by decide)] at hf
        subst hf
        go_wp2_with fail
        go_ret
        exact ⟨_, rfl, HW4.out, HP4.out⟩
theorem row_arm_at {w0 W0 W : World} {B : Nat} {s : Rd} (h : PS w0 W0 W B s) (hok : s.Ok) :
    Calls Tryz.prog 168 #[.pointer (some ⟨B, 0, none⟩), .func (.func 169) #[.pointer (some ⟨B, 0, none⟩)] #[]] W fun e W' => ∃ A n c, e = .returned (.slice A n c) ∧ RW k92 92 W' W.heap.size (.slice A n c) (Rd.row Rd.arm rdF s []).1 ∧ PS w0 W0 W' B (Rd.row Rd.arm rdF s []).2 ∧ W.grownBy W' (some B) := by
  refine (row_arm_calls w0 W B s h.r hok).mono ?_
  rintro e W' ⟨v, he, hrw, hp⟩
  obtain ⟨A, n, c, rfl⟩ := RW.slice hrw
  exact ⟨A, n, c, he, hrw, h.on hp, hp.g⟩

set_option maxHeartbeats 4000000 in
set_option maxRecDepth 100000 in
theorem row_param_calls (w0 W : World) (B : Nat) (s : Rd) (h : RdIn w0 W B s) (hok : s.Ok) :
    Calls Tryz.prog 104 #[.pointer (some ⟨B, 0, none⟩), .func (.func 105) #[.pointer (some ⟨B, 0, none⟩)] #[]] W fun e W' => ∃ v, e = .returned v ∧ RW k99 99 W' W.heap.size v (Rd.row Rd.param rdF s []).1 ∧ PS w0 W W' B (Rd.row Rd.param rdF s []).2 := by
  have HP := Lib.hid (PS.start h)
  have HO := Lib.hid hok
  have HLen := Lib.hid hok.len
  obtain ⟨fin, hfin⟩ : ∃ fin, fin = Rd.row Rd.param rdF s [] := ⟨_, rfl⟩
  rw [← hfin]
  obtain ⟨F, hF⟩ : ∃ F, F = rdF := ⟨_, rfl⟩
  rw [← hF] at hfin
  have HF := Lib.hid hfin
  have HFF : Hid (F = 100001) := Lib.hid hF
  clear h hfin hok hF
  go_enter Tryz.func104, Tryz.ntmps104
  go_wp2_with fail
  go_loopg [5] F (fun kq v5 w' => ∃ (s' : Rd) (out : List S99), Aside0 (out.length + kq = F) ∧ Aside0 (s'.toks.length < kq) ∧ Aside0 (Rd.row Rd.param kq s' out = fin) ∧ Aside0 (RW k99 99 w' W.heap.size v5 out) ∧ Aside0 (PS w0 W w' B s') ∧ Aside0 s'.Ok)
  case atStart => exact ⟨s, [], ⟨by simp⟩, ⟨by have := HLen.out; have := HFF.out; omega⟩, ⟨HF.out.symm⟩, ⟨RW.nil _ _ _ _⟩, ⟨HP.out⟩, ⟨HO.out⟩⟩
  case round =>
    clear HP HF HO HLen
    obtain ⟨s', out, HI, HLn, HF, HW, HPS, HO⟩ := hrel
    obtain ⟨A, c, rfl⟩ := Kd.R_slice HW.out
    cases gk with
    | zero => exact absurd HLn.out (by omega)
    | succ kk =>
      have hf := HF.out
      unfold Rd.row at hf
      have HO1 := Lib.hid (okC.limit out.length 16 HO.out)
      have HL1 : Hid ((s'.limit out.length 16).toks.length ≤ s'.toks.length) := Lib.hid ((lenC s'.toks.length).limit _ _ (Nat.le_refl _))
      have HLi := Lib.hid (limit_at HPS.out out.length 16)
      generalize s'.limit out.length 16 = s1 at *
      have HF2 := Lib.hid hf
      clear hf HF
      go_wp2_with fail
      refine HLi.out.mono ?_
      rintro e W1 ⟨⟨v1, rfl⟩, hp1, hg1⟩
      have HW1 := Lib.hid (HW.out.grown hg1 HPS.out.b)
      have HP1 := Lib.hid hp1
      have HB1 := Lib.hid hp1.b
      clear hp1 hg1 HW HPS HLi HO
      go_wp2_with fail
      refine (param_at HP1.out HO1.out).mono ?_
      rintro e W2 ⟨rfl, hp2, hg2⟩
      have HW2 := Lib.hid (HW1.out.grown hg2 HB1.out)
      have HLt := Lib.hid (Kd.R_lt HW1.out)
      have HM := Lib.hid (k99_mkM W2 W1.heap.size (fun _ => True) s1.param.1 )
      have HP2 := Lib.hid hp2
      have HSz := Lib.hid hp2.size
      have HSw := Lib.hid HP1.out.size
      have HO2 := Lib.hid (okC.param HO1.out)
      have HL2 : Hid (s1.param.2.toks.length ≤ s1.toks.length) := Lib.hid ((lenC s1.toks.length).param (Nat.le_refl _))
      (try clear hrw)
      clear hp2 hg2 HW1 HP1 HO1
      generalize s1.param = r at *
      obtain ⟨x, s2⟩ := r
      simp only at HF2 HP2 HM HO2 HL2
      have HMl : Hid ((s2.may ⟨#[44]⟩).1 = true → (s2.may ⟨#[44]⟩).2.toks.length < s2.toks.length) := Lib.hid Rd.may_lt
      have HO3 := Lib.hid (okC.may ⟨#[44]⟩ HO2.out)
      go_wp2_with ((with_reducible refine gate_builtin (b := .append) (xs := #[.tmp 10, .tmp 13]) rfl ?_); at_builtin; refine row_append k99 W.heap.size W1.heap.size rfl (.tmp 10) (.tmp 13) 60 99 _ 32 rfl Tryz.underlying60 infoVar rfl (by decide) (by decide) _ out x [.string x.f0, .string x.f1] rfl rfl HM.out HW2.out HLt.out HSw.out HSz.out (by have := HI.out; have := HFF.out; omega) ?_; intro v3 W3 hw3 hg3 hb3; have HW3 := Lib.hid hw3; have HP3 := Lib.hid (HP2.out.app hg3 hb3); clear hw3 hg3 hb3 HW2 HLt HP2 HSz HM HSw)
      have HM := Lib.hid (may_at HP3.out ⟨#[44]⟩)
      generalize s2.may ⟨#[44]⟩ = r at *
      obtain ⟨b, s3⟩ := r
      simp only at HF2 HM HO3 HMl
      refine HM.out.mono ?_
      rintro e W4 ⟨rfl, hp4, hg4⟩
      have HP4 := Lib.hid hp4
      have HW4 := Lib.hid (HW3.out.grown hg4 HP3.out.b)
      clear hp4 hg4 HP3 HW3 HM
      cases b with
      | true =>
        have hf := HF2.out
        rw [if_pos rfl] at hf
        have HF3 := Lib.hid hf
        have HMl2 := Lib.hid (HMl.out rfl)
        clear hf HF2 HMl
        go_wp2_with fail
        go_roundg kk
        case measure => omega
        case rel =>
          exact ⟨s3, out ++ [x], ⟨by rw [List.length_append]; have := HI.out; simp; omega⟩, ⟨by have := HMl2.out; have := HL2.out; have := HL1.out; have := HLn.out; omega⟩, ⟨HF3.out⟩, ⟨HW4.out⟩, ⟨HP4.out⟩, ⟨HO3.out⟩⟩
      | false =>
        have hf := HF2.out
        rw [if_neg (by decide)] at hf
        subst hf
        go_wp2_with fail
        go_ret
        exact ⟨_, rfl, HW4.out, HP4.out⟩
theorem row_param_at {w0 W0 W : World} {B : Nat} {s : Rd} (h : PS w0 W0 W B s) (hok : s.Ok) :
    Calls Tryz.prog 104 #[.pointer (some ⟨B, 0, none⟩), .func (.func 105) #[.pointer (some ⟨B, 0, none⟩)] #[]] W fun e W' => ∃ A n c, e = .returned (.slice A n c) ∧ RW k99 99 W' W.heap.size (.slice A n c) (Rd.row Rd.param rdF s []).1 ∧ PS w0 W0 W' B (Rd.row Rd.param rdF s []).2 ∧ W.grownBy W' (some B) := by
  refine (row_param_calls w0 W B s h.r hok).mono ?_
  rintro e W' ⟨v, he, hrw, hp⟩
  obtain ⟨A, n, c, rfl⟩ := RW.slice hrw
  exact ⟨A, n, c, he, hrw, h.on hp, hp.g⟩
end
section
open Go Go.RowKit Go.Proofs.YtmgkejobolgkmaaGreatDoorW.PrintWords Go.Proofs.YtmgkejobolgkmaaGreatDoorW.PrintLast Go.Proofs.YtmgkejobolgkmaaGreatDoorW.PrintMore
set_option linter.unusedVariables false
set_option linter.unusedSimpArgs false

set_option maxHeartbeats 2000000 in
set_option maxRecDepth 100000 in
theorem must1_deferred (w0 W : World) (B : Nat) (s : Rd) (h : RdIn w0 W B s) (x : ByteArray) (T : Nat) (t : TypeId) (hT : Blk W T #[.string x] t) (hTB : T ≠ B) (u : FrameMode) :
    CallsD Tryz.prog 98 #[.pointer (some ⟨B, 0, none⟩), .slice (some ⟨T, 0, none⟩) 1 1] u W fun e u' W' => u' = u ∧ ((∃ v, e = .returned v) ∧ PS w0 W W' B (Rd.must [x] s)) := by
  have HM := Lib.hid (may_calls w0 W B s x h)
  have HP := Lib.hid (PS.start h)
  have c0 := hT.cells1.1
  obtain ⟨r, hr⟩ : ∃ r, r = s.may x := ⟨_, rfl⟩
  have hfin : Rd.must [x] s = if r.1 then r.2 else r.2.fail := by rw [hr]; rfl
  rw [← hr] at HM
  have HF := Lib.hid hfin
  clear hT hfin hr h
  obtain ⟨b, s1⟩ := r
  simp only at HM HF
  go_enter_d Tryz.func98, Tryz.ntmps98
  go_wp2_with fail
  go_loopg [8] 1 (fun kq v8 w' => ∃ i : Nat, v8 = .int .i64 (i : Int) ∧ Aside0 (i + kq = 1) ∧ Aside0 (i = 0 → w' = W) ∧ Aside0 (i = 1 → PS w0 W w' B (Rd.must [x] s)))
  case atStart => exact ⟨0, rfl, ⟨rfl⟩, ⟨fun _ => rfl⟩, ⟨fun e => by omega⟩⟩
  case round =>
    obtain ⟨i, rfl, HI, H0, H1⟩ := hrel
    cases gk with
    | zero =>
      obtain rfl : i = 1 := by have := HI.out; omega
      go_wp2_with fail
      go_end0
      exact ⟨⟨_, rfl⟩, H1.out (by first | rfl | trivial)⟩
    | succ kk =>
      obtain rfl : kk = 0 := by have := HI.out; omega
      obtain rfl : i = 0 := by have := HI.out; omega
      obtain rfl := H0.out rfl
      clear H0 H1 HI
      go_wp2_with fail
      refine HM.out.mono ?_
      rintro e W1 ⟨rfl, hr1, hg1⟩
      have HP1 := Lib.hid (HP.out.on (PS.of HP.out.r hr1 hg1))
      clear hr1 hg1
      cases b with
      | true =>
        go_wp2_with fail
        go_roundg 0
        case measure => omega
        case rel => exact ⟨1, rfl, ⟨rfl⟩, ⟨fun e => by omega⟩, ⟨fun _ => by rw [HF.out]; exact HP1.out⟩⟩
      | false =>
        go_wp2_with fail
        refine (fail_calls w0 W1 B s1 HP1.out.r).mono ?_
        rintro e W2 ⟨⟨v, rfl⟩, hr2, hg2⟩
        have HP2 := Lib.hid (HP1.out.on (PS.of HP1.out.r hr2 hg2))
        clear hr2 hg2
        go_wp2_with fail
        go_roundg 0
        case measure => omega
        case rel => exact ⟨1, rfl, ⟨rfl⟩, ⟨fun e => by omega⟩, ⟨fun _ => by rw [HF.out]; exact HP2.out⟩⟩
set_option maxHeartbeats 2000000 in
set_option maxRecDepth 100000 in
theorem args_calls (w0 W : World) (B : Nat) (s : Rd) (h : RdIn w0 W B s) (hok : s.Ok) :
    Calls Tryz.prog 170 #[.pointer (some ⟨B, 0, none⟩)] W fun e W' => ∃ A n c, e = .returned (.slice A n c) ∧ RW k50 50 W' W.heap.size (.slice A n c) s.args.1 ∧ PS w0 W W' B s.args.2 := by
  have HP := Lib.hid (PS.start h)
  obtain ⟨fin, hfin⟩ : ∃ fin, fin = s.args := ⟨_, rfl⟩
  rw [← hfin]
  unfold Rd.args at hfin
  simp only at hfin
  have HM := Lib.hid (must_at HP.out ⟨#[40]⟩)
  have HO1 := Lib.hid (okC.must [⟨#[40]⟩] hok)
  generalize Rd.must [⟨#[40]⟩] s = s1 at *
  have HO2 := Lib.hid (okC.may ⟨#[41]⟩ HO1.out)
  have HLt := Lib.hid h.lt
  clear h hok
  go_enter_defers Tryz.func170, Tryz.ntmps170
  go_wp2_with fail
  refine HM.out.mono ?_
  rintro e W1 ⟨⟨v1, rfl⟩, hp1, hg1⟩
  have HP1 := Lib.hid hp1
  have HF := Lib.hid hfin
  clear hp1 hg1 HM HP hfin
  have HM := Lib.hid (may_at HP1.out ⟨#[41]⟩)
  generalize s1.may ⟨#[41]⟩ = r at *
  obtain ⟨b, s2⟩ := r
  simp only at HM HF HO2
  cases b with
  | true =>
    have hf := HF.out
    rw [if_pos rfl] at hf
    clear HF
    have HF := Lib.hid hf
    clear hf
    go_wp2_with fail
    refine HM.out.mono ?_
    rintro e W2 ⟨rfl, hp2, hg2⟩
    go_wp2_with fail
    exact ⟨_, results_tmp rfl _ _ _, none, 0, 0, rfl, by rw [HF.out]; exact RW.nil _ _ _ _, by rw [HF.out]; exact hp2⟩
  | false =>
    have hf := HF.out
    rw [if_neg (by decide)] at hf
    clear HF
    have HF := Lib.hid hf
    clear hf
    go_wp2_with fail
    refine HM.out.mono ?_
    rintro e W2 ⟨rfl, hp2, hg2⟩
    have HP2 := Lib.hid (hp2.alloc (.cells #[.string ⟨#[41]⟩] 9))
    have HT := Lib.hid (Blk.new W2 #[.string ⟨#[41]⟩] 9)
    have HTB : Hid (W2.heap.size ≠ B) := Lib.hid (fun e => by have := HLt.out; have := hp2.size; omega)
    have HSz : Hid (W.heap.size ≤ (W2.alloc (.cells #[.string ⟨#[41]⟩] 9)).heap.size) := Lib.hid (HP2.out.size)
    clear hp2 hg2 HM HP1
    go_wp2_with fail
    refine (row_place_at HP2.out HO2.out).mono ?_
    rintro e W3 ⟨A, n, c, rfl, hrw, hp3, hg3⟩
    have HRW := Lib.hid (Kd.R_lower hrw HSz.out)
    have HP3 := Lib.hid hp3
    have HT3 := Lib.hid (HT.out.ps hg3 HTB.out)
    clear hrw hp3 hg3 HP2 HT
    go_wp2_with fail
    refine leaves_cons (f := 98) (args := #[.pointer (some ⟨B, 0, none⟩), .slice (some ⟨W2.heap.size, 0, none⟩) 1 1]) (by simp) (by simp [go_sem]) ?_
    refine (must1_deferred w0 W3 B _ HP3.out.r ⟨#[41]⟩ W2.heap.size _ HT3.out HTB.out .returning).mono ?_
    rintro e u' W4 ⟨rfl, ⟨v4, rfl⟩, hp4⟩
    exact ⟨_, results_tmp rfl _ _ _, A, n, c, rfl, by rw [HF.out]; exact RW.grown HRW.out hp4.g HLt.out, by rw [HF.out]; exact HP3.out.on hp4⟩
theorem args_at {w0 W0 W : World} {B : Nat} {s : Rd} (h : PS w0 W0 W B s) (hok : s.Ok) :
    Calls Tryz.prog 170 #[.pointer (some ⟨B, 0, none⟩)] W fun e W' => ∃ A n c, e = .returned (.slice A n c) ∧ RW k50 50 W' W.heap.size (.slice A n c) s.args.1 ∧ PS w0 W0 W' B s.args.2 ∧ W.grownBy W' (some B) := by
  refine (args_calls w0 W B s h.r hok).mono ?_
  rintro e W' ⟨A, n, c, he, hrw, hp⟩
  exact ⟨A, n, c, he, hrw, h.on hp, hp.g⟩
end
end Go.Proofs.YtmgkejobolgkmaaGreatDoor.PL
