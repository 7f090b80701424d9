/- Package parse's reader: fields. Package parse's reader: structure and enum. -/
import Derived.Test.YtmgkejobolgkmaaGreatDoorPaTwo
namespace Go.Proofs.YtmgkejobolgkmaaGreatDoor.PL
section
open Go Go.RowKit Go.Proofs.YtmgkejobolgkmaaGreatDoorW.PrintWords Go.Proofs.YtmgkejobolgkmaaGreatDoorW.PrintLast Go.Proofs.YtmgkejobolgkmaaGreatDoorW.PrintMore
set_option linter.unusedVariables false
set_option linter.unusedSimpArgs false

theorem Rd.fail_bad {s : Rd} (h : s.Ok) : s.fail.bad ≠ -1 := by
  show (if s.bad = -1 then s.at_ else s.bad) ≠ -1
  split
  · have := h.at_
    omega
  · assumption
/-- a step ahead: a token fewer, or something that can't stand where it stands -/
theorem progC (n : Nat) : Closed (fun s => s.bad ≠ -1 ∨ s.toks.length < n) :=
  ⟨fun {s} h => h.imp (fun hb => by
      show (if s.bad = -1 then s.at_ else s.bad) ≠ -1
      rw [if_neg hb]
      exact hb) (fun hl => Nat.lt_of_le_of_lt (Nat.zero_le _) hl),
    fun {s} h hne => h.imp id (fun hl => Nat.lt_trans (Rd.tl_lt hne) hl), fun {s} a h => h⟩
theorem Rd.name_prog {s : Rd} (h : s.Ok) {n : Nat} (hn : s.toks.length ≤ n) : s.name.2.bad ≠ -1 ∨ s.name.2.toks.length < n := by
  by_cases hm : s.named = true
  · exact .inr (Nat.lt_of_lt_of_le (Rd.name_lt hm) hn)
  · unfold Rd.name
    rw [if_neg hm]
    exact .inl (Rd.fail_bad h)
theorem Rd.must_prog {s : Rd} (h : s.Ok) (x : ByteArray) {n : Nat} (hn : s.toks.length ≤ n) : (Rd.must [x] s).bad ≠ -1 ∨ (Rd.must [x] s).toks.length < n := by
  show (if (s.may x).1 then (s.may x).2 else (s.may x).2.fail).bad ≠ -1 ∨ (if (s.may x).1 then (s.may x).2 else (s.may x).2.fail).toks.length < n
  split
  · exact .inr (Nat.lt_of_lt_of_le (Rd.may_lt (by assumption)) hn)
  · exact .inl (Rd.fail_bad (okC.may x h))
theorem Rd.field_prog {s : Rd} (h : s.Ok) {n : Nat} (hn : s.toks.length ≤ n) : s.field.2.bad ≠ -1 ∨ s.field.2.toks.length < n := by
  have hp := Rd.name_prog h hn
  unfold Rd.field
  first
    | exact (progC n).plain hp
    | (split; · exact hp
       exact (progC n).plain hp)
theorem Rd.fields1_out_field (kq : Nat) (s : Rd) (out : List SVar) (hb : s.bad ≠ -1) : Rd.fields1 0 Rd.field kq s out = (out, s) := by
  cases kq with
  | zero => rfl
  | succ k =>
    unfold Rd.fields1
    rw [if_neg (fun e => hb e.1)]
set_option maxHeartbeats 8000000 in
set_option maxRecDepth 100000 in
theorem fields_field_calls (w0 W : World) (B : Nat) (s : Rd) (h : RdIn w0 W B s) (hok : s.Ok) :
    Calls Tryz.prog 101 #[.pointer (some ⟨B, 0, none⟩), .int .i64 0, .func (.func 102) #[.pointer (some ⟨B, 0, none⟩)] #[]] W fun e W' => ∃ v, e = .returned v ∧ RW k99 99 W' W.heap.size v (s.fields 0 Rd.field).1 ∧ PS w0 W W' B (s.fields 0 Rd.field).2 := by
  have HP := Lib.hid (PS.start h)
  have HLt := Lib.hid h.lt
  obtain ⟨fin, hfin⟩ : ∃ fin, fin = s.fields 0 Rd.field := ⟨_, rfl⟩
  rw [← hfin]
  unfold Rd.fields at hfin
  simp only at hfin
  have HM := Lib.hid (must_at HP.out ⟨#[123]⟩)
  have HO := Lib.hid (okC.must [⟨#[123]⟩] hok)
  generalize Rd.must [⟨#[123]⟩] s = u at *
  obtain ⟨F, hF⟩ : ∃ F, F = rdF := ⟨_, rfl⟩
  rw [← hF] at hfin
  obtain ⟨fs, hfs⟩ : ∃ fs, fs = Rd.fields1 0 Rd.field F u [] := ⟨_, rfl⟩
  rw [← hfs] at hfin
  have HF := Lib.hid hfin
  have HFs := Lib.hid hfs
  have HFF : Hid (F = 100001) := Lib.hid hF
  clear h hfin hok hF hfs
  go_enter Tryz.func101, Tryz.ntmps101
  go_wp2_with fail
  refine HM.out.mono ?_
  rintro e W1 ⟨⟨v1, rfl⟩, hp1, hg1⟩
  have HP1 := Lib.hid hp1
  clear hp1 hg1 HM HP
  go_wp2_with fail
  go_loopg [7] F (fun kq v7 w' => ∃ (s' : Rd) (out : List SVar), Aside0 (out.length + kq = F) ∧ Aside0 (s'.bad ≠ -1 ∨ s'.toks.length < kq) ∧ Aside0 (Rd.fields1 0 Rd.field kq s' out = fs) ∧ Aside0 (RW k99 99 w' W.heap.size v7 out) ∧ Aside0 (PS w0 W w' B s') ∧ Aside0 s'.Ok)
  case atStart => exact ⟨u, [], ⟨by simp⟩, ⟨.inr (by have := HO.out.len; have := HFF.out; omega)⟩, ⟨HFs.out.symm⟩, ⟨RW.nil _ _ _ _⟩, ⟨HP1.out⟩, ⟨HO.out⟩⟩
  case round =>
    clear HP1 HFs HO
    obtain ⟨s', out, HI, HLn, HF1, HW, HPS, HO⟩ := hrel
    obtain ⟨A, c, rfl⟩ := Kd.R_slice HW.out
    obtain ⟨A', c', ⟨d0, d1, d2, d3⟩, -⟩ := HPS.out.cells
    clear d0 d1 d3
    have HSee := Lib.hid (see_at HPS.out ⟨#[125]⟩)
    by_cases hbad : s'.bad = -1
    · have hb1 : (s'.bad == -1) = true := by rw [hbad]; rfl
      cases gk with
      | zero => exact absurd (HLn.out.resolve_left (fun hn => hn hbad)) (by omega)
      | succ kk =>
        have HL0 : Hid (s'.toks.length ≤ kk) := Lib.hid (by have := HLn.out.resolve_left (fun hn => hn hbad); omega)
        have hf := HF1.out
        unfold Rd.fields1 at hf
        by_cases hgo : out.length < 0 ∨ s'.sees [⟨#[125]⟩] = false
        · rw [if_pos ⟨hbad, hgo⟩] at hf
          have HF2 := Lib.hid hf
          have HGo := Lib.hid hgo
          have HLi : Hid (∀ V, PS w0 W V B s' → Calls Tryz.prog 53 #[.pointer (some ⟨B, 0, none⟩), .int .i64 (out.length : Int), .int .i64 16] V fun e W' => (∃ v, e = .returned v) ∧ PS w0 W W' B (s'.limit out.length 16) ∧ V.grownBy W' (some B)) := Lib.hid (fun V hV => limit_at hV out.length 16)
          have HO1 := Lib.hid (okC.limit out.length 16 HO.out)
          have HPr : Hid ((s'.limit out.length 16).field.2.bad ≠ -1 ∨ (s'.limit out.length 16).field.2.toks.length < kk + 1) := Lib.hid (Rd.field_prog HO1.out (by rw [Rd.limit_toks]; have := HL0.out; omega))
          clear hf HF1 hgo hbad
          generalize hs1 : s'.limit out.length 16 = s1 at *
          clear hs1
          have HO2 := Lib.hid (okC.field HO1.out)
          have HPr2 : Hid ((Rd.must [⟨#[59]⟩] s1.field.2).bad ≠ -1 ∨ (Rd.must [⟨#[59]⟩] s1.field.2).toks.length < kk) := Lib.hid (by
            rcases HPr.out with h1 | h1
            · exact .inl (((progC 0).must [⟨#[59]⟩] (.inl h1)).resolve_right (by omega))
            · have h2 := Rd.must_prog HO2.out ⟨#[59]⟩ (n := kk) (by omega)
              exact h2)
          have HO3 := Lib.hid (okC.must [⟨#[59]⟩] HO2.out)
          by_cases hlen : out.length < 0
          all_goals
            first
              | (have hl1 : decide (out.length < 0) = true := decide_eq_true hlen
                 have hl2 : decide ((out.length : Int) < 0) = true := decide_eq_true (by omega)
                 clear hlen HSee
                 go_wp2_with fail
                 refine (HLi.out _ HPS.out).mono ?_
                 have HW0 := Lib.hid HW.out
                 have HP0 := Lib.hid HPS.out)
              | (have hl1 : decide (out.length < 0) = false := decide_eq_false hlen
                 have hl2 : decide ((out.length : Int) < 0) = false := decide_eq_false (by omega)
                 have hse : s'.sees [⟨#[125]⟩] = false := HGo.out.resolve_left hlen
                 rw [hse] at HSee
                 clear hlen hse
                 go_wp2_with fail
                 refine HSee.out.mono ?_
                 rintro e V1 ⟨rfl, hpv, hgv⟩
                 have HW0 := Lib.hid (HW.out.grown hgv HLt.out)
                 have HP0 := Lib.hid hpv
                 clear hpv hgv HSee
                 go_wp2_with fail
                 refine (HLi.out _ HP0.out).mono ?_)
            rintro e V2 ⟨⟨v2, rfl⟩, hp2, hg2⟩
            have HW2 := Lib.hid (HW0.out.grown hg2 HLt.out)
            have HP2 := Lib.hid hp2
            clear hp2 hg2 HW0 HP0 HW HPS HLi
            go_wp2_with fail
            refine (field_at HP2.out HO1.out).mono ?_
            rintro e V3 ⟨rfl, hp3, hg3⟩
            have HW3 := Lib.hid (HW2.out.grown hg3 HLt.out)
            have HVl := Lib.hid (Kd.R_lt HW2.out)
            have HM3 := Lib.hid (k99_mkM V3 V2.heap.size (fun _ => True) s1.field.1)
            have HP3 := Lib.hid hp3
            have HSz := Lib.hid hp3.size
            have HSw := Lib.hid HP2.out.size
            clear hp3 hg3 HW2 HP2
            generalize s1.field = q at *
            obtain ⟨x, s2⟩ := q
            simp only at HF2 HP3 HM3 HO2 HPr2 HO3
            go_wp2_with ((with_reducible refine gate_builtin (b := .append) (xs := #[.tmp 32, .tmp 35]) rfl ?_); at_builtin; refine row_append k99 W.heap.size V2.heap.size rfl (.tmp 32) (.tmp 35) 60 99 _ 32 rfl Tryz.underlying60 infoVar rfl (by decide) (by decide) _ out x [.string x.f0, .string x.f1] rfl rfl HM3.out HW3.out HVl.out HSw.out HSz.out (by have := HI.out; have := HFF.out; omega) ?_; intro v4 V4 hw4 hg4 hb4; have HW4 := Lib.hid hw4; have HP4 := Lib.hid (HP3.out.app hg4 hb4); clear hw4 hg4 hb4 HW3 HVl HP3 HSz HM3 HSw)
            have HM5 := Lib.hid (must_at HP4.out ⟨#[59]⟩)
            generalize Rd.must [⟨#[59]⟩] s2 = s3 at *
            refine HM5.out.mono ?_
            rintro e V5 ⟨⟨v5, rfl⟩, hp5, hg5⟩
            have HW5 := Lib.hid (HW4.out.grown hg5 HLt.out)
            have HP5 := Lib.hid hp5
            clear hp5 hg5 HW4 HP4 HM5
            go_wp2_with fail
            go_roundg kk
            case measure => omega
            case rel => exact ⟨s3, out ++ [x], ⟨by rw [List.length_append]; have := HI.out; simp; omega⟩, ⟨HPr2.out⟩, ⟨HF2.out⟩, ⟨HW5.out⟩, ⟨HP5.out⟩, ⟨HO3.out⟩⟩
        · rw [if_neg (fun e => hgo e.2)] at hf
          have hl : ¬ out.length < 0 := fun e => hgo (.inl e)
          have hl1 : decide (out.length < 0) = false := decide_eq_false hl
          have hl2 : decide ((out.length : Int) < 0) = false := decide_eq_false (by omega)
          have hse : s'.sees [⟨#[125]⟩] = true := by
            cases hs : s'.sees [⟨#[125]⟩] with
            | true => rfl
            | false => exact absurd (.inr hs) hgo
          rw [hse] at HSee
          have HF2 := Lib.hid hf
          clear hse hl hgo hf HF1 hbad
          go_wp2_with fail
          refine HSee.out.mono ?_
          rintro e V1 ⟨rfl, hpv, hgv⟩
          have HW1 := Lib.hid (HW.out.grown hgv HLt.out)
          have HP1 := Lib.hid hpv
          clear hpv hgv HSee HW HPS
          go_wp2_with fail
          refine (must_at HP1.out ⟨#[125]⟩).mono ?_
          rintro e V2 ⟨⟨v2, rfl⟩, hp2, hg2⟩
          have HW2 := Lib.hid (HW1.out.grown hg2 HLt.out)
          go_wp2_with fail
          go_ret
          exact ⟨_, rfl, by rw [HF.out, ← HF2.out]; exact HW2.out, by rw [HF.out, ← HF2.out]; exact hp2⟩
    · have hb1 : (s'.bad == -1) = false := by rw [beq_eq_false_iff_ne]; exact hbad
      have HF2 := Lib.hid (Rd.fields1_out_field gk s' out hbad)
      clear hbad HSee
      go_wp2_with fail
      refine (must_at HPS.out ⟨#[125]⟩).mono ?_
      rintro e V2 ⟨⟨v2, rfl⟩, hp2, hg2⟩
      have HW2 := Lib.hid (HW.out.grown hg2 HLt.out)
      go_wp2_with fail
      go_ret
      exact ⟨_, rfl, by rw [HF.out, ← HF1.out, HF2.out]; exact HW2.out, by rw [HF.out, ← HF1.out, HF2.out]; exact hp2⟩
theorem fields_field_at {w0 W0 W : World} {B : Nat} {s : Rd} (h : PS w0 W0 W B s) (hok : s.Ok) :
    Calls Tryz.prog 101 #[.pointer (some ⟨B, 0, none⟩), .int .i64 0, .func (.func 102) #[.pointer (some ⟨B, 0, none⟩)] #[]] W fun e W' => ∃ A n c, e = .returned (.slice A n c) ∧ RW k99 99 W' W.heap.size (.slice A n c) (s.fields 0 Rd.field).1 ∧ PS w0 W0 W' B (s.fields 0 Rd.field).2 ∧ W.grownBy W' (some B) := by
  refine (fields_field_calls w0 W B s h.r hok).mono ?_
  rintro e W' ⟨v, he, hrw, hp⟩
  obtain ⟨A, n, c, rfl⟩ := RW.slice hrw
  exact ⟨A, n, c, he, hrw, h.on hp, hp.g⟩

theorem Rd.variant_prog {s : Rd} (h : s.Ok) {n : Nat} (hn : s.toks.length ≤ n) : s.variant.2.bad ≠ -1 ∨ s.variant.2.toks.length < n := by
  have hp := Rd.name_prog h hn
  unfold Rd.variant
  first
    | exact (progC n).plain hp
    | (split; · exact hp
       exact (progC n).plain hp)
theorem Rd.fields1_out_variant (kq : Nat) (s : Rd) (out : List SVar) (hb : s.bad ≠ -1) : Rd.fields1 1 Rd.variant kq s out = (out, s) := by
  cases kq with
  | zero => rfl
  | succ k =>
    unfold Rd.fields1
    rw [if_neg (fun e => hb e.1)]
set_option maxHeartbeats 8000000 in
set_option maxRecDepth 100000 in
theorem fields_variant_calls (w0 W : World) (B : Nat) (s : Rd) (h : RdIn w0 W B s) (hok : s.Ok) :
    Calls Tryz.prog 101 #[.pointer (some ⟨B, 0, none⟩), .int .i64 1, .func (.func 103) #[.pointer (some ⟨B, 0, none⟩)] #[]] W fun e W' => ∃ v, e = .returned v ∧ RW k99 99 W' W.heap.size v (s.fields 1 Rd.variant).1 ∧ PS w0 W W' B (s.fields 1 Rd.variant).2 := by
  have HP := Lib.hid (PS.start h)
  have HLt := Lib.hid h.lt
  obtain ⟨fin, hfin⟩ : ∃ fin, fin = s.fields 1 Rd.variant := ⟨_, rfl⟩
  rw [← hfin]
  unfold Rd.fields at hfin
  simp only at hfin
  have HM := Lib.hid (must_at HP.out ⟨#[123]⟩)
  have HO := Lib.hid (okC.must [⟨#[123]⟩] hok)
  generalize Rd.must [⟨#[123]⟩] s = u at *
  obtain ⟨F, hF⟩ : ∃ F, F = rdF := ⟨_, rfl⟩
  rw [← hF] at hfin
  obtain ⟨fs, hfs⟩ : ∃ fs, fs = Rd.fields1 1 Rd.variant F u [] := ⟨_, rfl⟩
  rw [← hfs] at hfin
  have HF := Lib.hid hfin
  have HFs := Lib.hid hfs
  have HFF : Hid (F = 100001) := Lib.hid hF
  clear h hfin hok hF hfs
  go_enter Tryz.func101, Tryz.ntmps101
  go_wp2_with fail
  refine HM.out.mono ?_
  rintro e W1 ⟨⟨v1, rfl⟩, hp1, hg1⟩
  have HP1 := Lib.hid hp1
  clear hp1 hg1 HM HP
  go_wp2_with fail
  go_loopg [7] F (fun kq v7 w' => ∃ (s' : Rd) (out : List SVar), Aside0 (out.length + kq = F) ∧ Aside0 (s'.bad ≠ -1 ∨ s'.toks.length < kq) ∧ Aside0 (Rd.fields1 1 Rd.variant kq s' out = fs) ∧ Aside0 (RW k99 99 w' W.heap.size v7 out) ∧ Aside0 (PS w0 W w' B s') ∧ Aside0 s'.Ok)
  case atStart => exact ⟨u, [], ⟨by simp⟩, ⟨.inr (by have := HO.out.len; have := HFF.out; omega)⟩, ⟨HFs.out.symm⟩, ⟨RW.nil _ _ _ _⟩, ⟨HP1.out⟩, ⟨HO.out⟩⟩
  case round =>
    clear HP1 HFs HO
    obtain ⟨s', out, HI, HLn, HF1, HW, HPS, HO⟩ := hrel
    obtain ⟨A, c, rfl⟩ := Kd.R_slice HW.out
    obtain ⟨A', c', ⟨d0, d1, d2, d3⟩, -⟩ := HPS.out.cells
    clear d0 d1 d3
    have HSee := Lib.hid (see_at HPS.out ⟨#[125]⟩)
    by_cases hbad : s'.bad = -1
    · have hb1 : (s'.bad == -1) = true := by rw [hbad]; rfl
      cases gk with
      | zero => exact absurd (HLn.out.resolve_left (fun hn => hn hbad)) (by omega)
      | succ kk =>
        have HL0 : Hid (s'.toks.length ≤ kk) := Lib.hid (by have := HLn.out.resolve_left (fun hn => hn hbad); omega)
        have hf := HF1.out
        unfold Rd.fields1 at hf
        by_cases hgo : out.length < 1 ∨ s'.sees [⟨#[125]⟩] = false
        · rw [if_pos ⟨hbad, hgo⟩] at hf
          have HF2 := Lib.hid hf
          have HGo := Lib.hid hgo
          have HLi : Hid (∀ V, PS w0 W V B s' → Calls Tryz.prog 53 #[.pointer (some ⟨B, 0, none⟩), .int .i64 (out.length : Int), .int .i64 16] V fun e W' => (∃ v, e = .returned v) ∧ PS w0 W W' B (s'.limit out.length 16) ∧ V.grownBy W' (some B)) := Lib.hid (fun V hV => limit_at hV out.length 16)
          have HO1 := Lib.hid (okC.limit out.length 16 HO.out)
          have HPr : Hid ((s'.limit out.length 16).variant.2.bad ≠ -1 ∨ (s'.limit out.length 16).variant.2.toks.length < kk + 1) := Lib.hid (Rd.variant_prog HO1.out (by rw [Rd.limit_toks]; have := HL0.out; omega))
          clear hf HF1 hgo hbad
          generalize hs1 : s'.limit out.length 16 = s1 at *
          clear hs1
          have HO2 := Lib.hid (okC.variant HO1.out)
          have HPr2 : Hid ((Rd.must [⟨#[59]⟩] s1.variant.2).bad ≠ -1 ∨ (Rd.must [⟨#[59]⟩] s1.variant.2).toks.length < kk) := Lib.hid (by
            rcases HPr.out with h1 | h1
            · exact .inl (((progC 0).must [⟨#[59]⟩] (.inl h1)).resolve_right (by omega))
            · have h2 := Rd.must_prog HO2.out ⟨#[59]⟩ (n := kk) (by omega)
              exact h2)
          have HO3 := Lib.hid (okC.must [⟨#[59]⟩] HO2.out)
          by_cases hlen : out.length < 1
          all_goals
            first
              | (have hl1 : decide (out.length < 1) = true := decide_eq_true hlen
                 have hl2 : decide ((out.length : Int) < 1) = true := decide_eq_true (by omega)
                 clear hlen HSee
                 go_wp2_with fail
                 refine (HLi.out _ HPS.out).mono ?_
                 have HW0 := Lib.hid HW.out
                 have HP0 := Lib.hid HPS.out)
              | (have hl1 : decide (out.length < 1) = false := decide_eq_false hlen
                 have hl2 : decide ((out.length : Int) < 1) = false := decide_eq_false (by omega)
                 have hse : s'.sees [⟨#[125]⟩] = false := HGo.out.resolve_left hlen
                 rw [hse] at HSee
                 clear hlen hse
                 go_wp2_with fail
                 refine HSee.out.mono ?_
                 rintro e V1 ⟨rfl, hpv, hgv⟩
                 have HW0 := Lib.hid (HW.out.grown hgv HLt.out)
                 have HP0 := Lib.hid hpv
                 clear hpv hgv HSee
                 go_wp2_with fail
                 refine (HLi.out _ HP0.out).mono ?_)
            rintro e V2 ⟨⟨v2, rfl⟩, hp2, hg2⟩
            have HW2 := Lib.hid (HW0.out.grown hg2 HLt.out)
            have HP2 := Lib.hid hp2
            clear hp2 hg2 HW0 HP0 HW HPS HLi
            go_wp2_with fail
            refine (variant_at HP2.out HO1.out).mono ?_
            rintro e V3 ⟨rfl, hp3, hg3⟩
            have HW3 := Lib.hid (HW2.out.grown hg3 HLt.out)
            have HVl := Lib.hid (Kd.R_lt HW2.out)
            have HM3 := Lib.hid (k99_mkM V3 V2.heap.size (fun _ => True) s1.variant.1)
            have HP3 := Lib.hid hp3
            have HSz := Lib.hid hp3.size
            have HSw := Lib.hid HP2.out.size
            clear hp3 hg3 HW2 HP2
            generalize s1.variant = q at *
            obtain ⟨x, s2⟩ := q
            simp only at HF2 HP3 HM3 HO2 HPr2 HO3
            go_wp2_with ((with_reducible refine gate_builtin (b := .append) (xs := #[.tmp 32, .tmp 35]) rfl ?_); at_builtin; refine row_append k99 W.heap.size V2.heap.size rfl (.tmp 32) (.tmp 35) 60 99 _ 32 rfl Tryz.underlying60 infoVar rfl (by decide) (by decide) _ out x [.string x.f0, .string x.f1] rfl rfl HM3.out HW3.out HVl.out HSw.out HSz.out (by have := HI.out; have := HFF.out; omega) ?_; intro v4 V4 hw4 hg4 hb4; have HW4 := Lib.hid hw4; have HP4 := Lib.hid (HP3.out.app hg4 hb4); clear hw4 hg4 hb4 HW3 HVl HP3 HSz HM3 HSw)
            have HM5 := Lib.hid (must_at HP4.out ⟨#[59]⟩)
            generalize Rd.must [⟨#[59]⟩] s2 = s3 at *
            refine HM5.out.mono ?_
            rintro e V5 ⟨⟨v5, rfl⟩, hp5, hg5⟩
            have HW5 := Lib.hid (HW4.out.grown hg5 HLt.out)
            have HP5 := Lib.hid hp5
            clear hp5 hg5 HW4 HP4 HM5
            go_wp2_with fail
            go_roundg kk
            case measure => omega
            case rel => exact ⟨s3, out ++ [x], ⟨by rw [List.length_append]; have := HI.out; simp; omega⟩, ⟨HPr2.out⟩, ⟨HF2.out⟩, ⟨HW5.out⟩, ⟨HP5.out⟩, ⟨HO3.out⟩⟩
        · rw [if_neg (fun e => hgo e.2)] at hf
          have hl : ¬ out.length < 1 := fun e => hgo (.inl e)
          have hl1 : decide (out.length < 1) = false := decide_eq_false hl
          have hl2 : decide ((out.length : Int) < 1) = false := decide_eq_false (by omega)
          have hse : s'.sees [⟨#[125]⟩] = true := by
            cases hs : s'.sees [⟨#[125]⟩] with
            | true => rfl
            | false => exact absurd (.inr hs) hgo
          rw [hse] at HSee
          have HF2 := Lib.hid hf
          clear hse hl hgo hf HF1 hbad
          go_wp2_with fail
          refine HSee.out.mono ?_
          rintro e V1 ⟨rfl, hpv, hgv⟩
          have HW1 := Lib.hid (HW.out.grown hgv HLt.out)
          have HP1 := Lib.hid hpv
          clear hpv hgv HSee HW HPS
          go_wp2_with fail
          refine (must_at HP1.out ⟨#[125]⟩).mono ?_
          rintro e V2 ⟨⟨v2, rfl⟩, hp2, hg2⟩
          have HW2 := Lib.hid (HW1.out.grown hg2 HLt.out)
          go_wp2_with fail
          go_ret
          exact ⟨_, rfl, by rw [HF.out, ← HF2.out]; exact HW2.out, by rw [HF.out, ← HF2.out]; exact hp2⟩
    · have hb1 : (s'.bad == -1) = false := by rw [beq_eq_false_iff_ne]; exact hbad
      have HF2 := Lib.hid (Rd.fields1_out_variant gk s' out hbad)
      clear hbad HSee
      go_wp2_with fail
      refine (must_at HPS.out ⟨#[125]⟩).mono ?_
      rintro e V2 ⟨⟨v2, rfl⟩, hp2, hg2⟩
      have HW2 := Lib.hid (HW.out.grown hg2 HLt.out)
      go_wp2_with fail
      go_ret
      exact ⟨_, rfl, by rw [HF.out, ← HF1.out, HF2.out]; exact HW2.out, by rw [HF.out, ← HF1.out, HF2.out]; exact hp2⟩
theorem fields_variant_at {w0 W0 W : World} {B : Nat} {s : Rd} (h : PS w0 W0 W B s) (hok : s.Ok) :
    Calls Tryz.prog 101 #[.pointer (some ⟨B, 0, none⟩), .int .i64 1, .func (.func 103) #[.pointer (some ⟨B, 0, none⟩)] #[]] W fun e W' => ∃ A n c, e = .returned (.slice A n c) ∧ RW k99 99 W' W.heap.size (.slice A n c) (s.fields 1 Rd.variant).1 ∧ PS w0 W0 W' B (s.fields 1 Rd.variant).2 ∧ W.grownBy W' (some B) := by
  refine (fields_variant_calls w0 W B s h.r hok).mono ?_
  rintro e W' ⟨v, he, hrw, hp⟩
  obtain ⟨A, n, c, rfl⟩ := RW.slice hrw
  exact ⟨A, n, c, he, hrw, h.on hp, hp.g⟩
end
section
open Go Go.RowKit Go.Proofs.YtmgkejobolgkmaaGreatDoorW.PrintWords Go.Proofs.YtmgkejobolgkmaaGreatDoorW.PrintLast Go.Proofs.YtmgkejobolgkmaaGreatDoorW.PrintMore
set_option linter.unusedVariables false
set_option linter.unusedSimpArgs false

theorem E_varS (q : Nat) (h : q ∈ 99 :: (k99).E) : q ≠ 77 := by
  revert q
  decide
theorem E_varE (q : Nat) (h : q ∈ 99 :: (k99).E) : q ≠ 80 := by
  revert q
  decide
set_option maxHeartbeats 8000000 in
set_option maxRecDepth 100000 in
theorem structure_calls (w0 W : World) (B : Nat) (s : Rd) (h : RdIn w0 W B s) (hok : s.Ok) :
    Calls Tryz.prog 54 #[.pointer (some ⟨B, 0, none⟩)] W fun e W' => ∃ A n c, e = .returned (.agg #[.int .i64 s.structure.1.f0, .string s.structure.1.f1, .bool s.structure.1.f2, .bool s.structure.1.f3, .slice A n c]) ∧ RW k99 99 W' W.heap.size (.slice A n c) s.structure.1.f4 ∧ PS w0 W W' B s.structure.2 := by
  have HP0 := Lib.hid (PS.start h)
  have HLt := Lib.hid h.lt
  obtain ⟨fin, hfin⟩ : ∃ fin, fin = s.structure := ⟨_, rfl⟩
  rw [← hfin]
  unfold Rd.structure Rd.structure1 at hfin
  simp only at hfin
  obtain ⟨a, ha⟩ : ∃ a, a = s.at_ := ⟨_, rfl⟩
  have HAt := Lib.hid (fun V (hV : RdIn w0 V B s) => at_calls w0 V B s hV)
  rw [← ha] at hfin HAt
  have HO1 := Lib.hid (okC.must [⟨#[115, 116, 114, 117, 99, 116]⟩] hok)
  clear h hok ha
  go_enter Tryz.func54, Tryz.ntmps54
  go_wp2_with fail
  refine at_world (fun V => Blk V W.heap.size #[.int .i64 0, .string ⟨#[]⟩, .bool false, .bool false, .slice none 0 0] 77 ∧ PS w0 W V B s) ⟨Blk.new _ _ _, HP0.out.alloc _⟩ ?_
  rintro V0 ⟨HRes, hp0⟩
  have HP := Lib.hid hp0
  clear hp0 HP0
  refine (HAt.out V0 HP.out.r).mono ?_
  rintro e W1 ⟨rfl, rfl⟩
  clear HAt
  have HRB : Hid (W.heap.size ≠ B) := Lib.hid (fun e => by have := HLt.out; omega)
  have HLG : Hid (W.heap.size < V0.heap.size) := Lib.hid HRes.lt
  have HGB : Hid (V0.heap.size ≠ B) := Lib.hid (fun e => by have := HLt.out; have := HLG.out; omega)
  have HRG : Hid (W.heap.size ≠ V0.heap.size) := Lib.hid (fun e => by have := HLG.out; omega)
  have hGR : (V0.heap.size = W.heap.size) = False := eq_false (by have := HLG.out; omega)
  have hRG : (W.heap.size = V0.heap.size) = False := eq_false (by have := HLG.out; omega)
  have HLe : Hid (W.heap.size ≤ V0.heap.size) := Lib.hid (Nat.le_of_lt HLG.out)
  have HR1 := Lib.hid (HRes.alloc (.cells #[.int .i64 a, .string ⟨#[]⟩, .bool false, .bool false, .slice none 0 0] 77))
  have HG1 := Lib.hid (Blk.new V0 #[.int .i64 a, .string ⟨#[]⟩, .bool false, .bool false, .slice none 0 0] 77)
  have HP1 := Lib.hid (HP.out.alloc (.cells #[.int .i64 a, .string ⟨#[]⟩, .bool false, .bool false, .slice none 0 0] 77))
  clear HRes HP
  have HM := Lib.hid (must_at' (n := V0.heap.size + 1) HP1.out ⟨#[115, 116, 114, 117, 99, 116]⟩ (by simp))
  generalize Rd.must [⟨#[115, 116, 114, 117, 99, 116]⟩] s = s1 at *
  go_wp2_with fail
  refine HM.out.mono ?_
  rintro e V1 ⟨⟨v1, rfl⟩, hp1, hg1⟩
  have HR2 := Lib.hid (HR1.out.ps hg1 HRB.out)
  have HG2 := Lib.hid (HG1.out.ps hg1 HGB.out)
  have HP2 := Lib.hid hp1
  clear hp1 hg1 HR1 HG1 HP1 HM
  generalize V0.heap.size = G at *
  have HO2 := Lib.hid (okC.name HO1.out)
  have HN := Lib.hid (name_at HP2.out)
  generalize s1.name = q at *
  obtain ⟨x, s2⟩ := q
  simp only at HN HO2 hfin
  go_wp2_with fail
  refine HN.out.mono ?_
  rintro e V2 ⟨rfl, hp1, hg1⟩
  have HR3 := Lib.hid (HR2.out.ps hg1 HRB.out)
  have HG3 := Lib.hid (HG2.out.ps hg1 HGB.out)
  have HP3 := Lib.hid hp1
  clear hp1 hg1 HR2 HG2 HP2 HN
  have HO3 := Lib.hid (okC.may ⟨#[115, 97, 102, 101]⟩ HO2.out)
  have HN := Lib.hid (may_at HP3.out ⟨#[115, 97, 102, 101]⟩)
  generalize s2.may ⟨#[115, 97, 102, 101]⟩ = q at *
  obtain ⟨b1, s3⟩ := q
  simp only at HN HO3 hfin
  go_wp2_with fail
  refine HN.out.mono ?_
  rintro e V3 ⟨rfl, hp1, hg1⟩
  have HR4 := Lib.hid (HR3.out.ps hg1 HRB.out)
  have HG4 := Lib.hid (HG3.out.ps hg1 HGB.out)
  have HP4 := Lib.hid hp1
  clear hp1 hg1 HR3 HG3 HP3 HN
  have HO4 := Lib.hid (okC.may ⟨#[104, 111, 111, 107]⟩ HO3.out)
  have HN := Lib.hid (may_at HP4.out ⟨#[104, 111, 111, 107]⟩)
  generalize s3.may ⟨#[104, 111, 111, 107]⟩ = q at *
  obtain ⟨b2, s4⟩ := q
  simp only at HN HO4 hfin
  go_wp2_with fail
  refine HN.out.mono ?_
  rintro e V4 ⟨rfl, hp1, hg1⟩
  have hg5 := HG4.out.ps hg1 HGB.out
  have HR5 := Lib.hid ((((HR4.out.ps hg1 HRB.out).far (p := ⟨G, 1, none⟩) HRG.out (.string x)).far (p := ⟨G, 2, none⟩) HRG.out (.bool b1)).far (p := ⟨G, 3, none⟩) HRG.out (.bool b2))
  have HG5 : Hid (Blk (((V4.setCell ⟨G, 1, none⟩ (.string x)).setCell ⟨G, 2, none⟩ (.bool b1)).setCell ⟨G, 3, none⟩ (.bool b2)) G #[.int .i64 a, .string x, .bool b1, .bool b2, .slice none 0 0] 77) := Lib.hid (((hg5.set 1 _).set 2 _).set 3 _)
  have HP5 := Lib.hid (((hp1.set (p := ⟨G, 1, none⟩) HLe.out (.string x)).set (p := ⟨G, 2, none⟩) HLe.out (.bool b1)).set (p := ⟨G, 3, none⟩) HLe.out (.bool b2))
  obtain ⟨⟨g0, g1, g2, g3, g4⟩, f0, f1, f2, f3, f4⟩ := hg5.cells5
  clear hp1 hg1 HR4 HG4 HP4 HN hg5
  have HN := Lib.hid (fields_field_at HP5.out HO4.out)
  generalize s4.fields 0 Rd.field = q at *
  obtain ⟨fs, s5⟩ := q
  simp only at HN hfin
  have HF := Lib.hid hfin
  clear hfin
  go_wp2_with fail
  refine HN.out.mono ?_
  rintro e V5 ⟨A, n, c, rfl, hrw, hp1, hg1⟩
  clear g0 g1 g2 g3 g4 f0 f1 f2 f3 f4
  have HR6 := Lib.hid (HR5.out.ps hg1 HRB.out)
  have hg6 := HG5.out.ps hg1 HGB.out
  have HP6 := Lib.hid hp1
  have HW6 := Lib.hid (Kd.R_lower hrw HP5.out.size)
  obtain ⟨⟨g0, g1, g2, g3, g4⟩, f0, f1, f2, f3, f4⟩ := hg6.cells5
  obtain ⟨⟨e0, e1, e2, e3, e4⟩, d0, d1, d2, d3, d4⟩ := HR6.out.cells5
  have HG6 := Lib.hid hg6
  clear hp1 hg1 hrw HR5 HG5 HP5 HN hg6
  go_wp2_with fail
  refine post_at (fun U => Blk U W.heap.size #[.int .i64 a, .string x, .bool b1, .bool b2, .slice A n c] 77 ∧ RW k99 99 U W.heap.size (.slice A n c) fs ∧ PS w0 W U B s5) ⟨?_, ?_, ?_⟩ ?_
  · exact (((((HR6.out.far (p := ⟨G, 4, none⟩) HRG.out _).set 0 _).set 1 _).set 2 _).set 3 _).set 4 _
  · exact RW.over (RW.set HW6.out HG6.out E_varS 4 _) (HR6.out.far (p := ⟨G, 4, none⟩) HRG.out _) E_varS (sets5 _ _ _ _ _ _ _)
  · exact (HP6.out.set (p := ⟨G, 4, none⟩) HLe.out _).own (sets5 _ _ _ _ _ _ _) (Nat.le_refl _)
  · rintro U ⟨hbx, hw, hps⟩
    obtain ⟨⟨z0, z1, z2, z3, z4⟩, -⟩ := hbx.cells5
    exact bodyPost_ret (v := .agg #[.int .i64 a, .string x, .bool b1, .bool b2, .slice A n c]) (by simp [results, Tryz.results54, go_sem, z0, z1, z2, z3, z4]) rfl ⟨A, n, c, by rw [HF.out], by rw [HF.out]; exact hw, by rw [HF.out]; exact hps⟩
set_option maxHeartbeats 8000000 in
set_option maxRecDepth 100000 in
theorem enum_calls (w0 W : World) (B : Nat) (s : Rd) (h : RdIn w0 W B s) (hok : s.Ok) :
    Calls Tryz.prog 55 #[.pointer (some ⟨B, 0, none⟩)] W fun e W' => ∃ A n c, e = .returned (.agg #[.int .i64 s.enum.1.f0, .string s.enum.1.f1, .slice A n c]) ∧ RW k99 99 W' W.heap.size (.slice A n c) s.enum.1.f2 ∧ PS w0 W W' B s.enum.2 := by
  have HP0 := Lib.hid (PS.start h)
  have HLt := Lib.hid h.lt
  obtain ⟨fin, hfin⟩ : ∃ fin, fin = s.enum := ⟨_, rfl⟩
  rw [← hfin]
  unfold Rd.enum Rd.enum1 at hfin
  simp only at hfin
  obtain ⟨a, ha⟩ : ∃ a, a = s.at_ := ⟨_, rfl⟩
  have HAt := Lib.hid (fun V (hV : RdIn w0 V B s) => at_calls w0 V B s hV)
  rw [← ha] at hfin HAt
  have HO1 := Lib.hid (okC.must [⟨#[101, 110, 117, 109]⟩] hok)
  clear h hok ha
  go_enter Tryz.func55, Tryz.ntmps55
  go_wp2_with fail
  refine at_world (fun V => Blk V W.heap.size #[.int .i64 0, .string ⟨#[]⟩, .slice none 0 0] 80 ∧ PS w0 W V B s) ⟨Blk.new _ _ _, HP0.out.alloc _⟩ ?_
  rintro V0 ⟨HRes, hp0⟩
  have HP := Lib.hid hp0
  clear hp0 HP0
  refine (HAt.out V0 HP.out.r).mono ?_
  rintro e W1 ⟨rfl, rfl⟩
  clear HAt
  have HRB : Hid (W.heap.size ≠ B) := Lib.hid (fun e => by have := HLt.out; omega)
  have HLG : Hid (W.heap.size < V0.heap.size) := Lib.hid HRes.lt
  have HGB : Hid (V0.heap.size ≠ B) := Lib.hid (fun e => by have := HLt.out; have := HLG.out; omega)
  have HRG : Hid (W.heap.size ≠ V0.heap.size) := Lib.hid (fun e => by have := HLG.out; omega)
  have hGR : (V0.heap.size = W.heap.size) = False := eq_false (by have := HLG.out; omega)
  have hRG : (W.heap.size = V0.heap.size) = False := eq_false (by have := HLG.out; omega)
  have HLe : Hid (W.heap.size ≤ V0.heap.size) := Lib.hid (Nat.le_of_lt HLG.out)
  have HR1 := Lib.hid (HRes.alloc (.cells #[.int .i64 a, .string ⟨#[]⟩, .slice none 0 0] 80))
  have HG1 := Lib.hid (Blk.new V0 #[.int .i64 a, .string ⟨#[]⟩, .slice none 0 0] 80)
  have HP1 := Lib.hid (HP.out.alloc (.cells #[.int .i64 a, .string ⟨#[]⟩, .slice none 0 0] 80))
  clear HRes HP
  have HM := Lib.hid (must_at' (n := V0.heap.size + 1) HP1.out ⟨#[101, 110, 117, 109]⟩ (by simp))
  generalize Rd.must [⟨#[101, 110, 117, 109]⟩] s = s1 at *
  go_wp2_with fail
  refine HM.out.mono ?_
  rintro e V1 ⟨⟨v1, rfl⟩, hp1, hg1⟩
  have HR2 := Lib.hid (HR1.out.ps hg1 HRB.out)
  have HG2 := Lib.hid (HG1.out.ps hg1 HGB.out)
  have HP2 := Lib.hid hp1
  clear hp1 hg1 HR1 HG1 HP1 HM
  generalize V0.heap.size = G at *
  have HO2 := Lib.hid (okC.name HO1.out)
  have HN := Lib.hid (name_at HP2.out)
  generalize s1.name = q at *
  obtain ⟨x, s2⟩ := q
  simp only at HN HO2 hfin
  go_wp2_with fail
  refine HN.out.mono ?_
  rintro e V4 ⟨rfl, hp1, hg1⟩
  have hg5 := HG2.out.ps hg1 HGB.out
  have HR5 := Lib.hid ((HR2.out.ps hg1 HRB.out).far (p := ⟨G, 1, none⟩) HRG.out (.string x))
  have HG5 : Hid (Blk (V4.setCell ⟨G, 1, none⟩ (.string x)) G #[.int .i64 a, .string x, .slice none 0 0] 80) := Lib.hid (hg5.set 1 _)
  have HP5 := Lib.hid (hp1.set (p := ⟨G, 1, none⟩) HLe.out (.string x))
  obtain ⟨⟨g0, g1, g2⟩, f0, f1, f2⟩ := hg5.cells3
  clear hp1 hg1 HR2 HG2 HP2 HN hg5
  have HN := Lib.hid (fields_variant_at HP5.out HO2.out)
  generalize s2.fields 1 Rd.variant = q at *
  obtain ⟨fs, s5⟩ := q
  simp only at HN hfin
  have HF := Lib.hid hfin
  clear hfin
  go_wp2_with fail
  refine HN.out.mono ?_
  rintro e V5 ⟨A, n, c, rfl, hrw, hp1, hg1⟩
  clear g0 g1 g2 f0 f1 f2
  have HR6 := Lib.hid (HR5.out.ps hg1 HRB.out)
  have hg6 := HG5.out.ps hg1 HGB.out
  have HP6 := Lib.hid hp1
  have HW6 := Lib.hid (Kd.R_lower hrw HP5.out.size)
  obtain ⟨⟨g0, g1, g2⟩, f0, f1, f2⟩ := hg6.cells3
  obtain ⟨⟨e0, e1, e2⟩, d0, d1, d2⟩ := HR6.out.cells3
  have HG6 := Lib.hid hg6
  clear hp1 hg1 hrw HR5 HG5 HP5 HN hg6
  go_wp2_with fail
  refine post_at (fun U => Blk U W.heap.size #[.int .i64 a, .string x, .slice A n c] 80 ∧ RW k99 99 U W.heap.size (.slice A n c) fs ∧ PS w0 W U B s5) ⟨?_, ?_, ?_⟩ ?_
  · exact (((HR6.out.far (p := ⟨G, 2, none⟩) HRG.out _).set 0 _).set 1 _).set 2 _
  · exact RW.over (RW.set HW6.out HG6.out E_varE 2 _) (HR6.out.far (p := ⟨G, 2, none⟩) HRG.out _) E_varE (sets3 _ _ _ _ _)
  · exact (HP6.out.set (p := ⟨G, 2, none⟩) HLe.out _).own (sets3 _ _ _ _ _) (Nat.le_refl _)
  · rintro U ⟨hbx, hw, hps⟩
    obtain ⟨⟨z0, z1, z2⟩, -⟩ := hbx.cells3
    exact bodyPost_ret (v := .agg #[.int .i64 a, .string x, .slice A n c]) (by simp [results, Tryz.results55, go_sem, z0, z1, z2]) rfl ⟨A, n, c, by rw [HF.out], by rw [HF.out]; exact hw, by rw [HF.out]; exact hps⟩
theorem structure_at {w0 W0 W : World} {B : Nat} {s : Rd} (h : PS w0 W0 W B s) (hok : s.Ok) :
    Calls Tryz.prog 54 #[.pointer (some ⟨B, 0, none⟩)] W fun e W' => ∃ A n c, e = .returned (.agg #[.int .i64 s.structure.1.f0, .string s.structure.1.f1, .bool s.structure.1.f2, .bool s.structure.1.f3, .slice A n c]) ∧ MW k77 W' W.heap.size s.structure.1 [.int .i64 s.structure.1.f0, .string s.structure.1.f1, .bool s.structure.1.f2, .bool s.structure.1.f3, .slice A n c] ∧ PS w0 W0 W' B s.structure.2 ∧ W.grownBy W' (some B) := by
  refine (structure_calls w0 W B s h.r hok).mono ?_
  rintro e W' ⟨A, n, c, he, hrw, hp⟩
  exact ⟨A, n, c, he, k77_mkM W' _ _ _ hrw, h.on hp, hp.g⟩
theorem enum_at {w0 W0 W : World} {B : Nat} {s : Rd} (h : PS w0 W0 W B s) (hok : s.Ok) :
    Calls Tryz.prog 55 #[.pointer (some ⟨B, 0, none⟩)] W fun e W' => ∃ A n c, e = .returned (.agg #[.int .i64 s.enum.1.f0, .string s.enum.1.f1, .slice A n c]) ∧ MW k80 W' W.heap.size s.enum.1 [.int .i64 s.enum.1.f0, .string s.enum.1.f1, .slice A n c] ∧ PS w0 W0 W' B s.enum.2 ∧ W.grownBy W' (some B) := by
  refine (enum_calls w0 W B s h.r hok).mono ?_
  rintro e W' ⟨A, n, c, he, hrw, hp⟩
  exact ⟨A, n, c, he, k80_mkM W' _ _ _ hrw, h.on hp, hp.g⟩
end
end Go.Proofs.YtmgkejobolgkmaaGreatDoor.PL
