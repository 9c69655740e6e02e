/- bytes.Clone: nil stays nil, which no data tell. -/
import Derived.Test.YtnppjkijhcampaaCPlab
import Derived.Lib.SliceRun

namespace Go.Proofs.Ytnppjkijhcampaa.Sym
open Go
set_option linter.unusedSimpArgs false
set_option linter.unusedVariables false
noncomputable section

noncomputable abbrev clC : Code := fnCode Go.Proofs.Try.f65
noncomputable abbrev clO : Array Oper := regOps (seqL (seqL (seqR clC)))
noncomputable abbrev clX : Code := condT (seqR (seqL (seqR clC)))
noncomputable abbrev clY : Code := seqR (seqR clC)
noncomputable abbrev iopClone : Io := ⟨[dL], [], [], [dO], none⟩
noncomputable def FpClone (d : iopClone.In) : Tr iopClone.Res := .ite (decide (d.1.1.length ≤ 4294967296)) (.ret (.ret ((d.1.1, ()), ()))) .no
noncomputable abbrev clHd : Hd := hdT []
noncomputable abbrev clLp : Lp := lpT []
noncomputable def clA (b : List Int) (v3 v4 : V) : AS := ⟨[.one (.lst 5 (.int .u8) b 0), .any, .one (.lst 5 (.int .u8) [] 5), v3, v4, .any, .any, .any], [], []⟩
noncomputable def clK (ex : Ex) (A : AS) : Option iopClone.Res := match ex with
  | .ret => iopClone.fin tt Go.Proofs.Try.f65 .ret A
  | _ => none
noncomputable abbrev clLr : Nat := lrOf Go.Proofs.Try.f65
theorem cl0 (b : List Int) : ev tt clHd dr clLp 0 clLr (seqL clC) clLr [] (iopClone.start 8 ((b, ()), ())) (fun ex A => match ex with | .normal => some A | _ => none) = some (clA b .any .any) := by kernel_rfl
theorem clx (b : List Int) : ev tt clHd dr clLp 0 clLr clX clLr [] (clA b (.one (.lst 5 (.int .u8) b 0)) (.one (.bool true))) clK = some (.ret (([], ()), ())) := by kernel_rfl
theorem cly (b : List Int) : ev tt clHd dr clLp 0 clLr clY clLr [] (clA b (.one (.lst 5 (.int .u8) b 0)) (.one (.bool false))) clK = bif decide (([] : List Int).length + b.length ≤ 4294967296) then some (.ret ((b, ()), ())) else none := by kernel_rfl

theorem okpClone : HcOk prog 65 (ioHd iopClone FpClone) := by
  have htt := ttOf_ok Go.Proofs.Try.prog 400
  refine io_soundG (P := prog) htt (fn := Go.Proofs.Try.f65) (by kernel_rfl) (by kernel_rfl) iopClone FpClone ?_ (by kernel_rfl)
  rintro ⟨⟨(b : List Int), ⟨⟩⟩, ⟨⟩⟩ out hwf hout F G cst w vals R Rl hkb hend
  obtain ⟨hg, hout⟩ := Tr.guard hout
  have hg : b.length ≤ 4294967296 := by simpa using hg
  cases hout
  have hc : (Go.Proofs.Try.f65).body = some (.seq (seqL clC) (.seq (.seq (.region 1 clO false) (.cond (.tmp 4) clX .skip)) clY)) := by kernel_rfl
  have hdr := orderD_ok (ttOf_ok Go.Proofs.Try.prog 400)
  have hhd : HdOk prog clHd := hdT_ok HcsOk.nil
  refine calls_of_wp (P := prog) (fn := Go.Proofs.Try.f65) (by kernel_rfl) hc ?_
  refine wp_seq (ev_sound htt hm hhd hdr hkb (lp := clLp) _ (noLoops (c := (seqL clC)) (by kernel_rfl)) (cl0 b) Rl ?_)
  intro ex A1 G1 a1 w1 R1 hd1 h1
  cases ex with
  | normal =>
    simp only [Option.some.injEq] at h1
    subst h1
    show (Code.seq (.seq (.region 1 clO false) (.cond (.tmp 4) clX .skip)) clY).wp prog _ a1 w1
    refine wp_seq (wp_seq (wp_region ?_))
    have hr : List.range clO.size = [0, 1] := by kernel_rfl
    rw [hr]
    obtain ⟨p0, f0, ho0⟩ : ∃ pos after, clO[0]? = some { dst := some 3, op := .move (.tmp 0), type := 22, pos := pos, after := after, guard := none } := ⟨_, _, rfl⟩
    obtain ⟨p1, f1, ho1⟩ : ∃ pos after, clO[1]? = some { dst := some 4, op := .binOp .eql 22 (.tmp 3) (.const (.slice none 0 0)) 22, type := 4, pos := pos, after := after, guard := none } := ⟨_, _, rfl⟩
    have hu : Program.underlying prog 22 = some (.slice 5) := by kernel_rfl
    simp only [wpOps, ho0, ho1]
    rw [if_pos (by rfl)]
    refine .inl ?_
    obtain ⟨u0, hu0, hv0⟩ := evP_sound (P := prog) htt (fun x => R1.opd x) R1.ob { dst := some 3, op := .move (.tmp 0), type := 22, pos := p0, after := f0, guard := none } (id := 7) (chk := true) (v := .one (.lst 5 (.int .u8) b 0)) (by kernel_rfl) rfl
    unfold Oper.wp
    rw [hu0, Oper.upon_value]
    have R2 := R1.puts hv0 (some 3)
    have hd2 : (a1.put (some 3) u0).defers = [] := (Act.put_defers' _ _ _).trans hd1
    generalize a1.put (some 3) u0 = a2 at R2 hd2 ⊢
    rw [if_pos (by rfl)]
    refine .inl ?_
    obtain ⟨Aa, cap, he, hc1, hc2, hrow, _⟩ : Rc G1 w1 (.lst 5 (.int .u8) b 0) (a2.eval (.tmp 3)) := R2.opd (.tmp 3)
    have hrun : (execOp a2.eval { dst := some 4, op := .binOp .eql 22 (.tmp 3) (.const (.slice none 0 0)) 22, type := 4, pos := p1, after := f1, guard := none }).run prog w1 = .ok (.value (.bool Aa.isNone)) w1 := by
      have h1 := Go.Lib.run_eql_slice_nil (P := prog) w1 22 5 Aa b.length cap 0 0 hu
      have h2 : a2.eval (.const (.slice none 0 0)) = .slice none 0 0 := rfl
      simp only [execOp, Sem.run_bind, he, h2]
      simp [eqGuard, h1]
    rw [hrun, Oper.upon_value]
    have R3 := R2.puts (v := .one (.bool Aa.isNone)) (u := .bool Aa.isNone) rfl (some 4)
    have hd3 : (a2.put (some 4) (.bool Aa.isNone)).defers = [] := (Act.put_defers' _ _ _).trans hd2
    generalize a2.put (some 4) (.bool Aa.isNone) = a3 at R3 hd3 ⊢
    have hb4 : a3.eval (.tmp 4) = .bool Aa.isNone := R3.opd (.tmp 4)
    refine wp_cond hb4 ?_
    cases Aa with
    | none =>
      have hb : b = [] := Classical.byContradiction fun hne => by
        obtain ⟨_, _, e, _⟩ := hrow hne
        cases e
      subst hb
      refine ev_sound htt hm hhd hdr hkb (lp := clLp) (l := clLr) (x := []) clX (noLoops (c := clX) (by kernel_rfl)) (clx []) R3 ?_
      intro ex A' G' a' w' R' hd' hk
      cases ex with
      | ret => exact ⟨hd'.trans hd3, hend .ret A' G' a' w' R' hk⟩
      | normal => cases hk
      | exit i => cases hk
      | panic v => cases hk
    | some ad =>
      refine wp_skip ?_
      refine ev_sound htt hm hhd hdr hkb (lp := clLp) (l := clLr) (x := []) clY (noLoops (c := clY) (by kernel_rfl)) ((cly b).trans (bif_true (by simpa using hg) _ _)) R3 ?_
      intro ex A' G' a' w' R' hd' hk
      cases ex with
      | ret => exact ⟨hd'.trans hd3, hend .ret A' G' a' w' R' hk⟩
      | normal => cases hk
      | exit i => cases hk
      | panic v => cases hk
  | exit i => cases h1
  | ret => cases h1
  | panic v => cases h1

end
end Go.Proofs.Ytnppjkijhcampaa.Sym
