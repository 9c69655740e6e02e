/- leatlaw07.RecGets answers true at all bytes and places, and leaves what it is given as it was: where the arguments' bulk is at most 2^20. -/
import Derived.Test.YtnppjkijhcampaaCLgets
import Derived.Test.YtnppjkijhcampaaSymU

namespace Go.Proofs.Ytnppjkijhcampaa.Sym
open Go
open Go.ChangeShapes Go.WideShapes Go.ChangeAt Go.RowKit
set_option linter.unusedSimpArgs false
set_option linter.unusedVariables false
noncomputable section

theorem wown : ownKnob Try.prog.godebug = none := by kernel_rfl
theorem wlaid : laidOutB Try.prog = true := by kernel_rfl
theorem wmaps : mapsRowed Try.prog = true := by kernel_rfl
theorem wslices : slicesB Try.prog = true := by kernel_rfl

theorem wGets_run (b : List Int) (p : Int) (hb : b.length ≤ 4294967000) : ioHd iolGets FlGets Unit [argV bs b, argV (.int .i64) p] 1 ⟨[], [], []⟩ lawK = some () := by
  have h : ioHd iolGets FlGets Unit [argV bs b, argV (.int .i64) p] 1 ⟨[], [], []⟩ lawK = bif decide (b.length ≤ 4294967000) then some () else none := by kernel_rfl
  rw [h, bif_true (by simpa using hb)]

set_option maxRecDepth 100000 in
theorem wGets_contract (H : Type) (enc : TypeId × Value → H) (W : World) (base : Nat) (args : Array Value) (ds gs : List (DataW H)) (before : List MemPlace)
    (hval : ∀ (j : Nat) t v, Try.f3.params[j]? = some t → args[j]? = some v → Value.okWide Try.prog W .any base t v)
    (hW : DataW.Whole enc Try.prog Try.f3.params.toList Rows.recGetsSpec.vars false W args.toList ds gs before) (hk : Rows.uptoSmall H (ds ++ gs) = true) :
    Calls Try.prog 3 args W fun e W' => ∃ v, e = .returned v ∧ Rows.recGetsSpec.post enc Try.prog Try.f3 false true false false W args v W' := by
  have hW' := hW
  obtain ⟨p, q, hA, hV, rfl, hfz, hnd⟩ := hW
  obtain ⟨v0, vs0, d0, ds0, p0, q0, ha0, rfl, rfl, h0, r0⟩ := trodAll_cons hA
  obtain ⟨v1, vs1, d1, ds1, p1, q1, rfl, rfl, rfl, h1, r1⟩ := trodAll_cons r0
  obtain ⟨rfl, rfl, rfl⟩ := trodAll_nil r1
  obtain rfl : args = #[v0, v1] := by cases args; simp_all
  obtain ⟨rfl, rfl⟩ := trodVars_none hV
  obtain ⟨⟨f0, t0⟩, f1, t1⟩ := And.intro h0 h1
  have hb : Rows.uptoBulk d0 + (Rows.uptoBulk d1 + 0) ≤ 1048576 := by simpa [Rows.uptoSmall, Rows.uptoBulkAll] using hk
  have o0 : okTF Try.prog bs (.inl 22) = true := by kernel_rfl
  have o1 : okTF Try.prog (.int .i64) (.inl 3) = true := by kernel_rfl
  obtain ⟨y0, hy0, hs0⟩ := datOf o0 t0
  obtain ⟨y1, hy1, hs1⟩ := datOf o1 t1
  have e0 : Try.f3.params[0]? = some 22 := by kernel_rfl
  have e1 : Try.f3.params[1]? = some 3 := by kernel_rfl
  have hv0 : Value.okWide Try.prog W .any base 22 v0 := hval 0 _ v0 e0 (by simp)
  have hv1 : Value.okWide Try.prog W .any base 3 v1 := hval 1 _ v1 e1 (by simp)
  obtain ⟨k0, k0'⟩ := arg_shape o0 hv0
  obtain ⟨k1, k1'⟩ := arg_shape o1 hv1
  have hlen : List.length (α := Int) y0 ≤ 4294967000 := by
    have : List.length (α := Int) y0 ≤ dsz bs y0 := dsz_len (e := 5) (k := .u8) y0
    omega
  refine (law_calls oklGets (vals := #[v0, v1]) (args := [argV bs y0, argV (.int .i64) y1]) ⟨argV_sound hy0 k0 k0', argV_sound hy1 k1 k1', trivial⟩ (wGets_run y0 y1 hlen)).mono ?_
  rintro e W' ⟨rfl, hos, hout, hkeep⟩
  exact ⟨_, rfl, post_law wlaid wmaps wslices (by decide +kernel) (tb := 4) rfl (by kernel_rfl) rfl hW' rfl hos hout hkeep⟩

set_option maxRecDepth 100000 in
theorem wGets_lifted (os : Os) (started : os.Started) (H : Type) (enc : TypeId × Value → H) (F : Stop.Interp) :
    ReturnsInHanded {} Try.checked os 3 .any ((Rows.OpenSpec.upto Rows.recGetsSpec).pre6 enc Try.prog Try.f3 Rows.recGetsUptoRow.domain false) (((Rows.OpenSpec.upto Rows.recGetsSpec).at F).post enc Try.prog Try.f3 false true false false) := by
  refine returnsInHanded_of_cond (C := Try.checked) (s := Rows.OpenSpec.upto Rows.recGetsSpec) (k := Rows.uptoSmall) rfl wown started (by kernel_rfl) (show Try.prog.funcs[3]? = some Try.f3 by kernel_rfl)
    (OpenSpec.witness (enc := enc) (C := Try.checked) (s := Rows.OpenSpec.upto Rows.recGetsSpec) (k := Rows.uptoSmall) rfl false ⟨#[], #[.slice none 0 0, .int .i64 0], []⟩ 8 (by kernel_rfl) (by kernel_rfl) (by kernel_rfl)
      (x := ([.nil, .lit (.int .i64 0)], [], [])) (by kernel_rfl) rfl (by kernel_rfl)) ?_
  intro W base args ds gs before hval hW _ hk _
  exact wGets_contract H enc W base args ds gs before hval hW hk

theorem wGets_over : Rows.recGetsUptoRow.holds Try.pinned (Rows.OpenSpec.upto Rows.recGetsSpec) :=
  OpenClaim.holds_of_cond 3 Try.f3 rfl rfl rfl rfl rfl rfl rfl ⟨rfl, rfl, rfl, rfl, rfl⟩ rfl rfl rfl rfl rfl (by kernel_rfl) (show Try.prog.funcs[3]? = some Try.f3 by kernel_rfl) (by kernel_rfl)
    (of_decide_eq_true (by kernel_rfl)) (by unfold Func.isWrapper; first | (rw [if_pos (by decide +kernel)]; kernel_rfl) | (rw [if_neg (by decide +kernel)]; exact ⟨rfl, rfl⟩))
    (fun os started H enc _ F => wGets_lifted os started H enc F)
end
end Go.Proofs.Ytnppjkijhcampaa.Sym

theorem Go.Proofs.Ytnppjkijhcampaa.recGetsProved : Go.Proofs.Ytnppjkijhcampaa.Rows.RecGetsUptoSaid := Go.Proofs.Ytnppjkijhcampaa.Sym.wGets_over
