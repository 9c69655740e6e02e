/- wire.Dec: NewDec, Has, number, I16, I32, I64, take, text, Str, Name, Blob, End. The contracts whose names end in Z speak of a Dec that has no reader (its version or its size is out of the bounds). -/
import Derived.Test.YtmlgepgcofmpeaaGreatQ4

namespace Go.Proofs.YtmlgepgcofmpeaaGreat.Sym
open Go
set_option linter.unusedSimpArgs false
set_option linter.unusedVariables false
noncomputable section
abbrev oDec : List (List Sh) := [[.ptr 1 0, dI, dI], [dL, dI]]
abbrev oDecZ : List (List Sh) := [[.nil, dI, dI]]
abbrev oDec2 : List (List Sh) := [[.ptr 1 0, dI, dI], [dL, dI], [.ptr 0 0], [dI]]
abbrev oDecT : List (List Sh) := [[.ptr 2 0], [dI], [.ptr 3 0, dI, dI], [dL, dI]]
abbrev DeS : Type := Int × Int
abbrev decSt (d : DenO oDec) : DeS := (d.1.2.2.1, d.2.1.2.1)
abbrev decOut (v : Int) (b : List Int) (s : DeS) : DenO oDec := (((), (v, (s.1, ()))), ((b, (s.2, ())), ()))
def spDok (b : List Int) (p : Int) : Bool := decide (b.length ≤ 130048) && (decide (0 ≤ p) && decide (p ≤ (b.length : Int)))
abbrev decOk (d : DenO oDec) : Bool := spDok d.2.1.1 d.2.1.2.1
def spDn (k : IntKind) (n : Nat) (b : List Int) (s : DeS) : Int × DeS := if s.1 = 0 then (k.wrap (spRd b s.2 n).1, ((spRd b s.2 n).2.2, (spRd b s.2 n).2.1)) else (0, s)
def spDTake (b : List Int) (n : Int) (s : DeS) : List Int × DeS := if s.1 = 0 then (if n < 0 then ([], (5, s.2)) else ((spTakeB b s.2 n).1, ((spTakeB b s.2 n).2.2, (spTakeB b s.2 n).2.1))) else ([], s)
def spDLong (n : Int) (s : DeS) : DeS := if 255 < n then (4, s.2) else s
def spDText (b : List Int) (n : Int) (s : DeS) : List Int × DeS := if (spUtf (spDTake b n (spDLong n s)).1).2 = true then spDTake b n (spDLong n s) else ([], (6, (spDTake b n (spDLong n s)).2.2))
theorem spRok_of {b : List Int} {p : Int} (h : spDok b p = true) : spRok b p = true := by
  simp only [spDok, spRok, Bool.and_eq_true, decide_eq_true_eq] at h ⊢
  exact ⟨by omega, h.2⟩
theorem spRd_ok {b : List Int} {p : Int} (n : Nat) (h : spDok b p = true) : spDok b (spRd b p n).2.1 = true := by
  unfold spRd
  split
  · exact h
  · simp only [spDok, Bool.and_eq_true, decide_eq_true_eq] at h ⊢
    exact ⟨h.1, by omega, by omega⟩
theorem spTakeB_ok {b : List Int} {p : Int} (n : Int) (h : spDok b p = true) : spDok b (spTakeB b p n).2.1 = true := by
  unfold spTakeB
  split
  · exact h
  · split
    · exact h
    · simp only [spDok, Bool.and_eq_true, decide_eq_true_eq] at h ⊢
      exact ⟨h.1, by omega, by omega⟩
theorem spDn_ok {b : List Int} {s : DeS} (k : IntKind) (n : Nat) (h : spDok b s.2 = true) : spDok b (spDn k n b s).2.2 = true := by
  unfold spDn
  split
  · exact spRd_ok n h
  · exact h
theorem spDn_i16 (b : List Int) (n : Nat) (s : DeS) : IntKind.i64.wrap (spDn .i16 n b s).1 = (spDn .i16 n b s).1 := by
  unfold spDn
  split
  · have h := inR_wrap .i16 (spRd b s.2 n).1
    simp only [inR, IntKind.min, IntKind.max, IntKind.signed, IntKind.bits] at h
    exact wrap_i64 (by simp at h; omega) (by simp at h; omega)
  · rfl
theorem spDn_i32 (b : List Int) (n : Nat) (s : DeS) : IntKind.i64.wrap (spDn .i32 n b s).1 = (spDn .i32 n b s).1 := by
  unfold spDn
  split
  · have h := inR_wrap .i32 (spRd b s.2 n).1
    simp only [inR, IntKind.min, IntKind.max, IntKind.signed, IntKind.bits] at h
    exact wrap_i64 (by simp at h; omega) (by simp at h; omega)
  · rfl
theorem spDTake_ok {b : List Int} {s : DeS} (n : Int) (h : spDok b s.2 = true) : spDok b (spDTake b n s).2.2 = true := by
  unfold spDTake
  split
  · split
    · exact h
    · exact spTakeB_ok n h
  · exact h
theorem spDLong_ok {b : List Int} {s : DeS} (n : Int) (h : spDok b s.2 = true) : spDok b (spDLong n s).2 = true := by
  unfold spDLong
  split <;> exact h
theorem spDText_ok {b : List Int} {s : DeS} (n : Int) (h : spDok b s.2 = true) : spDok b (spDText b n s).2.2 = true := by
  unfold spDText
  split
  · exact spDTake_ok n (spDLong_ok n h)
  · exact spDTake_ok n (spDLong_ok n h)
abbrev iodN16 : Io := ⟨[.ptr 0 0, .fnc 111 true [1]], oDec, [], [d16], none⟩
def FdN16 (d : iodN16.In) : Tr iodN16.Res := .ite (decOk d.2) (.ret (.ret ((IntKind.i16.wrap (spRd d.2.2.1.1 d.2.2.1.2.1 2).1, ()), decOut d.2.1.2.1 d.2.2.1.1 ((spRd d.2.2.1.1 d.2.2.1.2.1 2).2.2, (spRd d.2.2.1.1 d.2.2.1.2.1 2).2.1)))) .no
abbrev csdN16 : List (Nat × Hc) := [(111, ioHd iordI16 FrdI16)]
def hddN16 : Hd := hdT csdN16
def lpdN16 : Lp := lpT []
def bodydN16 (a0 : Int) (a1 : Int) (a2 : List Int) (a3 : Int) : Option iodN16.Res := bif spRok a2 a3 then some (Out.ret ((IntKind.i16.wrap (spRd a2 a3 2).fst, ()), ((), a0, (spRd a2 a3 2).snd.snd, ()), (a2, (spRd a2 a3 2).snd.fst, ()), ())) else none
theorem rundN16 (a0 : Int) (a1 : Int) (a2 : List Int) (a3 : Int) : Io.run tt hddN16 dr lpdN16 iodN16 Go.Proofs.Tryz.f110 (((), (), ()), ((), a0, a1, ()), (a2, a3, ()), ()) = bodydN16 a0 a1 a2 a3 := by kernel_rfl
theorem okdN16 : HcOk prog 110 (ioHd iodN16 FdN16) := by
  refine fn_sound (n := 400) hm (cs := csdN16) (.cons okrdI16 .nil) (lp := lpdN16) (fn := Go.Proofs.Tryz.f110) (by kernel_rfl) (by kernel_rfl) (by kernel_rfl) iodN16 (.done (by kernel_rfl)) FdN16 ?_
  rintro ⟨⟨⟨⟩, ⟨⟩, ⟨⟩⟩, ⟨⟨⟩, (v : Int), (e : Int), ⟨⟩⟩, ⟨(b : List Int), (p : Int), ⟨⟩⟩, ⟨⟩⟩ out hw ho
  obtain ⟨hg, ho⟩ := Tr.guard ho
  have hg : spDok b p = true := hg
  cases ho
  refine (rundN16 v e b p).trans ?_
  unfold bodydN16
  exact bif_true (spRok_of hg) _ _
abbrev iodN32 : Io := ⟨[.ptr 0 0, .fnc 113 true [1]], oDec, [], [dS32], none⟩
def FdN32 (d : iodN32.In) : Tr iodN32.Res := .ite (decOk d.2) (.ret (.ret ((IntKind.i32.wrap (spRd d.2.2.1.1 d.2.2.1.2.1 4).1, ()), decOut d.2.1.2.1 d.2.2.1.1 ((spRd d.2.2.1.1 d.2.2.1.2.1 4).2.2, (spRd d.2.2.1.1 d.2.2.1.2.1 4).2.1)))) .no
abbrev csdN32 : List (Nat × Hc) := [(113, ioHd iordI32 FrdI32)]
def hddN32 : Hd := hdT csdN32
def lpdN32 : Lp := lpT []
def bodydN32 (a0 : Int) (a1 : Int) (a2 : List Int) (a3 : Int) : Option iodN32.Res := bif spRok a2 a3 then some (Out.ret ((IntKind.i32.wrap (spRd a2 a3 4).fst, ()), ((), a0, (spRd a2 a3 4).snd.snd, ()), (a2, (spRd a2 a3 4).snd.fst, ()), ())) else none
theorem rundN32 (a0 : Int) (a1 : Int) (a2 : List Int) (a3 : Int) : Io.run tt hddN32 dr lpdN32 iodN32 Go.Proofs.Tryz.f112 (((), (), ()), ((), a0, a1, ()), (a2, a3, ()), ()) = bodydN32 a0 a1 a2 a3 := by kernel_rfl
theorem okdN32 : HcOk prog 112 (ioHd iodN32 FdN32) := by
  refine fn_sound (n := 400) hm (cs := csdN32) (.cons okrdI32 .nil) (lp := lpdN32) (fn := Go.Proofs.Tryz.f112) (by kernel_rfl) (by kernel_rfl) (by kernel_rfl) iodN32 (.done (by kernel_rfl)) FdN32 ?_
  rintro ⟨⟨⟨⟩, ⟨⟩, ⟨⟩⟩, ⟨⟨⟩, (v : Int), (e : Int), ⟨⟩⟩, ⟨(b : List Int), (p : Int), ⟨⟩⟩, ⟨⟩⟩ out hw ho
  obtain ⟨hg, ho⟩ := Tr.guard ho
  have hg : spDok b p = true := hg
  cases ho
  refine (rundN32 v e b p).trans ?_
  unfold bodydN32
  exact bif_true (spRok_of hg) _ _
abbrev iodN64 : Io := ⟨[.ptr 0 0, .fnc 116 true [1]], oDec, [], [d64s], none⟩
def FdN64 (d : iodN64.In) : Tr iodN64.Res := .ite (decOk d.2) (.ret (.ret ((IntKind.i64.wrap (spRd d.2.2.1.1 d.2.2.1.2.1 8).1, ()), decOut d.2.1.2.1 d.2.2.1.1 ((spRd d.2.2.1.1 d.2.2.1.2.1 8).2.2, (spRd d.2.2.1.1 d.2.2.1.2.1 8).2.1)))) .no
abbrev csdN64 : List (Nat × Hc) := [(116, ioHd iordI64 FrdI64)]
def hddN64 : Hd := hdT csdN64
def lpdN64 : Lp := lpT []
def bodydN64 (a0 : Int) (a1 : Int) (a2 : List Int) (a3 : Int) : Option iodN64.Res := bif spRok a2 a3 then some (Out.ret ((IntKind.i64.wrap (spRd a2 a3 8).fst, ()), ((), a0, (spRd a2 a3 8).snd.snd, ()), (a2, (spRd a2 a3 8).snd.fst, ()), ())) else none
theorem rundN64 (a0 : Int) (a1 : Int) (a2 : List Int) (a3 : Int) : Io.run tt hddN64 dr lpdN64 iodN64 Go.Proofs.Tryz.f115 (((), (), ()), ((), a0, a1, ()), (a2, a3, ()), ()) = bodydN64 a0 a1 a2 a3 := by kernel_rfl
theorem okdN64 : HcOk prog 115 (ioHd iodN64 FdN64) := by
  refine fn_sound (n := 400) hm (cs := csdN64) (.cons okrdI64 .nil) (lp := lpdN64) (fn := Go.Proofs.Tryz.f115) (by kernel_rfl) (by kernel_rfl) (by kernel_rfl) iodN64 (.done (by kernel_rfl)) FdN64 ?_
  rintro ⟨⟨⟨⟩, ⟨⟩, ⟨⟩⟩, ⟨⟨⟩, (v : Int), (e : Int), ⟨⟩⟩, ⟨(b : List Int), (p : Int), ⟨⟩⟩, ⟨⟩⟩ out hw ho
  obtain ⟨hg, ho⟩ := Tr.guard ho
  have hg : spDok b p = true := hg
  cases ho
  refine (rundN64 v e b p).trans ?_
  unfold bodydN64
  exact bif_true (spRok_of hg) _ _
abbrev iodTk : Io := ⟨[.ptr 0 0, .ptr 1 0], oDecT, [], [dO, dI], none⟩
def FdTk (d : iodTk.In) : Tr iodTk.Res := .ite (spDok d.2.2.2.2.1.1 d.2.2.2.2.1.2.1) (.ret (.ret (((spTakeB d.2.2.2.2.1.1 d.2.2.2.2.1.2.1 d.2.2.1.1).1, ((spTakeB d.2.2.2.2.1.1 d.2.2.2.2.1.2.1 d.2.2.1.1).2.2, ())), (((), ()), (d.2.2.1, (d.2.2.2.1, ((d.2.2.2.2.1.1, ((spTakeB d.2.2.2.2.1.1 d.2.2.2.2.1.2.1 d.2.2.1.1).2.1, ())), ()))))))) .no
abbrev csdTk : List (Nat × Hc) := [(139, ioHd iordTake FrdTake)]
def hddTk : Hd := hdT csdTk
def lpdTk : Lp := lpT []
def bodydTk (a0 : Int) (a1 : Int) (a2 : Int) (a3 : List Int) (a4 : Int) : Option iodTk.Res := bif spRok a3 a4 then some (Out.ret (((spTakeB a3 a4 a0).fst, (spTakeB a3 a4 a0).snd.snd, ()), ((), ()), (a0, ()), ((), a1, a2, ()), (a3, (spTakeB a3 a4 a0).snd.fst, ()), ())) else none
theorem rundTk (a0 : Int) (a1 : Int) (a2 : Int) (a3 : List Int) (a4 : Int) : Io.run tt hddTk dr lpdTk iodTk Go.Proofs.Tryz.f138 (((), (), ()), ((), ()), (a0, ()), ((), a1, a2, ()), (a3, a4, ()), ()) = bodydTk a0 a1 a2 a3 a4 := by kernel_rfl
theorem okdTk : HcOk prog 138 (ioHd iodTk FdTk) := by
  refine fn_sound (n := 400) hm (cs := csdTk) (.cons okrdTake .nil) (lp := lpdTk) (fn := Go.Proofs.Tryz.f138) (by kernel_rfl) (by kernel_rfl) (by kernel_rfl) iodTk (.done (by kernel_rfl)) FdTk ?_
  rintro ⟨⟨⟨⟩, ⟨⟩, ⟨⟩⟩, ⟨⟨⟩, ⟨⟩⟩, ⟨(n : Int), ⟨⟩⟩, ⟨⟨⟩, (v : Int), (e : Int), ⟨⟩⟩, ⟨(b : List Int), (p : Int), ⟨⟩⟩, ⟨⟩⟩ out hw ho
  obtain ⟨hg, ho⟩ := Tr.guard ho
  have hg : spDok b p = true := hg
  cases ho
  refine (rundTk n v e b p).trans ?_
  unfold bodydTk
  exact bif_true (spRok_of hg) _ _
abbrev iodNb : Io := ⟨[.ptr 0 0, .fnc 138 false [2, 3]], oDec2, [], [dO], none⟩
def FdNb (d : iodNb.In) : Tr iodNb.Res := .ite (spDok d.2.2.1.1 d.2.2.1.2.1) (.ret (.ret (((spTakeB d.2.2.1.1 d.2.2.1.2.1 d.2.2.2.2.1.1).1, ()), (((), (d.2.1.2.1, ((spTakeB d.2.2.1.1 d.2.2.1.2.1 d.2.2.2.2.1.1).2.2, ()))), ((d.2.2.1.1, ((spTakeB d.2.2.1.1 d.2.2.1.2.1 d.2.2.2.2.1.1).2.1, ())), (((), ()), (d.2.2.2.2.1, ()))))))) .no
abbrev csdNb : List (Nat × Hc) := [(138, ioHd iodTk FdTk)]
def hddNb : Hd := hdT csdNb
def lpdNb : Lp := lpT []
def bodydNb (a0 : Int) (a1 : Int) (a2 : List Int) (a3 : Int) (a4 : Int) : Option iodNb.Res := bif spDok a2 a3 then some (Out.ret (((spTakeB a2 a3 a4).fst, ()), ((), a0, (spTakeB a2 a3 a4).snd.snd, ()), (a2, (spTakeB a2 a3 a4).snd.fst, ()), ((), ()), (a4, ()), ())) else none
theorem rundNb (a0 : Int) (a1 : Int) (a2 : List Int) (a3 : Int) (a4 : Int) : Io.run tt hddNb dr lpdNb iodNb Go.Proofs.Tryz.f137 (((), (), ()), ((), a0, a1, ()), (a2, a3, ()), ((), ()), (a4, ()), ()) = bodydNb a0 a1 a2 a3 a4 := by kernel_rfl
theorem okdNb : HcOk prog 137 (ioHd iodNb FdNb) := by
  refine fn_sound (n := 400) hm (cs := csdNb) (.cons okdTk .nil) (lp := lpdNb) (fn := Go.Proofs.Tryz.f137) (by kernel_rfl) (by kernel_rfl) (by kernel_rfl) iodNb (.done (by kernel_rfl)) FdNb ?_
  rintro ⟨⟨⟨⟩, ⟨⟩, ⟨⟩⟩, ⟨⟨⟩, (v : Int), (e : Int), ⟨⟩⟩, ⟨(b : List Int), (p : Int), ⟨⟩⟩, ⟨⟨⟩, ⟨⟩⟩, ⟨(n : Int), ⟨⟩⟩, ⟨⟩⟩ out hw ho
  obtain ⟨hg, ho⟩ := Tr.guard ho
  have hg : spDok b p = true := hg
  cases ho
  refine (rundNb v e b p n).trans ?_
  unfold bodydNb
  exact bif_true hg _ _
abbrev iodI16 : Io := ⟨[.ptr 0 0], oDec, [], [d16], none⟩
def FdI16 (d : iodI16.In) : Tr iodI16.Res := .ite (decOk d.2) (.ret (.ret (((spDn .i16 2 d.2.2.1.1 (decSt d.2)).1, ()), decOut d.2.1.2.1 d.2.2.1.1 (spDn .i16 2 d.2.2.1.1 (decSt d.2)).2))) .no
abbrev csdI16 : List (Nat × Hc) := [(110, ioHd iodN16 FdN16)]
def hddI16 : Hd := hdT csdI16
def lpdI16 : Lp := lpT []
def bodydI16 (a0 : Int) (a1 : Int) (a2 : List Int) (a3 : Int) : Option iodI16.Res := bif a1 != 0 then some (Out.ret ((0, ()), ((), a0, a1, ()), (a2, a3, ()), ())) else bif spDok a2 a3 then some (Out.ret ((IntKind.i16.wrap (spRd a2 a3 2).fst, ()), ((), a0, (spRd a2 a3 2).snd.snd, ()), (a2, (spRd a2 a3 2).snd.fst, ()), ())) else none
theorem rundI16 (a0 : Int) (a1 : Int) (a2 : List Int) (a3 : Int) : Io.run tt hddI16 dr lpdI16 iodI16 Go.Proofs.Tryz.f63 (((), ()), ((), a0, a1, ()), (a2, a3, ()), ()) = bodydI16 a0 a1 a2 a3 := by kernel_rfl
theorem okdI16 : HcOk prog 63 (ioHd iodI16 FdI16) := by
  refine fn_sound (n := 400) hm (cs := csdI16) (.cons okdN16 .nil) (lp := lpdI16) (fn := Go.Proofs.Tryz.f63) (by kernel_rfl) (by kernel_rfl) (by kernel_rfl) iodI16 (.done (by kernel_rfl)) FdI16 ?_
  rintro ⟨⟨⟨⟩, ⟨⟩⟩, ⟨⟨⟩, (v : Int), (e : Int), ⟨⟩⟩, ⟨(b : List Int), (p : Int), ⟨⟩⟩, ⟨⟩⟩ out hw ho
  obtain ⟨hg, ho⟩ := Tr.guard ho
  have hg : spDok b p = true := hg
  cases ho
  refine (rundI16 v e b p).trans ?_
  unfold bodydI16
  show _ = some (Out.ret (((spDn .i16 2 b (e, p)).1, ()), decOut v b (spDn .i16 2 b (e, p)).2))
  unfold spDn
  by_cases h : e = 0
  · rw [if_pos h]
    refine (bif_false (by simpa using h) _ _).trans ?_
    exact bif_true hg _ _
  · rw [if_neg h]
    exact bif_true (by simpa using h) _ _
abbrev iodI32 : Io := ⟨[.ptr 0 0], oDec, [], [dS32], none⟩
def FdI32 (d : iodI32.In) : Tr iodI32.Res := .ite (decOk d.2) (.ret (.ret (((spDn .i32 4 d.2.2.1.1 (decSt d.2)).1, ()), decOut d.2.1.2.1 d.2.2.1.1 (spDn .i32 4 d.2.2.1.1 (decSt d.2)).2))) .no
abbrev csdI32 : List (Nat × Hc) := [(112, ioHd iodN32 FdN32)]
def hddI32 : Hd := hdT csdI32
def lpdI32 : Lp := lpT []
def bodydI32 (a0 : Int) (a1 : Int) (a2 : List Int) (a3 : Int) : Option iodI32.Res := bif a1 != 0 then some (Out.ret ((0, ()), ((), a0, a1, ()), (a2, a3, ()), ())) else bif spDok a2 a3 then some (Out.ret ((IntKind.i32.wrap (spRd a2 a3 4).fst, ()), ((), a0, (spRd a2 a3 4).snd.snd, ()), (a2, (spRd a2 a3 4).snd.fst, ()), ())) else none
theorem rundI32 (a0 : Int) (a1 : Int) (a2 : List Int) (a3 : Int) : Io.run tt hddI32 dr lpdI32 iodI32 Go.Proofs.Tryz.f64 (((), ()), ((), a0, a1, ()), (a2, a3, ()), ()) = bodydI32 a0 a1 a2 a3 := by kernel_rfl
theorem okdI32 : HcOk prog 64 (ioHd iodI32 FdI32) := by
  refine fn_sound (n := 400) hm (cs := csdI32) (.cons okdN32 .nil) (lp := lpdI32) (fn := Go.Proofs.Tryz.f64) (by kernel_rfl) (by kernel_rfl) (by kernel_rfl) iodI32 (.done (by kernel_rfl)) FdI32 ?_
  rintro ⟨⟨⟨⟩, ⟨⟩⟩, ⟨⟨⟩, (v : Int), (e : Int), ⟨⟩⟩, ⟨(b : List Int), (p : Int), ⟨⟩⟩, ⟨⟩⟩ out hw ho
  obtain ⟨hg, ho⟩ := Tr.guard ho
  have hg : spDok b p = true := hg
  cases ho
  refine (rundI32 v e b p).trans ?_
  unfold bodydI32
  show _ = some (Out.ret (((spDn .i32 4 b (e, p)).1, ()), decOut v b (spDn .i32 4 b (e, p)).2))
  unfold spDn
  by_cases h : e = 0
  · rw [if_pos h]
    refine (bif_false (by simpa using h) _ _).trans ?_
    exact bif_true hg _ _
  · rw [if_neg h]
    exact bif_true (by simpa using h) _ _
abbrev iodI64 : Io := ⟨[.ptr 0 0], oDec, [], [d64s], none⟩
def FdI64 (d : iodI64.In) : Tr iodI64.Res := .ite (decOk d.2) (.ret (.ret (((spDn .i64 8 d.2.2.1.1 (decSt d.2)).1, ()), decOut d.2.1.2.1 d.2.2.1.1 (spDn .i64 8 d.2.2.1.1 (decSt d.2)).2))) .no
abbrev csdI64 : List (Nat × Hc) := [(115, ioHd iodN64 FdN64)]
def hddI64 : Hd := hdT csdI64
def lpdI64 : Lp := lpT []
def bodydI64 (a0 : Int) (a1 : Int) (a2 : List Int) (a3 : Int) : Option iodI64.Res := bif a1 != 0 then some (Out.ret ((0, ()), ((), a0, a1, ()), (a2, a3, ()), ())) else bif spDok a2 a3 then some (Out.ret ((IntKind.i64.wrap (spRd a2 a3 8).fst, ()), ((), a0, (spRd a2 a3 8).snd.snd, ()), (a2, (spRd a2 a3 8).snd.fst, ()), ())) else none
theorem rundI64 (a0 : Int) (a1 : Int) (a2 : List Int) (a3 : Int) : Io.run tt hddI64 dr lpdI64 iodI64 Go.Proofs.Tryz.f76 (((), ()), ((), a0, a1, ()), (a2, a3, ()), ()) = bodydI64 a0 a1 a2 a3 := by kernel_rfl
theorem okdI64 : HcOk prog 76 (ioHd iodI64 FdI64) := by
  refine fn_sound (n := 400) hm (cs := csdI64) (.cons okdN64 .nil) (lp := lpdI64) (fn := Go.Proofs.Tryz.f76) (by kernel_rfl) (by kernel_rfl) (by kernel_rfl) iodI64 (.done (by kernel_rfl)) FdI64 ?_
  rintro ⟨⟨⟨⟩, ⟨⟩⟩, ⟨⟨⟩, (v : Int), (e : Int), ⟨⟩⟩, ⟨(b : List Int), (p : Int), ⟨⟩⟩, ⟨⟩⟩ out hw ho
  obtain ⟨hg, ho⟩ := Tr.guard ho
  have hg : spDok b p = true := hg
  cases ho
  refine (rundI64 v e b p).trans ?_
  unfold bodydI64
  show _ = some (Out.ret (((spDn .i64 8 b (e, p)).1, ()), decOut v b (spDn .i64 8 b (e, p)).2))
  unfold spDn
  by_cases h : e = 0
  · rw [if_pos h]
    refine (bif_false (by simpa using h) _ _).trans ?_
    exact bif_true hg _ _
  · rw [if_neg h]
    exact bif_true (by simpa using h) _ _
abbrev iodTake : Io := ⟨[.ptr 0 0, dI], oDec, [], [dO], none⟩
def FdTake (d : iodTake.In) : Tr iodTake.Res := .ite (decOk d.2) (.ret (.ret (((spDTake d.2.2.1.1 d.1.2.1 (decSt d.2)).1, ()), decOut d.2.1.2.1 d.2.2.1.1 (spDTake d.2.2.1.1 d.1.2.1 (decSt d.2)).2))) .no
abbrev csdTake : List (Nat × Hc) := [(137, ioHd iodNb FdNb)]
def hddTake : Hd := hdT csdTake
def lpdTake : Lp := lpT []
def bodydTake (a0 : Int) (a1 : Int) (a2 : Int) (a3 : List Int) (a4 : Int) : Option iodTake.Res := bif a2 == 0 then bif decide (a0 < 0) then some (Out.ret (([], ()), ((), a1, 5, ()), (a3, a4, ()), ())) else bif a2 != 0 then some (Out.ret (([], ()), ((), a1, a2, ()), (a3, a4, ()), ())) else bif spDok a3 a4 then some (Out.ret (((spTakeB a3 a4 a0).fst, ()), ((), a1, (spTakeB a3 a4 a0).snd.snd, ()), (a3, (spTakeB a3 a4 a0).snd.fst, ()), ())) else none else bif a2 != 0 then some (Out.ret (([], ()), ((), a1, a2, ()), (a3, a4, ()), ())) else bif spDok a3 a4 then some (Out.ret (((spTakeB a3 a4 a0).fst, ()), ((), a1, (spTakeB a3 a4 a0).snd.snd, ()), (a3, (spTakeB a3 a4 a0).snd.fst, ()), ())) else none
theorem rundTake (a0 : Int) (a1 : Int) (a2 : Int) (a3 : List Int) (a4 : Int) : Io.run tt hddTake dr lpdTake iodTake Go.Proofs.Tryz.f114 (((), a0, ()), ((), a1, a2, ()), (a3, a4, ()), ()) = bodydTake a0 a1 a2 a3 a4 := by kernel_rfl
theorem okdTake : HcOk prog 114 (ioHd iodTake FdTake) := by
  refine fn_sound (n := 400) hm (cs := csdTake) (.cons okdNb .nil) (lp := lpdTake) (fn := Go.Proofs.Tryz.f114) (by kernel_rfl) (by kernel_rfl) (by kernel_rfl) iodTake (.done (by kernel_rfl)) FdTake ?_
  rintro ⟨⟨⟨⟩, (n : Int), ⟨⟩⟩, ⟨⟨⟩, (v : Int), (e : Int), ⟨⟩⟩, ⟨(b : List Int), (p : Int), ⟨⟩⟩, ⟨⟩⟩ out hw ho
  obtain ⟨hg, ho⟩ := Tr.guard ho
  have hg : spDok b p = true := hg
  cases ho
  refine (rundTake n v e b p).trans ?_
  unfold bodydTake
  show _ = some (Out.ret (((spDTake b n (e, p)).1, ()), decOut v b (spDTake b n (e, p)).2))
  unfold spDTake
  by_cases h : e = 0
  · rw [if_pos h]
    refine (bif_true (by simpa using h) _ _).trans ?_
    by_cases h2 : n < 0
    · rw [if_pos h2]
      exact bif_true (by simpa using h2) _ _
    · rw [if_neg h2]
      refine (bif_false (by simpa using h2) _ _).trans ?_
      refine (bif_false (by simpa using h) _ _).trans ?_
      exact bif_true hg _ _
  · rw [if_neg h]
    refine (bif_false (by simpa using h) _ _).trans ?_
    exact bif_true (by simpa using h) _ _
abbrev iodI16Z : Io := ⟨[.ptr 0 0], oDecZ, [], [d16], none⟩
def FdI16Z (d : iodI16Z.In) : Tr iodI16Z.Res := .ite (decide (d.2.1.2.2.1 ≠ 0)) (.ret (.ret ((0, ()), d.2))) .no
abbrev csdI16Z : List (Nat × Hc) := []
def hddI16Z : Hd := hdT csdI16Z
def lpdI16Z : Lp := lpT []
def bodydI16Z (a0 : Int) (a1 : Int) : Option iodI16Z.Res := bif a1 != 0 then some (Out.ret ((0, ()), ((), a0, a1, ()), ())) else none
theorem rundI16Z (a0 : Int) (a1 : Int) : Io.run tt hddI16Z dr lpdI16Z iodI16Z Go.Proofs.Tryz.f63 (((), ()), ((), a0, a1, ()), ()) = bodydI16Z a0 a1 := by kernel_rfl
theorem okdI16Z : HcOk prog 63 (ioHd iodI16Z FdI16Z) := by
  refine fn_sound (n := 400) hm (cs := csdI16Z) HcsOk.nil (lp := lpdI16Z) (fn := Go.Proofs.Tryz.f63) (by kernel_rfl) (by kernel_rfl) (by kernel_rfl) iodI16Z (.done (by kernel_rfl)) FdI16Z ?_
  rintro ⟨⟨⟨⟩, ⟨⟩⟩, ⟨⟨⟩, (v : Int), (e : Int), ⟨⟩⟩, ⟨⟩⟩ out hw ho
  obtain ⟨hg, ho⟩ := Tr.guard ho
  have hg : e ≠ 0 := of_decide_eq_true hg
  cases ho
  refine (rundI16Z v e).trans ?_
  unfold bodydI16Z
  exact bif_true (by simpa using hg) _ _
abbrev iodI32Z : Io := ⟨[.ptr 0 0], oDecZ, [], [dS32], none⟩
def FdI32Z (d : iodI32Z.In) : Tr iodI32Z.Res := .ite (decide (d.2.1.2.2.1 ≠ 0)) (.ret (.ret ((0, ()), d.2))) .no
abbrev csdI32Z : List (Nat × Hc) := []
def hddI32Z : Hd := hdT csdI32Z
def lpdI32Z : Lp := lpT []
def bodydI32Z (a0 : Int) (a1 : Int) : Option iodI32Z.Res := bif a1 != 0 then some (Out.ret ((0, ()), ((), a0, a1, ()), ())) else none
theorem rundI32Z (a0 : Int) (a1 : Int) : Io.run tt hddI32Z dr lpdI32Z iodI32Z Go.Proofs.Tryz.f64 (((), ()), ((), a0, a1, ()), ()) = bodydI32Z a0 a1 := by kernel_rfl
theorem okdI32Z : HcOk prog 64 (ioHd iodI32Z FdI32Z) := by
  refine fn_sound (n := 400) hm (cs := csdI32Z) HcsOk.nil (lp := lpdI32Z) (fn := Go.Proofs.Tryz.f64) (by kernel_rfl) (by kernel_rfl) (by kernel_rfl) iodI32Z (.done (by kernel_rfl)) FdI32Z ?_
  rintro ⟨⟨⟨⟩, ⟨⟩⟩, ⟨⟨⟩, (v : Int), (e : Int), ⟨⟩⟩, ⟨⟩⟩ out hw ho
  obtain ⟨hg, ho⟩ := Tr.guard ho
  have hg : e ≠ 0 := of_decide_eq_true hg
  cases ho
  refine (rundI32Z v e).trans ?_
  unfold bodydI32Z
  exact bif_true (by simpa using hg) _ _
abbrev iodTakeZ : Io := ⟨[.ptr 0 0, dI], oDecZ, [], [dO], none⟩
def FdTakeZ (d : iodTakeZ.In) : Tr iodTakeZ.Res := .ite (decide (d.2.1.2.2.1 ≠ 0)) (.ret (.ret ((([] : List Int), ()), d.2))) .no
abbrev csdTakeZ : List (Nat × Hc) := []
def hddTakeZ : Hd := hdT csdTakeZ
def lpdTakeZ : Lp := lpT []
def bodydTakeZ (a0 : Int) (a1 : Int) (a2 : Int) : Option iodTakeZ.Res := bif a2 == 0 then bif decide (a0 < 0) then some (Out.ret (([], ()), ((), a1, 5, ()), ())) else bif a2 != 0 then some (Out.ret (([], ()), ((), a1, a2, ()), ())) else none else bif a2 != 0 then some (Out.ret (([], ()), ((), a1, a2, ()), ())) else none
theorem rundTakeZ (a0 : Int) (a1 : Int) (a2 : Int) : Io.run tt hddTakeZ dr lpdTakeZ iodTakeZ Go.Proofs.Tryz.f114 (((), a0, ()), ((), a1, a2, ()), ()) = bodydTakeZ a0 a1 a2 := by kernel_rfl
theorem okdTakeZ : HcOk prog 114 (ioHd iodTakeZ FdTakeZ) := by
  refine fn_sound (n := 400) hm (cs := csdTakeZ) HcsOk.nil (lp := lpdTakeZ) (fn := Go.Proofs.Tryz.f114) (by kernel_rfl) (by kernel_rfl) (by kernel_rfl) iodTakeZ (.done (by kernel_rfl)) FdTakeZ ?_
  rintro ⟨⟨⟨⟩, (n : Int), ⟨⟩⟩, ⟨⟨⟩, (v : Int), (e : Int), ⟨⟩⟩, ⟨⟩⟩ out hw ho
  obtain ⟨hg, ho⟩ := Tr.guard ho
  have hg : e ≠ 0 := of_decide_eq_true hg
  cases ho
  refine (rundTakeZ n v e).trans ?_
  unfold bodydTakeZ
  refine (bif_false (by simpa using hg) _ _).trans ?_
  exact bif_true (by simpa using hg) _ _
abbrev iodText : Io := ⟨[.ptr 0 0, dI], oDec, [], [.dat .str false false], none⟩
def FdText (d : iodText.In) : Tr iodText.Res := .ite (decOk d.2) (.ret (.ret (((spDText d.2.2.1.1 d.1.2.1 (decSt d.2)).1, ()), decOut d.2.1.2.1 d.2.2.1.1 (spDText d.2.2.1.1 d.1.2.1 (decSt d.2)).2))) .no
abbrev csdText : List (Nat × Hc) := [(114, orHd deadB (ioHd iodTakeZ FdTakeZ) (ioHd iodTake FdTake)), (104, ioHd iopUtf FpUtf)]
def hddText : Hd := hdT csdText
def lpdText : Lp := lpT []
def bodydText (a0 : Int) (a1 : Int) (a2 : Int) (a3 : List Int) (a4 : Int) : Option iodText.Res := bif decide (255 < a0) then bif spDok a3 a4 then some (Out.ret (([], ()), ((), a1, 4, ()), (a3, a4, ()), ())) else none else bif spDok a3 a4 then bif !(spUtf (spDTake a3 a0 (a2, a4)).fst).snd then some (Out.ret ((List.map (fun (c : UInt8) => (↑c.toNat : Int)) [], ()), ((), a1, 6, ()), (a3, (spDTake a3 a0 (a2, a4)).snd.snd, ()), ())) else some (Out.ret (((spDTake a3 a0 (a2, a4)).fst, ()), ((), a1, (spDTake a3 a0 (a2, a4)).snd.fst, ()), (a3, (spDTake a3 a0 (a2, a4)).snd.snd, ()), ())) else none
theorem rundText (a0 : Int) (a1 : Int) (a2 : Int) (a3 : List Int) (a4 : Int) : Io.run tt hddText dr lpdText iodText Go.Proofs.Tryz.f109 (((), a0, ()), ((), a1, a2, ()), (a3, a4, ()), ()) = bodydText a0 a1 a2 a3 a4 := by kernel_rfl
theorem okdText : HcOk prog 109 (ioHd iodText FdText) := by
  refine fn_sound (n := 400) hm (cs := csdText) (.cons (or_sound okdTakeZ okdTake) (.cons okpUtf .nil)) (lp := lpdText) (fn := Go.Proofs.Tryz.f109) (by kernel_rfl) (by kernel_rfl) (by kernel_rfl) iodText (.done (by kernel_rfl)) FdText ?_
  rintro ⟨⟨⟨⟩, (n : Int), ⟨⟩⟩, ⟨⟨⟩, (v : Int), (e : Int), ⟨⟩⟩, ⟨(b : List Int), (p : Int), ⟨⟩⟩, ⟨⟩⟩ out hw ho
  obtain ⟨hg, ho⟩ := Tr.guard ho
  have hg : spDok b p = true := hg
  cases ho
  refine (rundText n v e b p).trans ?_
  unfold bodydText
  show _ = some (Out.ret (((spDText b n (e, p)).1, ()), decOut v b (spDText b n (e, p)).2))
  unfold spDText spDLong
  by_cases h : 255 < n
  · rw [if_pos h]
    refine (bif_true (by simpa using h) _ _).trans ?_
    refine (bif_true hg _ _).trans ?_
    have e1 : spDTake b n (4, p) = ([], (4, p)) := rfl
    rw [e1, if_pos (by rfl)]
  · rw [if_neg h]
    refine (bif_false (by simpa using h) _ _).trans ?_
    refine (bif_true hg _ _).trans ?_
    cases hu : (spUtf (spDTake b n (e, p)).1).2
    · rw [if_neg (by simp)]
      rfl
    · rw [if_pos rfl]
      rfl
abbrev iodTextZ : Io := ⟨[.ptr 0 0, dI], oDecZ, [], [.dat .str false false], none⟩
def FdTextZ (d : iodTextZ.In) : Tr iodTextZ.Res := .ite (decide (d.2.1.2.2.1 ≠ 0) && decide (d.1.2.1 ≤ 255)) (.ret (.ret ((([] : List Int), ()), d.2))) .no
abbrev csdTextZ : List (Nat × Hc) := [(114, orHd deadB (ioHd iodTakeZ FdTakeZ) (ioHd iodTake FdTake)), (104, ioHd iopUtf FpUtf)]
def hddTextZ : Hd := hdT csdTextZ
def lpdTextZ : Lp := lpT []
def bodydTextZ (a0 : Int) (a1 : Int) (a2 : Int) : Option iodTextZ.Res := bif decide (255 < a0) then some (Out.ret (([], ()), ((), a1, 4, ()), ())) else bif decide (a2 ≠ 0) then some (Out.ret (([], ()), ((), a1, a2, ()), ())) else none
theorem rundTextZ (a0 : Int) (a1 : Int) (a2 : Int) : Io.run tt hddTextZ dr lpdTextZ iodTextZ Go.Proofs.Tryz.f109 (((), a0, ()), ((), a1, a2, ()), ()) = bodydTextZ a0 a1 a2 := by kernel_rfl
theorem okdTextZ : HcOk prog 109 (ioHd iodTextZ FdTextZ) := by
  refine fn_sound (n := 400) hm (cs := csdTextZ) (.cons (or_sound okdTakeZ okdTake) (.cons okpUtf .nil)) (lp := lpdTextZ) (fn := Go.Proofs.Tryz.f109) (by kernel_rfl) (by kernel_rfl) (by kernel_rfl) iodTextZ (.done (by kernel_rfl)) FdTextZ ?_
  rintro ⟨⟨⟨⟩, (n : Int), ⟨⟩⟩, ⟨⟨⟩, (v : Int), (e : Int), ⟨⟩⟩, ⟨⟩⟩ out hw ho
  obtain ⟨hg, ho⟩ := Tr.guard ho
  obtain ⟨hg, h2⟩ := Bool.and_eq_true_iff.1 hg
  have hg : e ≠ 0 := of_decide_eq_true hg
  have h2 : n ≤ 255 := of_decide_eq_true h2
  cases ho
  refine (rundTextZ n v e).trans ?_
  unfold bodydTextZ
  refine (bif_false (by simp; omega) _ _).trans ?_
  exact bif_true (by simpa using hg) _ _
def spDStr (b : List Int) (s : DeS) : List Int × DeS := spDText b (spDn .i16 2 b s).1 (spDn .i16 2 b s).2
abbrev iodStr : Io := ⟨[.ptr 0 0], oDec, [], [.dat .str false false], none⟩
def FdStr (d : iodStr.In) : Tr iodStr.Res := .ite (decOk d.2) (.ret (.ret (((spDStr d.2.2.1.1 (decSt d.2)).1, ()), decOut d.2.1.2.1 d.2.2.1.1 (spDStr d.2.2.1.1 (decSt d.2)).2))) .no
abbrev csdStr : List (Nat × Hc) := [(63, orHd deadB (ioHd iodI16Z FdI16Z) (ioHd iodI16 FdI16)), (109, orHd deadB (ioHd iodTextZ FdTextZ) (ioHd iodText FdText))]
def hddStr : Hd := hdT csdStr
def lpdStr : Lp := lpT []
def bodydStr (a0 : Int) (a1 : Int) (a2 : List Int) (a3 : Int) : Option iodStr.Res := bif spDok a2 a3 then bif spDok a2 (spDn IntKind.i16 2 a2 (a1, a3)).snd.snd then some (Out.ret (((spDText a2 (IntKind.i64.wrap (spDn IntKind.i16 2 a2 (a1, a3)).fst) (spDn IntKind.i16 2 a2 (a1, a3)).snd).fst, ()), ((), a0, (spDText a2 (IntKind.i64.wrap (spDn IntKind.i16 2 a2 (a1, a3)).fst) (spDn IntKind.i16 2 a2 (a1, a3)).snd).snd.fst, ()), (a2, (spDText a2 (IntKind.i64.wrap (spDn IntKind.i16 2 a2 (a1, a3)).fst) (spDn IntKind.i16 2 a2 (a1, a3)).snd).snd.snd, ()), ())) else none else none
theorem rundStr (a0 : Int) (a1 : Int) (a2 : List Int) (a3 : Int) : Io.run tt hddStr dr lpdStr iodStr Go.Proofs.Tryz.f67 (((), ()), ((), a0, a1, ()), (a2, a3, ()), ()) = bodydStr a0 a1 a2 a3 := by kernel_rfl
theorem okdStr : HcOk prog 67 (ioHd iodStr FdStr) := by
  refine fn_sound (n := 400) hm (cs := csdStr) (.cons (or_sound okdI16Z okdI16) (.cons (or_sound okdTextZ okdText) .nil)) (lp := lpdStr) (fn := Go.Proofs.Tryz.f67) (by kernel_rfl) (by kernel_rfl) (by kernel_rfl) iodStr (.done (by kernel_rfl)) FdStr ?_
  rintro ⟨⟨⟨⟩, ⟨⟩⟩, ⟨⟨⟩, (v : Int), (e : Int), ⟨⟩⟩, ⟨(b : List Int), (p : Int), ⟨⟩⟩, ⟨⟩⟩ out hw ho
  obtain ⟨hg, ho⟩ := Tr.guard ho
  have hg : spDok b p = true := hg
  cases ho
  refine (rundStr v e b p).trans ?_
  unfold bodydStr
  show _ = some (Out.ret (((spDStr b (e, p)).1, ()), decOut v b (spDStr b (e, p)).2))
  rw [spDn_i16]
  refine (bif_true hg _ _).trans ?_
  exact bif_true (spDn_ok .i16 2 (s := (e, p)) hg) _ _
def spDName (b : List Int) (s : DeS) : tNameT.den × DeS := if (spDn .i16 2 b s).1 = -1 then ((true, (([] : List Int), ())), (spDn .i16 2 b s).2) else ((false, ((spDStr b s).1, ())), (spDStr b s).2)
abbrev iodName : Io := ⟨[.ptr 0 0], oDec, [], [dNameT], none⟩
def FdName (d : iodName.In) : Tr iodName.Res := .ite (decOk d.2) (.ret (.ret (((spDName d.2.2.1.1 (decSt d.2)).1, ()), decOut d.2.1.2.1 d.2.2.1.1 (spDName d.2.2.1.1 (decSt d.2)).2))) .no
abbrev csdName : List (Nat × Hc) := [(63, orHd deadB (ioHd iodI16Z FdI16Z) (ioHd iodI16 FdI16)), (109, orHd deadB (ioHd iodTextZ FdTextZ) (ioHd iodText FdText))]
def hddName : Hd := hdT csdName
def lpdName : Lp := lpT []
def bodydName (a0 : Int) (a1 : Int) (a2 : List Int) (a3 : Int) : Option iodName.Res := bif spDok a2 a3 then bif (spDn IntKind.i16 2 a2 (a1, a3)).fst == -1 then some (Out.ret (((true, List.map (fun (c : UInt8) => (↑c.toNat : Int)) [], ()), ()), ((), a0, (spDn IntKind.i16 2 a2 (a1, a3)).snd.fst, ()), (a2, (spDn IntKind.i16 2 a2 (a1, a3)).snd.snd, ()), ())) else bif spDok a2 (spDn IntKind.i16 2 a2 (a1, a3)).snd.snd then some (Out.ret (((false, (spDText a2 (IntKind.i64.wrap (spDn IntKind.i16 2 a2 (a1, a3)).fst) (spDn IntKind.i16 2 a2 (a1, a3)).snd).fst, ()), ()), ((), a0, (spDText a2 (IntKind.i64.wrap (spDn IntKind.i16 2 a2 (a1, a3)).fst) (spDn IntKind.i16 2 a2 (a1, a3)).snd).snd.fst, ()), (a2, (spDText a2 (IntKind.i64.wrap (spDn IntKind.i16 2 a2 (a1, a3)).fst) (spDn IntKind.i16 2 a2 (a1, a3)).snd).snd.snd, ()), ())) else none else none
theorem rundName (a0 : Int) (a1 : Int) (a2 : List Int) (a3 : Int) : Io.run tt hddName dr lpdName iodName Go.Proofs.Tryz.f62 (((), ()), ((), a0, a1, ()), (a2, a3, ()), ()) = bodydName a0 a1 a2 a3 := by kernel_rfl
theorem okdName : HcOk prog 62 (ioHd iodName FdName) := by
  refine fn_sound (n := 400) hm (cs := csdName) (.cons (or_sound okdI16Z okdI16) (.cons (or_sound okdTextZ okdText) .nil)) (lp := lpdName) (fn := Go.Proofs.Tryz.f62) (by kernel_rfl) (by kernel_rfl) (by kernel_rfl) iodName (.done (by kernel_rfl)) FdName ?_
  rintro ⟨⟨⟨⟩, ⟨⟩⟩, ⟨⟨⟩, (v : Int), (e : Int), ⟨⟩⟩, ⟨(b : List Int), (p : Int), ⟨⟩⟩, ⟨⟩⟩ out hw ho
  obtain ⟨hg, ho⟩ := Tr.guard ho
  have hg : spDok b p = true := hg
  cases ho
  refine (rundName v e b p).trans ?_
  unfold bodydName
  show _ = some (Out.ret (((spDName b (e, p)).1, ()), decOut v b (spDName b (e, p)).2))
  rw [spDn_i16]
  refine (bif_true hg _ _).trans ?_
  unfold spDName spDStr
  by_cases h : (spDn .i16 2 b (e, p)).1 = -1
  · rw [if_pos h]
    exact bif_true (by simpa using h) _ _
  · rw [if_neg h]
    refine (bif_false (by simpa using h) _ _).trans ?_
    exact bif_true (spDn_ok .i16 2 (s := (e, p)) hg) _ _
def spDBlob (b : List Int) (s : DeS) : tBlobT.den × DeS := if (spDn .i32 4 b s).1 = -1 then ((true, (([] : List Int), ())), (spDn .i32 4 b s).2) else ((false, ((spDTake b (spDn .i32 4 b s).1 (spDn .i32 4 b s).2).1, ())), (spDTake b (spDn .i32 4 b s).1 (spDn .i32 4 b s).2).2)
abbrev iodBlob : Io := ⟨[.ptr 0 0], oDec, [], [dBlobT], none⟩
def FdBlob (d : iodBlob.In) : Tr iodBlob.Res := .ite (decOk d.2) (.ret (.ret (((spDBlob d.2.2.1.1 (decSt d.2)).1, ()), decOut d.2.1.2.1 d.2.2.1.1 (spDBlob d.2.2.1.1 (decSt d.2)).2))) .no
abbrev csdBlob : List (Nat × Hc) := [(64, orHd deadB (ioHd iodI32Z FdI32Z) (ioHd iodI32 FdI32)), (114, orHd deadB (ioHd iodTakeZ FdTakeZ) (ioHd iodTake FdTake))]
def hddBlob : Hd := hdT csdBlob
def lpdBlob : Lp := lpT []
def bodydBlob (a0 : Int) (a1 : Int) (a2 : List Int) (a3 : Int) : Option iodBlob.Res := bif spDok a2 a3 then bif (spDn IntKind.i32 4 a2 (a1, a3)).fst == -1 then some (Out.ret (((true, [], ()), ()), ((), a0, (spDn IntKind.i32 4 a2 (a1, a3)).snd.fst, ()), (a2, (spDn IntKind.i32 4 a2 (a1, a3)).snd.snd, ()), ())) else bif spDok a2 (spDn IntKind.i32 4 a2 (a1, a3)).snd.snd then some (Out.ret (((false, (spDTake a2 (IntKind.i64.wrap (spDn IntKind.i32 4 a2 (a1, a3)).fst) (spDn IntKind.i32 4 a2 (a1, a3)).snd).fst, ()), ()), ((), a0, (spDTake a2 (IntKind.i64.wrap (spDn IntKind.i32 4 a2 (a1, a3)).fst) (spDn IntKind.i32 4 a2 (a1, a3)).snd).snd.fst, ()), (a2, (spDTake a2 (IntKind.i64.wrap (spDn IntKind.i32 4 a2 (a1, a3)).fst) (spDn IntKind.i32 4 a2 (a1, a3)).snd).snd.snd, ()), ())) else none else none
theorem rundBlob (a0 : Int) (a1 : Int) (a2 : List Int) (a3 : Int) : Io.run tt hddBlob dr lpdBlob iodBlob Go.Proofs.Tryz.f70 (((), ()), ((), a0, a1, ()), (a2, a3, ()), ()) = bodydBlob a0 a1 a2 a3 := by kernel_rfl
theorem okdBlob : HcOk prog 70 (ioHd iodBlob FdBlob) := by
  refine fn_sound (n := 400) hm (cs := csdBlob) (.cons (or_sound okdI32Z okdI32) (.cons (or_sound okdTakeZ okdTake) .nil)) (lp := lpdBlob) (fn := Go.Proofs.Tryz.f70) (by kernel_rfl) (by kernel_rfl) (by kernel_rfl) iodBlob (.done (by kernel_rfl)) FdBlob ?_
  rintro ⟨⟨⟨⟩, ⟨⟩⟩, ⟨⟨⟩, (v : Int), (e : Int), ⟨⟩⟩, ⟨(b : List Int), (p : Int), ⟨⟩⟩, ⟨⟩⟩ out hw ho
  obtain ⟨hg, ho⟩ := Tr.guard ho
  have hg : spDok b p = true := hg
  cases ho
  refine (rundBlob v e b p).trans ?_
  unfold bodydBlob
  show _ = some (Out.ret (((spDBlob b (e, p)).1, ()), decOut v b (spDBlob b (e, p)).2))
  rw [spDn_i32]
  refine (bif_true hg _ _).trans ?_
  unfold spDBlob
  by_cases h : (spDn .i32 4 b (e, p)).1 = -1
  · rw [if_pos h]
    exact bif_true (by simpa using h) _ _
  · rw [if_neg h]
    refine (bif_false (by simpa using h) _ _).trans ?_
    exact bif_true (spDn_ok .i32 4 (s := (e, p)) hg) _ _
def spDHas (v lo hi e : Int) : Bool := if e = 0 ∧ lo ≤ v ∧ v ≤ hi then true else false
abbrev iodHas : Io := ⟨[.ptr 0 0, dI, dI], oDec, [], [dB], none⟩
def FdHas (d : iodHas.In) : Tr iodHas.Res := .ret (.ret ((spDHas d.2.1.2.1 d.1.2.1 d.1.2.2.1 d.2.1.2.2.1, ()), d.2))
abbrev csdHas : List (Nat × Hc) := []
def hddHas : Hd := hdT csdHas
def lpdHas : Lp := lpT []
def bodydHas (a0 : Int) (a1 : Int) (a2 : Int) (a3 : Int) (a4 : List Int) (a5 : Int) : Option iodHas.Res := bif a3 == 0 then bif decide (a0 ≤ a2) then some (Out.ret ((decide (a2 ≤ a1), ()), ((), a2, a3, ()), (a4, a5, ()), ())) else some (Out.ret ((false, ()), ((), a2, a3, ()), (a4, a5, ()), ())) else some (Out.ret ((false, ()), ((), a2, a3, ()), (a4, a5, ()), ()))
theorem rundHas (a0 : Int) (a1 : Int) (a2 : Int) (a3 : Int) (a4 : List Int) (a5 : Int) : Io.run tt hddHas dr lpdHas iodHas Go.Proofs.Tryz.f61 (((), a0, a1, ()), ((), a2, a3, ()), (a4, a5, ()), ()) = bodydHas a0 a1 a2 a3 a4 a5 := by kernel_rfl
theorem okdHas : HcOk prog 61 (ioHd iodHas FdHas) := by
  refine fn_sound (n := 400) hm (cs := csdHas) HcsOk.nil (lp := lpdHas) (fn := Go.Proofs.Tryz.f61) (by kernel_rfl) (by kernel_rfl) (by kernel_rfl) iodHas (.done (by kernel_rfl)) FdHas ?_
  rintro ⟨⟨⟨⟩, (lo : Int), (hi : Int), ⟨⟩⟩, ⟨⟨⟩, (v : Int), (e : Int), ⟨⟩⟩, ⟨(b : List Int), (p : Int), ⟨⟩⟩, ⟨⟩⟩ out hw ho
  cases ho
  refine (rundHas lo hi v e b p).trans ?_
  unfold bodydHas
  show _ = some (Out.ret ((spDHas v lo hi e, ()), decOut v b (e, p)))
  have hs : spDHas v lo hi e = ((e == 0) && (decide (lo ≤ v) && decide (v ≤ hi))) := by
    unfold spDHas
    by_cases h : e = 0 ∧ lo ≤ v ∧ v ≤ hi
    · rw [if_pos h]; simp [h]
    · rw [if_neg h]
      rw [eq_comm, Bool.eq_false_iff]
      intro h'
      simp only [Bool.and_eq_true, beq_iff_eq, decide_eq_true_eq] at h'
      exact h h'
  rw [hs]
  cases e == 0
  · rfl
  · cases decide (lo ≤ v) <;> rfl
abbrev iodHasZ : Io := ⟨[.ptr 0 0, dI, dI], oDecZ, [], [dB], none⟩
def FdHasZ (d : iodHasZ.In) : Tr iodHasZ.Res := .ite (decide (d.2.1.2.2.1 ≠ 0)) (.ret (.ret ((false, ()), d.2))) .no
abbrev csdHasZ : List (Nat × Hc) := []
def hddHasZ : Hd := hdT csdHasZ
def lpdHasZ : Lp := lpT []
def bodydHasZ (a0 : Int) (a1 : Int) (a2 : Int) (a3 : Int) : Option iodHasZ.Res := bif a3 == 0 then bif decide (a0 ≤ a2) then some (Out.ret ((decide (a2 ≤ a1), ()), ((), a2, a3, ()), ())) else some (Out.ret ((false, ()), ((), a2, a3, ()), ())) else some (Out.ret ((false, ()), ((), a2, a3, ()), ()))
theorem rundHasZ (a0 : Int) (a1 : Int) (a2 : Int) (a3 : Int) : Io.run tt hddHasZ dr lpdHasZ iodHasZ Go.Proofs.Tryz.f61 (((), a0, a1, ()), ((), a2, a3, ()), ()) = bodydHasZ a0 a1 a2 a3 := by kernel_rfl
theorem okdHasZ : HcOk prog 61 (ioHd iodHasZ FdHasZ) := by
  refine fn_sound (n := 400) hm (cs := csdHasZ) HcsOk.nil (lp := lpdHasZ) (fn := Go.Proofs.Tryz.f61) (by kernel_rfl) (by kernel_rfl) (by kernel_rfl) iodHasZ (.done (by kernel_rfl)) FdHasZ ?_
  rintro ⟨⟨⟨⟩, (lo : Int), (hi : Int), ⟨⟩⟩, ⟨⟨⟩, (v : Int), (e : Int), ⟨⟩⟩, ⟨⟩⟩ out hw ho
  obtain ⟨hg, ho⟩ := Tr.guard ho
  have hg : e ≠ 0 := of_decide_eq_true hg
  cases ho
  refine (rundHasZ lo hi v e).trans ?_
  unfold bodydHasZ
  exact bif_false (by simpa using hg) _ _
def spDEnd (b : List Int) (s : DeS) : Int := if s.1 = 0 then spEnd b s.2 else s.1
abbrev iodEnd : Io := ⟨[.ptr 0 0], oDec, [], [dI], none⟩
def FdEnd (d : iodEnd.In) : Tr iodEnd.Res := .ret (.ret ((spDEnd d.2.2.1.1 (decSt d.2), ()), (((), (d.2.1.2.1, (spDEnd d.2.2.1.1 (decSt d.2), ()))), d.2.2)))
abbrev csdEnd : List (Nat × Hc) := [(83, ioHd iordEnd FrdEnd)]
def hddEnd : Hd := hdT csdEnd
def lpdEnd : Lp := lpT []
def bodydEnd (a0 : Int) (a1 : Int) (a2 : List Int) (a3 : Int) : Option iodEnd.Res := bif a1 == 0 then some (Out.ret ((spEnd a2 a3, ()), ((), a0, spEnd a2 a3, ()), (a2, a3, ()), ())) else some (Out.ret ((a1, ()), ((), a0, a1, ()), (a2, a3, ()), ()))
theorem rundEnd (a0 : Int) (a1 : Int) (a2 : List Int) (a3 : Int) : Io.run tt hddEnd dr lpdEnd iodEnd Go.Proofs.Tryz.f71 (((), ()), ((), a0, a1, ()), (a2, a3, ()), ()) = bodydEnd a0 a1 a2 a3 := by kernel_rfl
theorem okdEnd : HcOk prog 71 (ioHd iodEnd FdEnd) := by
  refine fn_sound (n := 400) hm (cs := csdEnd) (.cons okrdEnd .nil) (lp := lpdEnd) (fn := Go.Proofs.Tryz.f71) (by kernel_rfl) (by kernel_rfl) (by kernel_rfl) iodEnd (.done (by kernel_rfl)) FdEnd ?_
  rintro ⟨⟨⟨⟩, ⟨⟩⟩, ⟨⟨⟩, (v : Int), (e : Int), ⟨⟩⟩, ⟨(b : List Int), (p : Int), ⟨⟩⟩, ⟨⟩⟩ out hw ho
  cases ho
  refine (rundEnd v e b p).trans ?_
  unfold bodydEnd
  show _ = some (Out.ret ((spDEnd b (e, p), ()), decOut v b (spDEnd b (e, p), p)))
  unfold spDEnd
  by_cases h : e = 0
  · rw [if_pos h]
    exact bif_true (by simpa using h) _ _
  · rw [if_neg h]
    exact bif_false (by simpa using h) _ _
abbrev iodEndZ : Io := ⟨[.ptr 0 0], oDecZ, [], [dI], none⟩
def FdEndZ (d : iodEndZ.In) : Tr iodEndZ.Res := .ite (decide (d.2.1.2.2.1 ≠ 0)) (.ret (.ret ((d.2.1.2.2.1, ()), d.2))) .no
abbrev csdEndZ : List (Nat × Hc) := [(83, ioHd iordEnd FrdEnd)]
def hddEndZ : Hd := hdT csdEndZ
def lpdEndZ : Lp := lpT []
def bodydEndZ (a0 : Int) (a1 : Int) : Option iodEndZ.Res := bif a1 == 0 then none else some (Out.ret ((a1, ()), ((), a0, a1, ()), ()))
theorem rundEndZ (a0 : Int) (a1 : Int) : Io.run tt hddEndZ dr lpdEndZ iodEndZ Go.Proofs.Tryz.f71 (((), ()), ((), a0, a1, ()), ()) = bodydEndZ a0 a1 := by kernel_rfl
theorem okdEndZ : HcOk prog 71 (ioHd iodEndZ FdEndZ) := by
  refine fn_sound (n := 400) hm (cs := csdEndZ) (.cons okrdEnd .nil) (lp := lpdEndZ) (fn := Go.Proofs.Tryz.f71) (by kernel_rfl) (by kernel_rfl) (by kernel_rfl) iodEndZ (.done (by kernel_rfl)) FdEndZ ?_
  rintro ⟨⟨⟨⟩, ⟨⟩⟩, ⟨⟨⟩, (v : Int), (e : Int), ⟨⟩⟩, ⟨⟩⟩ out hw ho
  obtain ⟨hg, ho⟩ := Tr.guard ho
  have hg : e ≠ 0 := of_decide_eq_true hg
  cases ho
  refine (rundEndZ v e).trans ?_
  unfold bodydEndZ
  exact bif_false (by simpa using hg) _ _
abbrev iodNew : Io := ⟨[dI, dL], [], oDec, [.ptr 0 0], none⟩
def FdNew (d : iodNew.In) : Tr iodNew.Res := .ite (decide (0 ≤ d.1.1) && (decide (d.1.1 ≤ 3) && decide ((d.1.2.1.length : Int) ≤ 130048))) (.ret (.ret (((), ()), decOut d.1.1 d.1.2.1 (0, 0)))) .no
abbrev csdNew : List (Nat × Hc) := [(81, ioHd iordNew FrdNew)]
def hddNew : Hd := hdT csdNew
def lpdNew : Lp := lpT []
def bodydNew (a0 : Int) (a1 : List Int) : Option iodNew.Res := bif decide (a0 < 0) then none else bif decide (3 < a0) then none else bif decide (130048 < (↑a1.length : Int)) then none else bif decide (a1.length ≤ 4294967296) then some (Out.ret (((), ()), ((), a0, 0, ()), (a1, 0, ()), ())) else none
theorem rundNew (a0 : Int) (a1 : List Int) : Io.run tt hddNew dr lpdNew iodNew Go.Proofs.Tryz.f60 ((a0, a1, ()), ()) = bodydNew a0 a1 := by kernel_rfl
theorem okdNew : HcOk prog 60 (ioHd iodNew FdNew) := by
  refine fn_sound (n := 400) hm (cs := csdNew) (.cons okrdNew .nil) (lp := lpdNew) (fn := Go.Proofs.Tryz.f60) (by kernel_rfl) (by kernel_rfl) (by kernel_rfl) iodNew (.done (by kernel_rfl)) FdNew ?_
  rintro ⟨⟨(v : Int), (b : List Int), ⟨⟩⟩, ⟨⟩⟩ out hw ho
  obtain ⟨hg, ho⟩ := Tr.guard ho
  simp only [Bool.and_eq_true, decide_eq_true_eq] at hg
  obtain ⟨h1, h2, h3⟩ := hg
  have h1 : (0 : Int) ≤ v := h1
  have h2 : v ≤ (3 : Int) := h2
  have h3 : (b.length : Int) ≤ 130048 := h3
  cases ho
  refine (rundNew v b).trans ?_
  unfold bodydNew
  refine (bif_false (by simp; omega) _ _).trans ?_
  refine (bif_false (by simp; omega) _ _).trans ?_
  refine (bif_false (by simp; omega) _ _).trans ?_
  exact bif_true (by simp; omega) _ _
def spNewD (v : Int) : Int := if v < 0 ∨ 3 < v then 8 else 4
abbrev iodNewZ : Io := ⟨[dI, dL], [], oDecZ, [.ptr 0 0], none⟩
def FdNewZ (d : iodNewZ.In) : Tr iodNewZ.Res := .ite (decide (0 ≤ d.1.1) && (decide (d.1.1 ≤ 3) && decide ((d.1.2.1.length : Int) ≤ 130048))) .no (.ret (.ret (((), ()), (((), (d.1.1, (spNewD d.1.1, ()))), ()))))
abbrev csdNewZ : List (Nat × Hc) := [(81, ioHd iordNew FrdNew)]
def hddNewZ : Hd := hdT csdNewZ
def lpdNewZ : Lp := lpT []
def bodydNewZ (a0 : Int) (a1 : List Int) : Option iodNewZ.Res := bif decide (a0 < 0) then some (Out.ret (((), ()), ((), a0, 8, ()), ())) else bif decide (3 < a0) then some (Out.ret (((), ()), ((), a0, 8, ()), ())) else bif decide (130048 < (↑a1.length : Int)) then some (Out.ret (((), ()), ((), a0, 4, ()), ())) else bif decide (a1.length ≤ 4294967296) then none else none
theorem rundNewZ (a0 : Int) (a1 : List Int) : Io.run tt hddNewZ dr lpdNewZ iodNewZ Go.Proofs.Tryz.f60 ((a0, a1, ()), ()) = bodydNewZ a0 a1 := by kernel_rfl
theorem okdNewZ : HcOk prog 60 (ioHd iodNewZ FdNewZ) := by
  refine fn_sound (n := 400) hm (cs := csdNewZ) (.cons okrdNew .nil) (lp := lpdNewZ) (fn := Go.Proofs.Tryz.f60) (by kernel_rfl) (by kernel_rfl) (by kernel_rfl) iodNewZ (.done (by kernel_rfl)) FdNewZ ?_
  rintro ⟨⟨(v : Int), (b : List Int), ⟨⟩⟩, ⟨⟩⟩ out hw ho
  have hg : (decide (0 ≤ v) && (decide (v ≤ 3) && decide ((b.length : Int) ≤ 130048))) = false := by
    cases hc : (decide (0 ≤ v) && (decide (v ≤ 3) && decide ((b.length : Int) ≤ 130048)))
    · rfl
    · have e1 : FdNewZ ((v, (b, ())), ()) = .ite true .no (.ret (.ret (((), ()), (((), (v, (spNewD v, ()))), ())))) := congrArg (fun c => Tr.ite c _ _) hc
      rw [e1] at ho
      cases ho
  have e1 : FdNewZ ((v, (b, ())), ()) = .ite false .no (.ret (.ret (((), ()), (((), (v, (spNewD v, ()))), ())))) := congrArg (fun c => Tr.ite c _ _) hg
  rw [e1] at ho
  cases ho
  refine (rundNewZ v b).trans ?_
  unfold bodydNewZ spNewD
  simp only [Bool.and_eq_false_iff, decide_eq_false_iff_not] at hg
  by_cases h1 : v < 0
  · rw [if_pos (.inl h1)]
    exact bif_true (by simpa using h1) _ _
  · refine (bif_false (by simpa using h1) _ _).trans ?_
    by_cases h2 : 3 < v
    · rw [if_pos (.inr h2)]
      exact bif_true (by simpa using h2) _ _
    · rw [if_neg (by omega)]
      refine (bif_false (by simpa using h2) _ _).trans ?_
      exact bif_true (by simp; omega) _ _
end
end Go.Proofs.YtmlgepgcofmpeaaGreat.Sym
namespace Go.Proofs.YtmlgepgcofmpeaaGreat.Sym
open Go
set_option linter.unusedSimpArgs false
set_option linter.unusedVariables false
noncomputable section
abbrev oEnc1 : List (List Sh) := [[.ptr 1 0], [.ptr 2 0, dI, dI, dB], [dO, dI]]
abbrev oEncC : List (List Sh) := [[.ptr 1 0, dI, dI, dB], [dO, dI], [.ptr 0 0]]
abbrev encOut1 (v : Int) (s : EnS) : DenO oEnc1 := (((), ()), encOut v s)
abbrev encOutC (v : Int) (s : EnS) : DenO oEncC := (((), (v, (s.1, (s.2.1, ())))), ((s.2.2, (130048, ())), (((), ()), ())))
abbrev encStC (d : DenO oEncC) : EnS := (d.1.2.2.1, (d.1.2.2.2.1, d.2.1.1))
abbrev encOkC (d : DenO oEncC) : Bool := decide (d.2.1.2.1 = 130048) && decide (d.2.1.1.length ≤ 130048)
def spItems {α : Type} (one : α → EnS → EnS) (xs : List α) (s : EnS) : EnS := if 16 < (xs.length : Int) then spFail 9 s else xs.foldl (fun s x => one x s) (spPutE xs.length 4 s)
abbrev tPart : Ty := .prod (.int .i32) (.prod tBlobT .unit)
def spPartE (p : tPart.den) (s : EnS) : EnS := spBlobE p.2.1 (spPutE p.1 4 s)
def partOk (p : tPart.den) : Bool := decide (p.2.1.2.1.length ≤ 2147483647)
abbrev encOutB (v : Int) (s : EnS) : (Int × (Int × (Bool × Unit))) × ((List Int × (Int × Unit)) × (Unit × Unit)) := ((v, (s.1, (s.2.1, ()))), ((s.2.2, (130048, ())), ((), ())))
theorem spRawE_le {s : EnS} (p : List Int) (h : s.2.2.length ≤ 130048) : (spRawE p s).2.2.length ≤ 130048 := by
  unfold spRawE
  split
  · exact h
  · simp only [List.length_append]; omega
theorem spFail_le {s : EnS} (e : Int) (h : s.2.2.length ≤ 130048) : (spFail e s).2.2.length ≤ 130048 := by
  unfold spFail; split <;> exact h
theorem spBlobE_le {s : EnS} (n : Bool × (List Int × Unit)) (h : s.2.2.length ≤ 130048) : (spBlobE n s).2.2.length ≤ 130048 := by
  unfold spBlobE
  split
  · exact spFail_le _ h
  · split
    · exact spPutE_le _ _ h
    · exact spRawE_le _ (spPutE_le _ _ h)
theorem spStrE_le {s : EnS} (t : List Int) (h : s.2.2.length ≤ 130048) : (spStrE t s).2.2.length ≤ 130048 := by
  unfold spStrE
  split
  · exact spFail_le _ h
  · split
    · exact spFail_le _ h
    · exact spRawE_le _ (spPutE_le _ _ h)
theorem spPartE_le {s : EnS} (p : tPart.den) (h : s.2.2.length ≤ 130048) : (spPartE p s).2.2.length ≤ 130048 := spBlobE_le _ (spPutE_le _ _ h)
theorem foldl_le {α : Type} {one : α → EnS → EnS} (h1 : ∀ x s, s.2.2.length ≤ 130048 → (one x s).2.2.length ≤ 130048) : ∀ (xs : List α) (s : EnS), s.2.2.length ≤ 130048 → (xs.foldl (fun s x => one x s) s).2.2.length ≤ 130048
  | [], _, h => h
  | x :: xs, s, h => foldl_le h1 xs (one x s) (h1 x s h)
theorem spItems_le {α : Type} {one : α → EnS → EnS} (h1 : ∀ x s, s.2.2.length ≤ 130048 → (one x s).2.2.length ≤ 130048) (xs : List α) {s : EnS} (h : s.2.2.length ≤ 130048) : (spItems one xs s).2.2.length ≤ 130048 := by
  unfold spItems
  split
  · exact spFail_le _ h
  · exact foldl_le h1 xs _ (spPutE_le _ _ h)
def spPartsOk (xs : List tPart.den) : Bool := xs.all partOk
abbrev ioqPart : Io := ⟨[.dat tPart true false, .ptr 0 0], oEnc1, [], [], none⟩
def FqPart (d : ioqPart.In) : Tr ioqPart.Res := .ite (encOk d.2.2 && partOk d.1.1) (.ret (.ret ((), encOut1 d.2.2.1.2.1 (spPartE d.1.1 (encSt d.2.2))))) .no
abbrev csqPart : List (Nat × Hc) := [(41, ioHd ioeI32 FeI32), (47, ioHd ioeBlob FeBlob)]
def hdqPart : Hd := hdT csqPart
def lpqPart : Lp := lpT []
def bodyqPart (a0 : Int) (a1 : Bool) (a2 : List Int) (a3 : Int) (a4 : Int) (a5 : Bool) (a6 : List Int) (a7 : Int) : Option ioqPart.Res := bif decide (a7 = 130048) && decide (a6.length ≤ 130048) then bif decide (130048 = 130048) && decide ((spPutE a0 4 (a4, a5, a6)).snd.snd.length ≤ 130048) && decide (a2.length ≤ 2147483647) then some (Out.ret ((), ((), ()), ((), a3, (spBlobE (a1, a2, ()) (spPutE a0 4 (a4, a5, a6))).fst, (spBlobE (a1, a2, ()) (spPutE a0 4 (a4, a5, a6))).snd.fst, ()), ((spBlobE (a1, a2, ()) (spPutE a0 4 (a4, a5, a6))).snd.snd, 130048, ()), ())) else none else none
theorem runqPart (a0 : Int) (a1 : Bool) (a2 : List Int) (a3 : Int) (a4 : Int) (a5 : Bool) (a6 : List Int) (a7 : Int) : Io.run tt hdqPart dr lpqPart ioqPart Go.Proofs.Tryz.f46 (((a0, (a1, a2, ()), ()), (), ()), ((), ()), ((), a3, a4, a5, ()), (a6, a7, ()), ()) = bodyqPart a0 a1 a2 a3 a4 a5 a6 a7 := by kernel_rfl
theorem okqPart : HcOk prog 46 (ioHd ioqPart FqPart) := by
  refine fn_sound (n := 400) hm (cs := csqPart) (.cons okeI32 (.cons okeBlob .nil)) (lp := lpqPart) (fn := Go.Proofs.Tryz.f46) (by kernel_rfl) (by kernel_rfl) (by kernel_rfl) ioqPart (.done (by kernel_rfl)) FqPart ?_
  rintro ⟨⟨⟨(x : Int), ⟨(z : Bool), (t : List Int), ⟨⟩⟩, ⟨⟩⟩, ⟨⟩, ⟨⟩⟩, ⟨⟨⟩, ⟨⟩⟩, ⟨⟨⟩, (v : Int), (e : Int), (f : Bool), ⟨⟩⟩, ⟨(b : List Int), (m : Int), ⟨⟩⟩, ⟨⟩⟩ out hw ho
  obtain ⟨hg, ho⟩ := Tr.guard ho
  obtain ⟨hg, h5⟩ := Bool.and_eq_true_iff.1 hg
  obtain ⟨rfl, hb⟩ := encOk_iff (v := v) (e := e) (f := f) hg
  have h5 : decide (t.length ≤ 2147483647) = true := h5
  cases ho
  refine (runqPart x z t v e f b 130048).trans ?_
  unfold bodyqPart
  refine (bif_true (by simpa using hb) _ _).trans ?_
  refine (bif_true (by rw [h5]; simpa using spPutE_le (s := (e, f, b)) x 4 hb) _ _).trans ?_
  rfl
abbrev ioqParts : Io := ⟨[.ptr 0 0, .dat (.sl 92 tPart) false false, .fnc 46 false [2]], oEncC, [], [], none⟩
def FqParts (d : ioqParts.In) : Tr ioqParts.Res := .ite (encOkC d.2 && spPartsOk d.1.2.1) (.ret (.ret ((), encOutC d.2.1.2.1 (spItems spPartE d.1.2.1 (encStC d.2))))) .no
abbrev csqParts : List (Nat × Hc) := [(100, ioHd ioeFail FeFail), (41, ioHd ioeI32 FeI32), (46, ioHd ioqPart FqPart)]
def hdqParts : Hd := hdT csqParts
abbrev loqParts_5 : Lo := ⟨⟨[.any, .any, .one (.fnp 46 false [2]), .any, .any, .any, .any, .any, .any, .any, .any, .any, .any, .any, .any, .any, .any, .any, .one (.hol (.sl 92 ((Ty.int IntKind.i32).prod ((Ty.bool.prod ((Ty.sl 5 (Ty.int IntKind.u8)).prod Ty.unit)).prod Ty.unit)))), .one (.hol (.int IntKind.i64)), .one (.hol (.int IntKind.i64)), .any, .any, .any, .any, .any, .any, .any], [some [.ptr 1 0, .hol (.int IntKind.i64), .hol (.int IntKind.i64), .hol .bool], some [.onl 5 (Ty.int IntKind.u8) 514, .hol (.int IntKind.i64)], some [.ptr 0 0]]⟩, [(.exit 0, ⟨[.any, .any, .any, .any, .any, .any, .any, .any, .any, .any, .any, .any, .any, .any, .any, .any, .any, .any, .any, .any, .any, .any, .any, .any, .any, .any, .any, .any], [some [.ptr 1 0, .hol (.int IntKind.i64), .hol (.int IntKind.i64), .hol .bool], some [.onl 5 (Ty.int IntKind.u8) 514, .hol (.int IntKind.i64)], some [.ptr 0 0]]⟩)]⟩
-- FqParts_5 : loqParts_5.st.den → Tr (DenX loqParts_5.xs) | ((h6, (h7, (h8, ()))), ((h9, (h10, (h11, ()))), ((h12, (h13, ())), ((), ()))))
def FqParts_5 (d : loqParts_5.st.den) : Tr (DenX loqParts_5.xs) :=
  .ite (decide (d.1.2.2.1 = 0) && (decide (d.1.2.1 = (d.1.1.length : Int)) && (decide (d.2.2.1.2.1 = 130048) && (decide (d.2.2.1.1.length ≤ 130048) && spPartsOk d.1.1)))) (.ret (.ret ((), ((), encOutB d.2.1.1 (d.1.1.foldl (fun s x => spPartE x s) (d.2.1.2.1, (d.2.1.2.2.1, d.2.2.1.1))))))) .no
def lpqParts : Lp := lpT [(5, loHd loqParts_5 FqParts_5)]
def stepqParts_5 {R : Type} (h6 : List tPart.den) (h7 : Int) (h8 : Int) (h9 : Int) (h10 : Int) (h11 : Bool) (h12 : List Int) (h13 : Int) (next : List tPart.den → Int → Int → Int → Int → Bool → List Int → Int → Option R) (out : DenX loqParts_5.xs → Option R) : Option R := bif decide (h8 < h7) then bif decide (0 ≤ h8) && decide (h8 < (↑h6.length : Int)) then bif decide (h13 = 130048) && decide (h12.length ≤ 130048) && decide (List.length (h6.getD h8.toNat (0, (false, [], ()), ())).snd.fst.snd.fst ≤ 2147483647) then next (h6) (h7) (IntKind.i64.wrap (h8 + 1)) (h9) ((spPartE ((h6.getD h8.toNat (0, (false, [], ()), ())).fst, ((h6.getD h8.toNat (0, (false, [], ()), ())).snd.fst.fst, (h6.getD h8.toNat (0, (false, [], ()), ())).snd.fst.snd.fst, ()), ()) (h10, h11, h12)).fst) ((spPartE ((h6.getD h8.toNat (0, (false, [], ()), ())).fst, ((h6.getD h8.toNat (0, (false, [], ()), ())).snd.fst.fst, (h6.getD h8.toNat (0, (false, [], ()), ())).snd.fst.snd.fst, ()), ()) (h10, h11, h12)).snd.fst) ((spPartE ((h6.getD h8.toNat (0, (false, [], ()), ())).fst, ((h6.getD h8.toNat (0, (false, [], ()), ())).snd.fst.fst, (h6.getD h8.toNat (0, (false, [], ()), ())).snd.fst.snd.fst, ()), ()) (h10, h11, h12)).snd.snd) (130048) else none else none else out (.ret ((), ((), ((h9, (h10, (h11, ()))), ((h12, (h13, ())), ((), ()))))))
def itqParts_5 (n : Nat) (h6 : List tPart.den) (h7 : Int) (h8 : Int) (h9 : Int) (h10 : Int) (h11 : Bool) (h12 : List Int) (h13 : Int) : Option (DenX loqParts_5.xs) := lpN tt hdqParts dr lpqParts 3 Go.Proofs.Tryz.f45 (topL Go.Proofs.Tryz.f45 0) n (loqParts_5.st.mk' ((h6, (h7, (h8, ()))), ((h9, (h10, (h11, ()))), ((h12, (h13, ())), ((), ()))))) (decX loqParts_5.xs)
theorem slqParts_5 (n : Nat) (h6 : List tPart.den) (h7 : Int) (h8 : Int) (h9 : Int) (h10 : Int) (h11 : Bool) (h12 : List Int) (h13 : Int) : itqParts_5 (n + 1) h6 h7 h8 h9 h10 h11 h12 h13 = stepqParts_5 h6 h7 h8 h9 h10 h11 h12 h13 (itqParts_5 n) some := by kernel_rfl
theorem loopqParts {xs : List tPart.den} (v : Int) (hl : xs.length ≤ maxLen) (hok : ∀ x ∈ xs, partOk x = true) : ∀ (k i : Nat) (s : EnS), xs.length < i + k → i ≤ xs.length → s.2.2.length ≤ 130048 →
    itqParts_5 k xs (xs.length : Int) i v s.1 s.2.1 s.2.2 130048 = some (.ret ((), ((), encOutB v ((xs.drop i).foldl (fun s x => spPartE x s) s)))) := by
  intro k
  induction k with
  | zero => intro i s h; omega
  | succ k ih =>
    intro i s h1 h2 h3
    rw [slqParts_5]
    unfold stepqParts_5
    by_cases hi : i < xs.length
    · refine (bif_true (decide_eq_true (show (i : Int) < (xs.length : Int) by omega)) _ _).trans ?_
      refine (bif_true (by simpa using hi) _ _).trans ?_
      simp only [Int.toNat_natCast, getD_lt hi, wrap_succ hi hl]
      have g : (decide ((130048 : Int) = 130048) && decide (s.2.2.length ≤ 130048) && partOk xs[i]) = true := by
        rw [hok _ (List.getElem_mem hi)]; simpa using h3
      refine (bif_true g _ _).trans ?_
      rw [List.drop_eq_getElem_cons hi]
      exact ih (i + 1) (spPartE xs[i] s) (by omega) (by omega) (spPartE_le _ h3)
    · refine (bif_false (by simp; omega) _ _).trans ?_
      rw [List.drop_of_length_le (by omega)]
      rfl
def bodyqParts (a0 : List tPart.den) (a1 : Int) (a2 : Int) (a3 : Bool) (a4 : List Int) (a5 : Int) : Option ioqParts.Res := bif decide (16 < (↑a0.length : Int)) then bif decide (a5 = 130048) && decide (a4.length ≤ 130048) then some (Out.ret ((), ((), a1, (spFail 9 (a2, a3, a4)).fst, (spFail 9 (a2, a3, a4)).snd.fst, ()), ((spFail 9 (a2, a3, a4)).snd.snd, 130048, ()), ((), ()), ())) else none else bif decide (a5 = 130048) && decide (a4.length ≤ 130048) then (FqParts_5 ((a0, ((↑a0.length : Int), (0, ()))), ((a1, ((spPutE (IntKind.i32.wrap (↑a0.length : Int)) 4 (a2, a3, a4)).fst, ((spPutE (IntKind.i32.wrap (↑a0.length : Int)) 4 (a2, a3, a4)).snd.fst, ()))), (((spPutE (IntKind.i32.wrap (↑a0.length : Int)) 4 (a2, a3, a4)).snd.snd, (130048, ())), ((), ()))))).run fun y => match y with | .ret ((), ((), (x27, x28, x29, ()), (x30, x31, ()), (), ())) => (some (Out.ret ((), ((), x27, x28, x29, ()), (x30, x31, ()), ((), ()), ()))) else none
theorem runqParts (a0 : List tPart.den) (a1 : Int) (a2 : Int) (a3 : Bool) (a4 : List Int) (a5 : Int) : Io.run tt hdqParts dr lpqParts ioqParts Go.Proofs.Tryz.f45 (((), a0, (), ()), ((), a1, a2, a3, ()), (a4, a5, ()), ((), ()), ()) = bodyqParts a0 a1 a2 a3 a4 a5 := by kernel_rfl
theorem okqParts : HcOk prog 45 (ioHd ioqParts FqParts) := by
  refine fn_sound (n := 400) hm (cs := csqParts) (.cons okeFail (.cons okeI32 (.cons okqPart .nil))) (lp := lpqParts) (fn := Go.Proofs.Tryz.f45) (by kernel_rfl) (by kernel_rfl) (by kernel_rfl) ioqParts (.step (h0 := loHd loqParts_5 FqParts_5) (by kernel_rfl) (loop_sound (n := 400) hm (cs := csqParts) (.cons okeFail (.cons okeI32 (.cons okqPart .nil))) (lp := lpqParts) (fn := Go.Proofs.Tryz.f45) (.done (by kernel_rfl)) loqParts_5 FqParts_5 ?_) (.done (by kernel_rfl))) FqParts ?_
  · rintro ⟨⟨(xs : List tPart.den), (n : Int), (i : Int), ⟨⟩⟩, ⟨⟨(v : Int), (e : Int), (f : Bool), ⟨⟩⟩, ⟨(b : List Int), (m : Int), ⟨⟩⟩, ⟨⟨⟩, ⟨⟩⟩⟩⟩ y hw hy
    obtain ⟨hg, hy⟩ := Tr.guard hy
    simp only [Bool.and_eq_true, decide_eq_true_eq] at hg
    obtain ⟨rfl, rfl, rfl, h4, h5⟩ := hg
    have h4 : b.length ≤ 130048 := h4
    have h5 : ∀ x ∈ xs, partOk x = true := List.all_eq_true.1 h5
    have hl : xs.length ≤ maxLen := hw.1.1.1
    refine ⟨xs.length + 1, (loopqParts v hl h5 (xs.length + 1) 0 (e, (f, b)) (by omega) (by omega) h4).trans ?_⟩
    rw [← hy]; rfl
  · rintro ⟨⟨⟨⟩, (xs : List tPart.den), ⟨⟩, ⟨⟩⟩, ⟨⟨⟩, (v : Int), (e : Int), (f : Bool), ⟨⟩⟩, ⟨(b : List Int), (m : Int), ⟨⟩⟩, ⟨⟨⟩, ⟨⟩⟩, ⟨⟩⟩ out hw ho
    obtain ⟨hg, ho⟩ := Tr.guard ho
    obtain ⟨hg, h5⟩ := Bool.and_eq_true_iff.1 hg
    obtain ⟨rfl, hb⟩ := encOk_iff (v := v) (e := e) (f := f) hg
    have h5 : spPartsOk xs = true := h5
    cases ho
    refine (runqParts xs v e f b 130048).trans ?_
    unfold bodyqParts
    have g : (decide ((130048 : Int) = 130048) && decide (b.length ≤ 130048)) = true := by simpa using hb
    show _ = some (Out.ret ((), encOutC v (spItems spPartE xs (e, f, b))))
    unfold spItems
    by_cases h : 16 < (xs.length : Int)
    · rw [if_pos h]
      refine (bif_true (decide_eq_true h) _ _).trans ?_
      exact bif_true g _ _
    · rw [if_neg h]
      refine (bif_false (decide_eq_false h) _ _).trans ?_
      refine (bif_true g _ _).trans ?_
      have hw32 : IntKind.i32.wrap (xs.length : Int) = xs.length := wrap_id (by simp [inR, IntKind.min, IntKind.max, IntKind.signed, IntKind.bits]; omega)
      rw [hw32]
      have c1 : (decide ((0 : Int) = 0) && (decide ((xs.length : Int) = (xs.length : Int)) && (decide ((130048 : Int) = 130048) && (decide ((spPutE xs.length 4 (e, f, b)).2.2.length ≤ 130048) && spPartsOk xs)))) = true := by
        rw [h5]; simpa using spPutE_le (s := (e, f, b)) _ 4 hb
      have e1 : FqParts_5 ((xs, ((xs.length : Int), (0, ()))), ((v, ((spPutE xs.length 4 (e, f, b)).1, ((spPutE xs.length 4 (e, f, b)).2.1, ()))), (((spPutE xs.length 4 (e, f, b)).2.2, (130048, ())), ((), ())))) =
          .ite true (.ret (.ret ((), ((), encOutB v (xs.foldl (fun s x => spPartE x s) (spPutE xs.length 4 (e, f, b))))))) .no := congrArg (fun c => Tr.ite c _ _) c1
      rw [e1]
      rfl
abbrev tTopic : Ty := .prod .str (.prod (.sl 92 tPart) .unit)
def spTopicE (t : tTopic.den) (s : EnS) : EnS := spItems spPartE t.2.1 (spStrE t.1 s)
def topicOk (t : tTopic.den) : Bool := spPartsOk t.2.1
def spTopicsOk (xs : List tTopic.den) : Bool := xs.all topicOk
abbrev ioqTopic : Io := ⟨[.dat tTopic true false, .ptr 0 0], oEnc1, [], [], none⟩
def FqTopic (d : ioqTopic.In) : Tr ioqTopic.Res := .ite (encOk d.2.2 && topicOk d.1.1) (.ret (.ret ((), encOut1 d.2.2.1.2.1 (spTopicE d.1.1 (encSt d.2.2))))) .no
abbrev csqTopic : List (Nat × Hc) := [(44, ioHd ioeStr FeStr), (45, ioHd ioqParts FqParts)]
def hdqTopic : Hd := hdT csqTopic
def lpqTopic : Lp := lpT []
def bodyqTopic (a0 : List Int) (a1 : List tPart.den) (a2 : Int) (a3 : Int) (a4 : Bool) (a5 : List Int) (a6 : Int) : Option ioqTopic.Res := bif decide (a6 = 130048) && decide (a5.length ≤ 130048) then bif decide (130048 = 130048) && decide ((spStrE a0 (a3, a4, a5)).snd.snd.length ≤ 130048) && spPartsOk a1 then some (Out.ret ((), ((), ()), ((), a2, (spItems spPartE a1 (spStrE a0 (a3, a4, a5))).fst, (spItems spPartE a1 (spStrE a0 (a3, a4, a5))).snd.fst, ()), ((spItems spPartE a1 (spStrE a0 (a3, a4, a5))).snd.snd, 130048, ()), ())) else none else none
theorem runqTopic (a0 : List Int) (a1 : List tPart.den) (a2 : Int) (a3 : Int) (a4 : Bool) (a5 : List Int) (a6 : Int) : Io.run tt hdqTopic dr lpqTopic ioqTopic Go.Proofs.Tryz.f43 (((a0, a1, ()), (), ()), ((), ()), ((), a2, a3, a4, ()), (a5, a6, ()), ()) = bodyqTopic a0 a1 a2 a3 a4 a5 a6 := by kernel_rfl
theorem okqTopic : HcOk prog 43 (ioHd ioqTopic FqTopic) := by
  refine fn_sound (n := 400) hm (cs := csqTopic) (.cons okeStr (.cons okqParts .nil)) (lp := lpqTopic) (fn := Go.Proofs.Tryz.f43) (by kernel_rfl) (by kernel_rfl) (by kernel_rfl) ioqTopic (.done (by kernel_rfl)) FqTopic ?_
  rintro ⟨⟨⟨(t : List Int), (ps : List tPart.den), ⟨⟩⟩, ⟨⟩, ⟨⟩⟩, ⟨⟨⟩, ⟨⟩⟩, ⟨⟨⟩, (v : Int), (e : Int), (f : Bool), ⟨⟩⟩, ⟨(b : List Int), (m : Int), ⟨⟩⟩, ⟨⟩⟩ out hw ho
  obtain ⟨hg, ho⟩ := Tr.guard ho
  obtain ⟨hg, h5⟩ := Bool.and_eq_true_iff.1 hg
  obtain ⟨rfl, hb⟩ := encOk_iff (v := v) (e := e) (f := f) hg
  have h5 : spPartsOk ps = true := h5
  cases ho
  refine (runqTopic t ps v e f b 130048).trans ?_
  unfold bodyqTopic
  refine (bif_true (by simpa using hb) _ _).trans ?_
  refine (bif_true (by rw [h5]; simpa using spStrE_le (s := (e, f, b)) t hb) _ _).trans ?_
  rfl
theorem spTopicE_le {s : EnS} (t : tTopic.den) (h : s.2.2.length ≤ 130048) : (spTopicE t s).2.2.length ≤ 130048 := spItems_le (fun x s => spPartE_le x) _ (spStrE_le _ h)
theorem spLacks_le {s : EnS} (v : Int) (z : Bool) (lo hi : Int) (h : s.2.2.length ≤ 130048) : (spLacks v z lo hi s).2.2.length ≤ 130048 := by
  unfold spLacks
  split
  · exact spFail_le _ h
  · exact h
theorem spNameE_le {s : EnS} (n : Bool × (List Int × Unit)) (h : s.2.2.length ≤ 130048) : (spNameE n s).2.2.length ≤ 130048 := by
  unfold spNameE
  split
  · exact spFail_le _ h
  · split
    · exact spPutE_le _ _ h
    · exact spStrE_le _ h
abbrev ioqTopics : Io := ⟨[.ptr 0 0, .dat (.sl 86 tTopic) false false, .fnc 43 false [2]], oEncC, [], [], none⟩
def FqTopics (d : ioqTopics.In) : Tr ioqTopics.Res := .ite (encOkC d.2 && spTopicsOk d.1.2.1) (.ret (.ret ((), encOutC d.2.1.2.1 (spItems spTopicE d.1.2.1 (encStC d.2))))) .no
abbrev csqTopics : List (Nat × Hc) := [(100, ioHd ioeFail FeFail), (41, ioHd ioeI32 FeI32), (43, ioHd ioqTopic FqTopic)]
def hdqTopics : Hd := hdT csqTopics
abbrev loqTopics_5 : Lo := ⟨⟨[.any, .any, .one (.fnp 43 false [2]), .any, .any, .any, .any, .any, .any, .any, .any, .any, .any, .any, .any, .any, .any, .any, .one (.hol (.sl 86 (Ty.str.prod ((Ty.sl 92 ((Ty.int IntKind.i32).prod ((Ty.bool.prod ((Ty.sl 5 (Ty.int IntKind.u8)).prod Ty.unit)).prod Ty.unit))).prod Ty.unit)))), .one (.hol (.int IntKind.i64)), .one (.hol (.int IntKind.i64)), .any, .any, .any, .any, .any, .any, .any], [some [.ptr 1 0, .hol (.int IntKind.i64), .hol (.int IntKind.i64), .hol .bool], some [.onl 5 (Ty.int IntKind.u8) 514, .hol (.int IntKind.i64)], some [.ptr 0 0]]⟩, [(.exit 0, ⟨[.any, .any, .any, .any, .any, .any, .any, .any, .any, .any, .any, .any, .any, .any, .any, .any, .any, .any, .any, .any, .any, .any, .any, .any, .any, .any, .any, .any], [some [.ptr 1 0, .hol (.int IntKind.i64), .hol (.int IntKind.i64), .hol .bool], some [.onl 5 (Ty.int IntKind.u8) 514, .hol (.int IntKind.i64)], some [.ptr 0 0]]⟩)]⟩
-- FqTopics_5 : loqTopics_5.st.den → Tr (DenX loqTopics_5.xs) | ((h6, (h7, (h8, ()))), ((h9, (h10, (h11, ()))), ((h12, (h13, ())), ((), ()))))
def FqTopics_5 (d : loqTopics_5.st.den) : Tr (DenX loqTopics_5.xs) :=
  .ite (decide (d.1.2.2.1 = 0) && (decide (d.1.2.1 = (d.1.1.length : Int)) && (decide (d.2.2.1.2.1 = 130048) && (decide (d.2.2.1.1.length ≤ 130048) && spTopicsOk d.1.1)))) (.ret (.ret ((), ((), encOutB d.2.1.1 (d.1.1.foldl (fun s x => spTopicE x s) (d.2.1.2.1, (d.2.1.2.2.1, d.2.2.1.1))))))) .no
def lpqTopics : Lp := lpT [(5, loHd loqTopics_5 FqTopics_5)]
def stepqTopics_5 {R : Type} (h6 : List tTopic.den) (h7 : Int) (h8 : Int) (h9 : Int) (h10 : Int) (h11 : Bool) (h12 : List Int) (h13 : Int) (next : List tTopic.den → Int → Int → Int → Int → Bool → List Int → Int → Option R) (out : DenX loqTopics_5.xs → Option R) : Option R := bif decide (h8 < h7) then bif decide (0 ≤ h8) && decide (h8 < (↑h6.length : Int)) then bif decide (h13 = 130048) && decide (h12.length ≤ 130048) && spPartsOk (h6.getD h8.toNat ([], [], ())).snd.fst then next (h6) (h7) (IntKind.i64.wrap (h8 + 1)) (h9) ((spTopicE ((h6.getD h8.toNat ([], [], ())).fst, (h6.getD h8.toNat ([], [], ())).snd.fst, ()) (h10, h11, h12)).fst) ((spTopicE ((h6.getD h8.toNat ([], [], ())).fst, (h6.getD h8.toNat ([], [], ())).snd.fst, ()) (h10, h11, h12)).snd.fst) ((spTopicE ((h6.getD h8.toNat ([], [], ())).fst, (h6.getD h8.toNat ([], [], ())).snd.fst, ()) (h10, h11, h12)).snd.snd) (130048) else none else none else out (.ret ((), ((), ((h9, (h10, (h11, ()))), ((h12, (h13, ())), ((), ()))))))
def itqTopics_5 (n : Nat) (h6 : List tTopic.den) (h7 : Int) (h8 : Int) (h9 : Int) (h10 : Int) (h11 : Bool) (h12 : List Int) (h13 : Int) : Option (DenX loqTopics_5.xs) := lpN tt hdqTopics dr lpqTopics 3 Go.Proofs.Tryz.f42 (topL Go.Proofs.Tryz.f42 0) n (loqTopics_5.st.mk' ((h6, (h7, (h8, ()))), ((h9, (h10, (h11, ()))), ((h12, (h13, ())), ((), ()))))) (decX loqTopics_5.xs)
theorem slqTopics_5 (n : Nat) (h6 : List tTopic.den) (h7 : Int) (h8 : Int) (h9 : Int) (h10 : Int) (h11 : Bool) (h12 : List Int) (h13 : Int) : itqTopics_5 (n + 1) h6 h7 h8 h9 h10 h11 h12 h13 = stepqTopics_5 h6 h7 h8 h9 h10 h11 h12 h13 (itqTopics_5 n) some := by kernel_rfl
theorem loopqTopics {xs : List tTopic.den} (v : Int) (hl : xs.length ≤ maxLen) (hok : ∀ x ∈ xs, topicOk x = true) : ∀ (k i : Nat) (s : EnS), xs.length < i + k → i ≤ xs.length → s.2.2.length ≤ 130048 →
    itqTopics_5 k xs (xs.length : Int) i v s.1 s.2.1 s.2.2 130048 = some (.ret ((), ((), encOutB v ((xs.drop i).foldl (fun s x => spTopicE x s) s)))) := by
  intro k
  induction k with
  | zero => intro i s h; omega
  | succ k ih =>
    intro i s h1 h2 h3
    rw [slqTopics_5]
    unfold stepqTopics_5
    by_cases hi : i < xs.length
    · refine (bif_true (decide_eq_true (show (i : Int) < (xs.length : Int) by omega)) _ _).trans ?_
      refine (bif_true (by simpa using hi) _ _).trans ?_
      simp only [Int.toNat_natCast, getD_lt hi, wrap_succ hi hl]
      have g : (decide ((130048 : Int) = 130048) && decide (s.2.2.length ≤ 130048) && topicOk xs[i]) = true := by
        rw [hok _ (List.getElem_mem hi)]; simpa using h3
      refine (bif_true g _ _).trans ?_
      rw [List.drop_eq_getElem_cons hi]
      exact ih (i + 1) (spTopicE xs[i] s) (by omega) (by omega) (spTopicE_le _ h3)
    · refine (bif_false (by simp; omega) _ _).trans ?_
      rw [List.drop_of_length_le (by omega)]
      rfl
def bodyqTopics (a0 : List tTopic.den) (a1 : Int) (a2 : Int) (a3 : Bool) (a4 : List Int) (a5 : Int) : Option ioqTopics.Res := bif decide (16 < (↑a0.length : Int)) then bif decide (a5 = 130048) && decide (a4.length ≤ 130048) then some (Out.ret ((), ((), a1, (spFail 9 (a2, a3, a4)).fst, (spFail 9 (a2, a3, a4)).snd.fst, ()), ((spFail 9 (a2, a3, a4)).snd.snd, 130048, ()), ((), ()), ())) else none else bif decide (a5 = 130048) && decide (a4.length ≤ 130048) then (FqTopics_5 ((a0, ((↑a0.length : Int), (0, ()))), ((a1, ((spPutE (IntKind.i32.wrap (↑a0.length : Int)) 4 (a2, a3, a4)).fst, ((spPutE (IntKind.i32.wrap (↑a0.length : Int)) 4 (a2, a3, a4)).snd.fst, ()))), (((spPutE (IntKind.i32.wrap (↑a0.length : Int)) 4 (a2, a3, a4)).snd.snd, (130048, ())), ((), ()))))).run fun y => match y with | .ret ((), ((), (x27, x28, x29, ()), (x30, x31, ()), (), ())) => (some (Out.ret ((), ((), x27, x28, x29, ()), (x30, x31, ()), ((), ()), ()))) else none
theorem runqTopics (a0 : List tTopic.den) (a1 : Int) (a2 : Int) (a3 : Bool) (a4 : List Int) (a5 : Int) : Io.run tt hdqTopics dr lpqTopics ioqTopics Go.Proofs.Tryz.f42 (((), a0, (), ()), ((), a1, a2, a3, ()), (a4, a5, ()), ((), ()), ()) = bodyqTopics a0 a1 a2 a3 a4 a5 := by kernel_rfl
theorem okqTopics : HcOk prog 42 (ioHd ioqTopics FqTopics) := by
  refine fn_sound (n := 400) hm (cs := csqTopics) (.cons okeFail (.cons okeI32 (.cons okqTopic .nil))) (lp := lpqTopics) (fn := Go.Proofs.Tryz.f42) (by kernel_rfl) (by kernel_rfl) (by kernel_rfl) ioqTopics (.step (h0 := loHd loqTopics_5 FqTopics_5) (by kernel_rfl) (loop_sound (n := 400) hm (cs := csqTopics) (.cons okeFail (.cons okeI32 (.cons okqTopic .nil))) (lp := lpqTopics) (fn := Go.Proofs.Tryz.f42) (.done (by kernel_rfl)) loqTopics_5 FqTopics_5 ?_) (.done (by kernel_rfl))) FqTopics ?_
  · rintro ⟨⟨(xs : List tTopic.den), (n : Int), (i : Int), ⟨⟩⟩, ⟨⟨(v : Int), (e : Int), (f : Bool), ⟨⟩⟩, ⟨(b : List Int), (m : Int), ⟨⟩⟩, ⟨⟨⟩, ⟨⟩⟩⟩⟩ y hw hy
    obtain ⟨hg, hy⟩ := Tr.guard hy
    simp only [Bool.and_eq_true, decide_eq_true_eq] at hg
    obtain ⟨rfl, rfl, rfl, h4, h5⟩ := hg
    have h4 : b.length ≤ 130048 := h4
    have h5 : ∀ x ∈ xs, topicOk x = true := List.all_eq_true.1 h5
    have hl : xs.length ≤ maxLen := hw.1.1.1
    refine ⟨xs.length + 1, (loopqTopics v hl h5 (xs.length + 1) 0 (e, (f, b)) (by omega) (by omega) h4).trans ?_⟩
    rw [← hy]; rfl
  · rintro ⟨⟨⟨⟩, (xs : List tTopic.den), ⟨⟩, ⟨⟩⟩, ⟨⟨⟩, (v : Int), (e : Int), (f : Bool), ⟨⟩⟩, ⟨(b : List Int), (m : Int), ⟨⟩⟩, ⟨⟨⟩, ⟨⟩⟩, ⟨⟩⟩ out hw ho
    obtain ⟨hg, ho⟩ := Tr.guard ho
    obtain ⟨hg, h5⟩ := Bool.and_eq_true_iff.1 hg
    obtain ⟨rfl, hb⟩ := encOk_iff (v := v) (e := e) (f := f) hg
    have h5 : spTopicsOk xs = true := h5
    cases ho
    refine (runqTopics xs v e f b 130048).trans ?_
    unfold bodyqTopics
    have g : (decide ((130048 : Int) = 130048) && decide (b.length ≤ 130048)) = true := by simpa using hb
    show _ = some (Out.ret ((), encOutC v (spItems spTopicE xs (e, f, b))))
    unfold spItems
    by_cases h : 16 < (xs.length : Int)
    · rw [if_pos h]
      refine (bif_true (decide_eq_true h) _ _).trans ?_
      exact bif_true g _ _
    · rw [if_neg h]
      refine (bif_false (decide_eq_false h) _ _).trans ?_
      refine (bif_true g _ _).trans ?_
      have hw32 : IntKind.i32.wrap (xs.length : Int) = xs.length := wrap_id (by simp [inR, IntKind.min, IntKind.max, IntKind.signed, IntKind.bits]; omega)
      rw [hw32]
      have c1 : (decide ((0 : Int) = 0) && (decide ((xs.length : Int) = (xs.length : Int)) && (decide ((130048 : Int) = 130048) && (decide ((spPutE xs.length 4 (e, f, b)).2.2.length ≤ 130048) && spTopicsOk xs)))) = true := by
        rw [h5]; simpa using spPutE_le (s := (e, f, b)) _ 4 hb
      have e1 : FqTopics_5 ((xs, ((xs.length : Int), (0, ()))), ((v, ((spPutE xs.length 4 (e, f, b)).1, ((spPutE xs.length 4 (e, f, b)).2.1, ()))), (((spPutE xs.length 4 (e, f, b)).2.2, (130048, ())), ((), ())))) =
          .ite true (.ret (.ret ((), ((), encOutB v (xs.foldl (fun s x => spTopicE x s) (spPutE xs.length 4 (e, f, b))))))) .no := congrArg (fun c => Tr.ite c _ _) c1
      rw [e1]
      rfl
abbrev tReq : Ty := .prod tNameT (.prod (.int .i16) (.prod (.int .i32) (.prod (.sl 86 tTopic) .unit)))
def spTxnE (v : Int) (n : tNameT.den) (s : EnS) : EnS := if v = 3 then spNameE n s else s
def spReqE (v : Int) (m : tReq.den) : EnS :=
  spItems spTopicE m.2.2.2.1 (spPutE m.2.2.1 4 (spPutE m.2.1 2 (spTxnE v m.1 (spLacks v (m.1.1 == false && decide (m.1.2.1 = [])) 3 3 (spNewE v, (false, ([] : List Int)))))))
abbrev ioqReq : Io := ⟨[dI, .dat tReq true false], [], [], [dO, dI], none⟩
def FqReq (d : ioqReq.In) : Tr ioqReq.Res := .ite (spTopicsOk d.1.2.1.2.2.2.1) (.ret (.ret ((spDoneO (spReqE d.1.1 d.1.2.1), (spDoneE (spReqE d.1.1 d.1.2.1), ())), ()))) .no
abbrev csqReq : List (Nat × Hc) := [(36, ioHd ioeNew FeNew), (37, ioHd ioeLacks FeLacks), (38, ioHd ioeHas FeHas), (39, ioHd ioeName FeName), (40, ioHd ioeI16 FeI16), (41, ioHd ioeI32 FeI32), (42, ioHd ioqTopics FqTopics), (48, ioHd ioeDone FeDone)]
def hdqReq : Hd := hdT csqReq
def lpqReq : Lp := lpT []
def bodyqReq (a0 : Int) (a1 : Bool) (a2 : List Int) (a3 : Int) (a4 : Int) (a5 : List tTopic.den) : Option ioqReq.Res := bif decide (130048 = 130048) && decide ((spLacks a0 (a1 == false && (decide (a2 = List.map (fun (c : UInt8) => (↑c.toNat : Int)) []) && true)) 3 3 (spNewE a0, false, [])).snd.snd.length ≤ 130048) then bif decide (3 ≤ a0) && decide (a0 ≤ 3) then bif decide (130048 = 130048) && decide ((spLacks a0 (a1 == false && (decide (a2 = List.map (fun (c : UInt8) => (↑c.toNat : Int)) []) && true)) 3 3 (spNewE a0, false, [])).snd.snd.length ≤ 130048) then bif decide (130048 = 130048) && decide ((spNameE (a1, a2, ()) (spLacks a0 (a1 == false && (decide (a2 = List.map (fun (c : UInt8) => (↑c.toNat : Int)) []) && true)) 3 3 (spNewE a0, false, []))).snd.snd.length ≤ 130048) then bif decide (130048 = 130048) && decide ((spPutE a3 2 (spNameE (a1, a2, ()) (spLacks a0 (a1 == false && (decide (a2 = List.map (fun (c : UInt8) => (↑c.toNat : Int)) []) && true)) 3 3 (spNewE a0, false, [])))).snd.snd.length ≤ 130048) then bif decide (130048 = 130048) && decide ((spPutE a4 4 (spPutE a3 2 (spNameE (a1, a2, ()) (spLacks a0 (a1 == false && (decide (a2 = List.map (fun (c : UInt8) => (↑c.toNat : Int)) []) && true)) 3 3 (spNewE a0, false, []))))).snd.snd.length ≤ 130048) && spTopicsOk a5 then bif decide (130048 = 130048) && decide ((spItems spTopicE a5 (spPutE a4 4 (spPutE a3 2 (spNameE (a1, a2, ()) (spLacks a0 (a1 == false && (decide (a2 = List.map (fun (c : UInt8) => (↑c.toNat : Int)) []) && true)) 3 3 (spNewE a0, false, [])))))).snd.snd.length ≤ 130048) then some (Out.ret ((spDoneO (spItems spTopicE a5 (spPutE a4 4 (spPutE a3 2 (spNameE (a1, a2, ()) (spLacks a0 (a1 == false && (decide (a2 = List.map (fun (c : UInt8) => (↑c.toNat : Int)) []) && true)) 3 3 (spNewE a0, false, [])))))), spDoneE (spItems spTopicE a5 (spPutE a4 4 (spPutE a3 2 (spNameE (a1, a2, ()) (spLacks a0 (a1 == false && (decide (a2 = List.map (fun (c : UInt8) => (↑c.toNat : Int)) []) && true)) 3 3 (spNewE a0, false, [])))))), ()), ())) else none else none else none else none else none else bif decide (130048 = 130048) && decide ((spLacks a0 (a1 == false && (decide (a2 = List.map (fun (c : UInt8) => (↑c.toNat : Int)) []) && true)) 3 3 (spNewE a0, false, [])).snd.snd.length ≤ 130048) then bif decide (130048 = 130048) && decide ((spPutE a3 2 (spLacks a0 (a1 == false && (decide (a2 = List.map (fun (c : UInt8) => (↑c.toNat : Int)) []) && true)) 3 3 (spNewE a0, false, []))).snd.snd.length ≤ 130048) then bif decide (130048 = 130048) && decide ((spPutE a4 4 (spPutE a3 2 (spLacks a0 (a1 == false && (decide (a2 = List.map (fun (c : UInt8) => (↑c.toNat : Int)) []) && true)) 3 3 (spNewE a0, false, [])))).snd.snd.length ≤ 130048) && spTopicsOk a5 then bif decide (130048 = 130048) && decide ((spItems spTopicE a5 (spPutE a4 4 (spPutE a3 2 (spLacks a0 (a1 == false && (decide (a2 = List.map (fun (c : UInt8) => (↑c.toNat : Int)) []) && true)) 3 3 (spNewE a0, false, []))))).snd.snd.length ≤ 130048) then some (Out.ret ((spDoneO (spItems spTopicE a5 (spPutE a4 4 (spPutE a3 2 (spLacks a0 (a1 == false && (decide (a2 = List.map (fun (c : UInt8) => (↑c.toNat : Int)) []) && true)) 3 3 (spNewE a0, false, []))))), spDoneE (spItems spTopicE a5 (spPutE a4 4 (spPutE a3 2 (spLacks a0 (a1 == false && (decide (a2 = List.map (fun (c : UInt8) => (↑c.toNat : Int)) []) && true)) 3 3 (spNewE a0, false, []))))), ()), ())) else none else none else none else none else none
theorem runqReq (a0 : Int) (a1 : Bool) (a2 : List Int) (a3 : Int) (a4 : Int) (a5 : List tTopic.den) : Io.run tt hdqReq dr lpqReq ioqReq Go.Proofs.Tryz.f11 ((a0, ((a1, a2, ()), a3, a4, a5, ()), ()), ()) = bodyqReq a0 a1 a2 a3 a4 a5 := by kernel_rfl
theorem okqReq : HcOk prog 11 (ioHd ioqReq FqReq) := by
  refine fn_sound (n := 400) hm (cs := csqReq) (.cons okeNew (.cons okeLacks (.cons okeHas (.cons okeName (.cons okeI16 (.cons okeI32 (.cons okqTopics (.cons okeDone .nil)))))))) (lp := lpqReq) (fn := Go.Proofs.Tryz.f11) (by kernel_rfl) (by kernel_rfl) (by kernel_rfl) ioqReq (.done (by kernel_rfl)) FqReq ?_
  rintro ⟨⟨(v : Int), ⟨⟨(z : Bool), (t : List Int), ⟨⟩⟩, (a : Int), (w : Int), (ts : List tTopic.den), ⟨⟩⟩, ⟨⟩⟩, ⟨⟩⟩ out hw ho
  obtain ⟨h5, ho⟩ := Tr.guard ho
  have h5 : spTopicsOk ts = true := h5
  cases ho
  refine (runqReq v z t a w ts).trans ?_
  unfold bodyqReq
  have hg : ∀ s : EnS, s.2.2.length ≤ 130048 → (decide ((130048 : Int) = 130048) && decide (s.2.2.length ≤ 130048)) = true := fun s h => by simpa using h
  have l0 : ∀ z, (spLacks v z 3 3 (spNewE v, (false, ([] : List Int)))).2.2.length ≤ 130048 := fun z => spLacks_le _ _ _ _ (by simp)
  refine (bif_true (hg _ (l0 _)) _ _).trans ?_
  by_cases hv : v = 3
  · refine (bif_true (by simp; omega) _ _).trans ?_
    refine (bif_true (hg _ (l0 _)) _ _).trans ?_
    have l1 := spNameE_le (z, (t, ())) (l0 (z == false && (decide (t = List.map (fun (c : UInt8) => (c.toNat : Int)) []) && true)))
    refine (bif_true (hg _ l1) _ _).trans ?_
    refine (bif_true (hg _ (spPutE_le _ _ l1)) _ _).trans ?_
    have l2 := spPutE_le w 4 (spPutE_le a 2 l1)
    refine (bif_true (by rw [h5, Bool.and_true]; exact hg _ l2) _ _).trans ?_
    refine (bif_true (hg _ (spItems_le (fun x s => spTopicE_le x) _ l2)) _ _).trans ?_
    simp only [spReqE, spTxnE, if_pos hv, List.map_nil, Bool.and_true]
  · refine (bif_false (by simp; omega) _ _).trans ?_
    have l1 := l0 (z == false && (decide (t = List.map (fun (c : UInt8) => (c.toNat : Int)) []) && true))
    refine (bif_true (hg _ l1) _ _).trans ?_
    refine (bif_true (hg _ (spPutE_le _ _ l1)) _ _).trans ?_
    have l2 := spPutE_le w 4 (spPutE_le a 2 l1)
    refine (bif_true (by rw [h5, Bool.and_true]; exact hg _ l2) _ _).trans ?_
    refine (bif_true (hg _ (spItems_le (fun x s => spTopicE_le x) _ l2)) _ _).trans ?_
    simp only [spReqE, spTxnE, if_neg hv, List.map_nil, Bool.and_true]
end
end Go.Proofs.YtmlgepgcofmpeaaGreat.Sym
namespace Go.Proofs.YtmlgepgcofmpeaaGreat.Sym
open Go
set_option linter.unusedSimpArgs false
set_option linter.unusedVariables false
noncomputable section
abbrev oDec1 : List (List Sh) := [[.ptr 1 0], [.ptr 2 0, dI, dI], [dL, dI]]
abbrev oDecC : List (List Sh) := [[.ptr 1 0, dI, dI], [dL, dI], [.ptr 0 0]]
abbrev oDecCZ : List (List Sh) := [[.nil, dI, dI], [.ptr 0 0]]
abbrev decOut1 (v : Int) (b : List Int) (s : DeS) : DenO oDec1 := (((), ()), decOut v b s)
abbrev decOutC (v : Int) (b : List Int) (s : DeS) : DenO oDecC := (((), (v, (s.1, ()))), ((b, (s.2, ())), (((), ()), ())))
abbrev decStC (d : DenO oDecC) : DeS := (d.1.2.2.1, d.2.1.2.1)
def spRep {α : Type} (one : DeS → α × DeS) : Nat → DeS → List α × DeS
  | 0, s => ([], s)
  | k + 1, s => if s.1 = 0 then ((one s).1 :: (spRep one k (one s).2).1, (spRep one k (one s).2).2) else ([], s)
def spLen (n : Int) (s : DeS) : DeS := if s.1 = 0 then (if n < 0 then (5, s.2) else if 16 < n then (9, s.2) else s) else s
def spList {α : Type} (one : DeS → α × DeS) (b : List Int) (s : DeS) : List α × DeS := spRep one (spDn .i32 4 b s).1.toNat (spLen (spDn .i32 4 b s).1 (spDn .i32 4 b s).2)
abbrev decOutB (v : Int) (b : List Int) (s : DeS) : (Int × (Int × Unit)) × ((List Int × (Int × Unit)) × (Unit × Unit)) := ((v, (s.1, ())), ((b, (s.2, ())), ((), ())))
theorem spLen_ok {b : List Int} {s : DeS} (n : Int) (h : spDok b s.2 = true) : spDok b (spLen n s).2 = true := by
  unfold spLen
  split
  · split
    · exact h
    · split <;> exact h
  · exact h
theorem spRep_ok {α : Type} {one : DeS → α × DeS} {b : List Int} (h1 : ∀ s, spDok b s.2 = true → spDok b (one s).2.2 = true) : ∀ (k : Nat) (s : DeS), spDok b s.2 = true → spDok b (spRep one k s).2.2 = true
  | 0, s, h => h
  | k + 1, s, h => by
    rw [spRep]
    split
    · exact spRep_ok h1 k _ (h1 s h)
    · exact h
theorem spList_ok {α : Type} {one : DeS → α × DeS} {b : List Int} {s : DeS} (h1 : ∀ s, spDok b s.2 = true → spDok b (one s).2.2 = true) (h : spDok b s.2 = true) : spDok b (spList one b s).2.2 = true :=
  spRep_ok h1 _ _ (spLen_ok _ (spDn_ok _ _ h))
theorem spDBlob_ok {b : List Int} {s : DeS} (h : spDok b s.2 = true) : spDok b (spDBlob b s).2.2 = true := by
  unfold spDBlob
  split
  · exact spDn_ok _ _ h
  · exact spDTake_ok _ (spDn_ok _ _ h)
theorem spDStr_ok {b : List Int} {s : DeS} (h : spDok b s.2 = true) : spDok b (spDStr b s).2.2 = true := spDText_ok _ (spDn_ok _ _ h)
theorem spDName_ok {b : List Int} {s : DeS} (h : spDok b s.2 = true) : spDok b (spDName b s).2.2 = true := by
  unfold spDName
  split
  · exact spDn_ok _ _ h
  · exact spDStr_ok h
@[irreducible] noncomputable def spDPart (b : List Int) (s : DeS) : tPart.den × DeS := (((spDn .i32 4 b s).1, ((spDBlob b (spDn .i32 4 b s).2).1, ())), (spDBlob b (spDn .i32 4 b s).2).2)
theorem spDPart_ok {b : List Int} {s : DeS} (h : spDok b s.2 = true) : spDok b (spDPart b s).2.2 = true := by
  unfold spDPart
  exact spDBlob_ok (spDn_ok _ _ h)
abbrev iouPart : Io := ⟨[.ptr 0 0], oDec1, [], [.dat tPart true false], none⟩
def FuPart (d : iouPart.In) : Tr iouPart.Res := .ite (spDok d.2.2.2.1.1 d.2.2.2.1.2.1) (.ret (.ret (((spDPart d.2.2.2.1.1 (decSt d.2.2)).1, ()), decOut1 d.2.2.1.2.1 d.2.2.2.1.1 (spDPart d.2.2.2.1.1 (decSt d.2.2)).2))) .no
abbrev csuPart : List (Nat × Hc) := [(64, ioHd iodI32 FdI32), (70, ioHd iodBlob FdBlob)]
def hduPart : Hd := hdT csuPart
def lpuPart : Lp := lpT []
def bodyuPart (a0 : Int) (a1 : Int) (a2 : List Int) (a3 : Int) : Option iouPart.Res := bif spDok a2 a3 then bif spDok a2 (spDn IntKind.i32 4 a2 (a1, a3)).snd.snd then some (Out.ret ((((spDn IntKind.i32 4 a2 (a1, a3)).fst, ((spDBlob a2 (spDn IntKind.i32 4 a2 (a1, a3)).snd).fst.fst, (spDBlob a2 (spDn IntKind.i32 4 a2 (a1, a3)).snd).fst.snd.fst, ()), ()), ()), ((), ()), ((), a0, (spDBlob a2 (spDn IntKind.i32 4 a2 (a1, a3)).snd).snd.fst, ()), (a2, (spDBlob a2 (spDn IntKind.i32 4 a2 (a1, a3)).snd).snd.snd, ()), ())) else none else none
theorem runuPart (a0 : Int) (a1 : Int) (a2 : List Int) (a3 : Int) : Io.run tt hduPart dr lpuPart iouPart Go.Proofs.Tryz.f69 (((), ()), ((), ()), ((), a0, a1, ()), (a2, a3, ()), ()) = bodyuPart a0 a1 a2 a3 := by kernel_rfl
theorem okuPart : HcOk prog 69 (ioHd iouPart FuPart) := by
  refine fn_sound (n := 400) hm (cs := csuPart) (.cons okdI32 (.cons okdBlob .nil)) (lp := lpuPart) (fn := Go.Proofs.Tryz.f69) (by kernel_rfl) (by kernel_rfl) (by kernel_rfl) iouPart (.done (by kernel_rfl)) FuPart ?_
  rintro ⟨⟨⟨⟩, ⟨⟩⟩, ⟨⟨⟩, ⟨⟩⟩, ⟨⟨⟩, (v : Int), (e : Int), ⟨⟩⟩, ⟨(b : List Int), (p : Int), ⟨⟩⟩, ⟨⟩⟩ out hw ho
  obtain ⟨hg, ho⟩ := Tr.guard ho
  have hg : spDok b p = true := hg
  cases ho
  refine (runuPart v e b p).trans ?_
  unfold bodyuPart
  show _ = some (Out.ret (((spDPart b (e, p)).1, ()), decOut1 v b (spDPart b (e, p)).2))
  unfold spDPart
  refine (bif_true hg _ _).trans ?_
  exact bif_true (spDn_ok .i32 4 (s := (e, p)) hg) _ _
@[irreducible] noncomputable def spDParts (b : List Int) (s : DeS) : List tPart.den × DeS := spList (spDPart b) b s
theorem spDParts_ok {b : List Int} {s : DeS} (h : spDok b s.2 = true) : spDok b (spDParts b s).2.2 = true := by
  unfold spDParts
  exact spList_ok (fun s h => spDPart_ok h) h
abbrev iouParts : Io := ⟨[.ptr 0 0, .fnc 69 false [2]], oDecC, [], [.dat (.sl 92 tPart) false false], none⟩
def FuParts (d : iouParts.In) : Tr iouParts.Res := .ite (spDok d.2.2.1.1 d.2.2.1.2.1) (.ret (.ret (((spDParts d.2.2.1.1 (decStC d.2)).1, ()), decOutC d.2.1.2.1 d.2.2.1.1 (spDParts d.2.2.1.1 (decStC d.2)).2))) .no
abbrev csuParts : List (Nat × Hc) := [(64, ioHd iodI32 FdI32), (69, ioHd iouPart FuPart)]
def hduParts : Hd := hdT csuParts
abbrev louParts_10 : Lo := ⟨⟨[.one (.ptr 0 0), .one (.fnp 69 false [2]), .any, .any, .any, .one (.hol (.int IntKind.i32)), .one (.onl 92 ((Ty.int IntKind.i32).prod ((Ty.bool.prod ((Ty.sl 5 (Ty.int IntKind.u8)).prod Ty.unit)).prod Ty.unit)) 19), .one (.hol (.int IntKind.i32)), .any, .any, .any, .any, .any, .any, .any, .any, .any, .any, .any, .any, .any, .any, .any, .any, .any, .any, .any, .any, .any, .any, .any, .any, .any, .any, .any, .any, .any, .any, .any, .any, .any, .any, .any, .any, .any, .any], [some [.ptr 1 0, .hol (.int IntKind.i64), .hol (.int IntKind.i64)], some [.hol (.sl 5 (Ty.int IntKind.u8)), .hol (.int IntKind.i64)], some [.ptr 0 0]]⟩, [(.exit 1, ⟨[.any, .any, .any, .any, .any, .any, .one (.onl 92 ((Ty.int IntKind.i32).prod ((Ty.bool.prod ((Ty.sl 5 (Ty.int IntKind.u8)).prod Ty.unit)).prod Ty.unit)) 19), .any, .any, .any, .any, .any, .any, .any, .any, .any, .any, .any, .any, .any, .any, .any, .any, .any, .any, .any, .any, .any, .any, .any, .any, .any, .any, .any, .any, .any, .any, .any, .any, .any, .any, .any, .any, .any, .any, .any], [some [.ptr 1 0, .hol (.int IntKind.i64), .hol (.int IntKind.i64)], some [.hol (.sl 5 (Ty.int IntKind.u8)), .hol (.int IntKind.i64)], some [.ptr 0 0]]⟩)]⟩
-- FuParts_10 : louParts_10.st.den → Tr (DenX louParts_10.xs) | ((h4, (h5, (h6, ()))), ((h7, (h8, ())), ((h9, (h10, ())), ((), ()))))
def FuParts_10 (d : louParts_10.st.den) : Tr (DenX louParts_10.xs) :=
  .ite (decide (d.1.2.2.1 = 0) && (decide (d.1.2.1.length = 0) && (spDok d.2.2.1.1 d.2.2.1.2.1 && (decide (d.1.1 ≤ (16 : Int)) || decide (d.2.1.2.1 ≠ 0))))) (.ret (.ret ((), (((spRep (spDPart d.2.2.1.1) d.1.1.toNat (d.2.1.2.1, d.2.2.1.2.1)).1, ()), decOutB d.2.1.1 d.2.2.1.1 (spRep (spDPart d.2.2.1.1) d.1.1.toNat (d.2.1.2.1, d.2.2.1.2.1)).2)))) .no
def lpuParts : Lp := lpT [(10, loHd louParts_10 FuParts_10)]
def stepuParts_10 {R : Type} (h4 : Int) (h5 : List ((Ty.int IntKind.i32).prod ((Ty.bool.prod ((Ty.sl 5 (Ty.int IntKind.u8)).prod Ty.unit)).prod Ty.unit)).den) (h6 : Int) (h7 : Int) (h8 : Int) (h9 : List Int) (h10 : Int) (next : Int → List ((Ty.int IntKind.i32).prod ((Ty.bool.prod ((Ty.sl 5 (Ty.int IntKind.u8)).prod Ty.unit)).prod Ty.unit)).den → Int → Int → Int → List Int → Int → Option R) (out : DenX louParts_10.xs → Option R) : Option R := bif decide (h6 < h4) then bif h8 == 0 then bif spDok h9 h10 then bif decide (h5.length + [((spDPart h9 (h8, h10)).fst.fst, ((spDPart h9 (h8, h10)).fst.snd.fst.fst, (spDPart h9 (h8, h10)).fst.snd.fst.snd.fst, ()), ())].length ≤ 4294967296) then next (h4) (h5 ++ [((spDPart h9 (h8, h10)).fst.fst, ((spDPart h9 (h8, h10)).fst.snd.fst.fst, (spDPart h9 (h8, h10)).fst.snd.fst.snd.fst, ()), ())]) (IntKind.i32.wrap (h6 + 1)) (h7) ((spDPart h9 (h8, h10)).snd.fst) (h9) ((spDPart h9 (h8, h10)).snd.snd) else none else none else out (.ret ((), ((h5, ()), ((h7, (h8, ())), ((h9, (h10, ())), ((), ())))))) else out (.ret ((), ((h5, ()), ((h7, (h8, ())), ((h9, (h10, ())), ((), ()))))))
def ituParts_10 (n : Nat) (h4 : Int) (h5 : List ((Ty.int IntKind.i32).prod ((Ty.bool.prod ((Ty.sl 5 (Ty.int IntKind.u8)).prod Ty.unit)).prod Ty.unit)).den) (h6 : Int) (h7 : Int) (h8 : Int) (h9 : List Int) (h10 : Int) : Option (DenX louParts_10.xs) := lpN tt hduParts dr lpuParts 3 Go.Proofs.Tryz.f68 (topL Go.Proofs.Tryz.f68 0) n (louParts_10.st.mk' ((h4, (h5, (h6, ()))), ((h7, (h8, ())), ((h9, (h10, ())), ((), ()))))) (decX louParts_10.xs)
theorem sluParts_10 (n : Nat) (h4 : Int) (h5 : List ((Ty.int IntKind.i32).prod ((Ty.bool.prod ((Ty.sl 5 (Ty.int IntKind.u8)).prod Ty.unit)).prod Ty.unit)).den) (h6 : Int) (h7 : Int) (h8 : Int) (h9 : List Int) (h10 : Int) : ituParts_10 (n + 1) h4 h5 h6 h7 h8 h9 h10 = stepuParts_10 h4 h5 h6 h7 h8 h9 h10 (ituParts_10 n) some := by kernel_rfl
theorem loopuParts (n v : Int) (b : List Int) : ∀ (k j : Nat) (xs : List tPart.den) (s : DeS), n.toNat < j + k → j ≤ n.toNat → xs.length = j → spDok b s.2 = true → (s.1 = 0 → n ≤ 16) →
    ituParts_10 k n xs j v s.1 b s.2 = some (.ret ((), ((xs ++ (spRep (spDPart b) (n.toNat - j) s).1, ()), decOutB v b (spRep (spDPart b) (n.toNat - j) s).2))) := by
  intro k
  induction k with
  | zero => intro j xs s h; omega
  | succ k ih =>
    intro j xs s h1 h2 h3 h4 h5
    rw [sluParts_10]
    unfold stepuParts_10
    by_cases hj : (j : Int) < n
    · refine (bif_true (by simpa using hj) _ _).trans ?_
      obtain ⟨m, hm⟩ : ∃ m, n.toNat - j = m + 1 := ⟨n.toNat - j - 1, by omega⟩
      rw [hm]
      by_cases he : s.1 = 0
      · refine (bif_true (by simpa using he) _ _).trans ?_
        have hn := h5 he
        refine (bif_true h4 _ _).trans ?_
        refine (bif_true (decide_eq_true (show xs.length + 1 ≤ 4294967296 by omega)) _ _).trans ?_
        have hw : IntKind.i32.wrap ((j : Int) + 1) = ((j + 1 : Nat) : Int) := wrap_id (by simp [inR, IntKind.min, IntKind.max, IntKind.signed, IntKind.bits]; omega)
        rw [hw]
        refine (ih (j + 1) (xs ++ [(spDPart b s).1]) (spDPart b s).2 (by omega) (by omega) (by simp [h3]) (spDPart_ok h4) (fun _ => hn)).trans ?_
        rw [show n.toNat - (j + 1) = m by omega, spRep, if_pos he]
        simp
      · refine (bif_false (by simpa using he) _ _).trans ?_
        rw [spRep, if_neg he]
        simp
    · refine (bif_false (by simpa using hj) _ _).trans ?_
      rw [show n.toNat - j = 0 by omega, spRep]
      simp
def bodyuParts (a0 : Int) (a1 : Int) (a2 : List Int) (a3 : Int) : Option iouParts.Res := bif spDok a2 a3 then bif (spDn IntKind.i32 4 a2 (a1, a3)).snd.fst != 0 then (FuParts_10 (((spDn IntKind.i32 4 a2 (a1, a3)).fst, ([], (0, ()))), ((a0, ((spDn IntKind.i32 4 a2 (a1, a3)).snd.fst, ())), ((a2, ((spDn IntKind.i32 4 a2 (a1, a3)).snd.snd, ())), ((), ()))))).run fun y => match y with | .ret ((), ((x28, ()), (x29, x30, ()), (x31, x32, ()), (), ())) => (some (Out.ret ((x28, ()), ((), x29, x30, ()), (x31, x32, ()), ((), ()), ()))) else bif decide ((spDn IntKind.i32 4 a2 (a1, a3)).fst < 0) then (FuParts_10 (((spDn IntKind.i32 4 a2 (a1, a3)).fst, ([], (0, ()))), ((a0, (5, ())), ((a2, ((spDn IntKind.i32 4 a2 (a1, a3)).snd.snd, ())), ((), ()))))).run fun y => match y with | .ret ((), ((x40, ()), (x41, x42, ()), (x43, x44, ()), (), ())) => (some (Out.ret ((x40, ()), ((), x41, x42, ()), (x43, x44, ()), ((), ()), ()))) else bif decide (16 < (spDn IntKind.i32 4 a2 (a1, a3)).fst) then (FuParts_10 (((spDn IntKind.i32 4 a2 (a1, a3)).fst, ([], (0, ()))), ((a0, (9, ())), ((a2, ((spDn IntKind.i32 4 a2 (a1, a3)).snd.snd, ())), ((), ()))))).run fun y => match y with | .ret ((), ((x52, ()), (x53, x54, ()), (x55, x56, ()), (), ())) => (some (Out.ret ((x52, ()), ((), x53, x54, ()), (x55, x56, ()), ((), ()), ()))) else (FuParts_10 (((spDn IntKind.i32 4 a2 (a1, a3)).fst, ([], (0, ()))), ((a0, ((spDn IntKind.i32 4 a2 (a1, a3)).snd.fst, ())), ((a2, ((spDn IntKind.i32 4 a2 (a1, a3)).snd.snd, ())), ((), ()))))).run fun y => match y with | .ret ((), ((x64, ()), (x65, x66, ()), (x67, x68, ()), (), ())) => (some (Out.ret ((x64, ()), ((), x65, x66, ()), (x67, x68, ()), ((), ()), ()))) else none
theorem runuParts (a0 : Int) (a1 : Int) (a2 : List Int) (a3 : Int) : Io.run tt hduParts dr lpuParts iouParts Go.Proofs.Tryz.f68 (((), (), ()), ((), a0, a1, ()), (a2, a3, ()), ((), ()), ()) = bodyuParts a0 a1 a2 a3 := by kernel_rfl
theorem okuParts : HcOk prog 68 (ioHd iouParts FuParts) := by
  refine fn_sound (n := 400) hm (cs := csuParts) (.cons okdI32 (.cons okuPart .nil)) (lp := lpuParts) (fn := Go.Proofs.Tryz.f68) (by kernel_rfl) (by kernel_rfl) (by kernel_rfl) iouParts (.step (h0 := loHd louParts_10 FuParts_10) (by kernel_rfl) (loop_sound (n := 400) hm (cs := csuParts) (.cons okdI32 (.cons okuPart .nil)) (lp := lpuParts) (fn := Go.Proofs.Tryz.f68) (.done (by kernel_rfl)) louParts_10 FuParts_10 ?_) (.done (by kernel_rfl))) FuParts ?_
  · rintro ⟨⟨(n : Int), (xs : List tPart.den), (i : Int), ⟨⟩⟩, ⟨⟨(v : Int), (e : Int), ⟨⟩⟩, ⟨(b : List Int), (p : Int), ⟨⟩⟩, ⟨⟨⟩, ⟨⟩⟩⟩⟩ y hw hy
    obtain ⟨hg, hy⟩ := Tr.guard hy
    simp only [Bool.and_eq_true, decide_eq_true_eq, Bool.or_eq_true] at hg
    obtain ⟨h1, h2, h3, h4⟩ := hg
    have h1 : i = 0 := h1
    have h2 : xs = [] := List.eq_nil_of_length_eq_zero h2
    have h3 : spDok b p = true := h3
    have h4 : n ≤ 16 ∨ e ≠ 0 := h4
    subst h1
    subst h2
    refine ⟨n.toNat + 1, (loopuParts n v b (n.toNat + 1) 0 [] (e, p) (by omega) (by omega) rfl h3 (fun he => h4.resolve_right (fun h => h he))).trans ?_⟩
    rw [← hy]; rfl
  · rintro ⟨⟨⟨⟩, ⟨⟩, ⟨⟩⟩, ⟨⟨⟩, (v : Int), (e : Int), ⟨⟩⟩, ⟨(b : List Int), (p : Int), ⟨⟩⟩, ⟨⟨⟩, ⟨⟩⟩, ⟨⟩⟩ out hw ho
    obtain ⟨hg, ho⟩ := Tr.guard ho
    have hg : spDok b p = true := hg
    cases ho
    refine (runuParts v e b p).trans ?_
    unfold bodyuParts
    show _ = some (Out.ret (((spDParts b (e, p)).1, ()), decOutC v b (spDParts b (e, p)).2))
    unfold spDParts spList
    refine (bif_true hg _ _).trans ?_
    have hr : spDok b (spDn .i32 4 b (e, p)).2.2 = true := spDn_ok .i32 4 (s := (e, p)) hg
    generalize spDn .i32 4 b (e, p) = r at hr ⊢
    obtain ⟨n, e1, q⟩ := r
    have hr : spDok b q = true := hr
    have key : ∀ e' : Int, (e' = 0 → n ≤ 16) → FuParts_10 ((n, ([], (0, ()))), ((v, (e', ())), ((b, (q, ())), ((), ())))) = .ite true (.ret (.ret ((), (((spRep (spDPart b) n.toNat (e', q)).1, ()), decOutB v b (spRep (spDPart b) n.toNat (e', q)).2)))) .no := by
      intro e' he
      refine congrArg (fun c => Tr.ite c _ _) ?_
      show (decide ((0 : Int) = 0) && (decide (([] : List tPart.den).length = 0) && (spDok b q && (decide (n ≤ 16) || decide (e' ≠ 0))))) = true
      rw [hr]
      by_cases h : e' = 0
      · simp [he h]
      · simp [h]
    unfold spLen
    show (bif e1 != 0 then _ else _) = _
    by_cases h1 : e1 = 0
    · refine (bif_false (by simpa using h1) _ _).trans ?_
      show (bif decide (n < 0) then _ else _) = _
      rw [if_pos h1]
      by_cases h2 : n < 0
      · refine (bif_true (by simpa using h2) _ _).trans ?_
        show (FuParts_10 ((n, ([], (0, ()))), ((v, (5, ())), ((b, (q, ())), ((), ()))))).run _ = _
        rw [key 5 (by omega), if_pos h2]
        rfl
      · refine (bif_false (by simpa using h2) _ _).trans ?_
        show (bif decide (16 < n) then _ else _) = _
        rw [if_neg h2]
        by_cases h3 : 16 < n
        · refine (bif_true (by simpa using h3) _ _).trans ?_
          show (FuParts_10 ((n, ([], (0, ()))), ((v, (9, ())), ((b, (q, ())), ((), ()))))).run _ = _
          rw [key 9 (by omega), if_pos h3]
          rfl
        · refine (bif_false (by simpa using h3) _ _).trans ?_
          show (FuParts_10 ((n, ([], (0, ()))), ((v, (e1, ())), ((b, (q, ())), ((), ()))))).run _ = _
          rw [key e1 (by omega), if_neg h3]
          rfl
    · refine (bif_true (by simpa using h1) _ _).trans ?_
      show (FuParts_10 ((n, ([], (0, ()))), ((v, (e1, ())), ((b, (q, ())), ((), ()))))).run _ = _
      rw [key e1 (fun h => absurd h h1), if_neg h1]
      rfl
@[irreducible] noncomputable def spDTopic (b : List Int) (s : DeS) : tTopic.den × DeS := (((spDStr b s).1, ((spDParts b (spDStr b s).2).1, ())), (spDParts b (spDStr b s).2).2)
theorem spDTopic_ok {b : List Int} {s : DeS} (h : spDok b s.2 = true) : spDok b (spDTopic b s).2.2 = true := by
  unfold spDTopic
  exact spDParts_ok (spDStr_ok h)
abbrev iouTopic : Io := ⟨[.ptr 0 0], oDec1, [], [.dat tTopic true false], none⟩
def FuTopic (d : iouTopic.In) : Tr iouTopic.Res := .ite (spDok d.2.2.2.1.1 d.2.2.2.1.2.1) (.ret (.ret (((spDTopic d.2.2.2.1.1 (decSt d.2.2)).1, ()), decOut1 d.2.2.1.2.1 d.2.2.2.1.1 (spDTopic d.2.2.2.1.1 (decSt d.2.2)).2))) .no
abbrev csuTopic : List (Nat × Hc) := [(67, ioHd iodStr FdStr), (68, ioHd iouParts FuParts)]
def hduTopic : Hd := hdT csuTopic
def lpuTopic : Lp := lpT []
def bodyuTopic (a0 : Int) (a1 : Int) (a2 : List Int) (a3 : Int) : Option iouTopic.Res := bif spDok a2 a3 then bif spDok a2 (spDStr a2 (a1, a3)).snd.snd then some (Out.ret ((((spDStr a2 (a1, a3)).fst, (spDParts a2 (spDStr a2 (a1, a3)).snd).fst, ()), ()), ((), ()), ((), a0, (spDParts a2 (spDStr a2 (a1, a3)).snd).snd.fst, ()), (a2, (spDParts a2 (spDStr a2 (a1, a3)).snd).snd.snd, ()), ())) else none else none
theorem runuTopic (a0 : Int) (a1 : Int) (a2 : List Int) (a3 : Int) : Io.run tt hduTopic dr lpuTopic iouTopic Go.Proofs.Tryz.f66 (((), ()), ((), ()), ((), a0, a1, ()), (a2, a3, ()), ()) = bodyuTopic a0 a1 a2 a3 := by kernel_rfl
theorem okuTopic : HcOk prog 66 (ioHd iouTopic FuTopic) := by
  refine fn_sound (n := 400) hm (cs := csuTopic) (.cons okdStr (.cons okuParts .nil)) (lp := lpuTopic) (fn := Go.Proofs.Tryz.f66) (by kernel_rfl) (by kernel_rfl) (by kernel_rfl) iouTopic (.done (by kernel_rfl)) FuTopic ?_
  rintro ⟨⟨⟨⟩, ⟨⟩⟩, ⟨⟨⟩, ⟨⟩⟩, ⟨⟨⟩, (v : Int), (e : Int), ⟨⟩⟩, ⟨(b : List Int), (p : Int), ⟨⟩⟩, ⟨⟩⟩ out hw ho
  obtain ⟨hg, ho⟩ := Tr.guard ho
  have hg : spDok b p = true := hg
  cases ho
  refine (runuTopic v e b p).trans ?_
  unfold bodyuTopic
  show _ = some (Out.ret (((spDTopic b (e, p)).1, ()), decOut1 v b (spDTopic b (e, p)).2))
  unfold spDTopic
  refine (bif_true hg _ _).trans ?_
  exact bif_true (spDStr_ok (s := (e, p)) hg) _ _
@[irreducible] noncomputable def spDTopics (b : List Int) (s : DeS) : List tTopic.den × DeS := spList (spDTopic b) b s
abbrev iouTopics : Io := ⟨[.ptr 0 0, .fnc 66 false [2]], oDecC, [], [.dat (.sl 86 tTopic) false false], none⟩
def FuTopics (d : iouTopics.In) : Tr iouTopics.Res := .ite (spDok d.2.2.1.1 d.2.2.1.2.1) (.ret (.ret (((spDTopics d.2.2.1.1 (decStC d.2)).1, ()), decOutC d.2.1.2.1 d.2.2.1.1 (spDTopics d.2.2.1.1 (decStC d.2)).2))) .no
abbrev csuTopics : List (Nat × Hc) := [(64, ioHd iodI32 FdI32), (66, ioHd iouTopic FuTopic)]
def hduTopics : Hd := hdT csuTopics
abbrev louTopics_10 : Lo := ⟨⟨[.one (.ptr 0 0), .one (.fnp 66 false [2]), .any, .any, .any, .one (.hol (.int IntKind.i32)), .one (.onl 86 (Ty.str.prod ((Ty.sl 92 ((Ty.int IntKind.i32).prod ((Ty.bool.prod ((Ty.sl 5 (Ty.int IntKind.u8)).prod Ty.unit)).prod Ty.unit))).prod Ty.unit)) 19), .one (.hol (.int IntKind.i32)), .any, .any, .any, .any, .any, .any, .any, .any, .any, .any, .any, .any, .any, .any, .any, .any, .any, .any, .any, .any, .any, .any, .any, .any, .any, .any, .any, .any, .any, .any, .any, .any, .any, .any, .any, .any, .any, .any], [some [.ptr 1 0, .hol (.int IntKind.i64), .hol (.int IntKind.i64)], some [.hol (.sl 5 (Ty.int IntKind.u8)), .hol (.int IntKind.i64)], some [.ptr 0 0]]⟩, [(.exit 1, ⟨[.any, .any, .any, .any, .any, .any, .one (.onl 86 (Ty.str.prod ((Ty.sl 92 ((Ty.int IntKind.i32).prod ((Ty.bool.prod ((Ty.sl 5 (Ty.int IntKind.u8)).prod Ty.unit)).prod Ty.unit))).prod Ty.unit)) 19), .any, .any, .any, .any, .any, .any, .any, .any, .any, .any, .any, .any, .any, .any, .any, .any, .any, .any, .any, .any, .any, .any, .any, .any, .any, .any, .any, .any, .any, .any, .any, .any, .any, .any, .any, .any, .any, .any, .any], [some [.ptr 1 0, .hol (.int IntKind.i64), .hol (.int IntKind.i64)], some [.hol (.sl 5 (Ty.int IntKind.u8)), .hol (.int IntKind.i64)], some [.ptr 0 0]]⟩)]⟩
-- FuTopics_10 : louTopics_10.st.den → Tr (DenX louTopics_10.xs) | ((h4, (h5, (h6, ()))), ((h7, (h8, ())), ((h9, (h10, ())), ((), ()))))
def FuTopics_10 (d : louTopics_10.st.den) : Tr (DenX louTopics_10.xs) :=
  .ite (decide (d.1.2.2.1 = 0) && (decide (d.1.2.1.length = 0) && (spDok d.2.2.1.1 d.2.2.1.2.1 && (decide (d.1.1 ≤ (16 : Int)) || decide (d.2.1.2.1 ≠ 0))))) (.ret (.ret ((), (((spRep (spDTopic d.2.2.1.1) d.1.1.toNat (d.2.1.2.1, d.2.2.1.2.1)).1, ()), decOutB d.2.1.1 d.2.2.1.1 (spRep (spDTopic d.2.2.1.1) d.1.1.toNat (d.2.1.2.1, d.2.2.1.2.1)).2)))) .no
def lpuTopics : Lp := lpT [(10, loHd louTopics_10 FuTopics_10)]
def stepuTopics_10 {R : Type} (h4 : Int) (h5 : List (Ty.str.prod ((Ty.sl 92 ((Ty.int IntKind.i32).prod ((Ty.bool.prod ((Ty.sl 5 (Ty.int IntKind.u8)).prod Ty.unit)).prod Ty.unit))).prod Ty.unit)).den) (h6 : Int) (h7 : Int) (h8 : Int) (h9 : List Int) (h10 : Int) (next : Int → List (Ty.str.prod ((Ty.sl 92 ((Ty.int IntKind.i32).prod ((Ty.bool.prod ((Ty.sl 5 (Ty.int IntKind.u8)).prod Ty.unit)).prod Ty.unit))).prod Ty.unit)).den → Int → Int → Int → List Int → Int → Option R) (out : DenX louTopics_10.xs → Option R) : Option R := bif decide (h6 < h4) then bif h8 == 0 then bif spDok h9 h10 then bif decide (h5.length + [((spDTopic h9 (h8, h10)).fst.fst, (spDTopic h9 (h8, h10)).fst.snd.fst, ())].length ≤ 4294967296) then next (h4) (h5 ++ [((spDTopic h9 (h8, h10)).fst.fst, (spDTopic h9 (h8, h10)).fst.snd.fst, ())]) (IntKind.i32.wrap (h6 + 1)) (h7) ((spDTopic h9 (h8, h10)).snd.fst) (h9) ((spDTopic h9 (h8, h10)).snd.snd) else none else none else out (.ret ((), ((h5, ()), ((h7, (h8, ())), ((h9, (h10, ())), ((), ())))))) else out (.ret ((), ((h5, ()), ((h7, (h8, ())), ((h9, (h10, ())), ((), ()))))))
def ituTopics_10 (n : Nat) (h4 : Int) (h5 : List (Ty.str.prod ((Ty.sl 92 ((Ty.int IntKind.i32).prod ((Ty.bool.prod ((Ty.sl 5 (Ty.int IntKind.u8)).prod Ty.unit)).prod Ty.unit))).prod Ty.unit)).den) (h6 : Int) (h7 : Int) (h8 : Int) (h9 : List Int) (h10 : Int) : Option (DenX louTopics_10.xs) := lpN tt hduTopics dr lpuTopics 3 Go.Proofs.Tryz.f65 (topL Go.Proofs.Tryz.f65 0) n (louTopics_10.st.mk' ((h4, (h5, (h6, ()))), ((h7, (h8, ())), ((h9, (h10, ())), ((), ()))))) (decX louTopics_10.xs)
theorem sluTopics_10 (n : Nat) (h4 : Int) (h5 : List (Ty.str.prod ((Ty.sl 92 ((Ty.int IntKind.i32).prod ((Ty.bool.prod ((Ty.sl 5 (Ty.int IntKind.u8)).prod Ty.unit)).prod Ty.unit))).prod Ty.unit)).den) (h6 : Int) (h7 : Int) (h8 : Int) (h9 : List Int) (h10 : Int) : ituTopics_10 (n + 1) h4 h5 h6 h7 h8 h9 h10 = stepuTopics_10 h4 h5 h6 h7 h8 h9 h10 (ituTopics_10 n) some := by kernel_rfl
theorem loopuTopics (n v : Int) (b : List Int) : ∀ (k j : Nat) (xs : List tTopic.den) (s : DeS), n.toNat < j + k → j ≤ n.toNat → xs.length = j → spDok b s.2 = true → (s.1 = 0 → n ≤ 16) →
    ituTopics_10 k n xs j v s.1 b s.2 = some (.ret ((), ((xs ++ (spRep (spDTopic b) (n.toNat - j) s).1, ()), decOutB v b (spRep (spDTopic b) (n.toNat - j) s).2))) := by
  intro k
  induction k with
  | zero => intro j xs s h; omega
  | succ k ih =>
    intro j xs s h1 h2 h3 h4 h5
    rw [sluTopics_10]
    unfold stepuTopics_10
    by_cases hj : (j : Int) < n
    · refine (bif_true (by simpa using hj) _ _).trans ?_
      obtain ⟨m, hm⟩ : ∃ m, n.toNat - j = m + 1 := ⟨n.toNat - j - 1, by omega⟩
      rw [hm]
      by_cases he : s.1 = 0
      · refine (bif_true (by simpa using he) _ _).trans ?_
        have hn := h5 he
        refine (bif_true h4 _ _).trans ?_
        refine (bif_true (decide_eq_true (show xs.length + 1 ≤ 4294967296 by omega)) _ _).trans ?_
        have hw : IntKind.i32.wrap ((j : Int) + 1) = ((j + 1 : Nat) : Int) := wrap_id (by simp [inR, IntKind.min, IntKind.max, IntKind.signed, IntKind.bits]; omega)
        rw [hw]
        refine (ih (j + 1) (xs ++ [(spDTopic b s).1]) (spDTopic b s).2 (by omega) (by omega) (by simp [h3]) (spDTopic_ok h4) (fun _ => hn)).trans ?_
        rw [show n.toNat - (j + 1) = m by omega, spRep, if_pos he]
        simp
      · refine (bif_false (by simpa using he) _ _).trans ?_
        rw [spRep, if_neg he]
        simp
    · refine (bif_false (by simpa using hj) _ _).trans ?_
      rw [show n.toNat - j = 0 by omega, spRep]
      simp
def bodyuTopics (a0 : Int) (a1 : Int) (a2 : List Int) (a3 : Int) : Option iouTopics.Res := bif spDok a2 a3 then bif (spDn IntKind.i32 4 a2 (a1, a3)).snd.fst != 0 then (FuTopics_10 (((spDn IntKind.i32 4 a2 (a1, a3)).fst, ([], (0, ()))), ((a0, ((spDn IntKind.i32 4 a2 (a1, a3)).snd.fst, ())), ((a2, ((spDn IntKind.i32 4 a2 (a1, a3)).snd.snd, ())), ((), ()))))).run fun y => match y with | .ret ((), ((x28, ()), (x29, x30, ()), (x31, x32, ()), (), ())) => (some (Out.ret ((x28, ()), ((), x29, x30, ()), (x31, x32, ()), ((), ()), ()))) else bif decide ((spDn IntKind.i32 4 a2 (a1, a3)).fst < 0) then (FuTopics_10 (((spDn IntKind.i32 4 a2 (a1, a3)).fst, ([], (0, ()))), ((a0, (5, ())), ((a2, ((spDn IntKind.i32 4 a2 (a1, a3)).snd.snd, ())), ((), ()))))).run fun y => match y with | .ret ((), ((x40, ()), (x41, x42, ()), (x43, x44, ()), (), ())) => (some (Out.ret ((x40, ()), ((), x41, x42, ()), (x43, x44, ()), ((), ()), ()))) else bif decide (16 < (spDn IntKind.i32 4 a2 (a1, a3)).fst) then (FuTopics_10 (((spDn IntKind.i32 4 a2 (a1, a3)).fst, ([], (0, ()))), ((a0, (9, ())), ((a2, ((spDn IntKind.i32 4 a2 (a1, a3)).snd.snd, ())), ((), ()))))).run fun y => match y with | .ret ((), ((x52, ()), (x53, x54, ()), (x55, x56, ()), (), ())) => (some (Out.ret ((x52, ()), ((), x53, x54, ()), (x55, x56, ()), ((), ()), ()))) else (FuTopics_10 (((spDn IntKind.i32 4 a2 (a1, a3)).fst, ([], (0, ()))), ((a0, ((spDn IntKind.i32 4 a2 (a1, a3)).snd.fst, ())), ((a2, ((spDn IntKind.i32 4 a2 (a1, a3)).snd.snd, ())), ((), ()))))).run fun y => match y with | .ret ((), ((x64, ()), (x65, x66, ()), (x67, x68, ()), (), ())) => (some (Out.ret ((x64, ()), ((), x65, x66, ()), (x67, x68, ()), ((), ()), ()))) else none
theorem runuTopics (a0 : Int) (a1 : Int) (a2 : List Int) (a3 : Int) : Io.run tt hduTopics dr lpuTopics iouTopics Go.Proofs.Tryz.f65 (((), (), ()), ((), a0, a1, ()), (a2, a3, ()), ((), ()), ()) = bodyuTopics a0 a1 a2 a3 := by kernel_rfl
theorem okuTopics : HcOk prog 65 (ioHd iouTopics FuTopics) := by
  refine fn_sound (n := 400) hm (cs := csuTopics) (.cons okdI32 (.cons okuTopic .nil)) (lp := lpuTopics) (fn := Go.Proofs.Tryz.f65) (by kernel_rfl) (by kernel_rfl) (by kernel_rfl) iouTopics (.step (h0 := loHd louTopics_10 FuTopics_10) (by kernel_rfl) (loop_sound (n := 400) hm (cs := csuTopics) (.cons okdI32 (.cons okuTopic .nil)) (lp := lpuTopics) (fn := Go.Proofs.Tryz.f65) (.done (by kernel_rfl)) louTopics_10 FuTopics_10 ?_) (.done (by kernel_rfl))) FuTopics ?_
  · rintro ⟨⟨(n : Int), (xs : List tTopic.den), (i : Int), ⟨⟩⟩, ⟨⟨(v : Int), (e : Int), ⟨⟩⟩, ⟨(b : List Int), (p : Int), ⟨⟩⟩, ⟨⟨⟩, ⟨⟩⟩⟩⟩ y hw hy
    obtain ⟨hg, hy⟩ := Tr.guard hy
    simp only [Bool.and_eq_true, decide_eq_true_eq, Bool.or_eq_true] at hg
    obtain ⟨h1, h2, h3, h4⟩ := hg
    have h1 : i = 0 := h1
    have h2 : xs = [] := List.eq_nil_of_length_eq_zero h2
    have h3 : spDok b p = true := h3
    have h4 : n ≤ 16 ∨ e ≠ 0 := h4
    subst h1
    subst h2
    refine ⟨n.toNat + 1, (loopuTopics n v b (n.toNat + 1) 0 [] (e, p) (by omega) (by omega) rfl h3 (fun he => h4.resolve_right (fun h => h he))).trans ?_⟩
    rw [← hy]; rfl
  · rintro ⟨⟨⟨⟩, ⟨⟩, ⟨⟩⟩, ⟨⟨⟩, (v : Int), (e : Int), ⟨⟩⟩, ⟨(b : List Int), (p : Int), ⟨⟩⟩, ⟨⟨⟩, ⟨⟩⟩, ⟨⟩⟩ out hw ho
    obtain ⟨hg, ho⟩ := Tr.guard ho
    have hg : spDok b p = true := hg
    cases ho
    refine (runuTopics v e b p).trans ?_
    unfold bodyuTopics
    show _ = some (Out.ret (((spDTopics b (e, p)).1, ()), decOutC v b (spDTopics b (e, p)).2))
    unfold spDTopics spList
    refine (bif_true hg _ _).trans ?_
    have hr : spDok b (spDn .i32 4 b (e, p)).2.2 = true := spDn_ok .i32 4 (s := (e, p)) hg
    generalize spDn .i32 4 b (e, p) = r at hr ⊢
    obtain ⟨n, e1, q⟩ := r
    have hr : spDok b q = true := hr
    have key : ∀ e' : Int, (e' = 0 → n ≤ 16) → FuTopics_10 ((n, ([], (0, ()))), ((v, (e', ())), ((b, (q, ())), ((), ())))) = .ite true (.ret (.ret ((), (((spRep (spDTopic b) n.toNat (e', q)).1, ()), decOutB v b (spRep (spDTopic b) n.toNat (e', q)).2)))) .no := by
      intro e' he
      refine congrArg (fun c => Tr.ite c _ _) ?_
      show (decide ((0 : Int) = 0) && (decide (([] : List tTopic.den).length = 0) && (spDok b q && (decide (n ≤ 16) || decide (e' ≠ 0))))) = true
      rw [hr]
      by_cases h : e' = 0
      · simp [he h]
      · simp [h]
    unfold spLen
    show (bif e1 != 0 then _ else _) = _
    by_cases h1 : e1 = 0
    · refine (bif_false (by simpa using h1) _ _).trans ?_
      show (bif decide (n < 0) then _ else _) = _
      rw [if_pos h1]
      by_cases h2 : n < 0
      · refine (bif_true (by simpa using h2) _ _).trans ?_
        show (FuTopics_10 ((n, ([], (0, ()))), ((v, (5, ())), ((b, (q, ())), ((), ()))))).run _ = _
        rw [key 5 (by omega), if_pos h2]
        rfl
      · refine (bif_false (by simpa using h2) _ _).trans ?_
        show (bif decide (16 < n) then _ else _) = _
        rw [if_neg h2]
        by_cases h3 : 16 < n
        · refine (bif_true (by simpa using h3) _ _).trans ?_
          show (FuTopics_10 ((n, ([], (0, ()))), ((v, (9, ())), ((b, (q, ())), ((), ()))))).run _ = _
          rw [key 9 (by omega), if_pos h3]
          rfl
        · refine (bif_false (by simpa using h3) _ _).trans ?_
          show (FuTopics_10 ((n, ([], (0, ()))), ((v, (e1, ())), ((b, (q, ())), ((), ()))))).run _ = _
          rw [key e1 (by omega), if_neg h3]
          rfl
    · refine (bif_true (by simpa using h1) _ _).trans ?_
      show (FuTopics_10 ((n, ([], (0, ()))), ((v, (e1, ())), ((b, (q, ())), ((), ()))))).run _ = _
      rw [key e1 (fun h => absurd h h1), if_neg h1]
      rfl
abbrev iouTopicsZ : Io := ⟨[.ptr 0 0, .fnc 66 false [1]], oDecCZ, [], [.dat (.sl 86 tTopic) false false], none⟩
def FuTopicsZ (d : iouTopicsZ.In) : Tr iouTopicsZ.Res := .ite (decide (d.2.1.2.2.1 ≠ 0)) (.ret (.ret ((([] : List tTopic.den), ()), d.2))) .no
abbrev csuTopicsZ : List (Nat × Hc) := [(64, orHd deadB (ioHd iodI32Z FdI32Z) (ioHd iodI32 FdI32))]
def hduTopicsZ : Hd := hdT csuTopicsZ
abbrev louTopicsZ_10 : Lo := ⟨⟨[.one (.ptr 0 0), .one (.fnp 66 false [1]), .any, .any, .any, .one (.hol (.int IntKind.i32)), .one (.onl 86 (Ty.str.prod ((Ty.sl 92 ((Ty.int IntKind.i32).prod ((Ty.bool.prod ((Ty.sl 5 (Ty.int IntKind.u8)).prod Ty.unit)).prod Ty.unit))).prod Ty.unit)) 17), .one (.hol (.int IntKind.i32)), .any, .any, .any, .any, .any, .any, .any, .any, .any, .any, .any, .any, .any, .any, .any, .any, .any, .any, .any, .any, .any, .any, .any, .any, .any, .any, .any, .any, .any, .any, .any, .any, .any, .any, .any, .any, .any, .any], [some [.nilp, .hol (.int IntKind.i64), .hol (.int IntKind.i64)], some [.ptr 0 0]]⟩, [(.exit 1, ⟨[.any, .any, .any, .any, .any, .any, .one (.onl 86 (Ty.str.prod ((Ty.sl 92 ((Ty.int IntKind.i32).prod ((Ty.bool.prod ((Ty.sl 5 (Ty.int IntKind.u8)).prod Ty.unit)).prod Ty.unit))).prod Ty.unit)) 17), .any, .any, .any, .any, .any, .any, .any, .any, .any, .any, .any, .any, .any, .any, .any, .any, .any, .any, .any, .any, .any, .any, .any, .any, .any, .any, .any, .any, .any, .any, .any, .any, .any, .any, .any, .any, .any, .any, .any], [some [.nilp, .hol (.int IntKind.i64), .hol (.int IntKind.i64)], some [.ptr 0 0]]⟩)]⟩
-- FuTopicsZ_10 : louTopicsZ_10.st.den → Tr (DenX louTopicsZ_10.xs) | ((h2, (h3, (h4, ()))), ((h5, (h6, ())), ((), ())))
def FuTopicsZ_10 (d : louTopicsZ_10.st.den) : Tr (DenX louTopicsZ_10.xs) :=
  .ite (decide (d.2.1.2.1 ≠ 0)) (.ret (.ret ((), ((d.1.2.1, ()), d.2)))) .no
def lpuTopicsZ : Lp := lpT [(10, loHd louTopicsZ_10 FuTopicsZ_10)]
def stepuTopicsZ_10 {R : Type} (h2 : Int) (h3 : List (Ty.str.prod ((Ty.sl 92 ((Ty.int IntKind.i32).prod ((Ty.bool.prod ((Ty.sl 5 (Ty.int IntKind.u8)).prod Ty.unit)).prod Ty.unit))).prod Ty.unit)).den) (h4 : Int) (h5 : Int) (h6 : Int) (next : Int → List (Ty.str.prod ((Ty.sl 92 ((Ty.int IntKind.i32).prod ((Ty.bool.prod ((Ty.sl 5 (Ty.int IntKind.u8)).prod Ty.unit)).prod Ty.unit))).prod Ty.unit)).den → Int → Int → Int → Option R) (out : DenX louTopicsZ_10.xs → Option R) : Option R := bif decide (h4 < h2) then bif h6 == 0 then none else out (.ret ((), ((h3, ()), ((h5, (h6, ())), ((), ()))))) else out (.ret ((), ((h3, ()), ((h5, (h6, ())), ((), ())))))
def ituTopicsZ_10 (n : Nat) (h2 : Int) (h3 : List (Ty.str.prod ((Ty.sl 92 ((Ty.int IntKind.i32).prod ((Ty.bool.prod ((Ty.sl 5 (Ty.int IntKind.u8)).prod Ty.unit)).prod Ty.unit))).prod Ty.unit)).den) (h4 : Int) (h5 : Int) (h6 : Int) : Option (DenX louTopicsZ_10.xs) := lpN tt hduTopicsZ dr lpuTopicsZ 2 Go.Proofs.Tryz.f65 (topL Go.Proofs.Tryz.f65 0) n (louTopicsZ_10.st.mk' ((h2, (h3, (h4, ()))), ((h5, (h6, ())), ((), ())))) (decX louTopicsZ_10.xs)
theorem sluTopicsZ_10 (n : Nat) (h2 : Int) (h3 : List (Ty.str.prod ((Ty.sl 92 ((Ty.int IntKind.i32).prod ((Ty.bool.prod ((Ty.sl 5 (Ty.int IntKind.u8)).prod Ty.unit)).prod Ty.unit))).prod Ty.unit)).den) (h4 : Int) (h5 : Int) (h6 : Int) : ituTopicsZ_10 (n + 1) h2 h3 h4 h5 h6 = stepuTopicsZ_10 h2 h3 h4 h5 h6 (ituTopicsZ_10 n) some := by kernel_rfl
def bodyuTopicsZ (a0 : Int) (a1 : Int) : Option iouTopicsZ.Res := bif decide (a1 ≠ 0) then bif a1 != 0 then (FuTopicsZ_10 ((0, ([], (0, ()))), ((a0, (a1, ())), ((), ())))).run fun y => match y with | .ret ((), ((x13, ()), (x14, x15, ()), (), ())) => (some (Out.ret ((x13, ()), ((), x14, x15, ()), ((), ()), ()))) else (FuTopicsZ_10 ((0, ([], (0, ()))), ((a0, (a1, ())), ((), ())))).run fun y => match y with | .ret ((), ((x21, ()), (x22, x23, ()), (), ())) => (some (Out.ret ((x21, ()), ((), x22, x23, ()), ((), ()), ()))) else none
theorem runuTopicsZ (a0 : Int) (a1 : Int) : Io.run tt hduTopicsZ dr lpuTopicsZ iouTopicsZ Go.Proofs.Tryz.f65 (((), (), ()), ((), a0, a1, ()), ((), ()), ()) = bodyuTopicsZ a0 a1 := by kernel_rfl
theorem okuTopicsZ : HcOk prog 65 (ioHd iouTopicsZ FuTopicsZ) := by
  refine fn_sound (n := 400) hm (cs := csuTopicsZ) (.cons (or_sound okdI32Z okdI32) .nil) (lp := lpuTopicsZ) (fn := Go.Proofs.Tryz.f65) (by kernel_rfl) (by kernel_rfl) (by kernel_rfl) iouTopicsZ (.step (h0 := loHd louTopicsZ_10 FuTopicsZ_10) (by kernel_rfl) (loop_sound (n := 400) hm (cs := csuTopicsZ) (.cons (or_sound okdI32Z okdI32) .nil) (lp := lpuTopicsZ) (fn := Go.Proofs.Tryz.f65) (.done (by kernel_rfl)) louTopicsZ_10 FuTopicsZ_10 ?_) (.done (by kernel_rfl))) FuTopicsZ ?_
  · rintro ⟨⟨(n : Int), (xs : List tTopic.den), (i : Int), ⟨⟩⟩, ⟨⟨(v : Int), (e : Int), ⟨⟩⟩, ⟨⟨⟩, ⟨⟩⟩⟩⟩ y hw hy
    obtain ⟨hg, hy⟩ := Tr.guard hy
    have hg : e ≠ 0 := of_decide_eq_true hg
    refine ⟨1, (sluTopicsZ_10 0 n xs i v e).trans ?_⟩
    unfold stepuTopicsZ_10
    rw [← hy]
    by_cases h : i < n
    · refine (bif_true (by simpa using h) _ _).trans ?_
      exact bif_false (by simpa using hg) _ _
    · exact bif_false (by simpa using h) _ _
  · rintro ⟨⟨⟨⟩, ⟨⟩, ⟨⟩⟩, ⟨⟨⟩, (v : Int), (e : Int), ⟨⟩⟩, ⟨⟨⟩, ⟨⟩⟩, ⟨⟩⟩ out hw ho
    obtain ⟨hg, ho⟩ := Tr.guard ho
    have hg : e ≠ 0 := of_decide_eq_true hg
    cases ho
    refine (runuTopicsZ v e).trans ?_
    unfold bodyuTopicsZ
    have e1 : FuTopicsZ_10 ((0, ([], (0, ()))), ((v, (e, ())), ((), ()))) = .ite true (.ret (.ret ((), ((([] : List tTopic.den), ()), ((v, (e, ())), ((), ())))))) .no := congrArg (fun c => Tr.ite c _ _) (decide_eq_true hg)
    refine (bif_true (by simpa using hg) _ _).trans ?_
    refine (bif_true (by simpa using hg) _ _).trans ?_
    rw [e1]
    rfl
def newBad (args : List V) (A : AS) : Bool := match args with
  | [.one (.int _ v), .one (.lst _ _ xs _)] => !(decide (0 ≤ v) && (decide (v ≤ 3) && decide ((xs.length : Int) ≤ 130048)))
  | _ => false
def spZReq : tReq.den := ((false, (([] : List Int), ())), (0, (0, (([] : List tTopic.den), ()))))
def spDTxn (v : Int) (b : List Int) (s : DeS) : tNameT.den × DeS := if s.1 = 0 ∧ 3 ≤ v ∧ v ≤ 3 then spDName b s else ((false, (([] : List Int), ())), s)
def spDReqB (v : Int) (b : List Int) : tReq.den × DeS :=
  (((spDTxn v b (0, 0)).1, ((spDn .i16 2 b (spDTxn v b (0, 0)).2).1, ((spDn .i32 4 b (spDn .i16 2 b (spDTxn v b (0, 0)).2).2).1, ((spDTopics b (spDn .i32 4 b (spDn .i16 2 b (spDTxn v b (0, 0)).2).2).2).1, ())))), (spDTopics b (spDn .i32 4 b (spDn .i16 2 b (spDTxn v b (0, 0)).2).2).2).2)
def spDecReq (v : Int) (b : List Int) : tReq.den × Int := if 0 ≤ v ∧ v ≤ 3 ∧ (b.length : Int) ≤ 130048 then (if spDEnd b (spDReqB v b).2 = 0 then ((spDReqB v b).1, 0) else (spZReq, spDEnd b (spDReqB v b).2)) else (spZReq, spNewD v)
abbrev iouReq : Io := ⟨[dI, dL], [], [], [.dat tReq true false, dI], none⟩
def FuReq (d : iouReq.In) : Tr iouReq.Res := .ret (.ret (((spDecReq d.1.1 d.1.2.1).1, ((spDecReq d.1.1 d.1.2.1).2, ())), ()))
abbrev csuReq : List (Nat × Hc) := [(60, orHd newBad (ioHd iodNewZ FdNewZ) (ioHd iodNew FdNew)), (61, orHd deadB (ioHd iodHasZ FdHasZ) (ioHd iodHas FdHas)), (62, ioHd iodName FdName), (63, orHd deadB (ioHd iodI16Z FdI16Z) (ioHd iodI16 FdI16)), (64, orHd deadB (ioHd iodI32Z FdI32Z) (ioHd iodI32 FdI32)), (65, orHd deadB (ioHd iouTopicsZ FuTopicsZ) (ioHd iouTopics FuTopics)), (71, orHd deadB (ioHd iodEndZ FdEndZ) (ioHd iodEnd FdEnd))]
def hduReq : Hd := hdT csuReq
def lpuReq : Lp := lpT []
def bodyuReq (a0 : Int) (a1 : List Int) : Option iouReq.Res := bif !(decide (0 ≤ a0) && (decide (a0 ≤ 3) && decide ((↑a1.length : Int) ≤ 130048))) then bif decide (0 ≤ a0) && (decide (a0 ≤ 3) && decide ((↑a1.length : Int) ≤ 130048)) then none else bif decide (spNewD a0 ≠ 0) then bif decide (spNewD a0 ≠ 0) then bif decide (spNewD a0 ≠ 0) then bif decide (spNewD a0 ≠ 0) then bif decide (spNewD a0 ≠ 0) then bif spNewD a0 != 0 then some (Out.ret ((((false, List.map (fun (c : UInt8) => (↑c.toNat : Int)) [], ()), 0, 0, [], ()), spNewD a0, ()), ())) else some (Out.ret ((((false, List.map (fun (c : UInt8) => (↑c.toNat : Int)) [], ()), 0, 0, [], ()), 0, ()), ())) else none else none else none else none else none else bif decide (0 ≤ a0) && (decide (a0 ≤ 3) && decide ((↑a1.length : Int) ≤ 130048)) then bif spDHas a0 3 3 0 then bif spDok a1 0 then bif spDok a1 (spDName a1 (0, 0)).snd.snd then bif spDok a1 (spDn IntKind.i16 2 a1 (spDName a1 (0, 0)).snd).snd.snd then bif spDok a1 (spDn IntKind.i32 4 a1 (spDn IntKind.i16 2 a1 (spDName a1 (0, 0)).snd).snd).snd.snd then bif spDEnd a1 (spDTopics a1 (spDn IntKind.i32 4 a1 (spDn IntKind.i16 2 a1 (spDName a1 (0, 0)).snd).snd).snd).snd != 0 then some (Out.ret ((((false, List.map (fun (c : UInt8) => (↑c.toNat : Int)) [], ()), 0, 0, [], ()), spDEnd a1 (spDTopics a1 (spDn IntKind.i32 4 a1 (spDn IntKind.i16 2 a1 (spDName a1 (0, 0)).snd).snd).snd).snd, ()), ())) else some (Out.ret (((((spDName a1 (0, 0)).fst.fst, (spDName a1 (0, 0)).fst.snd.fst, ()), (spDn IntKind.i16 2 a1 (spDName a1 (0, 0)).snd).fst, (spDn IntKind.i32 4 a1 (spDn IntKind.i16 2 a1 (spDName a1 (0, 0)).snd).snd).fst, (spDTopics a1 (spDn IntKind.i32 4 a1 (spDn IntKind.i16 2 a1 (spDName a1 (0, 0)).snd).snd).snd).fst, ()), 0, ()), ())) else none else none else none else none else bif spDok a1 0 then bif spDok a1 (spRd a1 0 2).snd.fst then bif spDok a1 (spDn IntKind.i32 4 a1 ((spRd a1 0 2).snd.snd, (spRd a1 0 2).snd.fst)).snd.snd then bif spDEnd a1 (spDTopics a1 (spDn IntKind.i32 4 a1 ((spRd a1 0 2).snd.snd, (spRd a1 0 2).snd.fst)).snd).snd != 0 then some (Out.ret ((((false, List.map (fun (c : UInt8) => (↑c.toNat : Int)) [], ()), 0, 0, [], ()), spDEnd a1 (spDTopics a1 (spDn IntKind.i32 4 a1 ((spRd a1 0 2).snd.snd, (spRd a1 0 2).snd.fst)).snd).snd, ()), ())) else some (Out.ret ((((false, List.map (fun (c : UInt8) => (↑c.toNat : Int)) [], ()), IntKind.i16.wrap (spRd a1 0 2).fst, (spDn IntKind.i32 4 a1 ((spRd a1 0 2).snd.snd, (spRd a1 0 2).snd.fst)).fst, (spDTopics a1 (spDn IntKind.i32 4 a1 ((spRd a1 0 2).snd.snd, (spRd a1 0 2).snd.fst)).snd).fst, ()), 0, ()), ())) else none else none else none else none
theorem runuReq (a0 : Int) (a1 : List Int) : Io.run tt hduReq dr lpuReq iouReq Go.Proofs.Tryz.f20 ((a0, a1, ()), ()) = bodyuReq a0 a1 := by kernel_rfl
theorem okuReq : HcOk prog 20 (ioHd iouReq FuReq) := by
  refine fn_sound (n := 400) hm (cs := csuReq) (.cons (or_sound okdNewZ okdNew) (.cons (or_sound okdHasZ okdHas) (.cons okdName (.cons (or_sound okdI16Z okdI16) (.cons (or_sound okdI32Z okdI32) (.cons (or_sound okuTopicsZ okuTopics) (.cons (or_sound okdEndZ okdEnd) .nil))))))) (lp := lpuReq) (fn := Go.Proofs.Tryz.f20) (by kernel_rfl) (by kernel_rfl) (by kernel_rfl) iouReq (.done (by kernel_rfl)) FuReq ?_
  rintro ⟨⟨(v : Int), (b : List Int), ⟨⟩⟩, ⟨⟩⟩ out hw ho
  cases ho
  refine (runuReq v b).trans ?_
  unfold bodyuReq
  show _ = some (Out.ret (((spDecReq v b).1, ((spDecReq v b).2, ())), ()))
  by_cases h : 0 ≤ v ∧ v ≤ 3 ∧ (b.length : Int) ≤ 130048
  · have hc : (decide (0 ≤ v) && (decide (v ≤ 3) && decide ((b.length : Int) ≤ 130048))) = true := by simpa using h
    refine (bif_false (by rw [hc]; rfl) _ _).trans ?_
    refine (bif_true hc _ _).trans ?_
    have hg : spDok b 0 = true := by simp [spDok]; omega
    unfold spDecReq spDReqB
    rw [if_pos h]
    by_cases h3 : v = 3
    · have ht : spDTxn v b (0, 0) = spDName b (0, 0) := by unfold spDTxn; rw [if_pos ⟨rfl, by omega, by omega⟩]
      rw [ht]
      have g1 := spDName_ok (s := (0, 0)) hg
      have g2 := spDn_ok .i16 2 g1
      have g3 := spDn_ok .i32 4 g2
      refine (bif_true (by unfold spDHas; rw [if_pos ⟨rfl, by omega, by omega⟩]) _ _).trans ?_
      refine (bif_true hg _ _).trans ?_
      refine (bif_true g1 _ _).trans ?_
      refine (bif_true g2 _ _).trans ?_
      refine (bif_true g3 _ _).trans ?_
      by_cases hE : spDEnd b (spDTopics b (spDn .i32 4 b (spDn .i16 2 b (spDName b (0, 0)).2).2).2).2 = 0
      · rw [if_pos hE]
        exact bif_false (by simpa using hE) _ _
      · rw [if_neg hE]
        exact bif_true (by simpa using hE) _ _
    · have ht : spDTxn v b (0, 0) = ((false, (([] : List Int), ())), (0, 0)) := by unfold spDTxn; rw [if_neg (by omega)]
      have h16 : spDn .i16 2 b (0, 0) = (IntKind.i16.wrap (spRd b 0 2).1, ((spRd b 0 2).2.2, (spRd b 0 2).2.1)) := if_pos rfl
      rw [ht]
      show _ = some (Out.ret (((if spDEnd b (spDTopics b (spDn .i32 4 b (spDn .i16 2 b (0, 0)).2).2).2 = 0 then _ else _ : tReq.den × Int).1, _), ()))
      have g2 := spDn_ok .i16 2 (s := (0, 0)) hg
      have g3 := spDn_ok .i32 4 g2
      rw [h16] at g2 g3 ⊢
      refine (bif_false (by unfold spDHas; rw [if_neg (by omega)]) _ _).trans ?_
      refine (bif_true hg _ _).trans ?_
      refine (bif_true g2 _ _).trans ?_
      refine (bif_true g3 _ _).trans ?_
      by_cases hE : spDEnd b (spDTopics b (spDn .i32 4 b ((spRd b 0 2).2.2, (spRd b 0 2).2.1)).2).2 = 0
      · rw [if_pos hE]
        exact bif_false (by simpa using hE) _ _
      · rw [if_neg hE]
        exact bif_true (by simpa using hE) _ _
  · have hc : (decide (0 ≤ v) && (decide (v ≤ 3) && decide ((b.length : Int) ≤ 130048))) = false := by
      rw [Bool.eq_false_iff]
      intro h'
      simp only [Bool.and_eq_true, decide_eq_true_eq] at h'
      exact h h'
    have hn : spNewD v ≠ 0 := by unfold spNewD; split <;> decide
    unfold spDecReq
    rw [if_neg h]
    refine (bif_true (by rw [hc]; rfl) _ _).trans ?_
    refine (bif_false hc _ _).trans ?_
    refine (bif_true (decide_eq_true hn) _ _).trans ?_
    refine (bif_true (decide_eq_true hn) _ _).trans ?_
    refine (bif_true (decide_eq_true hn) _ _).trans ?_
    refine (bif_true (decide_eq_true hn) _ _).trans ?_
    refine (bif_true (decide_eq_true hn) _ _).trans ?_
    exact bif_true (by simpa using hn) _ _
end
end Go.Proofs.YtmlgepgcofmpeaaGreat.Sym
namespace Go.Proofs.YtmlgepgcofmpeaaGreat.Sym
open Go
set_option linter.unusedSimpArgs false
set_option linter.unusedVariables false
noncomputable section
abbrev tFl : Ty := .prod .str (.prod (.int .i64) (.prod (.int .i64) (.prod (.int .i64) .unit)))
abbrev tFld : Ty := .tree tFl 159
abbrev dFld : Sh := .dat tFld true false
abbrev tFlds : Ty := .sl 159 tFld
abbrev dFlds : Sh := .dat tFlds false false
abbrev dFldsO : Sh := .dat tFlds false true
abbrev Fd : Type := Tre tFl.den
abbrev dNodes : Sh := .dat tNodes false false
abbrev iotText : Io := ⟨[dS], [], [], [dNode], none⟩
def FtText (d : iotText.In) : Tr iotText.Res := .ret (.ret ((.mk (5, (0, (false, (d.1.1, ())))) [], ()), ()))
abbrev cstText : List (Nat × Hc) := []
def hdtText : Hd := hdT cstText
def lptText : Lp := lpT []
def bodytText (a0 : List Int) : Option iotText.Res := some (Out.ret ((Tre.mk (5, 0, false, a0, ()) [], ()), ()))
theorem runtText (a0 : List Int) : Io.run tt hdtText dr lptText iotText Go.Proofs.Tryz.f94 ((a0, ()), ()) = bodytText a0 := by kernel_rfl
theorem oktText : HcOk prog 94 (ioHd iotText FtText) := by
  refine fn_sound (n := 400) hm (cs := cstText) HcsOk.nil (lp := lptText) (fn := Go.Proofs.Tryz.f94) (by kernel_rfl) (by kernel_rfl) (by kernel_rfl) iotText (.done (by kernel_rfl)) FtText ?_
  rintro ⟨⟨(s : List Int), ⟨⟩⟩, ⟨⟩⟩ out hw ho
  cases ho
  exact runtText s
abbrev iotNText : Io := ⟨[dNameT], [], [], [dNode], none⟩
def FtNText (d : iotNText.In) : Tr iotNText.Res := .ret (.ret ((.mk (6, (0, (d.1.1.1, (d.1.1.2.1, ())))) [], ()), ()))
abbrev cstNText : List (Nat × Hc) := []
def hdtNText : Hd := hdT cstNText
def lptNText : Lp := lpT []
def bodytNText (a0 : Bool) (a1 : List Int) : Option iotNText.Res := some (Out.ret ((Tre.mk (6, 0, a0, a1, ()) [], ()), ()))
theorem runtNText (a0 : Bool) (a1 : List Int) : Io.run tt hdtNText dr lptNText iotNText Go.Proofs.Tryz.f96 (((a0, a1, ()), ()), ()) = bodytNText a0 a1 := by kernel_rfl
theorem oktNText : HcOk prog 96 (ioHd iotNText FtNText) := by
  refine fn_sound (n := 400) hm (cs := cstNText) HcsOk.nil (lp := lptNText) (fn := Go.Proofs.Tryz.f96) (by kernel_rfl) (by kernel_rfl) (by kernel_rfl) iotNText (.done (by kernel_rfl)) FtNText ?_
  rintro ⟨⟨⟨(z : Bool), (s : List Int), ⟨⟩⟩, ⟨⟩⟩, ⟨⟩⟩ out hw ho
  cases ho
  exact runtNText z s
abbrev iotNBytes : Io := ⟨[dBlobT], [], [], [dNode], none⟩
def FtNBytes (d : iotNBytes.In) : Tr iotNBytes.Res := .ret (.ret ((.mk (8, (0, (d.1.1.1, (d.1.1.2.1, ())))) [], ()), ()))
abbrev cstNBytes : List (Nat × Hc) := []
def hdtNBytes : Hd := hdT cstNBytes
def lptNBytes : Lp := lpT []
def bodytNBytes (a0 : Bool) (a1 : List Int) : Option iotNBytes.Res := some (Out.ret ((Tre.mk (8, 0, a0, a1, ()) [], ()), ()))
theorem runtNBytes (a0 : Bool) (a1 : List Int) : Io.run tt hdtNBytes dr lptNBytes iotNBytes Go.Proofs.Tryz.f93 (((a0, a1, ()), ()), ()) = bodytNBytes a0 a1 := by kernel_rfl
theorem oktNBytes : HcOk prog 93 (ioHd iotNBytes FtNBytes) := by
  refine fn_sound (n := 400) hm (cs := cstNBytes) HcsOk.nil (lp := lptNBytes) (fn := Go.Proofs.Tryz.f93) (by kernel_rfl) (by kernel_rfl) (by kernel_rfl) iotNBytes (.done (by kernel_rfl)) FtNBytes ?_
  rintro ⟨⟨⟨(z : Bool), (s : List Int), ⟨⟩⟩, ⟨⟩⟩, ⟨⟩⟩ out hw ho
  cases ho
  exact runtNBytes z s
abbrev iotRows : Io := ⟨[dNodes], [], [], [dNode], none⟩
def FtRows (d : iotRows.In) : Tr iotRows.Res := .ret (.ret ((.mk (9, (0, (false, (([] : List Int), ())))) d.1.1, ()), ()))
abbrev cstRows : List (Nat × Hc) := []
def hdtRows : Hd := hdT cstRows
def lptRows : Lp := lpT []
def bodytRows (a0 : List tNode.den) : Option iotRows.Res := some (Out.ret ((Tre.mk (9, 0, false, [], ()) a0, ()), ()))
theorem runtRows (a0 : List tNode.den) : Io.run tt hdtRows dr lptRows iotRows Go.Proofs.Tryz.f95 ((a0, ()), ()) = bodytRows a0 := by kernel_rfl
theorem oktRows : HcOk prog 95 (ioHd iotRows FtRows) := by
  refine fn_sound (n := 400) hm (cs := cstRows) HcsOk.nil (lp := lptRows) (fn := Go.Proofs.Tryz.f95) (by kernel_rfl) (by kernel_rfl) (by kernel_rfl) iotRows (.done (by kernel_rfl)) FtRows ?_
  rintro ⟨⟨l, ⟨⟩⟩, ⟨⟩⟩ out hw ho
  cases ho
  exact runtRows l
abbrev iotNameOf : Io := ⟨[dNode], [], [], [dNameT], none⟩
def FtNameOf (d : iotNameOf.In) : Tr iotNameOf.Res := .ret (.ret (((d.1.1.lab.2.2.1, (d.1.1.lab.2.2.2.1, ())), ()), ()))
abbrev cstNameOf : List (Nat × Hc) := []
def hdtNameOf : Hd := hdT cstNameOf
def lptNameOf : Lp := lpT []
def bodytNameOf (a0 : Tre tLab.den) : Option iotNameOf.Res := some (Out.ret ((a0.1.snd.snd, ()), ()))
theorem runtNameOf (a0 : Tre tLab.den) : Io.run tt hdtNameOf dr lptNameOf iotNameOf Go.Proofs.Tryz.f88 ((a0, ()), ()) = bodytNameOf a0 := by kernel_rfl
theorem oktNameOf : HcOk prog 88 (ioHd iotNameOf FtNameOf) := by
  refine fn_sound (n := 400) hm (cs := cstNameOf) HcsOk.nil (lp := lptNameOf) (fn := Go.Proofs.Tryz.f88) (by kernel_rfl) (by kernel_rfl) (by kernel_rfl) iotNameOf (.done (by kernel_rfl)) FtNameOf ?_
  rintro ⟨⟨(n : Nd), ⟨⟩⟩, ⟨⟩⟩ out hw ho
  cases ho
  exact runtNameOf n
abbrev iotBlobOf : Io := ⟨[dNode], [], [], [dBlobT], none⟩
def FtBlobOf (d : iotBlobOf.In) : Tr iotBlobOf.Res := .ite (decide (d.1.1.lab.2.2.2.1.length ≤ 4294967296)) (.ret (.ret (((d.1.1.lab.2.2.1, (d.1.1.lab.2.2.2.1, ())), ()), ()))) .no
abbrev cstBlobOf : List (Nat × Hc) := [(28, ioHd ioCopy FCopy)]
def hdtBlobOf : Hd := hdT cstBlobOf
def lptBlobOf : Lp := lpT []
def bodytBlobOf (a0 : Tre tLab.den) : Option iotBlobOf.Res := bif decide (List.length a0.1.snd.snd.snd.fst ≤ 4294967296) then some (Out.ret ((a0.1.snd.snd, ()), ())) else none
theorem runtBlobOf (a0 : Tre tLab.den) : Io.run tt hdtBlobOf dr lptBlobOf iotBlobOf Go.Proofs.Tryz.f90 ((a0, ()), ()) = bodytBlobOf a0 := by kernel_rfl
theorem oktBlobOf : HcOk prog 90 (ioHd iotBlobOf FtBlobOf) := by
  refine fn_sound (n := 400) hm (cs := cstBlobOf) (.cons okCopy .nil) (lp := lptBlobOf) (fn := Go.Proofs.Tryz.f90) (by kernel_rfl) (by kernel_rfl) (by kernel_rfl) iotBlobOf (.done (by kernel_rfl)) FtBlobOf ?_
  rintro ⟨⟨(n : Nd), ⟨⟩⟩, ⟨⟩⟩ out hw ho
  obtain ⟨hg, ho⟩ := Tr.guard ho
  have hg : n.lab.2.2.2.1.length ≤ 4294967296 := of_decide_eq_true hg
  cases ho
  refine (runtBlobOf n).trans ?_
  unfold bodytBlobOf
  exact bif_true (by simpa using hg) _ _
abbrev iotZero : Io := ⟨[dNode], [], [], [dB], none⟩
def spZeroN (n : Nd) : Bool := if n.lab.2.1 = 0 then (if n.lab.2.2.1 = false then (if n.lab.2.2.2.1.length = 0 then (if n.kids.length = 0 then true else false) else false) else false) else false
def FtZero (d : iotZero.In) : Tr iotZero.Res := .ret (.ret ((spZeroN d.1.1, ()), ()))
abbrev cstZero : List (Nat × Hc) := []
def hdtZero : Hd := hdT cstZero
def lptZero : Lp := lpT []
def bodytZero (a0 : Tre tLab.den) : Option iotZero.Res := bif a0.1.snd.fst == 0 then bif !a0.1.snd.snd.fst then bif (↑(List.length a0.1.snd.snd.snd.fst) : Int) == 0 then some (Out.ret (((↑a0.2.length : Int) == 0, ()), ())) else some (Out.ret ((false, ()), ())) else some (Out.ret ((false, ()), ())) else some (Out.ret ((false, ()), ()))
theorem runtZero (a0 : Tre tLab.den) : Io.run tt hdtZero dr lptZero iotZero Go.Proofs.Tryz.f128 ((a0, ()), ()) = bodytZero a0 := by kernel_rfl
theorem oktZero : HcOk prog 128 (ioHd iotZero FtZero) := by
  refine fn_sound (n := 400) hm (cs := cstZero) HcsOk.nil (lp := lptZero) (fn := Go.Proofs.Tryz.f128) (by kernel_rfl) (by kernel_rfl) (by kernel_rfl) iotZero (.done (by kernel_rfl)) FtZero ?_
  rintro ⟨⟨(n : Nd), ⟨⟩⟩, ⟨⟩⟩ out hw ho
  cases ho
  refine (runtZero n).trans ?_
  unfold bodytZero
  show _ = some (Out.ret ((spZeroN n, ()), ()))
  unfold spZeroN
  simp only [cond_eq_ite]
  repeat' split
  all_goals simp_all
abbrev iotHere1 : Io := ⟨[dFld, dI], [], [], [dB], none⟩
def spHas (f : Fd) (v : Int) : Bool := if f.lab.2.2.1 ≤ v ∧ v ≤ f.lab.2.2.2.1 then true else false
def FtHere1 (d : iotHere1.In) : Tr iotHere1.Res := .ret (.ret ((spHas d.1.1 d.1.2.1, ()), ()))
abbrev cstHere1 : List (Nat × Hc) := []
def hdtHere1 : Hd := hdT cstHere1
def lptHere1 : Lp := lpT []
def bodytHere1 (a0 : Tre tFl.den) (a1 : Int) : Option iotHere1.Res := bif decide (a0.1.snd.snd.fst ≤ a1) then some (Out.ret ((decide (a1 ≤ a0.1.snd.snd.snd.fst), ()), ())) else some (Out.ret ((false, ()), ()))
theorem runtHere1 (a0 : Tre tFl.den) (a1 : Int) : Io.run tt hdtHere1 dr lptHere1 iotHere1 Go.Proofs.Tryz.f127 ((a0, a1, ()), ()) = bodytHere1 a0 a1 := by kernel_rfl
theorem oktHere1 : HcOk prog 127 (ioHd iotHere1 FtHere1) := by
  refine fn_sound (n := 400) hm (cs := cstHere1) HcsOk.nil (lp := lptHere1) (fn := Go.Proofs.Tryz.f127) (by kernel_rfl) (by kernel_rfl) (by kernel_rfl) iotHere1 (.done (by kernel_rfl)) FtHere1 ?_
  rintro ⟨⟨(f : Fd), (v : Int), ⟨⟩⟩, ⟨⟩⟩ out hw ho
  cases ho
  refine (runtHere1 f v).trans ?_
  unfold bodytHere1
  show _ = some (Out.ret ((spHas f v, ()), ()))
  unfold spHas
  simp only [cond_eq_ite]
  repeat' split
  all_goals simp_all
abbrev iotWidth : Io := ⟨[dI], [], [], [dI], none⟩
def spWid (k : Int) : Int := if k = 1 then 1 else if k = 2 ∨ k = 5 ∨ k = 6 then 2 else if k = 4 then 8 else 4
def FtWidth (d : iotWidth.In) : Tr iotWidth.Res := .ret (.ret ((spWid d.1.1, ()), ()))
abbrev cstWidth : List (Nat × Hc) := []
def hdtWidth : Hd := hdT cstWidth
def lptWidth : Lp := lpT []
def bodytWidth (a0 : Int) : Option iotWidth.Res := bif a0 == 1 then some (Out.ret ((1, ()), ())) else bif a0 == 2 then bif a0 == 2 then some (Out.ret ((2, ()), ())) else bif a0 == 4 then some (Out.ret ((8, ()), ())) else some (Out.ret ((4, ()), ())) else bif a0 == 5 then bif a0 == 5 then some (Out.ret ((2, ()), ())) else bif a0 == 4 then some (Out.ret ((8, ()), ())) else some (Out.ret ((4, ()), ())) else bif a0 == 6 then some (Out.ret ((2, ()), ())) else bif a0 == 4 then some (Out.ret ((8, ()), ())) else some (Out.ret ((4, ()), ()))
theorem runtWidth (a0 : Int) : Io.run tt hdtWidth dr lptWidth iotWidth Go.Proofs.Tryz.f154 ((a0, ()), ()) = bodytWidth a0 := by kernel_rfl
theorem oktWidth : HcOk prog 154 (ioHd iotWidth FtWidth) := by
  refine fn_sound (n := 400) hm (cs := cstWidth) HcsOk.nil (lp := lptWidth) (fn := Go.Proofs.Tryz.f154) (by kernel_rfl) (by kernel_rfl) (by kernel_rfl) iotWidth (.done (by kernel_rfl)) FtWidth ?_
  rintro ⟨⟨(k : Int), ⟨⟩⟩, ⟨⟩⟩ out hw ho
  cases ho
  refine (runtWidth k).trans ?_
  unfold bodytWidth
  show _ = some (Out.ret ((spWid k, ()), ()))
  unfold spWid
  simp only [cond_eq_ite]
  repeat' split
  all_goals simp_all
abbrev iotShape : Io := ⟨[dFld, dNode], [], [], [dB], none⟩
def spShN (k : Int) (n : Nd) : Bool :=
  if n.lab.1 ≠ k then false else if 4 < k ∧ n.lab.2.1 ≠ 0 then false else if (k < 5 ∨ 8 < k) ∧ 0 < n.lab.2.2.2.1.length then false else if k ≠ 6 ∧ k ≠ 8 ∧ n.lab.2.2.1 = true then false else if 8 < k ∨ n.kids.length = 0 then true else false
def FtShape (d : iotShape.In) : Tr iotShape.Res := .ret (.ret ((spShN d.1.1.lab.2.1 d.1.2.1, ()), ()))
abbrev cstShape : List (Nat × Hc) := []
def hdtShape : Hd := hdT cstShape
def lptShape : Lp := lpT []
def bodytShape (a0 : Tre tFl.den) (a1 : Tre tLab.den) : Option iotShape.Res := bif a1.1.fst != a0.1.snd.fst then some (Out.ret ((false, ()), ())) else bif decide (4 < a0.1.snd.fst) then bif a1.1.snd.fst != 0 then some (Out.ret ((false, ()), ())) else bif decide (a0.1.snd.fst < 5) then bif decide (0 < (↑(List.length a1.1.snd.snd.snd.fst) : Int)) then some (Out.ret ((false, ()), ())) else bif a0.1.snd.fst != 6 then bif a0.1.snd.fst != 8 then bif a1.1.snd.snd.fst then some (Out.ret ((false, ()), ())) else bif decide (8 < a0.1.snd.fst) then some (Out.ret ((true, ()), ())) else some (Out.ret (((↑a1.2.length : Int) == 0, ()), ())) else bif decide (8 < a0.1.snd.fst) then some (Out.ret ((true, ()), ())) else some (Out.ret (((↑a1.2.length : Int) == 0, ()), ())) else bif decide (8 < a0.1.snd.fst) then some (Out.ret ((true, ()), ())) else some (Out.ret (((↑a1.2.length : Int) == 0, ()), ())) else bif decide (8 < a0.1.snd.fst) then bif decide (0 < (↑(List.length a1.1.snd.snd.snd.fst) : Int)) then some (Out.ret ((false, ()), ())) else bif a0.1.snd.fst != 6 then bif a0.1.snd.fst != 8 then bif a1.1.snd.snd.fst then some (Out.ret ((false, ()), ())) else bif decide (8 < a0.1.snd.fst) then some (Out.ret ((true, ()), ())) else some (Out.ret (((↑a1.2.length : Int) == 0, ()), ())) else bif decide (8 < a0.1.snd.fst) then some (Out.ret ((true, ()), ())) else some (Out.ret (((↑a1.2.length : Int) == 0, ()), ())) else bif decide (8 < a0.1.snd.fst) then some (Out.ret ((true, ()), ())) else some (Out.ret (((↑a1.2.length : Int) == 0, ()), ())) else bif a0.1.snd.fst != 6 then bif a0.1.snd.fst != 8 then bif a1.1.snd.snd.fst then some (Out.ret ((false, ()), ())) else bif decide (8 < a0.1.snd.fst) then some (Out.ret ((true, ()), ())) else some (Out.ret (((↑a1.2.length : Int) == 0, ()), ())) else bif decide (8 < a0.1.snd.fst) then some (Out.ret ((true, ()), ())) else some (Out.ret (((↑a1.2.length : Int) == 0, ()), ())) else bif decide (8 < a0.1.snd.fst) then some (Out.ret ((true, ()), ())) else some (Out.ret (((↑a1.2.length : Int) == 0, ()), ())) else bif decide (a0.1.snd.fst < 5) then bif decide (0 < (↑(List.length a1.1.snd.snd.snd.fst) : Int)) then some (Out.ret ((false, ()), ())) else bif a0.1.snd.fst != 6 then bif a0.1.snd.fst != 8 then bif a1.1.snd.snd.fst then some (Out.ret ((false, ()), ())) else bif decide (8 < a0.1.snd.fst) then some (Out.ret ((true, ()), ())) else some (Out.ret (((↑a1.2.length : Int) == 0, ()), ())) else bif decide (8 < a0.1.snd.fst) then some (Out.ret ((true, ()), ())) else some (Out.ret (((↑a1.2.length : Int) == 0, ()), ())) else bif decide (8 < a0.1.snd.fst) then some (Out.ret ((true, ()), ())) else some (Out.ret (((↑a1.2.length : Int) == 0, ()), ())) else bif decide (8 < a0.1.snd.fst) then bif decide (0 < (↑(List.length a1.1.snd.snd.snd.fst) : Int)) then some (Out.ret ((false, ()), ())) else bif a0.1.snd.fst != 6 then bif a0.1.snd.fst != 8 then bif a1.1.snd.snd.fst then some (Out.ret ((false, ()), ())) else bif decide (8 < a0.1.snd.fst) then some (Out.ret ((true, ()), ())) else some (Out.ret (((↑a1.2.length : Int) == 0, ()), ())) else bif decide (8 < a0.1.snd.fst) then some (Out.ret ((true, ()), ())) else some (Out.ret (((↑a1.2.length : Int) == 0, ()), ())) else bif decide (8 < a0.1.snd.fst) then some (Out.ret ((true, ()), ())) else some (Out.ret (((↑a1.2.length : Int) == 0, ()), ())) else bif a0.1.snd.fst != 6 then bif a0.1.snd.fst != 8 then bif a1.1.snd.snd.fst then some (Out.ret ((false, ()), ())) else bif decide (8 < a0.1.snd.fst) then some (Out.ret ((true, ()), ())) else some (Out.ret (((↑a1.2.length : Int) == 0, ()), ())) else bif decide (8 < a0.1.snd.fst) then some (Out.ret ((true, ()), ())) else some (Out.ret (((↑a1.2.length : Int) == 0, ()), ())) else bif decide (8 < a0.1.snd.fst) then some (Out.ret ((true, ()), ())) else some (Out.ret (((↑a1.2.length : Int) == 0, ()), ()))
theorem runtShape (a0 : Tre tFl.den) (a1 : Tre tLab.den) : Io.run tt hdtShape dr lptShape iotShape Go.Proofs.Tryz.f130 ((a0, a1, ()), ()) = bodytShape a0 a1 := by kernel_rfl
theorem oktShape : HcOk prog 130 (ioHd iotShape FtShape) := by
  refine fn_sound (n := 400) hm (cs := cstShape) HcsOk.nil (lp := lptShape) (fn := Go.Proofs.Tryz.f130) (by kernel_rfl) (by kernel_rfl) (by kernel_rfl) iotShape (.done (by kernel_rfl)) FtShape ?_
  rintro ⟨⟨(f : Fd), (n : Nd), ⟨⟩⟩, ⟨⟩⟩ out hw ho
  cases ho
  refine (runtShape f n).trans ?_
  unfold bodytShape
  show _ = some (Out.ret ((spShN f.lab.2.1 n, ()), ()))
  unfold spShN
  obtain ⟨⟨nm, k, lo, hi, ⟨⟩⟩, e⟩ := f
  obtain ⟨⟨k', m, z, d, ⟨⟩⟩, l⟩ := n
  have hc : ∀ (c a b : Bool), (bif c then (some (Out.ret ((a, ()), ())) : Option iotShape.Res) else some (Out.ret ((b, ()), ()))) = some (Out.ret ((bif c then a else b, ()), ())) := by intro c a b; cases c <;> rfl
  simp only [hc]
  refine congrArg (fun b : Bool => some (Out.ret ((b, ()), ()))) ?_
  simp only [cond_eq_ite]
  grind
abbrev iotHere : Io := ⟨[dFlds, dI], [], [], [dFldsO], none⟩
def spHere (l : List Fd) (v : Int) : List Fd := l.filter fun f => spHas f v
def FtHere (d : iotHere.In) : Tr iotHere.Res := .ite (decide (d.1.1.length ≤ 4294967296)) (.ret (.ret ((spHere d.1.1 d.1.2.1, ()), ()))) .no
abbrev cstHere : List (Nat × Hc) := [(127, ioHd iotHere1 FtHere1)]
def hdtHere : Hd := hdT cstHere
abbrev lotHere_4 : Lo := ⟨⟨[.one (.hol (.sl 159 ((Ty.str.prod ((Ty.int IntKind.i64).prod ((Ty.int IntKind.i64).prod ((Ty.int IntKind.i64).prod Ty.unit)))).tree 159))), .one (.hol (.int IntKind.i64)), .any, .any, .any, .one (.onl 159 ((Ty.str.prod ((Ty.int IntKind.i64).prod ((Ty.int IntKind.i64).prod ((Ty.int IntKind.i64).prod Ty.unit)))).tree 159) 11), .one (.hol (.int IntKind.i64)), .any, .any, .any, .any, .any, .any, .any, .any, .any, .any, .any, .any, .any, .any, .any, .any, .any, .any, .any, .any, .any], []⟩, [(.exit 0, ⟨[.any, .any, .any, .any, .any, .one (.onl 159 ((Ty.str.prod ((Ty.int IntKind.i64).prod ((Ty.int IntKind.i64).prod ((Ty.int IntKind.i64).prod Ty.unit)))).tree 159) 11), .any, .any, .any, .any, .any, .any, .any, .any, .any, .any, .any, .any, .any, .any, .any, .any, .any, .any, .any, .any, .any, .any], []⟩)]⟩
-- FtHere_4 : lotHere_4.st.den → Tr (DenX lotHere_4.xs) | ((h2, (h3, (h4, (h5, ())))), ())
def FtHere_4 (d : lotHere_4.st.den) : Tr (DenX lotHere_4.xs) :=
  .ite (decide (d.1.2.2.1.length = 0) && (decide (d.1.2.2.2.1 = 0) && decide (d.1.1.length ≤ 4294967296))) (.ret (.ret ((), ((spHere d.1.1 d.1.2.1, ()), ())))) .no
def lptHere : Lp := lpT [(4, loHd lotHere_4 FtHere_4)]
def steptHere_4 {R : Type} (h2 : List tFld.den) (h3 : Int) (h4 : List ((Ty.str.prod ((Ty.int IntKind.i64).prod ((Ty.int IntKind.i64).prod ((Ty.int IntKind.i64).prod Ty.unit)))).tree 159).den) (h5 : Int) (next : List tFld.den → Int → List ((Ty.str.prod ((Ty.int IntKind.i64).prod ((Ty.int IntKind.i64).prod ((Ty.int IntKind.i64).prod Ty.unit)))).tree 159).den → Int → Option R) (out : DenX lotHere_4.xs → Option R) : Option R := bif decide (h5 < (↑h2.length : Int)) then bif decide (0 ≤ h5) && decide (h5 < (↑h2.length : Int)) then bif spHas (Tre.mk (h2.getD h5.toNat (Tre.mk ([], 0, 0, 0, ()) [])).1 (h2.getD h5.toNat (Tre.mk ([], 0, 0, 0, ()) [])).2) h3 then bif decide (0 ≤ h5) && decide (h5 < (↑h2.length : Int)) then bif decide (h4.length + [Tre.mk (h2.getD h5.toNat (Tre.mk ([], 0, 0, 0, ()) [])).1 (h2.getD h5.toNat (Tre.mk ([], 0, 0, 0, ()) [])).2].length ≤ 4294967296) then next (h2) (h3) (h4 ++ [Tre.mk (h2.getD h5.toNat (Tre.mk ([], 0, 0, 0, ()) [])).1 (h2.getD h5.toNat (Tre.mk ([], 0, 0, 0, ()) [])).2]) (IntKind.i64.wrap (h5 + 1)) else none else none else next (h2) (h3) (h4) (IntKind.i64.wrap (h5 + 1)) else none else out (.ret ((), ((h4, ()), ())))
def ittHere_4 (n : Nat) (h2 : List tFld.den) (h3 : Int) (h4 : List ((Ty.str.prod ((Ty.int IntKind.i64).prod ((Ty.int IntKind.i64).prod ((Ty.int IntKind.i64).prod Ty.unit)))).tree 159).den) (h5 : Int) : Option (DenX lotHere_4.xs) := lpN tt hdtHere dr lptHere 0 Go.Proofs.Tryz.f144 (topL Go.Proofs.Tryz.f144 0) n (lotHere_4.st.mk' ((h2, (h3, (h4, (h5, ())))), ())) (decX lotHere_4.xs)
theorem sltHere_4 (n : Nat) (h2 : List tFld.den) (h3 : Int) (h4 : List ((Ty.str.prod ((Ty.int IntKind.i64).prod ((Ty.int IntKind.i64).prod ((Ty.int IntKind.i64).prod Ty.unit)))).tree 159).den) (h5 : Int) : ittHere_4 (n + 1) h2 h3 h4 h5 = steptHere_4 h2 h3 h4 h5 (ittHere_4 n) some := by kernel_rfl
theorem nd_eta (f : Nd) : Tre.mk f.lab f.kids = f := by cases f; rfl
theorem looptHere {l : List Fd} (v : Int) (hl : l.length ≤ 4294967296) : ∀ (k j : Nat) (o : List Fd), l.length < j + k → j ≤ l.length → o.length ≤ j →
    ittHere_4 k l v o j = some (.ret ((), ((o ++ spHere (l.drop j) v, ()), ()))) := by
  intro k
  induction k with
  | zero => intro j o h1 h2 h3; omega
  | succ k ih =>
    intro j o h1 h2 h3
    rw [sltHere_4]
    unfold steptHere_4
    by_cases hj : j < l.length
    · refine (bif_true (decide_eq_true (show (j : Int) < (l.length : Int) by omega)) _ _).trans ?_
      refine (bif_true (by simp; omega) _ _).trans ?_
      have hg : List.getD l ((j : Int)).toNat (Tre.mk (([] : List Int), (0 : Int), (0 : Int), (0 : Int), ()) ([] : List Fd)) = l[j] := by simp only [Int.toNat_natCast]; exact getD_lt hj
      simp only [hg]
      rw [wrap_i64 (n := (j : Int) + 1) (by omega) (by omega)]
      have hd : l.drop j = l[j] :: l.drop (j + 1) := List.drop_eq_getElem_cons hj
      generalize l[j] = x at hd ⊢
      obtain ⟨a, ks⟩ := x
      by_cases hh : spHas (Tre.mk a ks) v = true
      · refine (bif_true hh _ _).trans ?_
        refine (bif_true (by simp; omega) _ _).trans ?_
        refine (bif_true (decide_eq_true (show o.length + 1 ≤ 4294967296 by omega)) _ _).trans ?_
        refine (ih (j + 1) (o ++ [Tre.mk a ks]) (by omega) (by omega) (by simp; omega)).trans ?_
        rw [hd]
        simp [spHere, hh]
      · have hh : spHas (Tre.mk a ks) v = false := by simpa using hh
        refine (bif_false hh _ _).trans ?_
        refine (ih (j + 1) o (by omega) (by omega) (by omega)).trans ?_
        rw [hd]
        simp [spHere, hh]
    · refine (bif_false (decide_eq_false (show ¬ (j : Int) < (l.length : Int) by omega)) _ _).trans ?_
      rw [List.drop_of_length_le (by omega)]
      simp [spHere]
def bodytHere (a0 : List tFld.den) (a1 : Int) : Option iotHere.Res := (FtHere_4 ((a0, (a1, ([], (0, ())))), ())).run fun y => match y with | .ret ((), ((x15, ()), ())) => (some (Out.ret ((x15, ()), ())))
theorem runtHere (a0 : List tFld.den) (a1 : Int) : Io.run tt hdtHere dr lptHere iotHere Go.Proofs.Tryz.f144 ((a0, a1, ()), ()) = bodytHere a0 a1 := by kernel_rfl
theorem oktHere : HcOk prog 144 (ioHd iotHere FtHere) := by
  refine fn_sound (n := 400) hm (cs := cstHere) (.cons oktHere1 .nil) (lp := lptHere) (fn := Go.Proofs.Tryz.f144) (by kernel_rfl) (by kernel_rfl) (by kernel_rfl) iotHere (.step (h0 := loHd lotHere_4 FtHere_4) (by kernel_rfl) (loop_sound (n := 400) hm (cs := cstHere) (.cons oktHere1 .nil) (lp := lptHere) (fn := Go.Proofs.Tryz.f144) (.done (by kernel_rfl)) lotHere_4 FtHere_4 ?_) (.done (by kernel_rfl))) FtHere ?_
  · rintro ⟨⟨(l : List Fd), (v : Int), (o : List Fd), (i : Int), ⟨⟩⟩, ⟨⟩⟩ y hw hy
    obtain ⟨hg, hy⟩ := Tr.guard hy
    simp only [Bool.and_eq_true, decide_eq_true_eq] at hg
    obtain ⟨h1, h2, h3⟩ := hg
    have h1 : o = [] := List.eq_nil_of_length_eq_zero h1
    have h2 : i = 0 := h2
    have h3 : l.length ≤ 4294967296 := h3
    subst h1
    subst h2
    refine ⟨l.length + 1, (looptHere v h3 (l.length + 1) 0 [] (by omega) (by omega) (by simp)).trans ?_⟩
    rw [← hy]; rfl
  · rintro ⟨⟨(l : List Fd), (v : Int), ⟨⟩⟩, ⟨⟩⟩ out hw ho
    obtain ⟨hg, ho⟩ := Tr.guard ho
    have hg : l.length ≤ 4294967296 := of_decide_eq_true hg
    cases ho
    refine (runtHere l v).trans ?_
    unfold bodytHere
    have e : FtHere_4 ((l, (v, (([] : List Fd), (0, ())))), ()) = .ite true (.ret (.ret ((), ((spHere l v, ()), ())))) .no := congrArg (fun c => Tr.ite c _ _) (by simp [hg])
    rw [e]
    rfl
end
end Go.Proofs.YtmlgepgcofmpeaaGreat.Sym
namespace Go.Proofs.YtmlgepgcofmpeaaGreat.Sym
open Go
set_option linter.unusedSimpArgs false
set_option linter.unusedVariables false
structure FuT where
  n : Nat
@[irreducible] noncomputable def spFuel [i : Inhabited FuT] : Nat := i.default.n
mutual
def Tre.wt {α : Type} (f : α → Nat) : Tre α → Nat
  | .mk l ks => 1 + f l + Tre.wts f ks
def Tre.wts {α : Type} (f : α → Nat) : List (Tre α) → Nat
  | [] => 0
  | k :: ks => k.wt f + Tre.wts f ks
end
theorem Tre.wt_pos {α : Type} (f : α → Nat) (t : Tre α) : 1 ≤ t.wt f := by cases t; simp only [Tre.wt]; omega
theorem Tre.wts_len {α : Type} (f : α → Nat) : ∀ l : List (Tre α), l.length ≤ Tre.wts f l
  | [] => Nat.zero_le _
  | k :: ks => by
    have h1 := k.wt_pos f
    have h2 := Tre.wts_len f ks
    simp only [Tre.wts, List.length_cons]; omega
theorem Tre.wts_mem {α : Type} {f : α → Nat} {k : Tre α} : ∀ {l : List (Tre α)}, k ∈ l → k.wt f ≤ Tre.wts f l
  | k' :: ks, h => by
    simp only [Tre.wts]
    rcases List.mem_cons.1 h with rfl | h
    · omega
    · have := Tre.wts_mem (f := f) h; omega
theorem Tre.wt_eq {α : Type} (f : α → Nat) (t : Tre α) : t.wt f = 1 + f t.lab + Tre.wts f t.kids := by cases t; rfl
noncomputable section
@[irreducible] noncomputable def spWt (n : Nd) : Nat := n.wt fun l => l.2.2.2.1.length
@[irreducible] noncomputable def spWts (l : List Nd) : Nat := Tre.wts (fun l => l.2.2.2.1.length) l
theorem spWt_eq (n : Nd) : spWt n = 1 + n.lab.2.2.2.1.length + spWts n.kids := by unfold spWt spWts; exact Tre.wt_eq _ n
theorem spWt_mem {k : Nd} {l : List Nd} (h : k ∈ l) : spWt k ≤ spWts l := by unfold spWt spWts; exact Tre.wts_mem h
theorem spWts_len (l : List Nd) : l.length ≤ spWts l := by unfold spWts; exact Tre.wts_len _ l
open Classical in
def spEqN (a b : Nd) : Bool := if a = b then true else false
open Classical in
def spEqNs (a b : List Nd) : Bool := if a = b then true else false
theorem spEqN_iff {a b : Nd} : spEqN a b = true ↔ a = b := by unfold spEqN; split <;> simp_all
theorem spEqNs_iff {a b : List Nd} : spEqNs a b = true ↔ a = b := by unfold spEqNs; split <;> simp_all
theorem FuT.val (n : Nat) : @spFuel ⟨⟨n⟩⟩ = n := by unfold spFuel; rfl
theorem HcOk.none {f : Nat} {fn : Func} (hf : prog.funcs[f]? = some fn) (hname : (fn.name == "runtime.NumGoroutine") = false) (hbody : fn.body.isNone = false) (io : Io) (Fn : io.In → Tr io.Res) (hn : ∀ d out, (Fn d).val ≠ some out) : HcOk prog f (ioHd io Fn) :=
  io_soundG (ttOf_ok prog 400) hf hname io Fn (fun d out _ h => absurd h (hn d out)) hbody
theorem Tr.val_run {α R : Type} : ∀ {t : Tr α} {K : α → Option R} {a : α}, t.val = some a → t.run K = K a
  | .ret a, K, b, h => by simp only [Tr.val, Tr.run, Option.some.injEq] at h; subst h; rfl
  | .no, K, b, h => by cases h
  | .ite c t e, K, b, h => by
    cases c with
    | true => exact Tr.val_run (t := t) h
    | false => exact Tr.val_run (t := e) h
theorem HcOk.lim {f : Nat} {io : Io} {Fs : Nat → io.In → Tr io.Res} {Fn : io.In → Tr io.Res} (h : ∀ n, HcOk prog f (ioHd io (Fs n))) (hF : ∀ d, ∃ n, ∀ out, (Fn d).val = some out → (Fs n d).val = some out) : HcOk prog f (ioHd io Fn) := by
  intro R args id A K r F G ts cst w vals hid hc Rl hv
  unfold ioHd at hc
  cases h1 : mVs io.args args (List.replicate io.obs.length Option.none) with
  | none => rw [h1] at hc; cases hc
  | some p =>
    obtain ⟨a, β1⟩ := p
    rw [h1] at hc
    simp only at hc
    cases h2 : mOb A.ob io.obs 0 β1 with
    | none => rw [h2] at hc; cases hc
    | some q =>
      obtain ⟨o, β⟩ := q
      rw [h2] at hc
      simp only at hc
      obtain ⟨n, hn⟩ := hF (a, o)
      refine h n R args id A K r F G ts cst w vals hid ?_ Rl hv
      unfold ioHd
      rw [h1]
      simp only [h2]
      revert hc
      cases nodupB ((owVs (idTmp 0) io.args args 0 ++ owOb A.ob β (bnId io.obs.length 0) io.obs 0).map (·.2)) && (nodupB ((owVs (idTmp 0) io.args args 0 ++ owOb A.ob β (bnId io.obs.length 0) io.obs 0).map (·.1)) && io.ok) with
      | false => intro hc; cases hc
      | true =>
        intro hc
        obtain ⟨out, ho, hk⟩ := Tr.run_val hc
        exact (Tr.val_run (hn out ho)).trans hk
theorem spWt_pos (n : Nd) : 1 ≤ spWt n := by rw [spWt_eq]; omega
theorem spEqN_mk {a b c d : Int} {z z' : Bool} {x y : List Int} {l m : List Nd} : spEqN (.mk (a, (c, (z, (x, ())))) l) (.mk (b, (d, (z', (y, ())))) m) = true ↔ a = b ∧ c = d ∧ z = z' ∧ x = y ∧ l = m := by
  rw [spEqN_iff]
  constructor
  · intro h
    injection h with h1 h2
    injection h1 with h3 h4
    injection h4 with h5 h6
    injection h6 with h7 h8
    injection h8 with h9 h10
    exact ⟨h3, h5, h7, h9, h2⟩
  · rintro ⟨rfl, rfl, rfl, rfl, rfl⟩; rfl
abbrev iotAlike : Io := ⟨[dNode, dNode], [], [], [dB], none⟩
def FtAlikeN (n : Nat) (d : iotAlike.In) : Tr iotAlike.Res := .ite (decide (spWt d.1.1 < n)) (.ret (.ret ((spEqN d.1.1 d.1.2.1, ()), ()))) .no
def FtAlike (d : iotAlike.In) : Tr iotAlike.Res := .ret (.ret ((spEqN d.1.1 d.1.2.1, ()), ()))
section
variable [Inhabited FuT]
abbrev cstAlike : List (Nat × Hc) := [(31, ioHd ioSame FSame), (49, ioHd iotAlike (FtAlikeN spFuel))]
def hdtAlike : Hd := hdT cstAlike
abbrev lotAlike_5 : Lo := ⟨⟨[.any, .any, .one (.ptr 2 0), .one (.ptr 3 0), .any, .one (.hol (.int IntKind.i64)), .any, .any, .any, .any, .any, .any, .any, .any, .any, .any, .any, .any, .any, .any, .any, .any, .any, .any, .any, .any, .any, .any, .any, .any, .any, .any, .any, .any, .any, .any, .any, .any, .any, .any, .any, .any, .any, .any, .any, .any, .any, .any, .any, .any, .any, .any, .any, .any, .any, .any, .any, .any, .any, .any, .any], [none, none, some [.hol (.int IntKind.i64), .hol (.int IntKind.i64), .hol .bool, .hol (.sl 5 (Ty.int IntKind.u8)), .hol (.sl 68 tNode)], some [.hol (.int IntKind.i64), .hol (.int IntKind.i64), .hol .bool, .hol (.sl 5 (Ty.int IntKind.u8)), .hol (.sl 68 tNode)]]⟩, [(.ret, ⟨[.any, .any, .any, .any, .one (.hol .bool), .any, .any, .any, .any, .any, .any, .any, .any, .any, .any, .any, .any, .any, .any, .any, .any, .any, .any, .any, .any, .any, .any, .any, .any, .any, .any, .any, .any, .any, .any, .any, .any, .any, .any, .any, .any, .any, .any, .any, .any, .any, .any, .any, .any, .any, .any, .any, .any, .any, .any, .any, .any, .any, .any, .any, .any], []⟩), (.exit 0, ⟨[.any, .any, .any, .any, .any, .any, .any, .any, .any, .any, .any, .any, .any, .any, .any, .any, .any, .any, .any, .any, .any, .any, .any, .any, .any, .any, .any, .any, .any, .any, .any, .any, .any, .any, .any, .any, .any, .any, .any, .any, .any, .any, .any, .any, .any, .any, .any, .any, .any, .any, .any, .any, .any, .any, .any, .any, .any, .any, .any, .any, .any], []⟩)]⟩
-- FtAlike_5 : lotAlike_5.st.den → Tr (DenX lotAlike_5.xs) | ((h2, ()), ((h3, (h4, (h5, (h6, (h7, ()))))), ((h8, (h9, (h10, (h11, (h12, ()))))), ())))
def FtAlike_5 (d : lotAlike_5.st.den) : Tr (DenX lotAlike_5.xs) :=
  .ite (decide (d.1.1 = 0) && (decide (d.2.1.2.2.2.2.1.length = d.2.2.1.2.2.2.2.1.length) && decide (spWts d.2.1.2.2.2.2.1 < spFuel))) (.ite (spEqNs d.2.1.2.2.2.2.1 d.2.2.1.2.2.2.2.1) (.ret (.pan (.ret ((), ((), ()))))) (.ret (.ret ((), ((false, ()), ()))))) .no
def lptAlike : Lp := lpT [(5, loHd lotAlike_5 FtAlike_5)]
def steptAlike_5 {R : Type} (h2 : Int) (h3 : Int) (h4 : Int) (h5 : Bool) (h6 : List Int) (h7 : List (Nd)) (h8 : Int) (h9 : Int) (h10 : Bool) (h11 : List Int) (h12 : List (Nd)) (next : Int → Int → Int → Bool → List Int → List (Nd) → Int → Int → Bool → List Int → List (Nd) → Option R) (out : DenX lotAlike_5.xs → Option R) : Option R := bif decide (h2 < (↑h7.length : Int)) then bif decide (0 ≤ h2) && decide (h2 < (↑h7.length : Int)) then bif decide (0 ≤ h2) && decide (h2 < (↑h12.length : Int)) then bif decide (spWt (Tre.mk (h7.getD h2.toNat (Tre.mk (0, 0, false, [], ()) [])).1 (h7.getD h2.toNat (Tre.mk (0, 0, false, [], ()) [])).2) < spFuel) then bif !spEqN (Tre.mk (h7.getD h2.toNat (Tre.mk (0, 0, false, [], ()) [])).1 (h7.getD h2.toNat (Tre.mk (0, 0, false, [], ()) [])).2) (Tre.mk (h12.getD h2.toNat (Tre.mk (0, 0, false, [], ()) [])).1 (h12.getD h2.toNat (Tre.mk (0, 0, false, [], ()) [])).2) then out (.ret ((), ((false, ()), ()))) else next (IntKind.i64.wrap (h2 + 1)) (h3) (h4) (h5) (h6) (h7) (h8) (h9) (h10) (h11) (h12) else none else none else none else out (.pan (.ret ((), ((), ()))))
def ittAlike_5 (n : Nat) (h2 : Int) (h3 : Int) (h4 : Int) (h5 : Bool) (h6 : List Int) (h7 : List (Nd)) (h8 : Int) (h9 : Int) (h10 : Bool) (h11 : List Int) (h12 : List (Nd)) : Option (DenX lotAlike_5.xs) := lpN tt hdtAlike dr lptAlike 0 Go.Proofs.Tryz.f49 (topL Go.Proofs.Tryz.f49 0) n (lotAlike_5.st.mk' ((h2, ()), ((h3, (h4, (h5, (h6, (h7, ()))))), ((h8, (h9, (h10, (h11, (h12, ()))))), ())))) (decX lotAlike_5.xs)
theorem sltAlike_5 (n : Nat) (h2 : Int) (h3 : Int) (h4 : Int) (h5 : Bool) (h6 : List Int) (h7 : List (Nd)) (h8 : Int) (h9 : Int) (h10 : Bool) (h11 : List Int) (h12 : List (Nd)) : ittAlike_5 (n + 1) h2 h3 h4 h5 h6 h7 h8 h9 h10 h11 h12 = steptAlike_5 h2 h3 h4 h5 h6 h7 h8 h9 h10 h11 h12 (ittAlike_5 n) some := by kernel_rfl
theorem looptAlike {l m : List Nd} (hlm : l.length = m.length) (hl : l.length ≤ maxLen) (hw : spWts l < spFuel) (a b c d : Int) (z z' : Bool) (x y : List Int) : ∀ (k j : Nat), l.length < j + k → j ≤ l.length → l.take j = m.take j →
    ittAlike_5 k j a b z x l c d z' y m = if spEqNs l m = true then some (.pan (.ret ((), ((), ())))) else some (.ret ((), ((false, ()), ()))) := by
  intro k
  induction k with
  | zero => intro j h1 h2; omega
  | succ k ih =>
    intro j h1 h2 h3
    rw [sltAlike_5]
    unfold steptAlike_5
    by_cases hj : j < l.length
    · have hj' : j < m.length := by omega
      refine (bif_true (decide_eq_true (show (j : Int) < (l.length : Int) by omega)) _ _).trans ?_
      refine (bif_true (by simp; omega) _ _).trans ?_
      refine (bif_true (by simp; omega) _ _).trans ?_
      rw [wrap_succ hj hl]
      have hmem := spWt_mem (List.getElem_mem hj)
      have ht : l.take (j + 1) = m.take (j + 1) ↔ l[j] = m[j] := by
        rw [List.take_succ_eq_append_getElem hj, List.take_succ_eq_append_getElem hj', h3]
        exact ⟨fun h => by have := (List.append_inj' h rfl).2; injection this, fun h => by rw [h]⟩
      have hne : l[j] ≠ m[j] → l ≠ m := fun h e => h (by subst e; rfl)
      have ih' := ih (j + 1) (by omega) (by omega)
      simp only [Int.toNat_natCast, getD_lt hj, getD_lt hj']
      generalize l[j] = u at hmem ht hne ⊢
      generalize m[j] = v at ht hne ⊢
      obtain ⟨ul, uk⟩ := u
      obtain ⟨vl, vk⟩ := v
      refine (bif_true (decide_eq_true (show spWt (Tre.mk ul uk) < spFuel by omega)) _ _).trans ?_
      by_cases he : spEqN (Tre.mk ul uk) (Tre.mk vl vk) = true
      · refine (bif_false (show (!spEqN (Tre.mk ul uk) (Tre.mk vl vk)) = false by rw [he]; rfl) _ _).trans ?_
        exact ih' (ht.2 (spEqN_iff.1 he))
      · refine (bif_true (show (!spEqN (Tre.mk ul uk) (Tre.mk vl vk)) = true by simpa using he) _ _).trans ?_
        rw [if_neg (fun h => hne (fun e => he (spEqN_iff.2 e)) (spEqNs_iff.1 h))]
    · refine (bif_false (decide_eq_false (show ¬ (j : Int) < (l.length : Int) by omega)) _ _).trans ?_
      rw [List.take_of_length_le (by omega), List.take_of_length_le (by omega)] at h3
      rw [if_pos (spEqNs_iff.2 h3)]
def bodytAlike (a0 : Nd) (a1 : Nd) : Option iotAlike.Res := bif a0.1.fst != a1.1.fst then some (Out.ret ((false, ()), ())) else bif a0.1.snd.fst != a1.1.snd.fst then some (Out.ret ((false, ()), ())) else bif !a0.1.snd.snd.fst == a1.1.snd.snd.fst then some (Out.ret ((false, ()), ())) else bif !decide (a0.1.snd.snd.snd.fst = a1.1.snd.snd.snd.fst) then some (Out.ret ((false, ()), ())) else bif (↑a0.2.length : Int) != (↑a1.2.length : Int) then some (Out.ret ((false, ()), ())) else (FtAlike_5 ((0, ()), ((a0.1.fst, (a0.1.snd.fst, (a0.1.snd.snd.fst, (a0.1.snd.snd.snd.fst, (a0.2, ()))))), ((a1.1.fst, (a1.1.snd.fst, (a1.1.snd.snd.fst, (a1.1.snd.snd.snd.fst, (a1.2, ()))))), ())))).run fun y => match y with | .ret ((), ((x25, ()), ())) => (some (Out.ret ((x25, ()), ()))) | .pan (.ret ((), ((), ()))) => (some (Out.ret ((true, ()), ())))
theorem runtAlike (a0 : Nd) (a1 : Nd) : Io.run tt hdtAlike dr lptAlike iotAlike Go.Proofs.Tryz.f49 ((a0, a1, ()), ()) = bodytAlike a0 a1 := by kernel_rfl
theorem oktAlikeS (rtAlike : HcOk prog 49 (ioHd iotAlike (FtAlikeN spFuel))) : HcOk prog 49 (ioHd iotAlike (FtAlikeN (spFuel + 1))) := by
  refine fn_sound (n := 400) hm (cs := cstAlike) (.cons okSame (.cons rtAlike .nil)) (lp := lptAlike) (fn := Go.Proofs.Tryz.f49) (by kernel_rfl) (by kernel_rfl) (by kernel_rfl) iotAlike (.step (h0 := loHd lotAlike_5 FtAlike_5) (by kernel_rfl) (loop_sound (n := 400) hm (cs := cstAlike) (.cons okSame (.cons rtAlike .nil)) (lp := lptAlike) (fn := Go.Proofs.Tryz.f49) (.done (by kernel_rfl)) lotAlike_5 FtAlike_5 ?_) (.done (by kernel_rfl))) (FtAlikeN (spFuel + 1)) ?_
  · rintro ⟨⟨(i : Int), ⟨⟩⟩, ⟨⟨(a : Int), (b : Int), (z : Bool), (x : List Int), (l : List Nd), ⟨⟩⟩, ⟨(c : Int), (d : Int), (z' : Bool), (y' : List Int), (m : List Nd), ⟨⟩⟩, ⟨⟩⟩⟩ y hw hy
    obtain ⟨hg, hy⟩ := Tr.guard hy
    simp only [Bool.and_eq_true, decide_eq_true_eq] at hg
    obtain ⟨h1, h2, h3⟩ := hg
    have h1 : i = 0 := h1
    have h2 : l.length = m.length := h2
    have h3 : spWts l < spFuel := h3
    subst h1
    refine ⟨l.length + 1, (looptAlike h2 (by have := hw.2.1.2.2.2.2.1.1; exact this) h3 a b c d z z' x y' (l.length + 1) 0 (by omega) (by omega) rfl).trans ?_⟩
    rw [← hy]
    by_cases h : spEqNs l m = true
    · rw [if_pos h]; exact (bif_true h _ _).symm
    · rw [if_neg h]; exact (bif_false (by simpa using h) _ _).symm
  · rintro ⟨⟨(a : Nd), (b : Nd), ⟨⟩⟩, ⟨⟩⟩ out hw ho
    obtain ⟨hg, ho⟩ := Tr.guard ho
    have hk : spWt a < spFuel + 1 := of_decide_eq_true hg
    clear hg
    cases ho
    refine (runtAlike a b).trans ?_
    unfold bodytAlike
    show _ = some (Out.ret ((spEqN a b, ()), ()))
    obtain ⟨⟨a1, a2, a3, a4, ⟨⟩⟩, a5⟩ := a
    obtain ⟨⟨b1, b2, b3, b4, ⟨⟩⟩, b5⟩ := b
    rw [spWt_eq] at hk
    have hk : 1 + a4.length + spWts a5 < spFuel + 1 := hk
    have key := spEqN_mk (a := a1) (b := b1) (c := a2) (d := b2) (z := a3) (z' := b3) (x := a4) (y := b4) (l := a5) (m := b5)
    have no : ¬ (a1 = b1 ∧ a2 = b2 ∧ a3 = b3 ∧ a4 = b4 ∧ a5 = b5) → spEqN (Tre.mk (a1, (a2, (a3, (a4, ())))) a5) (Tre.mk (b1, (b2, (b3, (b4, ())))) b5) = false := fun h => by
      rw [Bool.eq_false_iff]; exact fun e => h (key.1 e)
    by_cases h1 : a1 = b1
    · refine (bif_false (by simpa using h1) _ _).trans ?_
      by_cases h2 : a2 = b2
      · refine (bif_false (by simpa using h2) _ _).trans ?_
        by_cases h3 : a3 = b3
        · refine (bif_false (by simp [h3]) _ _).trans ?_
          by_cases h4 : a4 = b4
          · refine (bif_false (by simp [h4]) _ _).trans ?_
            by_cases h5 : a5.length = b5.length
            · refine (bif_false (by simp [h5]) _ _).trans ?_
              have c1 : (decide ((0 : Int) = 0) && (decide (a5.length = b5.length) && decide (spWts a5 < spFuel))) = true := by simp; omega
              have e1 : FtAlike_5 ((0, ()), ((a1, (a2, (a3, (a4, (a5, ()))))), ((b1, (b2, (b3, (b4, (b5, ()))))), ()))) = .ite true (.ite (spEqNs a5 b5) (.ret (.pan (.ret ((), ((), ()))))) (.ret (.ret ((), ((false, ()), ()))))) .no := congrArg (fun c => Tr.ite c _ _) c1
              rw [e1]
              by_cases h6 : a5 = b5
              · rw [spEqNs_iff.2 h6, key.2 ⟨h1, h2, h3, h4, h6⟩]; rfl
              · have : spEqNs a5 b5 = false := by rw [Bool.eq_false_iff]; exact fun e => h6 (spEqNs_iff.1 e)
                rw [this, no (fun h => h6 h.2.2.2.2)]; rfl
            · refine (bif_true (bne_iff_ne.2 (fun e => h5 (Int.ofNat.inj e))) _ _).trans ?_
              rw [no (fun h => h5 (by rw [h.2.2.2.2]))]
          · refine (bif_true (by simp [h4]) _ _).trans ?_
            rw [no (fun h => h4 h.2.2.2.1)]
        · refine (bif_true (by cases a3 <;> cases b3 <;> simp_all) _ _).trans ?_
          rw [no (fun h => h3 h.2.2.1)]
      · refine (bif_true (by simpa using h2) _ _).trans ?_
        rw [no (fun h => h2 h.2.1)]
    · refine (bif_true (by simpa using h1) _ _).trans ?_
      rw [no (fun h => h1 h.1)]
end
theorem oktAlikeN (n : Nat) : HcOk prog 49 (ioHd iotAlike (FtAlikeN n)) := by
  induction n with
  | zero => exact HcOk.none (fn := Go.Proofs.Tryz.f49) (by kernel_rfl) (by kernel_rfl) (by kernel_rfl) _ _ fun d out h => by cases h
  | succ n ih =>
    have := @oktAlikeS ⟨⟨n⟩⟩ (by rw [FuT.val]; exact ih)
    rw [FuT.val] at this
    exact this
theorem oktAlike : HcOk prog 49 (ioHd iotAlike FtAlike) := by
  refine HcOk.lim oktAlikeN fun d => ⟨spWt d.1.1 + 1, fun out h => ?_⟩
  exact (bif_true (decide_eq_true (Nat.lt_succ_self _)) _ _).trans h
abbrev iotTwin : Io := ⟨[dNode], [], [], [dNode], none⟩
def FtTwinN (n : Nat) (d : iotTwin.In) : Tr iotTwin.Res := .ite (decide (spWt d.1.1 < n) && decide (spWt d.1.1 ≤ 4294967296)) (.ret (.ret ((d.1.1, ()), ()))) .no
def FtTwin (d : iotTwin.In) : Tr iotTwin.Res := .ite (decide (spWt d.1.1 ≤ 4294967296)) (.ret (.ret ((d.1.1, ()), ()))) .no
section
variable [Inhabited FuT]
abbrev cstTwin : List (Nat × Hc) := [(28, ioHd ioCopy FCopy), (33, ioHd iotTwin (FtTwinN spFuel))]
def hdtTwin : Hd := hdT cstTwin
abbrev lotTwin_4 : Lo := ⟨⟨[.any, .one (.ptr 1 0), .one (.ptr 2 0), .one (.onl 68 tNode 7), .one (.hol (.int IntKind.i64)), .any, .any, .any, .any, .any, .any, .any, .any, .any, .any, .any, .any, .any, .any, .any, .any, .any, .any, .any, .any, .any, .any, .any, .any, .any, .any, .any, .any], [none, some [.hol (.int IntKind.i64), .hol (.int IntKind.i64), .hol .bool, .hol (.sl 5 (Ty.int IntKind.u8)), .hol (.sl 68 tNode)], some [.hol (.int IntKind.i64), .hol (.int IntKind.i64), .hol .bool, .onl 5 (Ty.int IntKind.u8) 1032, .onl 68 tNode 1034]]⟩, [(.exit 0, ⟨[.any, .one (.ptr 1 0), .one (.ptr 2 0), .one (.onl 68 tNode 7), .any, .any, .any, .any, .any, .any, .any, .any, .any, .any, .any, .any, .any, .any, .any, .any, .any, .any, .any, .any, .any, .any, .any, .any, .any, .any, .any, .any, .any], [none, some [.hol (.int IntKind.i64), .hol (.int IntKind.i64), .hol .bool, .hol (.sl 5 (Ty.int IntKind.u8)), .hol (.sl 68 tNode)], some [.hol (.int IntKind.i64), .hol (.int IntKind.i64), .hol .bool, .onl 5 (Ty.int IntKind.u8) 1032, .onl 68 tNode 1034]]⟩)]⟩
-- FtTwin_4 : lotTwin_4.st.den → Tr (DenX lotTwin_4.xs) | ((h1, (h2, ())), ((h3, (h4, (h5, (h6, (h7, ()))))), ((h8, (h9, (h10, (h11, (h12, ()))))), ())))
def FtTwin_4 (d : lotTwin_4.st.den) : Tr (DenX lotTwin_4.xs) :=
  .ite (decide (d.1.1.length = 0) && (decide (d.1.2.1 = 0) && (decide (spWts d.2.1.2.2.2.2.1 < spFuel) && decide (spWts d.2.1.2.2.2.2.1 ≤ 4294967296)))) (.ret (.ret ((), ((d.2.1.2.2.2.2.1, ()), d.2)))) .no
def lptTwin : Lp := lpT [(4, loHd lotTwin_4 FtTwin_4)]
def steptTwin_4 {R : Type} (h1 : List tNode.den) (h2 : Int) (h3 : Int) (h4 : Int) (h5 : Bool) (h6 : List Int) (h7 : List (Nd)) (h8 : Int) (h9 : Int) (h10 : Bool) (h11 : List Int) (h12 : List tNode.den) (next : List tNode.den → Int → Int → Int → Bool → List Int → List (Nd) → Int → Int → Bool → List Int → List tNode.den → Option R) (out : DenX lotTwin_4.xs → Option R) : Option R := bif decide (h2 < (↑h7.length : Int)) then bif decide (0 ≤ h2) && decide (h2 < (↑h7.length : Int)) then bif decide (spWt (Tre.mk (h7.getD h2.toNat (Tre.mk (0, 0, false, [], ()) [])).1 (h7.getD h2.toNat (Tre.mk (0, 0, false, [], ()) [])).2) < spFuel) && decide (spWt (Tre.mk (h7.getD h2.toNat (Tre.mk (0, 0, false, [], ()) [])).1 (h7.getD h2.toNat (Tre.mk (0, 0, false, [], ()) [])).2) ≤ 4294967296) then bif decide (h1.length + 1 ≤ 4294967296) then next (h1 ++ [Tre.mk (h7.getD h2.toNat (Tre.mk (0, 0, false, [], ()) [])).1 (h7.getD h2.toNat (Tre.mk (0, 0, false, [], ()) [])).2]) (IntKind.i64.wrap (h2 + 1)) (h3) (h4) (h5) (h6) (h7) (h8) (h9) (h10) (h11) (h12) else none else none else none else out (.ret ((), ((h1, ()), ((h3, (h4, (h5, (h6, (h7, ()))))), ((h8, (h9, (h10, (h11, (h12, ()))))), ())))))
def ittTwin_4 (n : Nat) (h1 : List tNode.den) (h2 : Int) (h3 : Int) (h4 : Int) (h5 : Bool) (h6 : List Int) (h7 : List (Nd)) (h8 : Int) (h9 : Int) (h10 : Bool) (h11 : List Int) (h12 : List tNode.den) : Option (DenX lotTwin_4.xs) := lpN tt hdtTwin dr lptTwin 0 Go.Proofs.Tryz.f33 (topL Go.Proofs.Tryz.f33 0) n (lotTwin_4.st.mk' ((h1, (h2, ())), ((h3, (h4, (h5, (h6, (h7, ()))))), ((h8, (h9, (h10, (h11, (h12, ()))))), ())))) (decX lotTwin_4.xs)
theorem sltTwin_4 (n : Nat) (h1 : List tNode.den) (h2 : Int) (h3 : Int) (h4 : Int) (h5 : Bool) (h6 : List Int) (h7 : List (Nd)) (h8 : Int) (h9 : Int) (h10 : Bool) (h11 : List Int) (h12 : List tNode.den) : ittTwin_4 (n + 1) h1 h2 h3 h4 h5 h6 h7 h8 h9 h10 h11 h12 = steptTwin_4 h1 h2 h3 h4 h5 h6 h7 h8 h9 h10 h11 h12 (ittTwin_4 n) some := by kernel_rfl
theorem looptTwin {l : List Nd} (hw : spWts l < spFuel) (hb : spWts l ≤ 4294967296) (a b : Int) (z : Bool) (x : List Int) (c d : Int) (z' : Bool) (y : List Int) (m : List Nd) : ∀ (k j : Nat), l.length < j + k → j ≤ l.length →
    ittTwin_4 k (l.take j) j a b z x l c d z' y m = some (.ret ((), ((l, ()), ((a, (b, (z, (x, (l, ()))))), ((c, (d, (z', (y, (m, ()))))), ()))))) := by
  intro k
  induction k with
  | zero => intro j h1 h2; omega
  | succ k ih =>
    intro j h1 h2
    rw [sltTwin_4]
    unfold steptTwin_4
    by_cases hj : j < l.length
    · refine (bif_true (decide_eq_true (show (j : Int) < (l.length : Int) by omega)) _ _).trans ?_
      refine (bif_true (by simp; omega) _ _).trans ?_
      have hlen := spWts_len l
      rw [wrap_i64 (n := (j : Int) + 1) (by omega) (by omega)]
      have hmem := spWt_mem (List.getElem_mem hj)
      have ht : l.take (j + 1) = l.take j ++ [l[j]] := List.take_succ_eq_append_getElem hj
      have ih' := ih (j + 1) (by omega) (by omega)
      rw [ht] at ih'
      simp only [Int.toNat_natCast, getD_lt hj]
      generalize l[j] = u at hmem ht ih' ⊢
      obtain ⟨ul, uk⟩ := u
      refine (bif_true (show (decide (spWt (Tre.mk ul uk) < spFuel) && decide (spWt (Tre.mk ul uk) ≤ 4294967296)) = true by simp; omega) _ _).trans ?_
      refine (bif_true (decide_eq_true (show (l.take j).length + 1 ≤ 4294967296 by simp; omega)) _ _).trans ?_
      exact ih'
    · refine (bif_false (decide_eq_false (show ¬ (j : Int) < (l.length : Int) by omega)) _ _).trans ?_
      rw [List.take_of_length_le (by omega)]
def bodytTwin (a0 : Nd) : Option iotTwin.Res := (FtTwin_4 (([], (0, ())), ((a0.1.fst, (a0.1.snd.fst, (a0.1.snd.snd.fst, (a0.1.snd.snd.snd.fst, (a0.2, ()))))), ((0, (0, (false, ([], ([], ()))))), ())))).run fun y => match y with | .ret ((), ((x36, ()), (x37, x38, x39, x40, x41, ()), (x42, x43, x44, x45, x46, ()), ())) => (bif decide (x40.length ≤ 4294967296) then some (Out.ret ((Tre.mk (x37, x38, x39, x40, ()) x36, ()), ())) else none)
theorem runtTwin (a0 : Nd) : Io.run tt hdtTwin dr lptTwin iotTwin Go.Proofs.Tryz.f33 ((a0, ()), ()) = bodytTwin a0 := by kernel_rfl
theorem oktTwinS (rtTwin : HcOk prog 33 (ioHd iotTwin (FtTwinN spFuel))) : HcOk prog 33 (ioHd iotTwin (FtTwinN (spFuel + 1))) := by
  refine fn_sound (n := 400) hm (cs := cstTwin) (.cons okCopy (.cons rtTwin .nil)) (lp := lptTwin) (fn := Go.Proofs.Tryz.f33) (by kernel_rfl) (by kernel_rfl) (by kernel_rfl) iotTwin (.step (h0 := loHd lotTwin_4 FtTwin_4) (by kernel_rfl) (loop_sound (n := 400) hm (cs := cstTwin) (.cons okCopy (.cons rtTwin .nil)) (lp := lptTwin) (fn := Go.Proofs.Tryz.f33) (.done (by kernel_rfl)) lotTwin_4 FtTwin_4 ?_) (.done (by kernel_rfl))) (FtTwinN (spFuel + 1)) ?_
  · rintro ⟨⟨(o : List Nd), (i : Int), ⟨⟩⟩, ⟨⟨(a : Int), (b : Int), (z : Bool), (x : List Int), (l : List Nd), ⟨⟩⟩, ⟨(c : Int), (d : Int), (z' : Bool), (y' : List Int), (m : List Nd), ⟨⟩⟩, ⟨⟩⟩⟩ y hw hy
    obtain ⟨hg, hy⟩ := Tr.guard hy
    simp only [Bool.and_eq_true, decide_eq_true_eq] at hg
    obtain ⟨h1, h2, h3, h4⟩ := hg
    have h1 : o = [] := List.eq_nil_of_length_eq_zero h1
    have h2 : i = 0 := h2
    have h3 : spWts l < spFuel := h3
    have h4 : spWts l ≤ 4294967296 := h4
    subst h1
    subst h2
    refine ⟨l.length + 1, (looptTwin h3 h4 a b z x c d z' y' m (l.length + 1) 0 (by omega) (by omega)).trans ?_⟩
    rw [← hy]
    rfl
  · rintro ⟨⟨(a : Nd), ⟨⟩⟩, ⟨⟩⟩ out hw ho
    obtain ⟨hg, ho⟩ := Tr.guard ho
    simp only [Bool.and_eq_true, decide_eq_true_eq] at hg
    obtain ⟨hk, hb⟩ := hg
    have hk : spWt a < spFuel + 1 := hk
    have hb : spWt a ≤ 4294967296 := hb
    cases ho
    refine (runtTwin a).trans ?_
    unfold bodytTwin
    show _ = some (Out.ret ((a, ()), ()))
    obtain ⟨⟨a1, a2, a3, a4, ⟨⟩⟩, a5⟩ := a
    rw [spWt_eq] at hk hb
    have hk : 1 + a4.length + spWts a5 < spFuel + 1 := hk
    have hb : 1 + a4.length + spWts a5 ≤ 4294967296 := hb
    have c1 : (decide (([] : List Nd).length = 0) && (decide ((0 : Int) = 0) && (decide (spWts a5 < spFuel) && decide (spWts a5 ≤ 4294967296)))) = true := by simp; omega
    have e1 : FtTwin_4 ((([] : List Nd), (0, ())), ((a1, (a2, (a3, (a4, (a5, ()))))), ((0, (0, (false, (([] : List Int), (([] : List Nd), ()))))), ()))) = .ite true (.ret (.ret ((), ((a5, ()), ((a1, (a2, (a3, (a4, (a5, ()))))), ((0, (0, (false, (([] : List Int), (([] : List Nd), ()))))), ())))))) .no := congrArg (fun c => Tr.ite c _ _) c1
    rw [e1]
    exact bif_true (decide_eq_true (show a4.length ≤ 4294967296 by omega)) _ _
end
theorem oktTwinN (n : Nat) : HcOk prog 33 (ioHd iotTwin (FtTwinN n)) := by
  induction n with
  | zero => exact HcOk.none (fn := Go.Proofs.Tryz.f33) (by kernel_rfl) (by kernel_rfl) (by kernel_rfl) _ _ fun d out h => by cases h
  | succ n ih =>
    have := @oktTwinS ⟨⟨n⟩⟩ (by rw [FuT.val]; exact ih)
    rw [FuT.val] at this
    exact this
theorem oktTwin : HcOk prog 33 (ioHd iotTwin FtTwin) := by
  refine HcOk.lim oktTwinN fun d => ⟨spWt d.1.1 + 1, fun out h => ?_⟩
  obtain ⟨hg, h⟩ := Tr.guard h
  refine (bif_true ?_ _ _).trans h
  simp only [Bool.and_eq_true, decide_eq_true_eq]
  exact ⟨Nat.lt_succ_self _, of_decide_eq_true hg⟩
end
end Go.Proofs.YtmlgepgcofmpeaaGreat.Sym
