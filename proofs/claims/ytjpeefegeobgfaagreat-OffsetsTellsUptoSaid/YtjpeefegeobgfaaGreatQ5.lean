/- wire.Dec: NewDec, Has, number, I16, I32, I64, take, text, Str, Name, Blob, End. The contracts whose names end in Z speak of a Dec that has no reader (its version or its size is out of the bounds). -/
import Derived.Test.YtjpeefegeobgfaaGreatQ4

namespace Go.Proofs.YtjpeefegeobgfaaGreat.Sym
open Go
set_option linter.unusedSimpArgs false
set_option linter.unusedVariables false
noncomputable section
abbrev oDec : List (List Sh) := [[.ptr 1 0, dI, dI], [dL, dI]]
abbrev oDecZ : List (List Sh) := [[.nil, dI, dI]]
abbrev oDec2 : List (List Sh) := [[.ptr 1 0, dI, dI], [dL, dI], [.ptr 0 0], [dI]]
abbrev oDecT : List (List Sh) := [[.ptr 2 0], [dI], [.ptr 3 0, dI, dI], [dL, dI]]
abbrev DeS : Type := Int × Int
abbrev decSt (d : DenO oDec) : DeS := (d.1.2.2.1, d.2.1.2.1)
abbrev decOut (v : Int) (b : List Int) (s : DeS) : DenO oDec := (((), (v, (s.1, ()))), ((b, (s.2, ())), ()))
def spDok (b : List Int) (p : Int) : Bool := decide (b.length ≤ 130048) && (decide (0 ≤ p) && decide (p ≤ (b.length : Int)))
abbrev decOk (d : DenO oDec) : Bool := spDok d.2.1.1 d.2.1.2.1
def spDn (k : IntKind) (n : Nat) (b : List Int) (s : DeS) : Int × DeS := if s.1 = 0 then (k.wrap (spRd b s.2 n).1, ((spRd b s.2 n).2.2, (spRd b s.2 n).2.1)) else (0, s)
def spDTake (b : List Int) (n : Int) (s : DeS) : List Int × DeS := if s.1 = 0 then (if n < 0 then ([], (5, s.2)) else ((spTakeB b s.2 n).1, ((spTakeB b s.2 n).2.2, (spTakeB b s.2 n).2.1))) else ([], s)
def spDLong (n : Int) (s : DeS) : DeS := if 255 < n then (4, s.2) else s
def spDText (b : List Int) (n : Int) (s : DeS) : List Int × DeS := if (spUtf (spDTake b n (spDLong n s)).1).2 = true then spDTake b n (spDLong n s) else ([], (6, (spDTake b n (spDLong n s)).2.2))
theorem spRok_of {b : List Int} {p : Int} (h : spDok b p = true) : spRok b p = true := by
  simp only [spDok, spRok, Bool.and_eq_true, decide_eq_true_eq] at h ⊢
  exact ⟨by omega, h.2⟩
theorem spRd_ok {b : List Int} {p : Int} (n : Nat) (h : spDok b p = true) : spDok b (spRd b p n).2.1 = true := by
  unfold spRd
  split
  · exact h
  · simp only [spDok, Bool.and_eq_true, decide_eq_true_eq] at h ⊢
    exact ⟨h.1, by omega, by omega⟩
theorem spTakeB_ok {b : List Int} {p : Int} (n : Int) (h : spDok b p = true) : spDok b (spTakeB b p n).2.1 = true := by
  unfold spTakeB
  split
  · exact h
  · split
    · exact h
    · simp only [spDok, Bool.and_eq_true, decide_eq_true_eq] at h ⊢
      exact ⟨h.1, by omega, by omega⟩
theorem spDn_ok {b : List Int} {s : DeS} (k : IntKind) (n : Nat) (h : spDok b s.2 = true) : spDok b (spDn k n b s).2.2 = true := by
  unfold spDn
  split
  · exact spRd_ok n h
  · exact h
theorem spDn_i16 (b : List Int) (n : Nat) (s : DeS) : IntKind.i64.wrap (spDn .i16 n b s).1 = (spDn .i16 n b s).1 := by
  unfold spDn
  split
  · have h := inR_wrap .i16 (spRd b s.2 n).1
    simp only [inR, IntKind.min, IntKind.max, IntKind.signed, IntKind.bits] at h
    exact wrap_i64 (by simp at h; omega) (by simp at h; omega)
  · rfl
theorem spDTake_ok {b : List Int} {s : DeS} (n : Int) (h : spDok b s.2 = true) : spDok b (spDTake b n s).2.2 = true := by
  unfold spDTake
  split
  · split
    · exact h
    · exact spTakeB_ok n h
  · exact h
theorem spDLong_ok {b : List Int} {s : DeS} (n : Int) (h : spDok b s.2 = true) : spDok b (spDLong n s).2 = true := by
  unfold spDLong
  split <;> exact h
theorem spDText_ok {b : List Int} {s : DeS} (n : Int) (h : spDok b s.2 = true) : spDok b (spDText b n s).2.2 = true := by
  unfold spDText
  split
  · exact spDTake_ok n (spDLong_ok n h)
  · exact spDTake_ok n (spDLong_ok n h)
abbrev iodN16 : Io := ⟨[.ptr 0 0, .fnc 152 true [1]], oDec, [], [d16], none⟩
def FdN16 (d : iodN16.In) : Tr iodN16.Res := .ite (decOk d.2) (.ret (.ret ((IntKind.i16.wrap (spRd d.2.2.1.1 d.2.2.1.2.1 2).1, ()), decOut d.2.1.2.1 d.2.2.1.1 ((spRd d.2.2.1.1 d.2.2.1.2.1 2).2.2, (spRd d.2.2.1.1 d.2.2.1.2.1 2).2.1)))) .no
abbrev csdN16 : List (Nat × Hc) := [(152, ioHd iordI16 FrdI16)]
def hddN16 : Hd := hdT csdN16
def lpdN16 : Lp := lpT []
def bodydN16 (a0 : Int) (a1 : Int) (a2 : List Int) (a3 : Int) : Option iodN16.Res := bif spRok a2 a3 then some (Out.ret ((IntKind.i16.wrap (spRd a2 a3 2).fst, ()), ((), a0, (spRd a2 a3 2).snd.snd, ()), (a2, (spRd a2 a3 2).snd.fst, ()), ())) else none
theorem rundN16 (a0 : Int) (a1 : Int) (a2 : List Int) (a3 : Int) : Io.run tt hddN16 dr lpdN16 iodN16 Go.Proofs.Tryz.f151 (((), (), ()), ((), a0, a1, ()), (a2, a3, ()), ()) = bodydN16 a0 a1 a2 a3 := by kernel_rfl
theorem okdN16 : HcOk prog 151 (ioHd iodN16 FdN16) := by
  refine fn_sound (n := 400) hm (cs := csdN16) (.cons okrdI16 .nil) (lp := lpdN16) (fn := Go.Proofs.Tryz.f151) (by kernel_rfl) (by kernel_rfl) (by kernel_rfl) iodN16 (.done (by kernel_rfl)) FdN16 ?_
  rintro ⟨⟨⟨⟩, ⟨⟩, ⟨⟩⟩, ⟨⟨⟩, (v : Int), (e : Int), ⟨⟩⟩, ⟨(b : List Int), (p : Int), ⟨⟩⟩, ⟨⟩⟩ out hw ho
  obtain ⟨hg, ho⟩ := Tr.guard ho
  have hg : spDok b p = true := hg
  cases ho
  refine (rundN16 v e b p).trans ?_
  unfold bodydN16
  exact bif_true (spRok_of hg) _ _
abbrev iodN32 : Io := ⟨[.ptr 0 0, .fnc 149 true [1]], oDec, [], [dS32], none⟩
def FdN32 (d : iodN32.In) : Tr iodN32.Res := .ite (decOk d.2) (.ret (.ret ((IntKind.i32.wrap (spRd d.2.2.1.1 d.2.2.1.2.1 4).1, ()), decOut d.2.1.2.1 d.2.2.1.1 ((spRd d.2.2.1.1 d.2.2.1.2.1 4).2.2, (spRd d.2.2.1.1 d.2.2.1.2.1 4).2.1)))) .no
abbrev csdN32 : List (Nat × Hc) := [(149, ioHd iordI32 FrdI32)]
def hddN32 : Hd := hdT csdN32
def lpdN32 : Lp := lpT []
def bodydN32 (a0 : Int) (a1 : Int) (a2 : List Int) (a3 : Int) : Option iodN32.Res := bif spRok a2 a3 then some (Out.ret ((IntKind.i32.wrap (spRd a2 a3 4).fst, ()), ((), a0, (spRd a2 a3 4).snd.snd, ()), (a2, (spRd a2 a3 4).snd.fst, ()), ())) else none
theorem rundN32 (a0 : Int) (a1 : Int) (a2 : List Int) (a3 : Int) : Io.run tt hddN32 dr lpdN32 iodN32 Go.Proofs.Tryz.f148 (((), (), ()), ((), a0, a1, ()), (a2, a3, ()), ()) = bodydN32 a0 a1 a2 a3 := by kernel_rfl
theorem okdN32 : HcOk prog 148 (ioHd iodN32 FdN32) := by
  refine fn_sound (n := 400) hm (cs := csdN32) (.cons okrdI32 .nil) (lp := lpdN32) (fn := Go.Proofs.Tryz.f148) (by kernel_rfl) (by kernel_rfl) (by kernel_rfl) iodN32 (.done (by kernel_rfl)) FdN32 ?_
  rintro ⟨⟨⟨⟩, ⟨⟩, ⟨⟩⟩, ⟨⟨⟩, (v : Int), (e : Int), ⟨⟩⟩, ⟨(b : List Int), (p : Int), ⟨⟩⟩, ⟨⟩⟩ out hw ho
  obtain ⟨hg, ho⟩ := Tr.guard ho
  have hg : spDok b p = true := hg
  cases ho
  refine (rundN32 v e b p).trans ?_
  unfold bodydN32
  exact bif_true (spRok_of hg) _ _
abbrev iodN64 : Io := ⟨[.ptr 0 0, .fnc 154 true [1]], oDec, [], [d64s], none⟩
def FdN64 (d : iodN64.In) : Tr iodN64.Res := .ite (decOk d.2) (.ret (.ret ((IntKind.i64.wrap (spRd d.2.2.1.1 d.2.2.1.2.1 8).1, ()), decOut d.2.1.2.1 d.2.2.1.1 ((spRd d.2.2.1.1 d.2.2.1.2.1 8).2.2, (spRd d.2.2.1.1 d.2.2.1.2.1 8).2.1)))) .no
abbrev csdN64 : List (Nat × Hc) := [(154, ioHd iordI64 FrdI64)]
def hddN64 : Hd := hdT csdN64
def lpdN64 : Lp := lpT []
def bodydN64 (a0 : Int) (a1 : Int) (a2 : List Int) (a3 : Int) : Option iodN64.Res := bif spRok a2 a3 then some (Out.ret ((IntKind.i64.wrap (spRd a2 a3 8).fst, ()), ((), a0, (spRd a2 a3 8).snd.snd, ()), (a2, (spRd a2 a3 8).snd.fst, ()), ())) else none
theorem rundN64 (a0 : Int) (a1 : Int) (a2 : List Int) (a3 : Int) : Io.run tt hddN64 dr lpdN64 iodN64 Go.Proofs.Tryz.f153 (((), (), ()), ((), a0, a1, ()), (a2, a3, ()), ()) = bodydN64 a0 a1 a2 a3 := by kernel_rfl
theorem okdN64 : HcOk prog 153 (ioHd iodN64 FdN64) := by
  refine fn_sound (n := 400) hm (cs := csdN64) (.cons okrdI64 .nil) (lp := lpdN64) (fn := Go.Proofs.Tryz.f153) (by kernel_rfl) (by kernel_rfl) (by kernel_rfl) iodN64 (.done (by kernel_rfl)) FdN64 ?_
  rintro ⟨⟨⟨⟩, ⟨⟩, ⟨⟩⟩, ⟨⟨⟩, (v : Int), (e : Int), ⟨⟩⟩, ⟨(b : List Int), (p : Int), ⟨⟩⟩, ⟨⟩⟩ out hw ho
  obtain ⟨hg, ho⟩ := Tr.guard ho
  have hg : spDok b p = true := hg
  cases ho
  refine (rundN64 v e b p).trans ?_
  unfold bodydN64
  exact bif_true (spRok_of hg) _ _
abbrev iodTk : Io := ⟨[.ptr 0 0, .ptr 1 0], oDecT, [], [dO, dI], none⟩
def FdTk (d : iodTk.In) : Tr iodTk.Res := .ite (spDok d.2.2.2.2.1.1 d.2.2.2.2.1.2.1) (.ret (.ret (((spTakeB d.2.2.2.2.1.1 d.2.2.2.2.1.2.1 d.2.2.1.1).1, ((spTakeB d.2.2.2.2.1.1 d.2.2.2.2.1.2.1 d.2.2.1.1).2.2, ())), (((), ()), (d.2.2.1, (d.2.2.2.1, ((d.2.2.2.2.1.1, ((spTakeB d.2.2.2.2.1.1 d.2.2.2.2.1.2.1 d.2.2.1.1).2.1, ())), ()))))))) .no
abbrev csdTk : List (Nat × Hc) := [(182, ioHd iordTake FrdTake)]
def hddTk : Hd := hdT csdTk
def lpdTk : Lp := lpT []
def bodydTk (a0 : Int) (a1 : Int) (a2 : Int) (a3 : List Int) (a4 : Int) : Option iodTk.Res := bif spRok a3 a4 then some (Out.ret (((spTakeB a3 a4 a0).fst, (spTakeB a3 a4 a0).snd.snd, ()), ((), ()), (a0, ()), ((), a1, a2, ()), (a3, (spTakeB a3 a4 a0).snd.fst, ()), ())) else none
theorem rundTk (a0 : Int) (a1 : Int) (a2 : Int) (a3 : List Int) (a4 : Int) : Io.run tt hddTk dr lpdTk iodTk Go.Proofs.Tryz.f181 (((), (), ()), ((), ()), (a0, ()), ((), a1, a2, ()), (a3, a4, ()), ()) = bodydTk a0 a1 a2 a3 a4 := by kernel_rfl
theorem okdTk : HcOk prog 181 (ioHd iodTk FdTk) := by
  refine fn_sound (n := 400) hm (cs := csdTk) (.cons okrdTake .nil) (lp := lpdTk) (fn := Go.Proofs.Tryz.f181) (by kernel_rfl) (by kernel_rfl) (by kernel_rfl) iodTk (.done (by kernel_rfl)) FdTk ?_
  rintro ⟨⟨⟨⟩, ⟨⟩, ⟨⟩⟩, ⟨⟨⟩, ⟨⟩⟩, ⟨(n : Int), ⟨⟩⟩, ⟨⟨⟩, (v : Int), (e : Int), ⟨⟩⟩, ⟨(b : List Int), (p : Int), ⟨⟩⟩, ⟨⟩⟩ out hw ho
  obtain ⟨hg, ho⟩ := Tr.guard ho
  have hg : spDok b p = true := hg
  cases ho
  refine (rundTk n v e b p).trans ?_
  unfold bodydTk
  exact bif_true (spRok_of hg) _ _
abbrev iodNb : Io := ⟨[.ptr 0 0, .fnc 181 false [2, 3]], oDec2, [], [dO], none⟩
def FdNb (d : iodNb.In) : Tr iodNb.Res := .ite (spDok d.2.2.1.1 d.2.2.1.2.1) (.ret (.ret (((spTakeB d.2.2.1.1 d.2.2.1.2.1 d.2.2.2.2.1.1).1, ()), (((), (d.2.1.2.1, ((spTakeB d.2.2.1.1 d.2.2.1.2.1 d.2.2.2.2.1.1).2.2, ()))), ((d.2.2.1.1, ((spTakeB d.2.2.1.1 d.2.2.1.2.1 d.2.2.2.2.1.1).2.1, ())), (((), ()), (d.2.2.2.2.1, ()))))))) .no
abbrev csdNb : List (Nat × Hc) := [(181, ioHd iodTk FdTk)]
def hddNb : Hd := hdT csdNb
def lpdNb : Lp := lpT []
def bodydNb (a0 : Int) (a1 : Int) (a2 : List Int) (a3 : Int) (a4 : Int) : Option iodNb.Res := bif spDok a2 a3 then some (Out.ret (((spTakeB a2 a3 a4).fst, ()), ((), a0, (spTakeB a2 a3 a4).snd.snd, ()), (a2, (spTakeB a2 a3 a4).snd.fst, ()), ((), ()), (a4, ()), ())) else none
theorem rundNb (a0 : Int) (a1 : Int) (a2 : List Int) (a3 : Int) (a4 : Int) : Io.run tt hddNb dr lpdNb iodNb Go.Proofs.Tryz.f180 (((), (), ()), ((), a0, a1, ()), (a2, a3, ()), ((), ()), (a4, ()), ()) = bodydNb a0 a1 a2 a3 a4 := by kernel_rfl
theorem okdNb : HcOk prog 180 (ioHd iodNb FdNb) := by
  refine fn_sound (n := 400) hm (cs := csdNb) (.cons okdTk .nil) (lp := lpdNb) (fn := Go.Proofs.Tryz.f180) (by kernel_rfl) (by kernel_rfl) (by kernel_rfl) iodNb (.done (by kernel_rfl)) FdNb ?_
  rintro ⟨⟨⟨⟩, ⟨⟩, ⟨⟩⟩, ⟨⟨⟩, (v : Int), (e : Int), ⟨⟩⟩, ⟨(b : List Int), (p : Int), ⟨⟩⟩, ⟨⟨⟩, ⟨⟩⟩, ⟨(n : Int), ⟨⟩⟩, ⟨⟩⟩ out hw ho
  obtain ⟨hg, ho⟩ := Tr.guard ho
  have hg : spDok b p = true := hg
  cases ho
  refine (rundNb v e b p n).trans ?_
  unfold bodydNb
  exact bif_true hg _ _
abbrev iodI16 : Io := ⟨[.ptr 0 0], oDec, [], [d16], none⟩
def FdI16 (d : iodI16.In) : Tr iodI16.Res := .ite (decOk d.2) (.ret (.ret (((spDn .i16 2 d.2.2.1.1 (decSt d.2)).1, ()), decOut d.2.1.2.1 d.2.2.1.1 (spDn .i16 2 d.2.2.1.1 (decSt d.2)).2))) .no
abbrev csdI16 : List (Nat × Hc) := [(151, ioHd iodN16 FdN16)]
def hddI16 : Hd := hdT csdI16
def lpdI16 : Lp := lpT []
def bodydI16 (a0 : Int) (a1 : Int) (a2 : List Int) (a3 : Int) : Option iodI16.Res := bif a1 != 0 then some (Out.ret ((0, ()), ((), a0, a1, ()), (a2, a3, ()), ())) else bif spDok a2 a3 then some (Out.ret ((IntKind.i16.wrap (spRd a2 a3 2).fst, ()), ((), a0, (spRd a2 a3 2).snd.snd, ()), (a2, (spRd a2 a3 2).snd.fst, ()), ())) else none
theorem rundI16 (a0 : Int) (a1 : Int) (a2 : List Int) (a3 : Int) : Io.run tt hddI16 dr lpdI16 iodI16 Go.Proofs.Tryz.f87 (((), ()), ((), a0, a1, ()), (a2, a3, ()), ()) = bodydI16 a0 a1 a2 a3 := by kernel_rfl
theorem okdI16 : HcOk prog 87 (ioHd iodI16 FdI16) := by
  refine fn_sound (n := 400) hm (cs := csdI16) (.cons okdN16 .nil) (lp := lpdI16) (fn := Go.Proofs.Tryz.f87) (by kernel_rfl) (by kernel_rfl) (by kernel_rfl) iodI16 (.done (by kernel_rfl)) FdI16 ?_
  rintro ⟨⟨⟨⟩, ⟨⟩⟩, ⟨⟨⟩, (v : Int), (e : Int), ⟨⟩⟩, ⟨(b : List Int), (p : Int), ⟨⟩⟩, ⟨⟩⟩ out hw ho
  obtain ⟨hg, ho⟩ := Tr.guard ho
  have hg : spDok b p = true := hg
  cases ho
  refine (rundI16 v e b p).trans ?_
  unfold bodydI16
  show _ = some (Out.ret (((spDn .i16 2 b (e, p)).1, ()), decOut v b (spDn .i16 2 b (e, p)).2))
  unfold spDn
  by_cases h : e = 0
  · rw [if_pos h]
    refine (bif_false (by simpa using h) _ _).trans ?_
    exact bif_true hg _ _
  · rw [if_neg h]
    exact bif_true (by simpa using h) _ _
abbrev iodI32 : Io := ⟨[.ptr 0 0], oDec, [], [dS32], none⟩
def FdI32 (d : iodI32.In) : Tr iodI32.Res := .ite (decOk d.2) (.ret (.ret (((spDn .i32 4 d.2.2.1.1 (decSt d.2)).1, ()), decOut d.2.1.2.1 d.2.2.1.1 (spDn .i32 4 d.2.2.1.1 (decSt d.2)).2))) .no
abbrev csdI32 : List (Nat × Hc) := [(148, ioHd iodN32 FdN32)]
def hddI32 : Hd := hdT csdI32
def lpdI32 : Lp := lpT []
def bodydI32 (a0 : Int) (a1 : Int) (a2 : List Int) (a3 : Int) : Option iodI32.Res := bif a1 != 0 then some (Out.ret ((0, ()), ((), a0, a1, ()), (a2, a3, ()), ())) else bif spDok a2 a3 then some (Out.ret ((IntKind.i32.wrap (spRd a2 a3 4).fst, ()), ((), a0, (spRd a2 a3 4).snd.snd, ()), (a2, (spRd a2 a3 4).snd.fst, ()), ())) else none
theorem rundI32 (a0 : Int) (a1 : Int) (a2 : List Int) (a3 : Int) : Io.run tt hddI32 dr lpdI32 iodI32 Go.Proofs.Tryz.f81 (((), ()), ((), a0, a1, ()), (a2, a3, ()), ()) = bodydI32 a0 a1 a2 a3 := by kernel_rfl
theorem okdI32 : HcOk prog 81 (ioHd iodI32 FdI32) := by
  refine fn_sound (n := 400) hm (cs := csdI32) (.cons okdN32 .nil) (lp := lpdI32) (fn := Go.Proofs.Tryz.f81) (by kernel_rfl) (by kernel_rfl) (by kernel_rfl) iodI32 (.done (by kernel_rfl)) FdI32 ?_
  rintro ⟨⟨⟨⟩, ⟨⟩⟩, ⟨⟨⟩, (v : Int), (e : Int), ⟨⟩⟩, ⟨(b : List Int), (p : Int), ⟨⟩⟩, ⟨⟩⟩ out hw ho
  obtain ⟨hg, ho⟩ := Tr.guard ho
  have hg : spDok b p = true := hg
  cases ho
  refine (rundI32 v e b p).trans ?_
  unfold bodydI32
  show _ = some (Out.ret (((spDn .i32 4 b (e, p)).1, ()), decOut v b (spDn .i32 4 b (e, p)).2))
  unfold spDn
  by_cases h : e = 0
  · rw [if_pos h]
    refine (bif_false (by simpa using h) _ _).trans ?_
    exact bif_true hg _ _
  · rw [if_neg h]
    exact bif_true (by simpa using h) _ _
abbrev iodI64 : Io := ⟨[.ptr 0 0], oDec, [], [d64s], none⟩
def FdI64 (d : iodI64.In) : Tr iodI64.Res := .ite (decOk d.2) (.ret (.ret (((spDn .i64 8 d.2.2.1.1 (decSt d.2)).1, ()), decOut d.2.1.2.1 d.2.2.1.1 (spDn .i64 8 d.2.2.1.1 (decSt d.2)).2))) .no
abbrev csdI64 : List (Nat × Hc) := [(153, ioHd iodN64 FdN64)]
def hddI64 : Hd := hdT csdI64
def lpdI64 : Lp := lpT []
def bodydI64 (a0 : Int) (a1 : Int) (a2 : List Int) (a3 : Int) : Option iodI64.Res := bif a1 != 0 then some (Out.ret ((0, ()), ((), a0, a1, ()), (a2, a3, ()), ())) else bif spDok a2 a3 then some (Out.ret ((IntKind.i64.wrap (spRd a2 a3 8).fst, ()), ((), a0, (spRd a2 a3 8).snd.snd, ()), (a2, (spRd a2 a3 8).snd.fst, ()), ())) else none
theorem rundI64 (a0 : Int) (a1 : Int) (a2 : List Int) (a3 : Int) : Io.run tt hddI64 dr lpdI64 iodI64 Go.Proofs.Tryz.f89 (((), ()), ((), a0, a1, ()), (a2, a3, ()), ()) = bodydI64 a0 a1 a2 a3 := by kernel_rfl
theorem okdI64 : HcOk prog 89 (ioHd iodI64 FdI64) := by
  refine fn_sound (n := 400) hm (cs := csdI64) (.cons okdN64 .nil) (lp := lpdI64) (fn := Go.Proofs.Tryz.f89) (by kernel_rfl) (by kernel_rfl) (by kernel_rfl) iodI64 (.done (by kernel_rfl)) FdI64 ?_
  rintro ⟨⟨⟨⟩, ⟨⟩⟩, ⟨⟨⟩, (v : Int), (e : Int), ⟨⟩⟩, ⟨(b : List Int), (p : Int), ⟨⟩⟩, ⟨⟩⟩ out hw ho
  obtain ⟨hg, ho⟩ := Tr.guard ho
  have hg : spDok b p = true := hg
  cases ho
  refine (rundI64 v e b p).trans ?_
  unfold bodydI64
  show _ = some (Out.ret (((spDn .i64 8 b (e, p)).1, ()), decOut v b (spDn .i64 8 b (e, p)).2))
  unfold spDn
  by_cases h : e = 0
  · rw [if_pos h]
    refine (bif_false (by simpa using h) _ _).trans ?_
    exact bif_true hg _ _
  · rw [if_neg h]
    exact bif_true (by simpa using h) _ _
abbrev iodTake : Io := ⟨[.ptr 0 0, dI], oDec, [], [dO], none⟩
def FdTake (d : iodTake.In) : Tr iodTake.Res := .ite (decOk d.2) (.ret (.ret (((spDTake d.2.2.1.1 d.1.2.1 (decSt d.2)).1, ()), decOut d.2.1.2.1 d.2.2.1.1 (spDTake d.2.2.1.1 d.1.2.1 (decSt d.2)).2))) .no
abbrev csdTake : List (Nat × Hc) := [(180, ioHd iodNb FdNb)]
def hddTake : Hd := hdT csdTake
def lpdTake : Lp := lpT []
def bodydTake (a0 : Int) (a1 : Int) (a2 : Int) (a3 : List Int) (a4 : Int) : Option iodTake.Res := bif a2 == 0 then bif decide (a0 < 0) then some (Out.ret (([], ()), ((), a1, 5, ()), (a3, a4, ()), ())) else bif a2 != 0 then some (Out.ret (([], ()), ((), a1, a2, ()), (a3, a4, ()), ())) else bif spDok a3 a4 then some (Out.ret (((spTakeB a3 a4 a0).fst, ()), ((), a1, (spTakeB a3 a4 a0).snd.snd, ()), (a3, (spTakeB a3 a4 a0).snd.fst, ()), ())) else none else bif a2 != 0 then some (Out.ret (([], ()), ((), a1, a2, ()), (a3, a4, ()), ())) else bif spDok a3 a4 then some (Out.ret (((spTakeB a3 a4 a0).fst, ()), ((), a1, (spTakeB a3 a4 a0).snd.snd, ()), (a3, (spTakeB a3 a4 a0).snd.fst, ()), ())) else none
theorem rundTake (a0 : Int) (a1 : Int) (a2 : Int) (a3 : List Int) (a4 : Int) : Io.run tt hddTake dr lpdTake iodTake Go.Proofs.Tryz.f159 (((), a0, ()), ((), a1, a2, ()), (a3, a4, ()), ()) = bodydTake a0 a1 a2 a3 a4 := by kernel_rfl
theorem okdTake : HcOk prog 159 (ioHd iodTake FdTake) := by
  refine fn_sound (n := 400) hm (cs := csdTake) (.cons okdNb .nil) (lp := lpdTake) (fn := Go.Proofs.Tryz.f159) (by kernel_rfl) (by kernel_rfl) (by kernel_rfl) iodTake (.done (by kernel_rfl)) FdTake ?_
  rintro ⟨⟨⟨⟩, (n : Int), ⟨⟩⟩, ⟨⟨⟩, (v : Int), (e : Int), ⟨⟩⟩, ⟨(b : List Int), (p : Int), ⟨⟩⟩, ⟨⟩⟩ out hw ho
  obtain ⟨hg, ho⟩ := Tr.guard ho
  have hg : spDok b p = true := hg
  cases ho
  refine (rundTake n v e b p).trans ?_
  unfold bodydTake
  show _ = some (Out.ret (((spDTake b n (e, p)).1, ()), decOut v b (spDTake b n (e, p)).2))
  unfold spDTake
  by_cases h : e = 0
  · rw [if_pos h]
    refine (bif_true (by simpa using h) _ _).trans ?_
    by_cases h2 : n < 0
    · rw [if_pos h2]
      exact bif_true (by simpa using h2) _ _
    · rw [if_neg h2]
      refine (bif_false (by simpa using h2) _ _).trans ?_
      refine (bif_false (by simpa using h) _ _).trans ?_
      exact bif_true hg _ _
  · rw [if_neg h]
    refine (bif_false (by simpa using h) _ _).trans ?_
    exact bif_true (by simpa using h) _ _
abbrev iodI16Z : Io := ⟨[.ptr 0 0], oDecZ, [], [d16], none⟩
def FdI16Z (d : iodI16Z.In) : Tr iodI16Z.Res := .ite (decide (d.2.1.2.2.1 ≠ 0)) (.ret (.ret ((0, ()), d.2))) .no
abbrev csdI16Z : List (Nat × Hc) := []
def hddI16Z : Hd := hdT csdI16Z
def lpdI16Z : Lp := lpT []
def bodydI16Z (a0 : Int) (a1 : Int) : Option iodI16Z.Res := bif a1 != 0 then some (Out.ret ((0, ()), ((), a0, a1, ()), ())) else none
theorem rundI16Z (a0 : Int) (a1 : Int) : Io.run tt hddI16Z dr lpdI16Z iodI16Z Go.Proofs.Tryz.f87 (((), ()), ((), a0, a1, ()), ()) = bodydI16Z a0 a1 := by kernel_rfl
theorem okdI16Z : HcOk prog 87 (ioHd iodI16Z FdI16Z) := by
  refine fn_sound (n := 400) hm (cs := csdI16Z) HcsOk.nil (lp := lpdI16Z) (fn := Go.Proofs.Tryz.f87) (by kernel_rfl) (by kernel_rfl) (by kernel_rfl) iodI16Z (.done (by kernel_rfl)) FdI16Z ?_
  rintro ⟨⟨⟨⟩, ⟨⟩⟩, ⟨⟨⟩, (v : Int), (e : Int), ⟨⟩⟩, ⟨⟩⟩ out hw ho
  obtain ⟨hg, ho⟩ := Tr.guard ho
  have hg : e ≠ 0 := of_decide_eq_true hg
  cases ho
  refine (rundI16Z v e).trans ?_
  unfold bodydI16Z
  exact bif_true (by simpa using hg) _ _
abbrev iodI32Z : Io := ⟨[.ptr 0 0], oDecZ, [], [dS32], none⟩
def FdI32Z (d : iodI32Z.In) : Tr iodI32Z.Res := .ite (decide (d.2.1.2.2.1 ≠ 0)) (.ret (.ret ((0, ()), d.2))) .no
abbrev csdI32Z : List (Nat × Hc) := []
def hddI32Z : Hd := hdT csdI32Z
def lpdI32Z : Lp := lpT []
def bodydI32Z (a0 : Int) (a1 : Int) : Option iodI32Z.Res := bif a1 != 0 then some (Out.ret ((0, ()), ((), a0, a1, ()), ())) else none
theorem rundI32Z (a0 : Int) (a1 : Int) : Io.run tt hddI32Z dr lpdI32Z iodI32Z Go.Proofs.Tryz.f81 (((), ()), ((), a0, a1, ()), ()) = bodydI32Z a0 a1 := by kernel_rfl
theorem okdI32Z : HcOk prog 81 (ioHd iodI32Z FdI32Z) := by
  refine fn_sound (n := 400) hm (cs := csdI32Z) HcsOk.nil (lp := lpdI32Z) (fn := Go.Proofs.Tryz.f81) (by kernel_rfl) (by kernel_rfl) (by kernel_rfl) iodI32Z (.done (by kernel_rfl)) FdI32Z ?_
  rintro ⟨⟨⟨⟩, ⟨⟩⟩, ⟨⟨⟩, (v : Int), (e : Int), ⟨⟩⟩, ⟨⟩⟩ out hw ho
  obtain ⟨hg, ho⟩ := Tr.guard ho
  have hg : e ≠ 0 := of_decide_eq_true hg
  cases ho
  refine (rundI32Z v e).trans ?_
  unfold bodydI32Z
  exact bif_true (by simpa using hg) _ _
abbrev iodTakeZ : Io := ⟨[.ptr 0 0, dI], oDecZ, [], [dO], none⟩
def FdTakeZ (d : iodTakeZ.In) : Tr iodTakeZ.Res := .ite (decide (d.2.1.2.2.1 ≠ 0)) (.ret (.ret ((([] : List Int), ()), d.2))) .no
abbrev csdTakeZ : List (Nat × Hc) := []
def hddTakeZ : Hd := hdT csdTakeZ
def lpdTakeZ : Lp := lpT []
def bodydTakeZ (a0 : Int) (a1 : Int) (a2 : Int) : Option iodTakeZ.Res := bif a2 == 0 then bif decide (a0 < 0) then some (Out.ret (([], ()), ((), a1, 5, ()), ())) else bif a2 != 0 then some (Out.ret (([], ()), ((), a1, a2, ()), ())) else none else bif a2 != 0 then some (Out.ret (([], ()), ((), a1, a2, ()), ())) else none
theorem rundTakeZ (a0 : Int) (a1 : Int) (a2 : Int) : Io.run tt hddTakeZ dr lpdTakeZ iodTakeZ Go.Proofs.Tryz.f159 (((), a0, ()), ((), a1, a2, ()), ()) = bodydTakeZ a0 a1 a2 := by kernel_rfl
theorem okdTakeZ : HcOk prog 159 (ioHd iodTakeZ FdTakeZ) := by
  refine fn_sound (n := 400) hm (cs := csdTakeZ) HcsOk.nil (lp := lpdTakeZ) (fn := Go.Proofs.Tryz.f159) (by kernel_rfl) (by kernel_rfl) (by kernel_rfl) iodTakeZ (.done (by kernel_rfl)) FdTakeZ ?_
  rintro ⟨⟨⟨⟩, (n : Int), ⟨⟩⟩, ⟨⟨⟩, (v : Int), (e : Int), ⟨⟩⟩, ⟨⟩⟩ out hw ho
  obtain ⟨hg, ho⟩ := Tr.guard ho
  have hg : e ≠ 0 := of_decide_eq_true hg
  cases ho
  refine (rundTakeZ n v e).trans ?_
  unfold bodydTakeZ
  refine (bif_false (by simpa using hg) _ _).trans ?_
  exact bif_true (by simpa using hg) _ _
abbrev iodText : Io := ⟨[.ptr 0 0, dI], oDec, [], [.dat .str false false], none⟩
def FdText (d : iodText.In) : Tr iodText.Res := .ite (decOk d.2) (.ret (.ret (((spDText d.2.2.1.1 d.1.2.1 (decSt d.2)).1, ()), decOut d.2.1.2.1 d.2.2.1.1 (spDText d.2.2.1.1 d.1.2.1 (decSt d.2)).2))) .no
abbrev csdText : List (Nat × Hc) := [(159, orHd deadB (ioHd iodTakeZ FdTakeZ) (ioHd iodTake FdTake)), (141, ioHd iopUtf FpUtf)]
def hddText : Hd := hdT csdText
def lpdText : Lp := lpT []
def bodydText (a0 : Int) (a1 : Int) (a2 : Int) (a3 : List Int) (a4 : Int) : Option iodText.Res := bif decide (255 < a0) then bif spDok a3 a4 then some (Out.ret (([], ()), ((), a1, 4, ()), (a3, a4, ()), ())) else none else bif spDok a3 a4 then bif !(spUtf (spDTake a3 a0 (a2, a4)).fst).snd then some (Out.ret ((List.map (fun (c : UInt8) => (↑c.toNat : Int)) [], ()), ((), a1, 6, ()), (a3, (spDTake a3 a0 (a2, a4)).snd.snd, ()), ())) else some (Out.ret (((spDTake a3 a0 (a2, a4)).fst, ()), ((), a1, (spDTake a3 a0 (a2, a4)).snd.fst, ()), (a3, (spDTake a3 a0 (a2, a4)).snd.snd, ()), ())) else none
theorem rundText (a0 : Int) (a1 : Int) (a2 : Int) (a3 : List Int) (a4 : Int) : Io.run tt hddText dr lpdText iodText Go.Proofs.Tryz.f150 (((), a0, ()), ((), a1, a2, ()), (a3, a4, ()), ()) = bodydText a0 a1 a2 a3 a4 := by kernel_rfl
theorem okdText : HcOk prog 150 (ioHd iodText FdText) := by
  refine fn_sound (n := 400) hm (cs := csdText) (.cons (or_sound okdTakeZ okdTake) (.cons okpUtf .nil)) (lp := lpdText) (fn := Go.Proofs.Tryz.f150) (by kernel_rfl) (by kernel_rfl) (by kernel_rfl) iodText (.done (by kernel_rfl)) FdText ?_
  rintro ⟨⟨⟨⟩, (n : Int), ⟨⟩⟩, ⟨⟨⟩, (v : Int), (e : Int), ⟨⟩⟩, ⟨(b : List Int), (p : Int), ⟨⟩⟩, ⟨⟩⟩ out hw ho
  obtain ⟨hg, ho⟩ := Tr.guard ho
  have hg : spDok b p = true := hg
  cases ho
  refine (rundText n v e b p).trans ?_
  unfold bodydText
  show _ = some (Out.ret (((spDText b n (e, p)).1, ()), decOut v b (spDText b n (e, p)).2))
  unfold spDText spDLong
  by_cases h : 255 < n
  · rw [if_pos h]
    refine (bif_true (by simpa using h) _ _).trans ?_
    refine (bif_true hg _ _).trans ?_
    have e1 : spDTake b n (4, p) = ([], (4, p)) := rfl
    rw [e1, if_pos (by rfl)]
  · rw [if_neg h]
    refine (bif_false (by simpa using h) _ _).trans ?_
    refine (bif_true hg _ _).trans ?_
    cases hu : (spUtf (spDTake b n (e, p)).1).2
    · rw [if_neg (by simp)]
      rfl
    · rw [if_pos rfl]
      rfl
abbrev iodTextZ : Io := ⟨[.ptr 0 0, dI], oDecZ, [], [.dat .str false false], none⟩
def FdTextZ (d : iodTextZ.In) : Tr iodTextZ.Res := .ite (decide (d.2.1.2.2.1 ≠ 0) && decide (d.1.2.1 ≤ 255)) (.ret (.ret ((([] : List Int), ()), d.2))) .no
abbrev csdTextZ : List (Nat × Hc) := [(159, orHd deadB (ioHd iodTakeZ FdTakeZ) (ioHd iodTake FdTake)), (141, ioHd iopUtf FpUtf)]
def hddTextZ : Hd := hdT csdTextZ
def lpdTextZ : Lp := lpT []
def bodydTextZ (a0 : Int) (a1 : Int) (a2 : Int) : Option iodTextZ.Res := bif decide (255 < a0) then some (Out.ret (([], ()), ((), a1, 4, ()), ())) else bif decide (a2 ≠ 0) then some (Out.ret (([], ()), ((), a1, a2, ()), ())) else none
theorem rundTextZ (a0 : Int) (a1 : Int) (a2 : Int) : Io.run tt hddTextZ dr lpdTextZ iodTextZ Go.Proofs.Tryz.f150 (((), a0, ()), ((), a1, a2, ()), ()) = bodydTextZ a0 a1 a2 := by kernel_rfl
theorem okdTextZ : HcOk prog 150 (ioHd iodTextZ FdTextZ) := by
  refine fn_sound (n := 400) hm (cs := csdTextZ) (.cons (or_sound okdTakeZ okdTake) (.cons okpUtf .nil)) (lp := lpdTextZ) (fn := Go.Proofs.Tryz.f150) (by kernel_rfl) (by kernel_rfl) (by kernel_rfl) iodTextZ (.done (by kernel_rfl)) FdTextZ ?_
  rintro ⟨⟨⟨⟩, (n : Int), ⟨⟩⟩, ⟨⟨⟩, (v : Int), (e : Int), ⟨⟩⟩, ⟨⟩⟩ out hw ho
  obtain ⟨hg, ho⟩ := Tr.guard ho
  obtain ⟨hg, h2⟩ := Bool.and_eq_true_iff.1 hg
  have hg : e ≠ 0 := of_decide_eq_true hg
  have h2 : n ≤ 255 := of_decide_eq_true h2
  cases ho
  refine (rundTextZ n v e).trans ?_
  unfold bodydTextZ
  refine (bif_false (by simp; omega) _ _).trans ?_
  exact bif_true (by simpa using hg) _ _
def spDStr (b : List Int) (s : DeS) : List Int × DeS := spDText b (spDn .i16 2 b s).1 (spDn .i16 2 b s).2
abbrev iodStr : Io := ⟨[.ptr 0 0], oDec, [], [.dat .str false false], none⟩
def FdStr (d : iodStr.In) : Tr iodStr.Res := .ite (decOk d.2) (.ret (.ret (((spDStr d.2.2.1.1 (decSt d.2)).1, ()), decOut d.2.1.2.1 d.2.2.1.1 (spDStr d.2.2.1.1 (decSt d.2)).2))) .no
abbrev csdStr : List (Nat × Hc) := [(87, orHd deadB (ioHd iodI16Z FdI16Z) (ioHd iodI16 FdI16)), (150, orHd deadB (ioHd iodTextZ FdTextZ) (ioHd iodText FdText))]
def hddStr : Hd := hdT csdStr
def lpdStr : Lp := lpT []
def bodydStr (a0 : Int) (a1 : Int) (a2 : List Int) (a3 : Int) : Option iodStr.Res := bif spDok a2 a3 then bif spDok a2 (spDn IntKind.i16 2 a2 (a1, a3)).snd.snd then some (Out.ret (((spDText a2 (IntKind.i64.wrap (spDn IntKind.i16 2 a2 (a1, a3)).fst) (spDn IntKind.i16 2 a2 (a1, a3)).snd).fst, ()), ((), a0, (spDText a2 (IntKind.i64.wrap (spDn IntKind.i16 2 a2 (a1, a3)).fst) (spDn IntKind.i16 2 a2 (a1, a3)).snd).snd.fst, ()), (a2, (spDText a2 (IntKind.i64.wrap (spDn IntKind.i16 2 a2 (a1, a3)).fst) (spDn IntKind.i16 2 a2 (a1, a3)).snd).snd.snd, ()), ())) else none else none
theorem rundStr (a0 : Int) (a1 : Int) (a2 : List Int) (a3 : Int) : Io.run tt hddStr dr lpdStr iodStr Go.Proofs.Tryz.f84 (((), ()), ((), a0, a1, ()), (a2, a3, ()), ()) = bodydStr a0 a1 a2 a3 := by kernel_rfl
theorem okdStr : HcOk prog 84 (ioHd iodStr FdStr) := by
  refine fn_sound (n := 400) hm (cs := csdStr) (.cons (or_sound okdI16Z okdI16) (.cons (or_sound okdTextZ okdText) .nil)) (lp := lpdStr) (fn := Go.Proofs.Tryz.f84) (by kernel_rfl) (by kernel_rfl) (by kernel_rfl) iodStr (.done (by kernel_rfl)) FdStr ?_
  rintro ⟨⟨⟨⟩, ⟨⟩⟩, ⟨⟨⟩, (v : Int), (e : Int), ⟨⟩⟩, ⟨(b : List Int), (p : Int), ⟨⟩⟩, ⟨⟩⟩ out hw ho
  obtain ⟨hg, ho⟩ := Tr.guard ho
  have hg : spDok b p = true := hg
  cases ho
  refine (rundStr v e b p).trans ?_
  unfold bodydStr
  show _ = some (Out.ret (((spDStr b (e, p)).1, ()), decOut v b (spDStr b (e, p)).2))
  rw [spDn_i16]
  refine (bif_true hg _ _).trans ?_
  exact bif_true (spDn_ok .i16 2 (s := (e, p)) hg) _ _
def spDBlob (b : List Int) (s : DeS) : tBlobT.den × DeS := if (spDn .i32 4 b s).1 = -1 then ((true, (([] : List Int), ())), (spDn .i32 4 b s).2) else ((false, ((spDTake b (spDn .i32 4 b s).1 (spDn .i32 4 b s).2).1, ())), (spDTake b (spDn .i32 4 b s).1 (spDn .i32 4 b s).2).2)
def spDHas (v lo hi e : Int) : Bool := if e = 0 ∧ lo ≤ v ∧ v ≤ hi then true else false
abbrev iodHas : Io := ⟨[.ptr 0 0, dI, dI], oDec, [], [dB], none⟩
def FdHas (d : iodHas.In) : Tr iodHas.Res := .ret (.ret ((spDHas d.2.1.2.1 d.1.2.1 d.1.2.2.1 d.2.1.2.2.1, ()), d.2))
abbrev csdHas : List (Nat × Hc) := []
def hddHas : Hd := hdT csdHas
def lpdHas : Lp := lpT []
def bodydHas (a0 : Int) (a1 : Int) (a2 : Int) (a3 : Int) (a4 : List Int) (a5 : Int) : Option iodHas.Res := bif a3 == 0 then bif decide (a0 ≤ a2) then some (Out.ret ((decide (a2 ≤ a1), ()), ((), a2, a3, ()), (a4, a5, ()), ())) else some (Out.ret ((false, ()), ((), a2, a3, ()), (a4, a5, ()), ())) else some (Out.ret ((false, ()), ((), a2, a3, ()), (a4, a5, ()), ()))
theorem rundHas (a0 : Int) (a1 : Int) (a2 : Int) (a3 : Int) (a4 : List Int) (a5 : Int) : Io.run tt hddHas dr lpdHas iodHas Go.Proofs.Tryz.f80 (((), a0, a1, ()), ((), a2, a3, ()), (a4, a5, ()), ()) = bodydHas a0 a1 a2 a3 a4 a5 := by kernel_rfl
theorem okdHas : HcOk prog 80 (ioHd iodHas FdHas) := by
  refine fn_sound (n := 400) hm (cs := csdHas) HcsOk.nil (lp := lpdHas) (fn := Go.Proofs.Tryz.f80) (by kernel_rfl) (by kernel_rfl) (by kernel_rfl) iodHas (.done (by kernel_rfl)) FdHas ?_
  rintro ⟨⟨⟨⟩, (lo : Int), (hi : Int), ⟨⟩⟩, ⟨⟨⟩, (v : Int), (e : Int), ⟨⟩⟩, ⟨(b : List Int), (p : Int), ⟨⟩⟩, ⟨⟩⟩ out hw ho
  cases ho
  refine (rundHas lo hi v e b p).trans ?_
  unfold bodydHas
  show _ = some (Out.ret ((spDHas v lo hi e, ()), decOut v b (e, p)))
  have hs : spDHas v lo hi e = ((e == 0) && (decide (lo ≤ v) && decide (v ≤ hi))) := by
    unfold spDHas
    by_cases h : e = 0 ∧ lo ≤ v ∧ v ≤ hi
    · rw [if_pos h]; simp [h]
    · rw [if_neg h]
      rw [eq_comm, Bool.eq_false_iff]
      intro h'
      simp only [Bool.and_eq_true, beq_iff_eq, decide_eq_true_eq] at h'
      exact h h'
  rw [hs]
  cases e == 0
  · rfl
  · cases decide (lo ≤ v) <;> rfl
abbrev iodHasZ : Io := ⟨[.ptr 0 0, dI, dI], oDecZ, [], [dB], none⟩
def FdHasZ (d : iodHasZ.In) : Tr iodHasZ.Res := .ite (decide (d.2.1.2.2.1 ≠ 0)) (.ret (.ret ((false, ()), d.2))) .no
abbrev csdHasZ : List (Nat × Hc) := []
def hddHasZ : Hd := hdT csdHasZ
def lpdHasZ : Lp := lpT []
def bodydHasZ (a0 : Int) (a1 : Int) (a2 : Int) (a3 : Int) : Option iodHasZ.Res := bif a3 == 0 then bif decide (a0 ≤ a2) then some (Out.ret ((decide (a2 ≤ a1), ()), ((), a2, a3, ()), ())) else some (Out.ret ((false, ()), ((), a2, a3, ()), ())) else some (Out.ret ((false, ()), ((), a2, a3, ()), ()))
theorem rundHasZ (a0 : Int) (a1 : Int) (a2 : Int) (a3 : Int) : Io.run tt hddHasZ dr lpdHasZ iodHasZ Go.Proofs.Tryz.f80 (((), a0, a1, ()), ((), a2, a3, ()), ()) = bodydHasZ a0 a1 a2 a3 := by kernel_rfl
theorem okdHasZ : HcOk prog 80 (ioHd iodHasZ FdHasZ) := by
  refine fn_sound (n := 400) hm (cs := csdHasZ) HcsOk.nil (lp := lpdHasZ) (fn := Go.Proofs.Tryz.f80) (by kernel_rfl) (by kernel_rfl) (by kernel_rfl) iodHasZ (.done (by kernel_rfl)) FdHasZ ?_
  rintro ⟨⟨⟨⟩, (lo : Int), (hi : Int), ⟨⟩⟩, ⟨⟨⟩, (v : Int), (e : Int), ⟨⟩⟩, ⟨⟩⟩ out hw ho
  obtain ⟨hg, ho⟩ := Tr.guard ho
  have hg : e ≠ 0 := of_decide_eq_true hg
  cases ho
  refine (rundHasZ lo hi v e).trans ?_
  unfold bodydHasZ
  exact bif_false (by simpa using hg) _ _
def spDEnd (b : List Int) (s : DeS) : Int := if s.1 = 0 then spEnd b s.2 else s.1
abbrev iodEnd : Io := ⟨[.ptr 0 0], oDec, [], [dI], none⟩
def FdEnd (d : iodEnd.In) : Tr iodEnd.Res := .ret (.ret ((spDEnd d.2.2.1.1 (decSt d.2), ()), (((), (d.2.1.2.1, (spDEnd d.2.2.1.1 (decSt d.2), ()))), d.2.2)))
abbrev csdEnd : List (Nat × Hc) := [(124, ioHd iordEnd FrdEnd)]
def hddEnd : Hd := hdT csdEnd
def lpdEnd : Lp := lpT []
def bodydEnd (a0 : Int) (a1 : Int) (a2 : List Int) (a3 : Int) : Option iodEnd.Res := bif a1 == 0 then some (Out.ret ((spEnd a2 a3, ()), ((), a0, spEnd a2 a3, ()), (a2, a3, ()), ())) else some (Out.ret ((a1, ()), ((), a0, a1, ()), (a2, a3, ()), ()))
theorem rundEnd (a0 : Int) (a1 : Int) (a2 : List Int) (a3 : Int) : Io.run tt hddEnd dr lpdEnd iodEnd Go.Proofs.Tryz.f90 (((), ()), ((), a0, a1, ()), (a2, a3, ()), ()) = bodydEnd a0 a1 a2 a3 := by kernel_rfl
theorem okdEnd : HcOk prog 90 (ioHd iodEnd FdEnd) := by
  refine fn_sound (n := 400) hm (cs := csdEnd) (.cons okrdEnd .nil) (lp := lpdEnd) (fn := Go.Proofs.Tryz.f90) (by kernel_rfl) (by kernel_rfl) (by kernel_rfl) iodEnd (.done (by kernel_rfl)) FdEnd ?_
  rintro ⟨⟨⟨⟩, ⟨⟩⟩, ⟨⟨⟩, (v : Int), (e : Int), ⟨⟩⟩, ⟨(b : List Int), (p : Int), ⟨⟩⟩, ⟨⟩⟩ out hw ho
  cases ho
  refine (rundEnd v e b p).trans ?_
  unfold bodydEnd
  show _ = some (Out.ret ((spDEnd b (e, p), ()), decOut v b (spDEnd b (e, p), p)))
  unfold spDEnd
  by_cases h : e = 0
  · rw [if_pos h]
    exact bif_true (by simpa using h) _ _
  · rw [if_neg h]
    exact bif_false (by simpa using h) _ _
abbrev iodEndZ : Io := ⟨[.ptr 0 0], oDecZ, [], [dI], none⟩
def FdEndZ (d : iodEndZ.In) : Tr iodEndZ.Res := .ite (decide (d.2.1.2.2.1 ≠ 0)) (.ret (.ret ((d.2.1.2.2.1, ()), d.2))) .no
abbrev csdEndZ : List (Nat × Hc) := [(124, ioHd iordEnd FrdEnd)]
def hddEndZ : Hd := hdT csdEndZ
def lpdEndZ : Lp := lpT []
def bodydEndZ (a0 : Int) (a1 : Int) : Option iodEndZ.Res := bif a1 == 0 then none else some (Out.ret ((a1, ()), ((), a0, a1, ()), ()))
theorem rundEndZ (a0 : Int) (a1 : Int) : Io.run tt hddEndZ dr lpdEndZ iodEndZ Go.Proofs.Tryz.f90 (((), ()), ((), a0, a1, ()), ()) = bodydEndZ a0 a1 := by kernel_rfl
theorem okdEndZ : HcOk prog 90 (ioHd iodEndZ FdEndZ) := by
  refine fn_sound (n := 400) hm (cs := csdEndZ) (.cons okrdEnd .nil) (lp := lpdEndZ) (fn := Go.Proofs.Tryz.f90) (by kernel_rfl) (by kernel_rfl) (by kernel_rfl) iodEndZ (.done (by kernel_rfl)) FdEndZ ?_
  rintro ⟨⟨⟨⟩, ⟨⟩⟩, ⟨⟨⟩, (v : Int), (e : Int), ⟨⟩⟩, ⟨⟩⟩ out hw ho
  obtain ⟨hg, ho⟩ := Tr.guard ho
  have hg : e ≠ 0 := of_decide_eq_true hg
  cases ho
  refine (rundEndZ v e).trans ?_
  unfold bodydEndZ
  exact bif_false (by simpa using hg) _ _
abbrev iodNew : Io := ⟨[dI, dL], [], oDec, [.ptr 0 0], none⟩
def FdNew (d : iodNew.In) : Tr iodNew.Res := .ite (decide (0 ≤ d.1.1) && (decide (d.1.1 ≤ 3) && decide ((d.1.2.1.length : Int) ≤ 130048))) (.ret (.ret (((), ()), decOut d.1.1 d.1.2.1 (0, 0)))) .no
abbrev csdNew : List (Nat × Hc) := [(122, ioHd iordNew FrdNew)]
def hddNew : Hd := hdT csdNew
def lpdNew : Lp := lpT []
def bodydNew (a0 : Int) (a1 : List Int) : Option iodNew.Res := bif decide (a0 < 0) then none else bif decide (3 < a0) then none else bif decide (130048 < (↑a1.length : Int)) then none else bif decide (a1.length ≤ 4294967296) then some (Out.ret (((), ()), ((), a0, 0, ()), (a1, 0, ()), ())) else none
theorem rundNew (a0 : Int) (a1 : List Int) : Io.run tt hddNew dr lpdNew iodNew Go.Proofs.Tryz.f79 ((a0, a1, ()), ()) = bodydNew a0 a1 := by kernel_rfl
theorem okdNew : HcOk prog 79 (ioHd iodNew FdNew) := by
  refine fn_sound (n := 400) hm (cs := csdNew) (.cons okrdNew .nil) (lp := lpdNew) (fn := Go.Proofs.Tryz.f79) (by kernel_rfl) (by kernel_rfl) (by kernel_rfl) iodNew (.done (by kernel_rfl)) FdNew ?_
  rintro ⟨⟨(v : Int), (b : List Int), ⟨⟩⟩, ⟨⟩⟩ out hw ho
  obtain ⟨hg, ho⟩ := Tr.guard ho
  simp only [Bool.and_eq_true, decide_eq_true_eq] at hg
  obtain ⟨h1, h2, h3⟩ := hg
  have h1 : (0 : Int) ≤ v := h1
  have h2 : v ≤ (3 : Int) := h2
  have h3 : (b.length : Int) ≤ 130048 := h3
  cases ho
  refine (rundNew v b).trans ?_
  unfold bodydNew
  refine (bif_false (by simp; omega) _ _).trans ?_
  refine (bif_false (by simp; omega) _ _).trans ?_
  refine (bif_false (by simp; omega) _ _).trans ?_
  exact bif_true (by simp; omega) _ _
def spNewD (v : Int) : Int := if v < 0 ∨ 3 < v then 8 else 4
abbrev iodNewZ : Io := ⟨[dI, dL], [], oDecZ, [.ptr 0 0], none⟩
def FdNewZ (d : iodNewZ.In) : Tr iodNewZ.Res := .ite (decide (0 ≤ d.1.1) && (decide (d.1.1 ≤ 3) && decide ((d.1.2.1.length : Int) ≤ 130048))) .no (.ret (.ret (((), ()), (((), (d.1.1, (spNewD d.1.1, ()))), ()))))
abbrev csdNewZ : List (Nat × Hc) := [(122, ioHd iordNew FrdNew)]
def hddNewZ : Hd := hdT csdNewZ
def lpdNewZ : Lp := lpT []
def bodydNewZ (a0 : Int) (a1 : List Int) : Option iodNewZ.Res := bif decide (a0 < 0) then some (Out.ret (((), ()), ((), a0, 8, ()), ())) else bif decide (3 < a0) then some (Out.ret (((), ()), ((), a0, 8, ()), ())) else bif decide (130048 < (↑a1.length : Int)) then some (Out.ret (((), ()), ((), a0, 4, ()), ())) else bif decide (a1.length ≤ 4294967296) then none else none
theorem rundNewZ (a0 : Int) (a1 : List Int) : Io.run tt hddNewZ dr lpdNewZ iodNewZ Go.Proofs.Tryz.f79 ((a0, a1, ()), ()) = bodydNewZ a0 a1 := by kernel_rfl
theorem okdNewZ : HcOk prog 79 (ioHd iodNewZ FdNewZ) := by
  refine fn_sound (n := 400) hm (cs := csdNewZ) (.cons okrdNew .nil) (lp := lpdNewZ) (fn := Go.Proofs.Tryz.f79) (by kernel_rfl) (by kernel_rfl) (by kernel_rfl) iodNewZ (.done (by kernel_rfl)) FdNewZ ?_
  rintro ⟨⟨(v : Int), (b : List Int), ⟨⟩⟩, ⟨⟩⟩ out hw ho
  have hg : (decide (0 ≤ v) && (decide (v ≤ 3) && decide ((b.length : Int) ≤ 130048))) = false := by
    cases hc : (decide (0 ≤ v) && (decide (v ≤ 3) && decide ((b.length : Int) ≤ 130048)))
    · rfl
    · have e1 : FdNewZ ((v, (b, ())), ()) = .ite true .no (.ret (.ret (((), ()), (((), (v, (spNewD v, ()))), ())))) := congrArg (fun c => Tr.ite c _ _) hc
      rw [e1] at ho
      cases ho
  have e1 : FdNewZ ((v, (b, ())), ()) = .ite false .no (.ret (.ret (((), ()), (((), (v, (spNewD v, ()))), ())))) := congrArg (fun c => Tr.ite c _ _) hg
  rw [e1] at ho
  cases ho
  refine (rundNewZ v b).trans ?_
  unfold bodydNewZ spNewD
  simp only [Bool.and_eq_false_iff, decide_eq_false_iff_not] at hg
  by_cases h1 : v < 0
  · rw [if_pos (.inl h1)]
    exact bif_true (by simpa using h1) _ _
  · refine (bif_false (by simpa using h1) _ _).trans ?_
    by_cases h2 : 3 < v
    · rw [if_pos (.inr h2)]
      exact bif_true (by simpa using h2) _ _
    · rw [if_neg (by omega)]
      refine (bif_false (by simpa using h2) _ _).trans ?_
      exact bif_true (by simp; omega) _ _
end
end Go.Proofs.YtjpeefegeobgfaaGreat.Sym
namespace Go.Proofs.YtjpeefegeobgfaaGreat.Sym
open Go
set_option linter.unusedSimpArgs false
set_option linter.unusedVariables false
noncomputable section
abbrev oEnc1 : List (List Sh) := [[.ptr 1 0], [.ptr 2 0, dI, dI, dB], [dO, dI]]
abbrev oEncC : List (List Sh) := [[.ptr 1 0, dI, dI, dB], [dO, dI], [.ptr 0 0]]
abbrev encOut1 (v : Int) (s : EnS) : DenO oEnc1 := (((), ()), encOut v s)
abbrev encOutC (v : Int) (s : EnS) : DenO oEncC := (((), (v, (s.1, (s.2.1, ())))), ((s.2.2, (130048, ())), (((), ()), ())))
abbrev encStC (d : DenO oEncC) : EnS := (d.1.2.2.1, (d.1.2.2.2.1, d.2.1.1))
abbrev encOkC (d : DenO oEncC) : Bool := decide (d.2.1.2.1 = 130048) && decide (d.2.1.1.length ≤ 130048)
def spItems {α : Type} (one : α → EnS → EnS) (xs : List α) (s : EnS) : EnS := if 16 < (xs.length : Int) then spFail 9 s else xs.foldl (fun s x => one x s) (spPutE xs.length 4 s)
abbrev tPart : Ty := .prod (.int .i32) (.prod tBlobT .unit)
def spPartE (p : tPart.den) (s : EnS) : EnS := spBlobE p.2.1 (spPutE p.1 4 s)
def partOk (p : tPart.den) : Bool := decide (p.2.1.2.1.length ≤ 2147483647)
abbrev encOutB (v : Int) (s : EnS) : (Int × (Int × (Bool × Unit))) × ((List Int × (Int × Unit)) × (Unit × Unit)) := ((v, (s.1, (s.2.1, ()))), ((s.2.2, (130048, ())), ((), ())))
theorem spRawE_le {s : EnS} (p : List Int) (h : s.2.2.length ≤ 130048) : (spRawE p s).2.2.length ≤ 130048 := by
  unfold spRawE
  split
  · exact h
  · simp only [List.length_append]; omega
theorem spFail_le {s : EnS} (e : Int) (h : s.2.2.length ≤ 130048) : (spFail e s).2.2.length ≤ 130048 := by
  unfold spFail; split <;> exact h
theorem spStrE_le {s : EnS} (t : List Int) (h : s.2.2.length ≤ 130048) : (spStrE t s).2.2.length ≤ 130048 := by
  unfold spStrE
  split
  · exact spFail_le _ h
  · split
    · exact spFail_le _ h
    · exact spRawE_le _ (spPutE_le _ _ h)
theorem foldl_le {α : Type} {one : α → EnS → EnS} (h1 : ∀ x s, s.2.2.length ≤ 130048 → (one x s).2.2.length ≤ 130048) : ∀ (xs : List α) (s : EnS), s.2.2.length ≤ 130048 → (xs.foldl (fun s x => one x s) s).2.2.length ≤ 130048
  | [], _, h => h
  | x :: xs, s, h => foldl_le h1 xs (one x s) (h1 x s h)
theorem spItems_le {α : Type} {one : α → EnS → EnS} (h1 : ∀ x s, s.2.2.length ≤ 130048 → (one x s).2.2.length ≤ 130048) (xs : List α) {s : EnS} (h : s.2.2.length ≤ 130048) : (spItems one xs s).2.2.length ≤ 130048 := by
  unfold spItems
  split
  · exact spFail_le _ h
  · exact foldl_le h1 xs _ (spPutE_le _ _ h)
-- FqParts_5 : loqParts_5.st.den → Tr (DenX loqParts_5.xs) | ((h6, (h7, (h8, ()))), ((h9, (h10, (h11, ()))), ((h12, (h13, ())), ((), ()))))
theorem spLacks_le {s : EnS} (v : Int) (z : Bool) (lo hi : Int) (h : s.2.2.length ≤ 130048) : (spLacks v z lo hi s).2.2.length ≤ 130048 := by
  unfold spLacks
  split
  · exact spFail_le _ h
  · exact h
-- FqTopics_5 : loqTopics_5.st.den → Tr (DenX loqTopics_5.xs) | ((h6, (h7, (h8, ()))), ((h9, (h10, (h11, ()))), ((h12, (h13, ())), ((), ()))))
end
end Go.Proofs.YtjpeefegeobgfaaGreat.Sym
namespace Go.Proofs.YtjpeefegeobgfaaGreat.Sym
open Go
set_option linter.unusedSimpArgs false
set_option linter.unusedVariables false
noncomputable section
abbrev oDec1 : List (List Sh) := [[.ptr 1 0], [.ptr 2 0, dI, dI], [dL, dI]]
abbrev oDecC : List (List Sh) := [[.ptr 1 0, dI, dI], [dL, dI], [.ptr 0 0]]
abbrev oDecCZ : List (List Sh) := [[.nil, dI, dI], [.ptr 0 0]]
abbrev decOut1 (v : Int) (b : List Int) (s : DeS) : DenO oDec1 := (((), ()), decOut v b s)
abbrev decOutC (v : Int) (b : List Int) (s : DeS) : DenO oDecC := (((), (v, (s.1, ()))), ((b, (s.2, ())), (((), ()), ())))
abbrev decStC (d : DenO oDecC) : DeS := (d.1.2.2.1, d.2.1.2.1)
def spRep {α : Type} (one : DeS → α × DeS) : Nat → DeS → List α × DeS
  | 0, s => ([], s)
  | k + 1, s => if s.1 = 0 then ((one s).1 :: (spRep one k (one s).2).1, (spRep one k (one s).2).2) else ([], s)
def spLen (n : Int) (s : DeS) : DeS := if s.1 = 0 then (if n < 0 then (5, s.2) else if 16 < n then (9, s.2) else s) else s
def spList {α : Type} (one : DeS → α × DeS) (b : List Int) (s : DeS) : List α × DeS := spRep one (spDn .i32 4 b s).1.toNat (spLen (spDn .i32 4 b s).1 (spDn .i32 4 b s).2)
abbrev decOutB (v : Int) (b : List Int) (s : DeS) : (Int × (Int × Unit)) × ((List Int × (Int × Unit)) × (Unit × Unit)) := ((v, (s.1, ())), ((b, (s.2, ())), ((), ())))
theorem spLen_ok {b : List Int} {s : DeS} (n : Int) (h : spDok b s.2 = true) : spDok b (spLen n s).2 = true := by
  unfold spLen
  split
  · split
    · exact h
    · split <;> exact h
  · exact h
theorem spRep_ok {α : Type} {one : DeS → α × DeS} {b : List Int} (h1 : ∀ s, spDok b s.2 = true → spDok b (one s).2.2 = true) : ∀ (k : Nat) (s : DeS), spDok b s.2 = true → spDok b (spRep one k s).2.2 = true
  | 0, s, h => h
  | k + 1, s, h => by
    rw [spRep]
    split
    · exact spRep_ok h1 k _ (h1 s h)
    · exact h
theorem spList_ok {α : Type} {one : DeS → α × DeS} {b : List Int} {s : DeS} (h1 : ∀ s, spDok b s.2 = true → spDok b (one s).2.2 = true) (h : spDok b s.2 = true) : spDok b (spList one b s).2.2 = true :=
  spRep_ok h1 _ _ (spLen_ok _ (spDn_ok _ _ h))
theorem spDStr_ok {b : List Int} {s : DeS} (h : spDok b s.2 = true) : spDok b (spDStr b s).2.2 = true := spDText_ok _ (spDn_ok _ _ h)
@[irreducible] noncomputable def spDPart (b : List Int) (s : DeS) : tPart.den × DeS := (((spDn .i32 4 b s).1, ((spDBlob b (spDn .i32 4 b s).2).1, ())), (spDBlob b (spDn .i32 4 b s).2).2)
-- FuParts_10 : louParts_10.st.den → Tr (DenX louParts_10.xs) | ((h4, (h5, (h6, ()))), ((h7, (h8, ())), ((h9, (h10, ())), ((), ()))))
-- FuTopics_10 : louTopics_10.st.den → Tr (DenX louTopics_10.xs) | ((h4, (h5, (h6, ()))), ((h7, (h8, ())), ((h9, (h10, ())), ((), ()))))
-- FuTopicsZ_10 : louTopicsZ_10.st.den → Tr (DenX louTopicsZ_10.xs) | ((h2, (h3, (h4, ()))), ((h5, (h6, ())), ((), ())))
def newBad (args : List V) (A : AS) : Bool := match args with
  | [.one (.int _ v), .one (.lst _ _ xs _)] => !(decide (0 ≤ v) && (decide (v ≤ 3) && decide ((xs.length : Int) ≤ 130048)))
  | _ => false
end
end Go.Proofs.YtjpeefegeobgfaaGreat.Sym
namespace Go.Proofs.YtjpeefegeobgfaaGreat.Sym
open Go
set_option linter.unusedSimpArgs false
set_option linter.unusedVariables false
noncomputable section
abbrev tDone : Ty := .prod (.int .i32) (.prod (.int .i16) (.prod (.int .i64) (.prod (.int .i64) (.prod (.int .i64) .unit))))
def spHasE (v lo hi x : Int) (n : Nat) (s : EnS) : EnS := if lo ≤ v ∧ v ≤ hi then spPutE x n s else s
theorem spHasE_le {s : EnS} (v lo hi x : Int) (n : Nat) (h : s.2.2.length ≤ 130048) : (spHasE v lo hi x n s).2.2.length ≤ 130048 := by
  unfold spHasE
  split
  · exact spPutE_le _ _ h
  · exact h
-- FrDones_5 : lorDones_5.st.den → Tr (DenX lorDones_5.xs) | ((h6, (h7, (h8, ()))), ((h9, (h10, (h11, ()))), ((h12, (h13, ())), ((), ()))))
-- FrGones_5 : lorGones_5.st.den → Tr (DenX lorGones_5.xs) | ((h6, (h7, (h8, ()))), ((h9, (h10, (h11, ()))), ((h12, (h13, ())), ((), ()))))
-- FrRep_8 : lorRep_8.st.den → Tr (DenX lorRep_8.xs) | ((h13, (h14, (h15, (h16, (h17, (h18, ())))))), ((h19, (h20, ())), ((), ((h21, (h22, (h23, ()))), ((h24, (h25, ())), ())))))
-- FrRep_5 : lorRep_5.st.den → Tr (DenX lorRep_5.xs) | ((h3, (h4, (h5, ()))), ((h6, (h7, ())), ((), ((h8, (h9, (h10, ()))), ((h11, (h12, ())), ())))))
end
end Go.Proofs.YtjpeefegeobgfaaGreat.Sym
namespace Go.Proofs.YtjpeefegeobgfaaGreat.Sym
open Go
set_option linter.unusedSimpArgs false
set_option linter.unusedVariables false
noncomputable section
def spDHasN (k : IntKind) (n : Nat) (v lo hi : Int) (b : List Int) (s : DeS) : Int × DeS := if spDHas v lo hi s.1 = true then spDn k n b s else (0, s)
theorem spDHasN_ok {k : IntKind} {n : Nat} {v lo hi : Int} {b : List Int} {s : DeS} (h : spDok b s.2 = true) : spDok b (spDHasN k n v lo hi b s).2.2 = true := by
  unfold spDHasN
  split
  · exact spDn_ok _ _ h
  · exact h
def spD3 (b : List Int) (s : DeS) : DeS := (spDn .i64 8 b (spDn .i16 2 b (spDn .i32 4 b s).2).2).2
@[irreducible] noncomputable def spDDone (v : Int) (b : List Int) (s : DeS) : tDone.den × DeS :=
  (((spDn .i32 4 b s).1, ((spDn .i16 2 b (spDn .i32 4 b s).2).1, ((spDn .i64 8 b (spDn .i16 2 b (spDn .i32 4 b s).2).2).1, ((spDHasN .i64 8 v 2 3 b (spD3 b s)).1, ((spDHasN .i64 8 v 3 3 b (spDHasN .i64 8 v 2 3 b (spD3 b s)).2).1, ()))))), (spDHasN .i64 8 v 3 3 b (spDHasN .i64 8 v 2 3 b (spD3 b s)).2).2)
-- FwDones_10 : lowDones_10.st.den → Tr (DenX lowDones_10.xs) | ((h4, (h5, (h6, ()))), ((h7, (h8, ())), ((h9, (h10, ())), ((), ()))))
-- FwGones_10 : lowGones_10.st.den → Tr (DenX lowGones_10.xs) | ((h4, (h5, (h6, ()))), ((h7, (h8, ())), ((h9, (h10, ())), ((), ()))))
-- FwGonesZ_10 : lowGonesZ_10.st.den → Tr (DenX lowGonesZ_10.xs) | ((h2, (h3, (h4, ()))), ((h5, (h6, ())), ((), ())))
end
end Go.Proofs.YtjpeefegeobgfaaGreat.Sym
namespace Go.Proofs.YtjpeefegeobgfaaGreat.Sym
open Go
set_option linter.unusedSimpArgs false
set_option linter.unusedVariables false
noncomputable section
abbrev d8 : Sh := .dat (.int .i8) false false
abbrev iowI8 : Io := ⟨[.ptr 0 0, d8], [oWr], [], [dI], none⟩
def FwI8 (d : iowI8.In) : Tr iowI8.Res :=
  .ite (spWok d.2.1.1 d.2.1.2.1) (.ret (.ret (((spWr d.2.1.1 d.2.1.2.1 d.1.2.1 1).1, ()), (((spWr d.2.1.1 d.2.1.2.1 d.1.2.1 1).2, (d.2.1.2.1, ())), ())))) .no
abbrev cswI8 : List (Nat × Hc) := [(175, ioHd iownumber Fwnumber)]
def hdwI8 : Hd := hdT cswI8
def lpwI8 : Lp := lpT []
def bodywI8 (a0 : Int) (a1 : List Int) (a2 : Int) : Option iowI8.Res := bif spWok a1 a2 && (decide (0 ≤ 1) && decide (1 ≤ 8)) then some (Out.ret (((spWr a1 a2 (IntKind.u64.wrap a0) (Int.toNat 1)).fst, ()), ((spWr a1 a2 (IntKind.u64.wrap a0) (Int.toNat 1)).snd, a2, ()), ())) else none
theorem runwI8 (a0 : Int) (a1 : List Int) (a2 : Int) : Io.run tt hdwI8 dr lpwI8 iowI8 Go.Proofs.Tryz.f140 (((), a0, ()), (a1, a2, ()), ()) = bodywI8 a0 a1 a2 := by kernel_rfl
theorem okwI8 : HcOk prog 140 (ioHd iowI8 FwI8) := by
  refine fn_sound (n := 400) hm (cs := cswI8) (.cons okwnumber .nil) (lp := lpwI8) (fn := Go.Proofs.Tryz.f140) (by kernel_rfl) (by kernel_rfl) (by kernel_rfl) iowI8 (.done (by kernel_rfl)) FwI8 ?_
  rintro ⟨⟨⟨⟩, (v : Int), ⟨⟩⟩, ⟨⟨(b : List Int), (m : Int), ⟨⟩⟩, ⟨⟩⟩⟩ out hw ho
  obtain ⟨hg, ho⟩ := Tr.guard ho
  have hg : spWok b m = true := hg
  cases ho
  refine (runwI8 v b m).trans ?_
  unfold bodywI8
  have e : spWr b m (IntKind.u64.wrap v) 1 = spWr b m v 1 := by unfold spWr; rw [spBE_u64 v (by decide)]
  simp [hg, e]
abbrev ioeI8 : Io := ⟨[.ptr 0 0, d8], oEnc, [], [], none⟩
def FeI8 (d : ioeI8.In) : Tr ioeI8.Res := .ite (encOk d.2) (.ret (.ret ((), encOut d.2.1.2.1 (spPutE d.1.2.1 1 (encSt d.2))))) .no
abbrev cseI8 : List (Nat × Hc) := [(140, ioHd iowI8 FwI8), (138, ioHd ioenoted Fenoted)]
def hdeI8 : Hd := hdT cseI8
def lpeI8 : Lp := lpT []
def bodyeI8 (a0 : Int) (a1 : Int) (a2 : Int) (a3 : Bool) (a4 : List Int) (a5 : Int) : Option ioeI8.Res := bif spWok a4 a5 then bif decide (a5 = 130048) && decide ((spWr a4 a5 a0 1).snd.length ≤ 130048) then some (Out.ret ((), ((), a1, a2, a3 || decide ((spWr a4 a5 a0 1).fst ≠ 0), ()), ((spWr a4 a5 a0 1).snd, 130048, ()), ())) else none else none
theorem runeI8 (a0 : Int) (a1 : Int) (a2 : Int) (a3 : Bool) (a4 : List Int) (a5 : Int) : Io.run tt hdeI8 dr lpeI8 ioeI8 Go.Proofs.Tryz.f58 (((), a0, ()), ((), a1, a2, a3, ()), (a4, a5, ()), ()) = bodyeI8 a0 a1 a2 a3 a4 a5 := by kernel_rfl
theorem okeI8 : HcOk prog 58 (ioHd ioeI8 FeI8) := by
  refine fn_sound (n := 400) hm (cs := cseI8) (.cons okwI8 (.cons okenoted .nil)) (lp := lpeI8) (fn := Go.Proofs.Tryz.f58) (by kernel_rfl) (by kernel_rfl) (by kernel_rfl) ioeI8 (.done (by kernel_rfl)) FeI8 ?_
  rintro ⟨⟨⟨⟩, (x : Int), ⟨⟩⟩, ⟨⟨⟨⟩, (v : Int), (e : Int), (f : Bool), ⟨⟩⟩, ⟨(b : List Int), (m : Int), ⟨⟩⟩, ⟨⟩⟩⟩ out hw ho
  obtain ⟨hg, ho⟩ := Tr.guard ho
  obtain ⟨rfl, hb⟩ := encOk_iff hg
  cases ho
  refine (runeI8 x v e f b 130048).trans ?_
  exact encPut 1 x hb
abbrev iordI8 : Io := ⟨[.ptr 0 0], [oRr], [], [d8, dI], none⟩
def FrdI8 (d : iordI8.In) : Tr iordI8.Res :=
  .ite (spRok d.2.1.1 d.2.1.2.1) (.ret (.ret ((IntKind.i8.wrap (spRd d.2.1.1 d.2.1.2.1 1).1, ((spRd d.2.1.1 d.2.1.2.1 1).2.2, ())), ((d.2.1.1, ((spRd d.2.1.1 d.2.1.2.1 1).2.1, ())), ())))) .no
abbrev csrdI8 : List (Nat × Hc) := [(179, ioHd iordnumber Frdnumber)]
def hdrdI8 : Hd := hdT csrdI8
def lprdI8 : Lp := lpT []
def bodyrdI8 (a0 : List Int) (a1 : Int) : Option iordI8.Res := bif spRok a0 a1 && (decide (0 ≤ 1) && decide (1 ≤ 8)) then some (Out.ret ((IntKind.i8.wrap (spRd a0 a1 (Int.toNat 1)).fst, (spRd a0 a1 (Int.toNat 1)).snd.snd, ()), (a0, (spRd a0 a1 (Int.toNat 1)).snd.fst, ()), ())) else none
theorem runrdI8 (a0 : List Int) (a1 : Int) : Io.run tt hdrdI8 dr lprdI8 iordI8 Go.Proofs.Tryz.f156 (((), ()), (a0, a1, ()), ()) = bodyrdI8 a0 a1 := by kernel_rfl
theorem okrdI8 : HcOk prog 156 (ioHd iordI8 FrdI8) := by
  refine fn_sound (n := 400) hm (cs := csrdI8) (.cons okrdnumber .nil) (lp := lprdI8) (fn := Go.Proofs.Tryz.f156) (by kernel_rfl) (by kernel_rfl) (by kernel_rfl) iordI8 (.done (by kernel_rfl)) FrdI8 ?_
  rintro ⟨⟨⟨⟩, ⟨⟩⟩, ⟨⟨(b : List Int), (p : Int), ⟨⟩⟩, ⟨⟩⟩⟩ out hw ho
  obtain ⟨hg, ho⟩ := Tr.guard ho
  have hg : spRok b p = true := hg
  cases ho
  refine (runrdI8 b p).trans ?_
  unfold bodyrdI8
  rw [bif_true (by simp [hg])]
  rfl
abbrev iodN8 : Io := ⟨[.ptr 0 0, .fnc 156 true [1]], oDec, [], [d8], none⟩
def FdN8 (d : iodN8.In) : Tr iodN8.Res := .ite (decOk d.2) (.ret (.ret ((IntKind.i8.wrap (spRd d.2.2.1.1 d.2.2.1.2.1 1).1, ()), decOut d.2.1.2.1 d.2.2.1.1 ((spRd d.2.2.1.1 d.2.2.1.2.1 1).2.2, (spRd d.2.2.1.1 d.2.2.1.2.1 1).2.1)))) .no
abbrev csdN8 : List (Nat × Hc) := [(156, ioHd iordI8 FrdI8)]
def hddN8 : Hd := hdT csdN8
def lpdN8 : Lp := lpT []
def bodydN8 (a0 : Int) (a1 : Int) (a2 : List Int) (a3 : Int) : Option iodN8.Res := bif spRok a2 a3 then some (Out.ret ((IntKind.i8.wrap (spRd a2 a3 1).fst, ()), ((), a0, (spRd a2 a3 1).snd.snd, ()), (a2, (spRd a2 a3 1).snd.fst, ()), ())) else none
theorem rundN8 (a0 : Int) (a1 : Int) (a2 : List Int) (a3 : Int) : Io.run tt hddN8 dr lpdN8 iodN8 Go.Proofs.Tryz.f155 (((), (), ()), ((), a0, a1, ()), (a2, a3, ()), ()) = bodydN8 a0 a1 a2 a3 := by kernel_rfl
theorem okdN8 : HcOk prog 155 (ioHd iodN8 FdN8) := by
  refine fn_sound (n := 400) hm (cs := csdN8) (.cons okrdI8 .nil) (lp := lpdN8) (fn := Go.Proofs.Tryz.f155) (by kernel_rfl) (by kernel_rfl) (by kernel_rfl) iodN8 (.done (by kernel_rfl)) FdN8 ?_
  rintro ⟨⟨⟨⟩, ⟨⟩, ⟨⟩⟩, ⟨⟨⟩, (v : Int), (e : Int), ⟨⟩⟩, ⟨(b : List Int), (p : Int), ⟨⟩⟩, ⟨⟩⟩ out hw ho
  obtain ⟨hg, ho⟩ := Tr.guard ho
  have hg : spDok b p = true := hg
  cases ho
  refine (rundN8 v e b p).trans ?_
  unfold bodydN8
  exact bif_true (spRok_of hg) _ _
abbrev iodI8 : Io := ⟨[.ptr 0 0], oDec, [], [d8], none⟩
def FdI8 (d : iodI8.In) : Tr iodI8.Res := .ite (decOk d.2) (.ret (.ret (((spDn .i8 1 d.2.2.1.1 (decSt d.2)).1, ()), decOut d.2.1.2.1 d.2.2.1.1 (spDn .i8 1 d.2.2.1.1 (decSt d.2)).2))) .no
abbrev csdI8 : List (Nat × Hc) := [(155, ioHd iodN8 FdN8)]
def hddI8 : Hd := hdT csdI8
def lpdI8 : Lp := lpT []
def bodydI8 (a0 : Int) (a1 : Int) (a2 : List Int) (a3 : Int) : Option iodI8.Res := bif a1 != 0 then some (Out.ret ((0, ()), ((), a0, a1, ()), (a2, a3, ()), ())) else bif spDok a2 a3 then some (Out.ret ((IntKind.i8.wrap (spRd a2 a3 1).fst, ()), ((), a0, (spRd a2 a3 1).snd.snd, ()), (a2, (spRd a2 a3 1).snd.fst, ()), ())) else none
theorem rundI8 (a0 : Int) (a1 : Int) (a2 : List Int) (a3 : Int) : Io.run tt hddI8 dr lpdI8 iodI8 Go.Proofs.Tryz.f91 (((), ()), ((), a0, a1, ()), (a2, a3, ()), ()) = bodydI8 a0 a1 a2 a3 := by kernel_rfl
theorem okdI8 : HcOk prog 91 (ioHd iodI8 FdI8) := by
  refine fn_sound (n := 400) hm (cs := csdI8) (.cons okdN8 .nil) (lp := lpdI8) (fn := Go.Proofs.Tryz.f91) (by kernel_rfl) (by kernel_rfl) (by kernel_rfl) iodI8 (.done (by kernel_rfl)) FdI8 ?_
  rintro ⟨⟨⟨⟩, ⟨⟩⟩, ⟨⟨⟩, (v : Int), (e : Int), ⟨⟩⟩, ⟨(b : List Int), (p : Int), ⟨⟩⟩, ⟨⟩⟩ out hw ho
  obtain ⟨hg, ho⟩ := Tr.guard ho
  have hg : spDok b p = true := hg
  cases ho
  refine (rundI8 v e b p).trans ?_
  unfold bodydI8
  show _ = some (Out.ret (((spDn .i8 1 b (e, p)).1, ()), decOut v b (spDn .i8 1 b (e, p)).2))
  unfold spDn
  by_cases h : e = 0
  · rw [if_pos h]
    refine (bif_false (by simpa using h) _ _).trans ?_
    exact bif_true hg _ _
  · rw [if_neg h]
    exact bif_true (by simpa using h) _ _
abbrev iodI8Z : Io := ⟨[.ptr 0 0], oDecZ, [], [d8], none⟩
def FdI8Z (d : iodI8Z.In) : Tr iodI8Z.Res := .ite (decide (d.2.1.2.2.1 ≠ 0)) (.ret (.ret ((0, ()), d.2))) .no
abbrev csdI8Z : List (Nat × Hc) := []
def hddI8Z : Hd := hdT csdI8Z
def lpdI8Z : Lp := lpT []
def bodydI8Z (a0 : Int) (a1 : Int) : Option iodI8Z.Res := bif a1 != 0 then some (Out.ret ((0, ()), ((), a0, a1, ()), ())) else none
theorem rundI8Z (a0 : Int) (a1 : Int) : Io.run tt hddI8Z dr lpdI8Z iodI8Z Go.Proofs.Tryz.f91 (((), ()), ((), a0, a1, ()), ()) = bodydI8Z a0 a1 := by kernel_rfl
theorem okdI8Z : HcOk prog 91 (ioHd iodI8Z FdI8Z) := by
  refine fn_sound (n := 400) hm (cs := csdI8Z) HcsOk.nil (lp := lpdI8Z) (fn := Go.Proofs.Tryz.f91) (by kernel_rfl) (by kernel_rfl) (by kernel_rfl) iodI8Z (.done (by kernel_rfl)) FdI8Z ?_
  rintro ⟨⟨⟨⟩, ⟨⟩⟩, ⟨⟨⟩, (v : Int), (e : Int), ⟨⟩⟩, ⟨⟩⟩ out hw ho
  obtain ⟨hg, ho⟩ := Tr.guard ho
  have hg : e ≠ 0 := of_decide_eq_true hg
  cases ho
  refine (rundI8Z v e).trans ?_
  unfold bodydI8Z
  exact bif_true (by simpa using hg) _ _
theorem spHasE_in {v lo hi x : Int} {n : Nat} {s : EnS} (h : lo ≤ v ∧ v ≤ hi) : spHasE v lo hi x n s = spPutE x n s := by unfold spHasE; rw [if_pos h]
theorem spHasE_out {v lo hi x : Int} {n : Nat} {s : EnS} (h : ¬ (lo ≤ v ∧ v ≤ hi)) : spHasE v lo hi x n s = s := by unfold spHasE; rw [if_neg h]
end
end Go.Proofs.YtjpeefegeobgfaaGreat.Sym
namespace Go.Proofs.YtjpeefegeobgfaaGreat.Sym
open Go
set_option linter.unusedSimpArgs false
set_option linter.unusedVariables false
noncomputable section
def spFits (v n : Int) : Bool := if 8 ≤ n then true else if -(2 ^ (8 * n - 1).toNat) ≤ v ∧ v < 2 ^ (8 * n - 1).toNat then true else false
abbrev ionFits : Io := ⟨[d64s, dI], [], [], [dB], none⟩
def FnFits (d : ionFits.In) : Tr ionFits.Res := .ite (decide ((1 : Int) ≤ d.1.2.1)) (.ret (.ret ((spFits d.1.1 d.1.2.1, ()), ()))) .no
abbrev csnFits : List (Nat × Hc) := []
def hdnFits : Hd := hdT csnFits
abbrev lonFits_6 : Lo := ⟨⟨[.one (.hol (.int IntKind.i64)), .one (.hol (.int IntKind.i64)), .any, .any, .any, .one (.hol (.int IntKind.i64)), .one (.hol (.int IntKind.i64)), .any, .any, .any, .any, .any, .any, .any, .any, .any, .any, .any, .any, .any, .any, .any, .any, .any, .any, .any, .any], []⟩, [(.exit 0, ⟨[.one (.hol (.int IntKind.i64)), .any, .any, .any, .any, .one (.hol (.int IntKind.i64)), .any, .any, .any, .any, .any, .any, .any, .any, .any, .any, .any, .any, .any, .any, .any, .any, .any, .any, .any, .any, .any], []⟩)]⟩
-- FnFits_6 : lonFits_6.st.den → Tr (DenX lonFits_6.xs) | ((h2, (h3, (h4, (h5, ())))), ())
def FnFits_6 (d : lonFits_6.st.den) : Tr (DenX lonFits_6.xs) :=
  .ite (decide (d.1.2.2.1 = 1) && (decide (d.1.2.2.2.1 = 0) && (decide ((1 : Int) ≤ d.1.2.1) && decide (d.1.2.1 ≤ (7 : Int))))) (.ret (.ret ((), ((d.1.1, ((2 : Int) ^ (8 * d.1.2.1 - 1).toNat, ())), ())))) .no
def lpnFits : Lp := lpT [(6, loHd lonFits_6 FnFits_6)]
def stepnFits_6 {R : Type} (h2 : Int) (h3 : Int) (h4 : Int) (h5 : Int) (next : Int → Int → Int → Int → Option R) (out : DenX lonFits_6.xs → Option R) : Option R := bif decide (h5 < IntKind.i64.wrap (IntKind.i64.wrap (8 * h3) - 1)) then next (h2) (h3) (IntKind.i64.wrap (h4 * 2)) (IntKind.i64.wrap (h5 + 1)) else out (.ret ((), ((h2, (h4, ())), ())))
def itnFits_6 (n : Nat) (h2 : Int) (h3 : Int) (h4 : Int) (h5 : Int) : Option (DenX lonFits_6.xs) := lpN tt hdnFits dr lpnFits 0 Go.Proofs.Tryz.f198 (topL Go.Proofs.Tryz.f198 0) n (lonFits_6.st.mk' ((h2, (h3, (h4, (h5, ())))), ())) (decX lonFits_6.xs)
theorem slnFits_6 (n : Nat) (h2 : Int) (h3 : Int) (h4 : Int) (h5 : Int) : itnFits_6 (n + 1) h2 h3 h4 h5 = stepnFits_6 h2 h3 h4 h5 (itnFits_6 n) some := by kernel_rfl
theorem two_pow_le {m : Nat} (h : m ≤ 56) : (1 : Int) ≤ 2 ^ m ∧ (2 : Int) ^ m ≤ 72057594037927936 := by
  constructor
  · have : (0 : Int) < 2 ^ m := Int.pow_pos (by decide)
    omega
  · have := Nat.pow_le_pow_right (show 0 < 2 by decide) h
    have e : ((2 ^ m : Nat) : Int) = (2 : Int) ^ m := by simp
    have e2 : (2 : Nat) ^ 56 = 72057594037927936 := by decide
    omega
theorem loopnFits (v : Int) {n : Int} (h0 : 1 ≤ n) (h1 : n ≤ 7) : ∀ (k j : Nat), (8 * n - 1).toNat < j + k → j ≤ (8 * n - 1).toNat →
    itnFits_6 k v n ((2 : Int) ^ j) j = some (.ret ((), ((v, ((2 : Int) ^ (8 * n - 1).toNat, ())), ()))) := by
  intro k
  induction k with
  | zero => intro j h; omega
  | succ k ih =>
    intro j h2 h3
    rw [slnFits_6]
    unfold stepnFits_6
    rw [wrap_i64 (n := 8 * n) (by omega) (by omega), wrap_i64 (n := 8 * n - 1) (by omega) (by omega)]
    by_cases hj : (j : Int) < 8 * n - 1
    · refine (bif_true (by simpa using hj) _ _).trans ?_
      have hp := two_pow_le (m := j + 1) (by omega)
      have hp0 := two_pow_le (m := j) (by omega)
      have e : (2 : Int) ^ j * 2 = 2 ^ (j + 1) := (Int.pow_succ 2 j).symm
      rw [e, wrap_i64 (n := (2 : Int) ^ (j + 1)) (by omega) (by omega), wrap_i64 (n := (j : Int) + 1) (by omega) (by omega)]
      exact ih (j + 1) (by omega) (by omega)
    · refine (bif_false (by simpa using hj) _ _).trans ?_
      have e : j = (8 * n - 1).toNat := by omega
      rw [← e]
def bodynFits (a0 : Int) (a1 : Int) : Option ionFits.Res := bif decide (8 ≤ a1) then some (Out.ret ((true, ()), ())) else (FnFits_6 ((a0, (a1, (1, (0, ())))), ())).run fun y => match y with | .ret ((), ((x12, x13, ()), ())) => (bif decide (IntKind.i64.wrap (0 - x13) ≤ x12) then some (Out.ret ((decide (x12 < x13), ()), ())) else some (Out.ret ((false, ()), ())))
theorem runnFits (a0 : Int) (a1 : Int) : Io.run tt hdnFits dr lpnFits ionFits Go.Proofs.Tryz.f198 ((a0, a1, ()), ()) = bodynFits a0 a1 := by kernel_rfl
theorem oknFits : HcOk prog 198 (ioHd ionFits FnFits) := by
  refine fn_sound (n := 400) hm (cs := csnFits) HcsOk.nil (lp := lpnFits) (fn := Go.Proofs.Tryz.f198) (by kernel_rfl) (by kernel_rfl) (by kernel_rfl) ionFits (.step (h0 := loHd lonFits_6 FnFits_6) (by kernel_rfl) (loop_sound (n := 400) hm (cs := csnFits) HcsOk.nil (lp := lpnFits) (fn := Go.Proofs.Tryz.f198) (.done (by kernel_rfl)) lonFits_6 FnFits_6 ?_) (.done (by kernel_rfl))) FnFits ?_
  · rintro ⟨⟨(v : Int), (n : Int), (a : Int), (i : Int), ⟨⟩⟩, ⟨⟩⟩ y hw hy
    obtain ⟨hg, hy⟩ := Tr.guard hy
    simp only [Bool.and_eq_true, decide_eq_true_eq] at hg
    obtain ⟨h1, h2, h3, h4⟩ := hg
    have h1 : a = 1 := h1
    have h2 : i = 0 := h2
    have h3 : (1 : Int) ≤ n := h3
    have h4 : n ≤ (7 : Int) := h4
    subst h1
    subst h2
    refine ⟨(8 * n - 1).toNat + 1, (loopnFits v h3 h4 ((8 * n - 1).toNat + 1) 0 (by omega) (by omega)).trans ?_⟩
    rw [← hy]; rfl
  · rintro ⟨⟨(v : Int), (n : Int), ⟨⟩⟩, ⟨⟩⟩ out hw ho
    obtain ⟨hg, ho⟩ := Tr.guard ho
    have hg : (1 : Int) ≤ n := of_decide_eq_true hg
    cases ho
    refine (runnFits v n).trans ?_
    unfold bodynFits
    show _ = some (Out.ret ((spFits v n, ()), ()))
    unfold spFits
    by_cases h8 : 8 ≤ n
    · rw [if_pos h8]
      exact bif_true (by simpa using h8) _ _
    · rw [if_neg h8]
      refine (bif_false (by simpa using h8) _ _).trans ?_
      have c1 : (decide ((1 : Int) = 1) && (decide ((0 : Int) = 0) && (decide ((1 : Int) ≤ n) && decide (n ≤ (7 : Int))))) = true := by simp; omega
      have e1 : FnFits_6 ((v, (n, (1, (0, ())))), ()) = .ite true (.ret (.ret ((), ((v, ((2 : Int) ^ (8 * n - 1).toNat, ())), ())))) .no := congrArg (fun c => Tr.ite c _ _) c1
      rw [e1]
      have hp := two_pow_le (m := (8 * n - 1).toNat) (by omega)
      show (bif decide (IntKind.i64.wrap (0 - (2 : Int) ^ (8 * n - 1).toNat) ≤ v) then some (Out.ret ((decide (v < (2 : Int) ^ (8 * n - 1).toNat), ()), ())) else some (Out.ret ((false, ()), ()))) = _
      generalize (2 : Int) ^ (8 * n - 1).toNat = m at hp ⊢
      rw [wrap_i64 (n := 0 - m) (by omega) (by omega)]
      by_cases h1 : 0 - m ≤ v
      · refine (bif_true (by simpa using h1) _ _).trans ?_
        by_cases h2 : v < m
        · rw [if_pos ⟨by omega, h2⟩, decide_eq_true h2]
        · rw [if_neg (by omega), decide_eq_false h2]
      · refine (bif_false (by simpa using h1) _ _).trans ?_
        rw [if_neg (by omega)]
abbrev ionDigits : Io := ⟨[d64s, dI], [], [], [dO], none⟩
def FnDigits (d : ionDigits.In) : Tr ionDigits.Res := .ite (decide ((0 : Int) ≤ d.1.2.1) && decide (d.1.2.1 ≤ (8 : Int))) (.ret (.ret ((spBE d.1.1 d.1.2.1.toNat, ()), ()))) .no
abbrev csnDigits : List (Nat × Hc) := []
def hdnDigits : Hd := hdT csnDigits
abbrev lonDigits_4 : Lo := ⟨⟨[.one (.hol (.int IntKind.i64)), .one (.hol (.int IntKind.i64)), .any, .any, .any, .one (.onl 5 (Ty.int IntKind.u8) 11), .one (.hol (.int IntKind.i64)), .any, .any, .any, .any, .any, .any, .any, .any, .any, .any, .any, .any, .any, .any, .any, .any, .any, .any, .any, .any, .any, .any, .any, .any, .any, .any, .any, .any, .any, .any, .any, .any, .any, .any, .any, .any, .any, .any, .any], []⟩, [(.exit 0, ⟨[.any, .one (.hol (.int IntKind.i64)), .any, .any, .any, .one (.onl 5 (Ty.int IntKind.u8) 11), .any, .any, .any, .any, .any, .any, .any, .any, .any, .any, .any, .any, .any, .any, .any, .any, .any, .any, .any, .any, .any, .any, .any, .any, .any, .any, .any, .any, .any, .any, .any, .any, .any, .any, .any, .any, .any, .any, .any, .any], []⟩)]⟩
-- FnDigits_4 : lonDigits_4.st.den → Tr (DenX lonDigits_4.xs) | ((h2, (h3, (h4, (h5, ())))), ())
abbrev lonDigits_13 : Lo := ⟨⟨[.any, .any, .any, .any, .any, .one (.onl 5 (Ty.int IntKind.u8) 11), .any, .any, .one (.onl 5 (Ty.int IntKind.u8) 17), .one (.hol (.int IntKind.i64)), .any, .any, .any, .any, .any, .any, .any, .any, .any, .any, .any, .any, .any, .any, .any, .any, .any, .any, .any, .any, .any, .any, .any, .any, .any, .any, .any, .any, .any, .any, .any, .any, .any, .any, .any, .any], []⟩, [(.exit 2, ⟨[.any, .any, .any, .any, .any, .any, .any, .any, .one (.onl 5 (Ty.int IntKind.u8) 17), .any, .any, .any, .any, .any, .any, .any, .any, .any, .any, .any, .any, .any, .any, .any, .any, .any, .any, .any, .any, .any, .any, .any, .any, .any, .any, .any, .any, .any, .any, .any, .any, .any, .any, .any, .any, .any], []⟩)]⟩
-- FnDigits_13 : lonDigits_13.st.den → Tr (DenX lonDigits_13.xs) | ((h18, (h19, (h20, ()))), ())
def spLow (v : Int) : Nat → List Int
  | 0 => []
  | n + 1 => v % 256 :: spLow (v / 256) n
def FnDigits_4 (d : lonDigits_4.st.den) : Tr (DenX lonDigits_4.xs) :=
  .ite (decide (d.1.2.2.1.length = 0) && (decide (d.1.2.2.2.1 = 0) && (decide ((0 : Int) ≤ d.1.2.1) && decide (d.1.2.1 ≤ (8 : Int))))) (.ret (.ret ((), ((d.1.2.1, (spLow d.1.1 d.1.2.1.toNat, ())), ())))) .no
def FnDigits_13 (d : lonDigits_13.st.den) : Tr (DenX lonDigits_13.xs) :=
  .ite (decide (d.1.2.1.length = 0) && (decide (d.1.2.2.1 = (d.1.1.length : Int) - 1) && decide (d.1.1.length ≤ 8))) (.ret (.ret ((), ((d.1.1.reverse, ()), ())))) .no
def lpnDigits : Lp := lpT [(4, loHd lonDigits_4 FnDigits_4), (13, loHd lonDigits_13 FnDigits_13)]
def stepnDigits_4 {R : Type} (h2 : Int) (h3 : Int) (h4 : List Int) (h5 : Int) (next : Int → Int → List Int → Int → Option R) (out : DenX lonDigits_4.xs → Option R) : Option R := bif decide (h5 < h3) then bif decide (IntKind.i64.wrap (h2.tmod 256) < 0) then bif decide (h4.length + [IntKind.u8.wrap (IntKind.i64.wrap (IntKind.i64.wrap (h2.tmod 256) + 256))].length ≤ 4294967296) then next (IntKind.i64.wrap ((IntKind.i64.wrap (h2 - IntKind.i64.wrap (IntKind.i64.wrap (h2.tmod 256) + 256))).tdiv 256)) (h3) (h4 ++ [IntKind.u8.wrap (IntKind.i64.wrap (IntKind.i64.wrap (h2.tmod 256) + 256))]) (IntKind.i64.wrap (h5 + 1)) else none else bif decide (h4.length + [IntKind.u8.wrap (IntKind.i64.wrap (h2.tmod 256))].length ≤ 4294967296) then next (IntKind.i64.wrap ((IntKind.i64.wrap (h2 - IntKind.i64.wrap (h2.tmod 256))).tdiv 256)) (h3) (h4 ++ [IntKind.u8.wrap (IntKind.i64.wrap (h2.tmod 256))]) (IntKind.i64.wrap (h5 + 1)) else none else out (.ret ((), ((h3, (h4, ())), ())))
def itnDigits_4 (n : Nat) (h2 : Int) (h3 : Int) (h4 : List Int) (h5 : Int) : Option (DenX lonDigits_4.xs) := lpN tt hdnDigits dr lpnDigits 0 Go.Proofs.Tryz.f199 (topL Go.Proofs.Tryz.f199 0) n (lonDigits_4.st.mk' ((h2, (h3, (h4, (h5, ())))), ())) (decX lonDigits_4.xs)
theorem slnDigits_4 (n : Nat) (h2 : Int) (h3 : Int) (h4 : List Int) (h5 : Int) : itnDigits_4 (n + 1) h2 h3 h4 h5 = stepnDigits_4 h2 h3 h4 h5 (itnDigits_4 n) some := by kernel_rfl
def stepnDigits_13 {R : Type} (h18 : List Int) (h19 : List Int) (h20 : Int) (next : List Int → List Int → Int → Option R) (out : DenX lonDigits_13.xs → Option R) : Option R := bif decide (0 ≤ h20) then bif decide (0 ≤ h20) && decide (h20 < (↑h18.length : Int)) then bif decide (h19.length + [h18.getD h20.toNat 0].length ≤ 4294967296) then next (h18) (h19 ++ [h18.getD h20.toNat 0]) (IntKind.i64.wrap (h20 - 1)) else none else none else out (.ret ((), ((h19, ()), ())))
def itnDigits_13 (n : Nat) (h18 : List Int) (h19 : List Int) (h20 : Int) : Option (DenX lonDigits_13.xs) := lpN tt hdnDigits dr lpnDigits 0 Go.Proofs.Tryz.f199 (topL Go.Proofs.Tryz.f199 1) n (lonDigits_13.st.mk' ((h18, (h19, (h20, ()))), ())) (decX lonDigits_13.xs)
theorem slnDigits_13 (n : Nat) (h18 : List Int) (h19 : List Int) (h20 : Int) : itnDigits_13 (n + 1) h18 h19 h20 = stepnDigits_13 h18 h19 h20 (itnDigits_13 n) some := by kernel_rfl
theorem tmod_256 (v : Int) : (v.tmod 256 < 0 → v.tmod 256 + 256 = v % 256) ∧ (¬ v.tmod 256 < 0 → v.tmod 256 = v % 256) := by
  by_cases h : 0 ≤ v
  · rw [Int.tmod_eq_emod_of_nonneg h]; omega
  · obtain ⟨u, rfl⟩ : ∃ u, v = -u := ⟨-v, by omega⟩
    rw [Int.neg_tmod, Int.tmod_eq_emod_of_nonneg (by omega)]; omega
theorem tdiv_256 (v : Int) : (v - v % 256).tdiv 256 = v / 256 := by
  have e : v - v % 256 = v / 256 * 256 := by omega
  rw [e, Int.mul_tdiv_cancel _ (by decide)]
theorem wrap_u8 {n : Int} (h0 : 0 ≤ n) (h1 : n < 256) : IntKind.u8.wrap n = n := wrap_id (by simp [inR, IntKind.min, IntKind.max, IntKind.signed, IntKind.bits]; omega)
theorem loopnDigits_4 {m : Nat} (hm : m ≤ 8) : ∀ (k j : Nat) (v : Int) (acc : List Int), m < j + k → j ≤ m → acc.length = j → -9223372036854775808 ≤ v → v ≤ 9223372036854775807 →
    itnDigits_4 k v (m : Int) acc j = some (.ret ((), (((m : Int), (acc ++ spLow v (m - j), ())), ()))) := by
  intro k
  induction k with
  | zero => intro j v acc h; omega
  | succ k ih =>
    intro j v acc h1 h2 h3 h4 h5
    rw [slnDigits_4]
    unfold stepnDigits_4
    by_cases hj : j < m
    · refine (bif_true (decide_eq_true (show (j : Int) < (m : Int) by omega)) _ _).trans ?_
      have ht := tmod_256 v
      have hd : ∀ x : Int, x = v % 256 → itnDigits_4 k (IntKind.i64.wrap ((IntKind.i64.wrap (v - x)).tdiv 256)) (m : Int) (acc ++ [IntKind.u8.wrap x]) (IntKind.i64.wrap ((j : Int) + 1)) = some (.ret ((), (((m : Int), (acc ++ spLow v (m - j), ())), ()))) := by
        rintro x rfl
        rw [wrap_i64 (n := v - v % 256) (by omega) (by omega), tdiv_256, wrap_i64 (n := v / 256) (by omega) (by omega), wrap_i64 (n := (j : Int) + 1) (by omega) (by omega), wrap_u8 (n := v % 256) (by omega) (by omega)]
        refine (ih (j + 1) (v / 256) (acc ++ [v % 256]) (by omega) (by omega) (by simp [h3]) (by omega) (by omega)).trans ?_
        obtain ⟨q, hq⟩ : ∃ q, m - j = q + 1 := ⟨m - j - 1, by omega⟩
        rw [hq, show m - (j + 1) = q by omega, spLow]
        simp
      have hr : -256 ≤ v.tmod 256 ∧ v.tmod 256 < 256 := by
        by_cases h : v.tmod 256 < 0
        · have := ht.1 h; omega
        · have := ht.2 h; omega
      rw [wrap_i64 (n := v.tmod 256) (by omega) (by omega), wrap_i64 (n := v.tmod 256 + 256) (by omega) (by omega)]
      by_cases hn : v.tmod 256 < 0
      · refine (bif_true (by simpa using hn) _ _).trans ?_
        refine (bif_true (decide_eq_true (show acc.length + 1 ≤ 4294967296 by omega)) _ _).trans ?_
        exact hd _ (ht.1 hn)
      · refine (bif_false (by simpa using hn) _ _).trans ?_
        refine (bif_true (decide_eq_true (show acc.length + 1 ≤ 4294967296 by omega)) _ _).trans ?_
        exact hd _ (ht.2 hn)
    · refine (bif_false (decide_eq_false (show ¬ (j : Int) < (m : Int) by omega)) _ _).trans ?_
      rw [show m - j = 0 by omega, spLow]
      simp
theorem loopnDigits_13 {low : List Int} (hl : low.length ≤ 8) : ∀ (j : Nat) (acc : List Int), j ≤ low.length → acc.length + j ≤ 8 →
    itnDigits_13 (j + 1) low acc ((j : Int) - 1) = some (.ret ((), ((acc ++ (low.take j).reverse, ()), ()))) := by
  intro j
  induction j with
  | zero =>
    intro acc h1 h2
    rw [slnDigits_13]
    unfold stepnDigits_13
    refine (bif_false (by decide) _ _).trans ?_
    simp
  | succ j ih =>
    intro acc h1 h2
    rw [slnDigits_13]
    unfold stepnDigits_13
    rw [show ((j + 1 : Nat) : Int) - 1 = (j : Int) by omega]
    have hg : List.getD low j (0 : Int) = low[j]'(by omega) := getD_lt (by omega)
    refine (bif_true (by simp) _ _).trans ?_
    refine (bif_true (by simp; omega) _ _).trans ?_
    simp only [Int.toNat_natCast, hg]
    refine (bif_true (decide_eq_true (show acc.length + 1 ≤ 4294967296 by omega)) _ _).trans ?_
    rw [wrap_i64 (n := (j : Int) - 1) (by omega) (by omega)]
    refine (ih (acc ++ [low[j]'(by omega)]) (by omega) (by simp; omega)).trans ?_
    rw [List.take_succ_eq_append_getElem (by omega), List.reverse_append, List.reverse_singleton, List.append_assoc]
theorem spLow_len (v : Int) : ∀ n, (spLow v n).length = n := by
  intro n
  induction n generalizing v with
  | zero => rfl
  | succ n ih => rw [spLow, List.length_cons, ih]
theorem spLow_snoc : ∀ (n : Nat) (v : Int), spLow v (n + 1) = spLow v n ++ [(v / 256 ^ n) % 256]
  | 0, v => by simp [spLow]
  | n + 1, v => by
    rw [spLow, spLow_snoc n (v / 256), spLow]
    have e : v / 256 / 256 ^ n = v / 256 ^ (n + 1) := by
      rw [Int.pow_succ, Int.mul_comm, Int.ediv_ediv_of_nonneg (by decide)]
    rw [e]; rfl
theorem spLow_rev (v : Int) : ∀ n, (spLow v n).reverse = spBE v n
  | 0 => rfl
  | n + 1 => by rw [spLow_snoc, List.reverse_append, spLow_rev v n]; rfl
def bodynDigits (a0 : Int) (a1 : Int) : Option ionDigits.Res := (FnDigits_4 ((a0, (a1, ([], (0, ())))), ())).run fun y => match y with | .ret ((), ((x16, x17, ()), ())) => ((FnDigits_13 ((x17, ([], (IntKind.i64.wrap (x16 - 1), ()))), ())).run fun y => match y with | .ret ((), ((x25, ()), ())) => (some (Out.ret ((x25, ()), ()))))
theorem runnDigits (a0 : Int) (a1 : Int) : Io.run tt hdnDigits dr lpnDigits ionDigits Go.Proofs.Tryz.f199 ((a0, a1, ()), ()) = bodynDigits a0 a1 := by kernel_rfl
theorem oknDigits : HcOk prog 199 (ioHd ionDigits FnDigits) := by
  refine fn_sound (n := 400) hm (cs := csnDigits) HcsOk.nil (lp := lpnDigits) (fn := Go.Proofs.Tryz.f199) (by kernel_rfl) (by kernel_rfl) (by kernel_rfl) ionDigits (.step (h0 := loHd lonDigits_4 FnDigits_4) (by kernel_rfl) (loop_sound (n := 400) hm (cs := csnDigits) HcsOk.nil (lp := lpnDigits) (fn := Go.Proofs.Tryz.f199) (.done (by kernel_rfl)) lonDigits_4 FnDigits_4 ?_) (.step (h0 := loHd lonDigits_13 FnDigits_13) (by kernel_rfl) (loop_sound (n := 400) hm (cs := csnDigits) HcsOk.nil (lp := lpnDigits) (fn := Go.Proofs.Tryz.f199) (.done (by kernel_rfl)) lonDigits_13 FnDigits_13 ?_) (.done (by kernel_rfl)))) FnDigits ?_
  · rintro ⟨⟨(v : Int), (m : Int), (acc : List Int), (i : Int), ⟨⟩⟩, ⟨⟩⟩ y hw hy
    obtain ⟨hg, hy⟩ := Tr.guard hy
    simp only [Bool.and_eq_true, decide_eq_true_eq] at hg
    obtain ⟨h1, h2, h3, h4⟩ := hg
    have h1 : acc = [] := List.eq_nil_of_length_eq_zero h1
    have h2 : i = 0 := h2
    have h3 : (0 : Int) ≤ m := h3
    have h4 : m ≤ (8 : Int) := h4
    subst h1
    subst h2
    obtain ⟨m, rfl⟩ := toNat_of h3
    have hv : inR .i64 v := hw.1.1
    simp only [inR, IntKind.min, IntKind.max, IntKind.signed, IntKind.bits] at hv
    simp at hv
    refine ⟨m + 1, (loopnDigits_4 (m := m) (by omega) (m + 1) 0 v [] (by omega) (by omega) rfl (by omega) (by omega)).trans ?_⟩
    rw [← hy]; rfl
  · rintro ⟨⟨(low : List Int), (acc : List Int), (i : Int), ⟨⟩⟩, ⟨⟩⟩ y hw hy
    obtain ⟨hg, hy⟩ := Tr.guard hy
    simp only [Bool.and_eq_true, decide_eq_true_eq] at hg
    obtain ⟨h1, h2, h3⟩ := hg
    have h1 : acc = [] := List.eq_nil_of_length_eq_zero h1
    have h2 : i = (low.length : Int) - 1 := h2
    have h3 : low.length ≤ 8 := h3
    subst h1
    subst h2
    refine ⟨low.length + 1, (loopnDigits_13 h3 low.length [] (by omega) (by simpa using h3)).trans ?_⟩
    rw [← hy, List.take_length]; rfl
  · rintro ⟨⟨(v : Int), (m : Int), ⟨⟩⟩, ⟨⟩⟩ out hw ho
    obtain ⟨hg, ho⟩ := Tr.guard ho
    simp only [Bool.and_eq_true, decide_eq_true_eq] at hg
    obtain ⟨h5, h6⟩ := hg
    have h5 : (0 : Int) ≤ m := h5
    have h6 : m ≤ (8 : Int) := h6
    cases ho
    refine (runnDigits v m).trans ?_
    unfold bodynDigits
    have c1 : (decide (([] : List Int).length = 0) && (decide ((0 : Int) = 0) && (decide ((0 : Int) ≤ m) && decide (m ≤ (8 : Int))))) = true := by simp; omega
    have e1 : FnDigits_4 ((v, (m, ([], (0, ())))), ()) = .ite true (.ret (.ret ((), ((m, (spLow v m.toNat, ())), ())))) .no := congrArg (fun c => Tr.ite c _ _) c1
    rw [e1]
    show (FnDigits_13 ((spLow v m.toNat, ([], (IntKind.i64.wrap (m - 1), ()))), ())).run _ = _
    rw [wrap_i64 (n := m - 1) (by omega) (by omega)]
    have c2 : (decide (([] : List Int).length = 0) && (decide (m - 1 = ((spLow v m.toNat).length : Int) - 1) && decide ((spLow v m.toNat).length ≤ 8))) = true := by
      rw [spLow_len]; simp; omega
    have e2 : FnDigits_13 ((spLow v m.toNat, ([], (m - 1, ()))), ()) = .ite true (.ret (.ret ((), (((spLow v m.toNat).reverse, ()), ())))) .no := congrArg (fun c => Tr.ite c _ _) c2
    rw [e2, spLow_rev]
    rfl
def spSgn (l : List Int) : Int := match l with
  | [] => 0
  | c :: l => l.foldl (fun v c => v * 256 + c) (if 128 ≤ c then c - 256 else c)
abbrev lonNumber_6 : Lo := ⟨⟨[.one (.hol (.sl 5 (Ty.int IntKind.u8))), .one (.hol (.int IntKind.i64)), .one (.hol (.int IntKind.i64)), .any, .any, .any, .any, .any, .one (.hol (.int IntKind.i64)), .one (.hol (.int IntKind.i64)), .any, .any, .any, .any, .any, .any, .any, .any, .any, .any, .any, .any, .any, .any, .any, .any, .any, .any, .any, .any, .any, .any, .any, .any, .any, .any, .any, .any, .any, .any, .any, .any, .any, .any, .any, .any, .any, .any, .any, .any, .any, .any], []⟩, [(.exit 0, ⟨[.any, .any, .any, .any, .any, .any, .any, .any, .one (.hol (.int IntKind.i64)), .any, .any, .any, .any, .any, .any, .any, .any, .any, .any, .any, .any, .any, .any, .any, .any, .any, .any, .any, .any, .any, .any, .any, .any, .any, .any, .any, .any, .any, .any, .any, .any, .any, .any, .any, .any, .any, .any, .any, .any, .any, .any, .any], []⟩)]⟩
-- FnNumber_6 : lonNumber_6.st.den → Tr (DenX lonNumber_6.xs) | ((h3, (h4, (h5, (h6, (h7, ()))))), ())
def FnNumber_6 (d : lonNumber_6.st.den) : Tr (DenX lonNumber_6.xs) :=
  .ite (decide (d.1.2.2.2.1 = 0) && (decide (d.1.2.2.2.2.1 = 0) && ((decide ((0 : Int) ≤ d.1.2.1) && decide (d.1.2.1 + d.1.2.2.1 ≤ (d.1.1.length : Int))) && (decide ((0 : Int) ≤ d.1.2.2.1) && decide (d.1.2.2.1 ≤ (8 : Int)))))) (.ret (.ret ((), ((spSgn ((d.1.1.drop d.1.2.1.toNat).take d.1.2.2.1.toNat), ()), ())))) .no
end
end Go.Proofs.YtjpeefegeobgfaaGreat.Sym
namespace Go.Proofs.YtjpeefegeobgfaaGreat.Sym
open Go
set_option linter.unusedSimpArgs false
set_option linter.unusedVariables false
noncomputable section
abbrev tLab : Ty := .prod (.int .i64) (.prod (.int .i64) (.prod .bool (.prod bs .unit)))
abbrev tNode : Ty := .tree tLab 98
abbrev dNode : Sh := .dat tNode true false
abbrev tNodes : Ty := .sl 98 tNode
abbrev Nd : Type := Tre tLab.den
abbrev iotNum : Io := ⟨[dI, d64s], [], [], [dNode], none⟩
def FtNum (d : iotNum.In) : Tr iotNum.Res := .ret (.ret ((.mk (d.1.1, (d.1.2.1, (false, (([] : List Int), ())))) [], ()), ()))
abbrev cstNum : List (Nat × Hc) := []
def hdtNum : Hd := hdT cstNum
def lptNum : Lp := lpT []
def bodytNum (a0 : Int) (a1 : Int) : Option iotNum.Res := some (Out.ret ((Tre.mk (a0, a1, false, [], ()) [], ()), ()))
theorem runtNum (a0 : Int) (a1 : Int) : Io.run tt hdtNum dr lptNum iotNum Go.Proofs.Tryz.f130 ((a0, a1, ()), ()) = bodytNum a0 a1 := by kernel_rfl
theorem oktNum : HcOk prog 130 (ioHd iotNum FtNum) := by
  refine fn_sound (n := 400) hm (cs := cstNum) HcsOk.nil (lp := lptNum) (fn := Go.Proofs.Tryz.f130) (by kernel_rfl) (by kernel_rfl) (by kernel_rfl) iotNum (.done (by kernel_rfl)) FtNum ?_
  rintro ⟨⟨(k : Int), (n : Int), ⟨⟩⟩, ⟨⟩⟩ out hw ho
  cases ho
  exact runtNum k n
abbrev iotRow : Io := ⟨[.dat tNodes false false], [], [], [dNode], none⟩
def FtRow (d : iotRow.In) : Tr iotRow.Res := .ret (.ret ((.mk (10, (0, (false, (([] : List Int), ())))) d.1.1, ()), ()))
abbrev cstRow : List (Nat × Hc) := []
def hdtRow : Hd := hdT cstRow
def lptRow : Lp := lpT []
def bodytRow (a0 : List tNode.den) : Option iotRow.Res := some (Out.ret ((Tre.mk (10, 0, false, [], ()) a0, ()), ()))
theorem runtRow (a0 : List tNode.den) : Io.run tt hdtRow dr lptRow iotRow Go.Proofs.Tryz.f131 ((a0, ()), ()) = bodytRow a0 := by kernel_rfl
theorem oktRow : HcOk prog 131 (ioHd iotRow FtRow) := by
  refine fn_sound (n := 400) hm (cs := cstRow) HcsOk.nil (lp := lptRow) (fn := Go.Proofs.Tryz.f131) (by kernel_rfl) (by kernel_rfl) (by kernel_rfl) iotRow (.done (by kernel_rfl)) FtRow ?_
  rintro ⟨⟨l, ⟨⟩⟩, ⟨⟩⟩ out hw ho
  cases ho
  exact runtRow l
abbrev iotAt : Io := ⟨[dNode, dI], [], [], [dNode], none⟩
def spAt (n : Nd) (i : Int) : Nd := if 0 ≤ i ∧ i < (n.kids.length : Int) then n.kids.getD i.toNat (.mk (0, (0, (false, ([], ())))) []) else .mk (0, (0, (false, ([], ())))) []
def FtAt (d : iotAt.In) : Tr iotAt.Res := .ret (.ret ((spAt d.1.1 d.1.2.1, ()), ()))
abbrev cstAt : List (Nat × Hc) := []
def hdtAt : Hd := hdT cstAt
def lptAt : Lp := lpT []
def bodytAt (a0 : Tre tLab.den) (a1 : Int) : Option iotAt.Res := bif decide (a1 < 0) then some (Out.ret ((Tre.mk (0, 0, false, [], ()) [], ()), ())) else bif decide ((↑a0.2.length : Int) ≤ a1) then some (Out.ret ((Tre.mk (0, 0, false, [], ()) [], ()), ())) else bif decide (0 ≤ a1) && decide (a1 < (↑a0.2.length : Int)) then some (Out.ret ((Tre.mk (a0.2.getD a1.toNat (Tre.mk (0, 0, false, [], ()) [])).1 (a0.2.getD a1.toNat (Tre.mk (0, 0, false, [], ()) [])).2, ()), ())) else none
theorem runtAt (a0 : Tre tLab.den) (a1 : Int) : Io.run tt hdtAt dr lptAt iotAt Go.Proofs.Tryz.f129 ((a0, a1, ()), ()) = bodytAt a0 a1 := by kernel_rfl
theorem oktAt : HcOk prog 129 (ioHd iotAt FtAt) := by
  refine fn_sound (n := 400) hm (cs := cstAt) HcsOk.nil (lp := lptAt) (fn := Go.Proofs.Tryz.f129) (by kernel_rfl) (by kernel_rfl) (by kernel_rfl) iotAt (.done (by kernel_rfl)) FtAt ?_
  rintro ⟨⟨(n : Nd), (i : Int), ⟨⟩⟩, ⟨⟩⟩ out hw ho
  cases ho
  refine (runtAt n i).trans ?_
  unfold bodytAt
  show _ = some (Out.ret ((spAt n i, ()), ()))
  unfold spAt
  by_cases h1 : i < 0
  · rw [if_neg (by omega)]
    exact bif_true (by simpa using h1) _ _
  · refine (bif_false (by simpa using h1) _ _).trans ?_
    by_cases h2 : (n.kids.length : Int) ≤ i
    · rw [if_neg (by omega)]
      exact bif_true (by simpa using h2) _ _
    · rw [if_pos (by omega)]
      refine (bif_false (by simpa using h2) _ _).trans ?_
      refine (bif_true (by simp; omega) _ _).trans ?_
      cases n.kids.getD i.toNat (.mk (0, (0, (false, ([], ())))) [])
      rfl
end
end Go.Proofs.YtjpeefegeobgfaaGreat.Sym
namespace Go.Proofs.YtjpeefegeobgfaaGreat.Sym
open Go
set_option linter.unusedSimpArgs false
set_option linter.unusedVariables false
noncomputable section
abbrev tFl : Ty := .prod .str (.prod (.int .i64) (.prod (.int .i64) (.prod (.int .i64) .unit)))
abbrev tFld : Ty := .tree tFl 213
abbrev dFld : Sh := .dat tFld true false
abbrev tFlds : Ty := .sl 213 tFld
abbrev dFlds : Sh := .dat tFlds false false
abbrev dFldsO : Sh := .dat tFlds false true
abbrev Fd : Type := Tre tFl.den
abbrev dNodes : Sh := .dat tNodes false false
abbrev iotText : Io := ⟨[dS], [], [], [dNode], none⟩
def FtText (d : iotText.In) : Tr iotText.Res := .ret (.ret ((.mk (5, (0, (false, (d.1.1, ())))) [], ()), ()))
abbrev cstText : List (Nat × Hc) := []
def hdtText : Hd := hdT cstText
def lptText : Lp := lpT []
def bodytText (a0 : List Int) : Option iotText.Res := some (Out.ret ((Tre.mk (5, 0, false, a0, ()) [], ()), ()))
theorem runtText (a0 : List Int) : Io.run tt hdtText dr lptText iotText Go.Proofs.Tryz.f132 ((a0, ()), ()) = bodytText a0 := by kernel_rfl
theorem oktText : HcOk prog 132 (ioHd iotText FtText) := by
  refine fn_sound (n := 400) hm (cs := cstText) HcsOk.nil (lp := lptText) (fn := Go.Proofs.Tryz.f132) (by kernel_rfl) (by kernel_rfl) (by kernel_rfl) iotText (.done (by kernel_rfl)) FtText ?_
  rintro ⟨⟨(s : List Int), ⟨⟩⟩, ⟨⟩⟩ out hw ho
  cases ho
  exact runtText s
abbrev iotRows : Io := ⟨[dNodes], [], [], [dNode], none⟩
def FtRows (d : iotRows.In) : Tr iotRows.Res := .ret (.ret ((.mk (9, (0, (false, (([] : List Int), ())))) d.1.1, ()), ()))
abbrev cstRows : List (Nat × Hc) := []
def hdtRows : Hd := hdT cstRows
def lptRows : Lp := lpT []
def bodytRows (a0 : List tNode.den) : Option iotRows.Res := some (Out.ret ((Tre.mk (9, 0, false, [], ()) a0, ()), ()))
theorem runtRows (a0 : List tNode.den) : Io.run tt hdtRows dr lptRows iotRows Go.Proofs.Tryz.f133 ((a0, ()), ()) = bodytRows a0 := by kernel_rfl
theorem oktRows : HcOk prog 133 (ioHd iotRows FtRows) := by
  refine fn_sound (n := 400) hm (cs := cstRows) HcsOk.nil (lp := lptRows) (fn := Go.Proofs.Tryz.f133) (by kernel_rfl) (by kernel_rfl) (by kernel_rfl) iotRows (.done (by kernel_rfl)) FtRows ?_
  rintro ⟨⟨l, ⟨⟩⟩, ⟨⟩⟩ out hw ho
  cases ho
  exact runtRows l
abbrev iotZero : Io := ⟨[dNode], [], [], [dB], none⟩
def spZeroN (n : Nd) : Bool := if n.lab.2.1 = 0 then (if n.lab.2.2.1 = false then (if n.lab.2.2.2.1.length = 0 then (if n.kids.length = 0 then true else false) else false) else false) else false
def FtZero (d : iotZero.In) : Tr iotZero.Res := .ret (.ret ((spZeroN d.1.1, ()), ()))
abbrev cstZero : List (Nat × Hc) := []
def hdtZero : Hd := hdT cstZero
def lptZero : Lp := lpT []
def bodytZero (a0 : Tre tLab.den) : Option iotZero.Res := bif a0.1.snd.fst == 0 then bif !a0.1.snd.snd.fst then bif (↑(List.length a0.1.snd.snd.snd.fst) : Int) == 0 then some (Out.ret (((↑a0.2.length : Int) == 0, ()), ())) else some (Out.ret ((false, ()), ())) else some (Out.ret ((false, ()), ())) else some (Out.ret ((false, ()), ()))
theorem runtZero (a0 : Tre tLab.den) : Io.run tt hdtZero dr lptZero iotZero Go.Proofs.Tryz.f171 ((a0, ()), ()) = bodytZero a0 := by kernel_rfl
theorem oktZero : HcOk prog 171 (ioHd iotZero FtZero) := by
  refine fn_sound (n := 400) hm (cs := cstZero) HcsOk.nil (lp := lptZero) (fn := Go.Proofs.Tryz.f171) (by kernel_rfl) (by kernel_rfl) (by kernel_rfl) iotZero (.done (by kernel_rfl)) FtZero ?_
  rintro ⟨⟨(n : Nd), ⟨⟩⟩, ⟨⟩⟩ out hw ho
  cases ho
  refine (runtZero n).trans ?_
  unfold bodytZero
  show _ = some (Out.ret ((spZeroN n, ()), ()))
  unfold spZeroN
  simp only [cond_eq_ite]
  repeat' split
  all_goals simp_all
abbrev iotHere1 : Io := ⟨[dFld, dI], [], [], [dB], none⟩
def spHas (f : Fd) (v : Int) : Bool := if f.lab.2.2.1 ≤ v ∧ v ≤ f.lab.2.2.2.1 then true else false
def FtHere1 (d : iotHere1.In) : Tr iotHere1.Res := .ret (.ret ((spHas d.1.1 d.1.2.1, ()), ()))
abbrev cstHere1 : List (Nat × Hc) := []
def hdtHere1 : Hd := hdT cstHere1
def lptHere1 : Lp := lpT []
def bodytHere1 (a0 : Tre tFl.den) (a1 : Int) : Option iotHere1.Res := bif decide (a0.1.snd.snd.fst ≤ a1) then some (Out.ret ((decide (a1 ≤ a0.1.snd.snd.snd.fst), ()), ())) else some (Out.ret ((false, ()), ()))
theorem runtHere1 (a0 : Tre tFl.den) (a1 : Int) : Io.run tt hdtHere1 dr lptHere1 iotHere1 Go.Proofs.Tryz.f170 ((a0, a1, ()), ()) = bodytHere1 a0 a1 := by kernel_rfl
theorem oktHere1 : HcOk prog 170 (ioHd iotHere1 FtHere1) := by
  refine fn_sound (n := 400) hm (cs := cstHere1) HcsOk.nil (lp := lptHere1) (fn := Go.Proofs.Tryz.f170) (by kernel_rfl) (by kernel_rfl) (by kernel_rfl) iotHere1 (.done (by kernel_rfl)) FtHere1 ?_
  rintro ⟨⟨(f : Fd), (v : Int), ⟨⟩⟩, ⟨⟩⟩ out hw ho
  cases ho
  refine (runtHere1 f v).trans ?_
  unfold bodytHere1
  show _ = some (Out.ret ((spHas f v, ()), ()))
  unfold spHas
  simp only [cond_eq_ite]
  repeat' split
  all_goals simp_all
abbrev iotWidth : Io := ⟨[dI], [], [], [dI], none⟩
def spWid (k : Int) : Int := if k = 1 then 1 else if k = 2 ∨ k = 5 ∨ k = 6 then 2 else if k = 4 then 8 else 4
def FtWidth (d : iotWidth.In) : Tr iotWidth.Res := .ret (.ret ((spWid d.1.1, ()), ()))
abbrev cstWidth : List (Nat × Hc) := []
def hdtWidth : Hd := hdT cstWidth
def lptWidth : Lp := lpT []
def bodytWidth (a0 : Int) : Option iotWidth.Res := bif a0 == 1 then some (Out.ret ((1, ()), ())) else bif a0 == 2 then bif a0 == 2 then some (Out.ret ((2, ()), ())) else bif a0 == 4 then some (Out.ret ((8, ()), ())) else some (Out.ret ((4, ()), ())) else bif a0 == 5 then bif a0 == 5 then some (Out.ret ((2, ()), ())) else bif a0 == 4 then some (Out.ret ((8, ()), ())) else some (Out.ret ((4, ()), ())) else bif a0 == 6 then some (Out.ret ((2, ()), ())) else bif a0 == 4 then some (Out.ret ((8, ()), ())) else some (Out.ret ((4, ()), ()))
theorem runtWidth (a0 : Int) : Io.run tt hdtWidth dr lptWidth iotWidth Go.Proofs.Tryz.f197 ((a0, ()), ()) = bodytWidth a0 := by kernel_rfl
theorem oktWidth : HcOk prog 197 (ioHd iotWidth FtWidth) := by
  refine fn_sound (n := 400) hm (cs := cstWidth) HcsOk.nil (lp := lptWidth) (fn := Go.Proofs.Tryz.f197) (by kernel_rfl) (by kernel_rfl) (by kernel_rfl) iotWidth (.done (by kernel_rfl)) FtWidth ?_
  rintro ⟨⟨(k : Int), ⟨⟩⟩, ⟨⟩⟩ out hw ho
  cases ho
  refine (runtWidth k).trans ?_
  unfold bodytWidth
  show _ = some (Out.ret ((spWid k, ()), ()))
  unfold spWid
  simp only [cond_eq_ite]
  repeat' split
  all_goals simp_all
abbrev iotShape : Io := ⟨[dFld, dNode], [], [], [dB], none⟩
def spShN (k : Int) (n : Nd) : Bool :=
  if n.lab.1 ≠ k then false else if 4 < k ∧ n.lab.2.1 ≠ 0 then false else if (k < 5 ∨ 8 < k) ∧ 0 < n.lab.2.2.2.1.length then false else if k ≠ 6 ∧ k ≠ 8 ∧ n.lab.2.2.1 = true then false else if 8 < k ∨ n.kids.length = 0 then true else false
def FtShape (d : iotShape.In) : Tr iotShape.Res := .ret (.ret ((spShN d.1.1.lab.2.1 d.1.2.1, ()), ()))
abbrev cstShape : List (Nat × Hc) := []
def hdtShape : Hd := hdT cstShape
def lptShape : Lp := lpT []
def bodytShape (a0 : Tre tFl.den) (a1 : Tre tLab.den) : Option iotShape.Res := bif a1.1.fst != a0.1.snd.fst then some (Out.ret ((false, ()), ())) else bif decide (4 < a0.1.snd.fst) then bif a1.1.snd.fst != 0 then some (Out.ret ((false, ()), ())) else bif decide (a0.1.snd.fst < 5) then bif decide (0 < (↑(List.length a1.1.snd.snd.snd.fst) : Int)) then some (Out.ret ((false, ()), ())) else bif a0.1.snd.fst != 6 then bif a0.1.snd.fst != 8 then bif a1.1.snd.snd.fst then some (Out.ret ((false, ()), ())) else bif decide (8 < a0.1.snd.fst) then some (Out.ret ((true, ()), ())) else some (Out.ret (((↑a1.2.length : Int) == 0, ()), ())) else bif decide (8 < a0.1.snd.fst) then some (Out.ret ((true, ()), ())) else some (Out.ret (((↑a1.2.length : Int) == 0, ()), ())) else bif decide (8 < a0.1.snd.fst) then some (Out.ret ((true, ()), ())) else some (Out.ret (((↑a1.2.length : Int) == 0, ()), ())) else bif decide (8 < a0.1.snd.fst) then bif decide (0 < (↑(List.length a1.1.snd.snd.snd.fst) : Int)) then some (Out.ret ((false, ()), ())) else bif a0.1.snd.fst != 6 then bif a0.1.snd.fst != 8 then bif a1.1.snd.snd.fst then some (Out.ret ((false, ()), ())) else bif decide (8 < a0.1.snd.fst) then some (Out.ret ((true, ()), ())) else some (Out.ret (((↑a1.2.length : Int) == 0, ()), ())) else bif decide (8 < a0.1.snd.fst) then some (Out.ret ((true, ()), ())) else some (Out.ret (((↑a1.2.length : Int) == 0, ()), ())) else bif decide (8 < a0.1.snd.fst) then some (Out.ret ((true, ()), ())) else some (Out.ret (((↑a1.2.length : Int) == 0, ()), ())) else bif a0.1.snd.fst != 6 then bif a0.1.snd.fst != 8 then bif a1.1.snd.snd.fst then some (Out.ret ((false, ()), ())) else bif decide (8 < a0.1.snd.fst) then some (Out.ret ((true, ()), ())) else some (Out.ret (((↑a1.2.length : Int) == 0, ()), ())) else bif decide (8 < a0.1.snd.fst) then some (Out.ret ((true, ()), ())) else some (Out.ret (((↑a1.2.length : Int) == 0, ()), ())) else bif decide (8 < a0.1.snd.fst) then some (Out.ret ((true, ()), ())) else some (Out.ret (((↑a1.2.length : Int) == 0, ()), ())) else bif decide (a0.1.snd.fst < 5) then bif decide (0 < (↑(List.length a1.1.snd.snd.snd.fst) : Int)) then some (Out.ret ((false, ()), ())) else bif a0.1.snd.fst != 6 then bif a0.1.snd.fst != 8 then bif a1.1.snd.snd.fst then some (Out.ret ((false, ()), ())) else bif decide (8 < a0.1.snd.fst) then some (Out.ret ((true, ()), ())) else some (Out.ret (((↑a1.2.length : Int) == 0, ()), ())) else bif decide (8 < a0.1.snd.fst) then some (Out.ret ((true, ()), ())) else some (Out.ret (((↑a1.2.length : Int) == 0, ()), ())) else bif decide (8 < a0.1.snd.fst) then some (Out.ret ((true, ()), ())) else some (Out.ret (((↑a1.2.length : Int) == 0, ()), ())) else bif decide (8 < a0.1.snd.fst) then bif decide (0 < (↑(List.length a1.1.snd.snd.snd.fst) : Int)) then some (Out.ret ((false, ()), ())) else bif a0.1.snd.fst != 6 then bif a0.1.snd.fst != 8 then bif a1.1.snd.snd.fst then some (Out.ret ((false, ()), ())) else bif decide (8 < a0.1.snd.fst) then some (Out.ret ((true, ()), ())) else some (Out.ret (((↑a1.2.length : Int) == 0, ()), ())) else bif decide (8 < a0.1.snd.fst) then some (Out.ret ((true, ()), ())) else some (Out.ret (((↑a1.2.length : Int) == 0, ()), ())) else bif decide (8 < a0.1.snd.fst) then some (Out.ret ((true, ()), ())) else some (Out.ret (((↑a1.2.length : Int) == 0, ()), ())) else bif a0.1.snd.fst != 6 then bif a0.1.snd.fst != 8 then bif a1.1.snd.snd.fst then some (Out.ret ((false, ()), ())) else bif decide (8 < a0.1.snd.fst) then some (Out.ret ((true, ()), ())) else some (Out.ret (((↑a1.2.length : Int) == 0, ()), ())) else bif decide (8 < a0.1.snd.fst) then some (Out.ret ((true, ()), ())) else some (Out.ret (((↑a1.2.length : Int) == 0, ()), ())) else bif decide (8 < a0.1.snd.fst) then some (Out.ret ((true, ()), ())) else some (Out.ret (((↑a1.2.length : Int) == 0, ()), ()))
theorem runtShape (a0 : Tre tFl.den) (a1 : Tre tLab.den) : Io.run tt hdtShape dr lptShape iotShape Go.Proofs.Tryz.f173 ((a0, a1, ()), ()) = bodytShape a0 a1 := by kernel_rfl
theorem oktShape : HcOk prog 173 (ioHd iotShape FtShape) := by
  refine fn_sound (n := 400) hm (cs := cstShape) HcsOk.nil (lp := lptShape) (fn := Go.Proofs.Tryz.f173) (by kernel_rfl) (by kernel_rfl) (by kernel_rfl) iotShape (.done (by kernel_rfl)) FtShape ?_
  rintro ⟨⟨(f : Fd), (n : Nd), ⟨⟩⟩, ⟨⟩⟩ out hw ho
  cases ho
  refine (runtShape f n).trans ?_
  unfold bodytShape
  show _ = some (Out.ret ((spShN f.lab.2.1 n, ()), ()))
  unfold spShN
  obtain ⟨⟨nm, k, lo, hi, ⟨⟩⟩, e⟩ := f
  obtain ⟨⟨k', m, z, d, ⟨⟩⟩, l⟩ := n
  have hc : ∀ (c a b : Bool), (bif c then (some (Out.ret ((a, ()), ())) : Option iotShape.Res) else some (Out.ret ((b, ()), ()))) = some (Out.ret ((bif c then a else b, ()), ())) := by intro c a b; cases c <;> rfl
  simp only [hc]
  refine congrArg (fun b : Bool => some (Out.ret ((b, ()), ()))) ?_
  simp only [cond_eq_ite]
  grind
abbrev iotHere : Io := ⟨[dFlds, dI], [], [], [dFldsO], none⟩
def spHere (l : List Fd) (v : Int) : List Fd := l.filter fun f => spHas f v
def FtHere (d : iotHere.In) : Tr iotHere.Res := .ite (decide (d.1.1.length ≤ 4294967296)) (.ret (.ret ((spHere d.1.1 d.1.2.1, ()), ()))) .no
abbrev cstHere : List (Nat × Hc) := [(170, ioHd iotHere1 FtHere1)]
def hdtHere : Hd := hdT cstHere
abbrev lotHere_4 : Lo := ⟨⟨[.one (.hol (.sl 213 ((Ty.str.prod ((Ty.int IntKind.i64).prod ((Ty.int IntKind.i64).prod ((Ty.int IntKind.i64).prod Ty.unit)))).tree 213))), .one (.hol (.int IntKind.i64)), .any, .any, .any, .one (.onl 213 ((Ty.str.prod ((Ty.int IntKind.i64).prod ((Ty.int IntKind.i64).prod ((Ty.int IntKind.i64).prod Ty.unit)))).tree 213) 11), .one (.hol (.int IntKind.i64)), .any, .any, .any, .any, .any, .any, .any, .any, .any, .any, .any, .any, .any, .any, .any, .any, .any, .any, .any, .any, .any], []⟩, [(.exit 0, ⟨[.any, .any, .any, .any, .any, .one (.onl 213 ((Ty.str.prod ((Ty.int IntKind.i64).prod ((Ty.int IntKind.i64).prod ((Ty.int IntKind.i64).prod Ty.unit)))).tree 213) 11), .any, .any, .any, .any, .any, .any, .any, .any, .any, .any, .any, .any, .any, .any, .any, .any, .any, .any, .any, .any, .any, .any], []⟩)]⟩
-- FtHere_4 : lotHere_4.st.den → Tr (DenX lotHere_4.xs) | ((h2, (h3, (h4, (h5, ())))), ())
def FtHere_4 (d : lotHere_4.st.den) : Tr (DenX lotHere_4.xs) :=
  .ite (decide (d.1.2.2.1.length = 0) && (decide (d.1.2.2.2.1 = 0) && decide (d.1.1.length ≤ 4294967296))) (.ret (.ret ((), ((spHere d.1.1 d.1.2.1, ()), ())))) .no
def lptHere : Lp := lpT [(4, loHd lotHere_4 FtHere_4)]
def steptHere_4 {R : Type} (h2 : List tFld.den) (h3 : Int) (h4 : List ((Ty.str.prod ((Ty.int IntKind.i64).prod ((Ty.int IntKind.i64).prod ((Ty.int IntKind.i64).prod Ty.unit)))).tree 213).den) (h5 : Int) (next : List tFld.den → Int → List ((Ty.str.prod ((Ty.int IntKind.i64).prod ((Ty.int IntKind.i64).prod ((Ty.int IntKind.i64).prod Ty.unit)))).tree 213).den → Int → Option R) (out : DenX lotHere_4.xs → Option R) : Option R := bif decide (h5 < (↑h2.length : Int)) then bif decide (0 ≤ h5) && decide (h5 < (↑h2.length : Int)) then bif spHas (Tre.mk (h2.getD h5.toNat (Tre.mk ([], 0, 0, 0, ()) [])).1 (h2.getD h5.toNat (Tre.mk ([], 0, 0, 0, ()) [])).2) h3 then bif decide (0 ≤ h5) && decide (h5 < (↑h2.length : Int)) then bif decide (h4.length + [Tre.mk (h2.getD h5.toNat (Tre.mk ([], 0, 0, 0, ()) [])).1 (h2.getD h5.toNat (Tre.mk ([], 0, 0, 0, ()) [])).2].length ≤ 4294967296) then next (h2) (h3) (h4 ++ [Tre.mk (h2.getD h5.toNat (Tre.mk ([], 0, 0, 0, ()) [])).1 (h2.getD h5.toNat (Tre.mk ([], 0, 0, 0, ()) [])).2]) (IntKind.i64.wrap (h5 + 1)) else none else none else next (h2) (h3) (h4) (IntKind.i64.wrap (h5 + 1)) else none else out (.ret ((), ((h4, ()), ())))
def ittHere_4 (n : Nat) (h2 : List tFld.den) (h3 : Int) (h4 : List ((Ty.str.prod ((Ty.int IntKind.i64).prod ((Ty.int IntKind.i64).prod ((Ty.int IntKind.i64).prod Ty.unit)))).tree 213).den) (h5 : Int) : Option (DenX lotHere_4.xs) := lpN tt hdtHere dr lptHere 0 Go.Proofs.Tryz.f187 (topL Go.Proofs.Tryz.f187 0) n (lotHere_4.st.mk' ((h2, (h3, (h4, (h5, ())))), ())) (decX lotHere_4.xs)
theorem sltHere_4 (n : Nat) (h2 : List tFld.den) (h3 : Int) (h4 : List ((Ty.str.prod ((Ty.int IntKind.i64).prod ((Ty.int IntKind.i64).prod ((Ty.int IntKind.i64).prod Ty.unit)))).tree 213).den) (h5 : Int) : ittHere_4 (n + 1) h2 h3 h4 h5 = steptHere_4 h2 h3 h4 h5 (ittHere_4 n) some := by kernel_rfl
theorem nd_eta (f : Nd) : Tre.mk f.lab f.kids = f := by cases f; rfl
theorem looptHere {l : List Fd} (v : Int) (hl : l.length ≤ 4294967296) : ∀ (k j : Nat) (o : List Fd), l.length < j + k → j ≤ l.length → o.length ≤ j →
    ittHere_4 k l v o j = some (.ret ((), ((o ++ spHere (l.drop j) v, ()), ()))) := by
  intro k
  induction k with
  | zero => intro j o h1 h2 h3; omega
  | succ k ih =>
    intro j o h1 h2 h3
    rw [sltHere_4]
    unfold steptHere_4
    by_cases hj : j < l.length
    · refine (bif_true (decide_eq_true (show (j : Int) < (l.length : Int) by omega)) _ _).trans ?_
      refine (bif_true (by simp; omega) _ _).trans ?_
      have hg : List.getD l ((j : Int)).toNat (Tre.mk (([] : List Int), (0 : Int), (0 : Int), (0 : Int), ()) ([] : List Fd)) = l[j] := by simp only [Int.toNat_natCast]; exact getD_lt hj
      simp only [hg]
      rw [wrap_i64 (n := (j : Int) + 1) (by omega) (by omega)]
      have hd : l.drop j = l[j] :: l.drop (j + 1) := List.drop_eq_getElem_cons hj
      generalize l[j] = x at hd ⊢
      obtain ⟨a, ks⟩ := x
      by_cases hh : spHas (Tre.mk a ks) v = true
      · refine (bif_true hh _ _).trans ?_
        refine (bif_true (by simp; omega) _ _).trans ?_
        refine (bif_true (decide_eq_true (show o.length + 1 ≤ 4294967296 by omega)) _ _).trans ?_
        refine (ih (j + 1) (o ++ [Tre.mk a ks]) (by omega) (by omega) (by simp; omega)).trans ?_
        rw [hd]
        simp [spHere, hh]
      · have hh : spHas (Tre.mk a ks) v = false := by simpa using hh
        refine (bif_false hh _ _).trans ?_
        refine (ih (j + 1) o (by omega) (by omega) (by omega)).trans ?_
        rw [hd]
        simp [spHere, hh]
    · refine (bif_false (decide_eq_false (show ¬ (j : Int) < (l.length : Int) by omega)) _ _).trans ?_
      rw [List.drop_of_length_le (by omega)]
      simp [spHere]
def bodytHere (a0 : List tFld.den) (a1 : Int) : Option iotHere.Res := (FtHere_4 ((a0, (a1, ([], (0, ())))), ())).run fun y => match y with | .ret ((), ((x15, ()), ())) => (some (Out.ret ((x15, ()), ())))
theorem runtHere (a0 : List tFld.den) (a1 : Int) : Io.run tt hdtHere dr lptHere iotHere Go.Proofs.Tryz.f187 ((a0, a1, ()), ()) = bodytHere a0 a1 := by kernel_rfl
theorem oktHere : HcOk prog 187 (ioHd iotHere FtHere) := by
  refine fn_sound (n := 400) hm (cs := cstHere) (.cons oktHere1 .nil) (lp := lptHere) (fn := Go.Proofs.Tryz.f187) (by kernel_rfl) (by kernel_rfl) (by kernel_rfl) iotHere (.step (h0 := loHd lotHere_4 FtHere_4) (by kernel_rfl) (loop_sound (n := 400) hm (cs := cstHere) (.cons oktHere1 .nil) (lp := lptHere) (fn := Go.Proofs.Tryz.f187) (.done (by kernel_rfl)) lotHere_4 FtHere_4 ?_) (.done (by kernel_rfl))) FtHere ?_
  · rintro ⟨⟨(l : List Fd), (v : Int), (o : List Fd), (i : Int), ⟨⟩⟩, ⟨⟩⟩ y hw hy
    obtain ⟨hg, hy⟩ := Tr.guard hy
    simp only [Bool.and_eq_true, decide_eq_true_eq] at hg
    obtain ⟨h1, h2, h3⟩ := hg
    have h1 : o = [] := List.eq_nil_of_length_eq_zero h1
    have h2 : i = 0 := h2
    have h3 : l.length ≤ 4294967296 := h3
    subst h1
    subst h2
    refine ⟨l.length + 1, (looptHere v h3 (l.length + 1) 0 [] (by omega) (by omega) (by simp)).trans ?_⟩
    rw [← hy]; rfl
  · rintro ⟨⟨(l : List Fd), (v : Int), ⟨⟩⟩, ⟨⟩⟩ out hw ho
    obtain ⟨hg, ho⟩ := Tr.guard ho
    have hg : l.length ≤ 4294967296 := of_decide_eq_true hg
    cases ho
    refine (runtHere l v).trans ?_
    unfold bodytHere
    have e : FtHere_4 ((l, (v, (([] : List Fd), (0, ())))), ()) = .ite true (.ret (.ret ((), ((spHere l v, ()), ())))) .no := congrArg (fun c => Tr.ite c _ _) (by simp [hg])
    rw [e]
    rfl
end
end Go.Proofs.YtjpeefegeobgfaaGreat.Sym
namespace Go.Proofs.YtjpeefegeobgfaaGreat.Sym
open Go
set_option linter.unusedSimpArgs false
set_option linter.unusedVariables false
structure FuT where
  n : Nat
@[irreducible] noncomputable def spFuel [i : Inhabited FuT] : Nat := i.default.n
mutual
def Tre.wt {α : Type} (f : α → Nat) : Tre α → Nat
  | .mk l ks => 1 + f l + Tre.wts f ks
def Tre.wts {α : Type} (f : α → Nat) : List (Tre α) → Nat
  | [] => 0
  | k :: ks => k.wt f + Tre.wts f ks
end
theorem Tre.wt_pos {α : Type} (f : α → Nat) (t : Tre α) : 1 ≤ t.wt f := by cases t; simp only [Tre.wt]; omega
theorem Tre.wts_len {α : Type} (f : α → Nat) : ∀ l : List (Tre α), l.length ≤ Tre.wts f l
  | [] => Nat.zero_le _
  | k :: ks => by
    have h1 := k.wt_pos f
    have h2 := Tre.wts_len f ks
    simp only [Tre.wts, List.length_cons]; omega
theorem Tre.wts_mem {α : Type} {f : α → Nat} {k : Tre α} : ∀ {l : List (Tre α)}, k ∈ l → k.wt f ≤ Tre.wts f l
  | k' :: ks, h => by
    simp only [Tre.wts]
    rcases List.mem_cons.1 h with rfl | h
    · omega
    · have := Tre.wts_mem (f := f) h; omega
theorem Tre.wt_eq {α : Type} (f : α → Nat) (t : Tre α) : t.wt f = 1 + f t.lab + Tre.wts f t.kids := by cases t; rfl
noncomputable section
@[irreducible] noncomputable def spWt (n : Nd) : Nat := n.wt fun l => l.2.2.2.1.length
@[irreducible] noncomputable def spWts (l : List Nd) : Nat := Tre.wts (fun l => l.2.2.2.1.length) l
theorem spWt_eq (n : Nd) : spWt n = 1 + n.lab.2.2.2.1.length + spWts n.kids := by unfold spWt spWts; exact Tre.wt_eq _ n
theorem spWt_mem {k : Nd} {l : List Nd} (h : k ∈ l) : spWt k ≤ spWts l := by unfold spWt spWts; exact Tre.wts_mem h
theorem spWts_len (l : List Nd) : l.length ≤ spWts l := by unfold spWts; exact Tre.wts_len _ l
open Classical in
def spEqN (a b : Nd) : Bool := if a = b then true else false
open Classical in
def spEqNs (a b : List Nd) : Bool := if a = b then true else false
theorem spEqN_iff {a b : Nd} : spEqN a b = true ↔ a = b := by unfold spEqN; split <;> simp_all
theorem spEqNs_iff {a b : List Nd} : spEqNs a b = true ↔ a = b := by unfold spEqNs; split <;> simp_all
theorem FuT.val (n : Nat) : @spFuel ⟨⟨n⟩⟩ = n := by unfold spFuel; rfl
theorem HcOk.none {f : Nat} {fn : Func} (hf : prog.funcs[f]? = some fn) (hname : (fn.name == "runtime.NumGoroutine") = false) (hbody : fn.body.isNone = false) (io : Io) (Fn : io.In → Tr io.Res) (hn : ∀ d out, (Fn d).val ≠ some out) : HcOk prog f (ioHd io Fn) :=
  io_soundG (ttOf_ok prog 400) hf hname io Fn (fun d out _ h => absurd h (hn d out)) hbody
theorem Tr.val_run {α R : Type} : ∀ {t : Tr α} {K : α → Option R} {a : α}, t.val = some a → t.run K = K a
  | .ret a, K, b, h => by simp only [Tr.val, Tr.run, Option.some.injEq] at h; subst h; rfl
  | .no, K, b, h => by cases h
  | .ite c t e, K, b, h => by
    cases c with
    | true => exact Tr.val_run (t := t) h
    | false => exact Tr.val_run (t := e) h
theorem HcOk.lim {f : Nat} {io : Io} {Fs : Nat → io.In → Tr io.Res} {Fn : io.In → Tr io.Res} (h : ∀ n, HcOk prog f (ioHd io (Fs n))) (hF : ∀ d, ∃ n, ∀ out, (Fn d).val = some out → (Fs n d).val = some out) : HcOk prog f (ioHd io Fn) := by
  intro R args id A K r F G ts cst w vals hid hc Rl hv
  unfold ioHd at hc
  cases h1 : mVs io.args args (List.replicate io.obs.length Option.none) with
  | none => rw [h1] at hc; cases hc
  | some p =>
    obtain ⟨a, β1⟩ := p
    rw [h1] at hc
    simp only at hc
    cases h2 : mOb A.ob io.obs 0 β1 with
    | none => rw [h2] at hc; cases hc
    | some q =>
      obtain ⟨o, β⟩ := q
      rw [h2] at hc
      simp only at hc
      obtain ⟨n, hn⟩ := hF (a, o)
      refine h n R args id A K r F G ts cst w vals hid ?_ Rl hv
      unfold ioHd
      rw [h1]
      simp only [h2]
      revert hc
      cases nodupB ((owVs (idTmp 0) io.args args 0 ++ owOb A.ob β (bnId io.obs.length 0) io.obs 0).map (·.2)) && (nodupB ((owVs (idTmp 0) io.args args 0 ++ owOb A.ob β (bnId io.obs.length 0) io.obs 0).map (·.1)) && io.ok) with
      | false => intro hc; cases hc
      | true =>
        intro hc
        obtain ⟨out, ho, hk⟩ := Tr.run_val hc
        exact (Tr.val_run (hn out ho)).trans hk
theorem spWt_pos (n : Nd) : 1 ≤ spWt n := by rw [spWt_eq]; omega
theorem spEqN_mk {a b c d : Int} {z z' : Bool} {x y : List Int} {l m : List Nd} : spEqN (.mk (a, (c, (z, (x, ())))) l) (.mk (b, (d, (z', (y, ())))) m) = true ↔ a = b ∧ c = d ∧ z = z' ∧ x = y ∧ l = m := by
  rw [spEqN_iff]
  constructor
  · intro h
    injection h with h1 h2
    injection h1 with h3 h4
    injection h4 with h5 h6
    injection h6 with h7 h8
    injection h8 with h9 h10
    exact ⟨h3, h5, h7, h9, h2⟩
  · rintro ⟨rfl, rfl, rfl, rfl, rfl⟩; rfl
abbrev iotAlike : Io := ⟨[dNode, dNode], [], [], [dB], none⟩
def FtAlikeN (n : Nat) (d : iotAlike.In) : Tr iotAlike.Res := .ite (decide (spWt d.1.1 < n)) (.ret (.ret ((spEqN d.1.1 d.1.2.1, ()), ()))) .no
def FtAlike (d : iotAlike.In) : Tr iotAlike.Res := .ret (.ret ((spEqN d.1.1 d.1.2.1, ()), ()))
section
variable [Inhabited FuT]
abbrev cstAlike : List (Nat × Hc) := [(49, ioHd ioSame FSame), (66, ioHd iotAlike (FtAlikeN spFuel))]
def hdtAlike : Hd := hdT cstAlike
abbrev lotAlike_5 : Lo := ⟨⟨[.any, .any, .one (.ptr 2 0), .one (.ptr 3 0), .any, .one (.hol (.int IntKind.i64)), .any, .any, .any, .any, .any, .any, .any, .any, .any, .any, .any, .any, .any, .any, .any, .any, .any, .any, .any, .any, .any, .any, .any, .any, .any, .any, .any, .any, .any, .any, .any, .any, .any, .any, .any, .any, .any, .any, .any, .any, .any, .any, .any, .any, .any, .any, .any, .any, .any, .any, .any, .any, .any, .any, .any], [none, none, some [.hol (.int IntKind.i64), .hol (.int IntKind.i64), .hol .bool, .hol (.sl 5 (Ty.int IntKind.u8)), .hol (.sl 98 tNode)], some [.hol (.int IntKind.i64), .hol (.int IntKind.i64), .hol .bool, .hol (.sl 5 (Ty.int IntKind.u8)), .hol (.sl 98 tNode)]]⟩, [(.ret, ⟨[.any, .any, .any, .any, .one (.hol .bool), .any, .any, .any, .any, .any, .any, .any, .any, .any, .any, .any, .any, .any, .any, .any, .any, .any, .any, .any, .any, .any, .any, .any, .any, .any, .any, .any, .any, .any, .any, .any, .any, .any, .any, .any, .any, .any, .any, .any, .any, .any, .any, .any, .any, .any, .any, .any, .any, .any, .any, .any, .any, .any, .any, .any, .any], []⟩), (.exit 0, ⟨[.any, .any, .any, .any, .any, .any, .any, .any, .any, .any, .any, .any, .any, .any, .any, .any, .any, .any, .any, .any, .any, .any, .any, .any, .any, .any, .any, .any, .any, .any, .any, .any, .any, .any, .any, .any, .any, .any, .any, .any, .any, .any, .any, .any, .any, .any, .any, .any, .any, .any, .any, .any, .any, .any, .any, .any, .any, .any, .any, .any, .any], []⟩)]⟩
-- FtAlike_5 : lotAlike_5.st.den → Tr (DenX lotAlike_5.xs) | ((h2, ()), ((h3, (h4, (h5, (h6, (h7, ()))))), ((h8, (h9, (h10, (h11, (h12, ()))))), ())))
def FtAlike_5 (d : lotAlike_5.st.den) : Tr (DenX lotAlike_5.xs) :=
  .ite (decide (d.1.1 = 0) && (decide (d.2.1.2.2.2.2.1.length = d.2.2.1.2.2.2.2.1.length) && decide (spWts d.2.1.2.2.2.2.1 < spFuel))) (.ite (spEqNs d.2.1.2.2.2.2.1 d.2.2.1.2.2.2.2.1) (.ret (.pan (.ret ((), ((), ()))))) (.ret (.ret ((), ((false, ()), ()))))) .no
def lptAlike : Lp := lpT [(5, loHd lotAlike_5 FtAlike_5)]
def steptAlike_5 {R : Type} (h2 : Int) (h3 : Int) (h4 : Int) (h5 : Bool) (h6 : List Int) (h7 : List (Nd)) (h8 : Int) (h9 : Int) (h10 : Bool) (h11 : List Int) (h12 : List (Nd)) (next : Int → Int → Int → Bool → List Int → List (Nd) → Int → Int → Bool → List Int → List (Nd) → Option R) (out : DenX lotAlike_5.xs → Option R) : Option R := bif decide (h2 < (↑h7.length : Int)) then bif decide (0 ≤ h2) && decide (h2 < (↑h7.length : Int)) then bif decide (0 ≤ h2) && decide (h2 < (↑h12.length : Int)) then bif decide (spWt (Tre.mk (h7.getD h2.toNat (Tre.mk (0, 0, false, [], ()) [])).1 (h7.getD h2.toNat (Tre.mk (0, 0, false, [], ()) [])).2) < spFuel) then bif !spEqN (Tre.mk (h7.getD h2.toNat (Tre.mk (0, 0, false, [], ()) [])).1 (h7.getD h2.toNat (Tre.mk (0, 0, false, [], ()) [])).2) (Tre.mk (h12.getD h2.toNat (Tre.mk (0, 0, false, [], ()) [])).1 (h12.getD h2.toNat (Tre.mk (0, 0, false, [], ()) [])).2) then out (.ret ((), ((false, ()), ()))) else next (IntKind.i64.wrap (h2 + 1)) (h3) (h4) (h5) (h6) (h7) (h8) (h9) (h10) (h11) (h12) else none else none else none else out (.pan (.ret ((), ((), ()))))
def ittAlike_5 (n : Nat) (h2 : Int) (h3 : Int) (h4 : Int) (h5 : Bool) (h6 : List Int) (h7 : List (Nd)) (h8 : Int) (h9 : Int) (h10 : Bool) (h11 : List Int) (h12 : List (Nd)) : Option (DenX lotAlike_5.xs) := lpN tt hdtAlike dr lptAlike 0 Go.Proofs.Tryz.f66 (topL Go.Proofs.Tryz.f66 0) n (lotAlike_5.st.mk' ((h2, ()), ((h3, (h4, (h5, (h6, (h7, ()))))), ((h8, (h9, (h10, (h11, (h12, ()))))), ())))) (decX lotAlike_5.xs)
theorem sltAlike_5 (n : Nat) (h2 : Int) (h3 : Int) (h4 : Int) (h5 : Bool) (h6 : List Int) (h7 : List (Nd)) (h8 : Int) (h9 : Int) (h10 : Bool) (h11 : List Int) (h12 : List (Nd)) : ittAlike_5 (n + 1) h2 h3 h4 h5 h6 h7 h8 h9 h10 h11 h12 = steptAlike_5 h2 h3 h4 h5 h6 h7 h8 h9 h10 h11 h12 (ittAlike_5 n) some := by kernel_rfl
theorem looptAlike {l m : List Nd} (hlm : l.length = m.length) (hl : l.length ≤ maxLen) (hw : spWts l < spFuel) (a b c d : Int) (z z' : Bool) (x y : List Int) : ∀ (k j : Nat), l.length < j + k → j ≤ l.length → l.take j = m.take j →
    ittAlike_5 k j a b z x l c d z' y m = if spEqNs l m = true then some (.pan (.ret ((), ((), ())))) else some (.ret ((), ((false, ()), ()))) := by
  intro k
  induction k with
  | zero => intro j h1 h2; omega
  | succ k ih =>
    intro j h1 h2 h3
    rw [sltAlike_5]
    unfold steptAlike_5
    by_cases hj : j < l.length
    · have hj' : j < m.length := by omega
      refine (bif_true (decide_eq_true (show (j : Int) < (l.length : Int) by omega)) _ _).trans ?_
      refine (bif_true (by simp; omega) _ _).trans ?_
      refine (bif_true (by simp; omega) _ _).trans ?_
      rw [wrap_succ hj hl]
      have hmem := spWt_mem (List.getElem_mem hj)
      have ht : l.take (j + 1) = m.take (j + 1) ↔ l[j] = m[j] := by
        rw [List.take_succ_eq_append_getElem hj, List.take_succ_eq_append_getElem hj', h3]
        exact ⟨fun h => by have := (List.append_inj' h rfl).2; injection this, fun h => by rw [h]⟩
      have hne : l[j] ≠ m[j] → l ≠ m := fun h e => h (by subst e; rfl)
      have ih' := ih (j + 1) (by omega) (by omega)
      simp only [Int.toNat_natCast, getD_lt hj, getD_lt hj']
      generalize l[j] = u at hmem ht hne ⊢
      generalize m[j] = v at ht hne ⊢
      obtain ⟨ul, uk⟩ := u
      obtain ⟨vl, vk⟩ := v
      refine (bif_true (decide_eq_true (show spWt (Tre.mk ul uk) < spFuel by omega)) _ _).trans ?_
      by_cases he : spEqN (Tre.mk ul uk) (Tre.mk vl vk) = true
      · refine (bif_false (show (!spEqN (Tre.mk ul uk) (Tre.mk vl vk)) = false by rw [he]; rfl) _ _).trans ?_
        exact ih' (ht.2 (spEqN_iff.1 he))
      · refine (bif_true (show (!spEqN (Tre.mk ul uk) (Tre.mk vl vk)) = true by simpa using he) _ _).trans ?_
        rw [if_neg (fun h => hne (fun e => he (spEqN_iff.2 e)) (spEqNs_iff.1 h))]
    · refine (bif_false (decide_eq_false (show ¬ (j : Int) < (l.length : Int) by omega)) _ _).trans ?_
      rw [List.take_of_length_le (by omega), List.take_of_length_le (by omega)] at h3
      rw [if_pos (spEqNs_iff.2 h3)]
def bodytAlike (a0 : Nd) (a1 : Nd) : Option iotAlike.Res := bif a0.1.fst != a1.1.fst then some (Out.ret ((false, ()), ())) else bif a0.1.snd.fst != a1.1.snd.fst then some (Out.ret ((false, ()), ())) else bif !a0.1.snd.snd.fst == a1.1.snd.snd.fst then some (Out.ret ((false, ()), ())) else bif !decide (a0.1.snd.snd.snd.fst = a1.1.snd.snd.snd.fst) then some (Out.ret ((false, ()), ())) else bif (↑a0.2.length : Int) != (↑a1.2.length : Int) then some (Out.ret ((false, ()), ())) else (FtAlike_5 ((0, ()), ((a0.1.fst, (a0.1.snd.fst, (a0.1.snd.snd.fst, (a0.1.snd.snd.snd.fst, (a0.2, ()))))), ((a1.1.fst, (a1.1.snd.fst, (a1.1.snd.snd.fst, (a1.1.snd.snd.snd.fst, (a1.2, ()))))), ())))).run fun y => match y with | .ret ((), ((x25, ()), ())) => (some (Out.ret ((x25, ()), ()))) | .pan (.ret ((), ((), ()))) => (some (Out.ret ((true, ()), ())))
theorem runtAlike (a0 : Nd) (a1 : Nd) : Io.run tt hdtAlike dr lptAlike iotAlike Go.Proofs.Tryz.f66 ((a0, a1, ()), ()) = bodytAlike a0 a1 := by kernel_rfl
theorem oktAlikeS (rtAlike : HcOk prog 66 (ioHd iotAlike (FtAlikeN spFuel))) : HcOk prog 66 (ioHd iotAlike (FtAlikeN (spFuel + 1))) := by
  refine fn_sound (n := 400) hm (cs := cstAlike) (.cons okSame (.cons rtAlike .nil)) (lp := lptAlike) (fn := Go.Proofs.Tryz.f66) (by kernel_rfl) (by kernel_rfl) (by kernel_rfl) iotAlike (.step (h0 := loHd lotAlike_5 FtAlike_5) (by kernel_rfl) (loop_sound (n := 400) hm (cs := cstAlike) (.cons okSame (.cons rtAlike .nil)) (lp := lptAlike) (fn := Go.Proofs.Tryz.f66) (.done (by kernel_rfl)) lotAlike_5 FtAlike_5 ?_) (.done (by kernel_rfl))) (FtAlikeN (spFuel + 1)) ?_
  · rintro ⟨⟨(i : Int), ⟨⟩⟩, ⟨⟨(a : Int), (b : Int), (z : Bool), (x : List Int), (l : List Nd), ⟨⟩⟩, ⟨(c : Int), (d : Int), (z' : Bool), (y' : List Int), (m : List Nd), ⟨⟩⟩, ⟨⟩⟩⟩ y hw hy
    obtain ⟨hg, hy⟩ := Tr.guard hy
    simp only [Bool.and_eq_true, decide_eq_true_eq] at hg
    obtain ⟨h1, h2, h3⟩ := hg
    have h1 : i = 0 := h1
    have h2 : l.length = m.length := h2
    have h3 : spWts l < spFuel := h3
    subst h1
    refine ⟨l.length + 1, (looptAlike h2 (by have := hw.2.1.2.2.2.2.1.1; exact this) h3 a b c d z z' x y' (l.length + 1) 0 (by omega) (by omega) rfl).trans ?_⟩
    rw [← hy]
    by_cases h : spEqNs l m = true
    · rw [if_pos h]; exact (bif_true h _ _).symm
    · rw [if_neg h]; exact (bif_false (by simpa using h) _ _).symm
  · rintro ⟨⟨(a : Nd), (b : Nd), ⟨⟩⟩, ⟨⟩⟩ out hw ho
    obtain ⟨hg, ho⟩ := Tr.guard ho
    have hk : spWt a < spFuel + 1 := of_decide_eq_true hg
    clear hg
    cases ho
    refine (runtAlike a b).trans ?_
    unfold bodytAlike
    show _ = some (Out.ret ((spEqN a b, ()), ()))
    obtain ⟨⟨a1, a2, a3, a4, ⟨⟩⟩, a5⟩ := a
    obtain ⟨⟨b1, b2, b3, b4, ⟨⟩⟩, b5⟩ := b
    rw [spWt_eq] at hk
    have hk : 1 + a4.length + spWts a5 < spFuel + 1 := hk
    have key := spEqN_mk (a := a1) (b := b1) (c := a2) (d := b2) (z := a3) (z' := b3) (x := a4) (y := b4) (l := a5) (m := b5)
    have no : ¬ (a1 = b1 ∧ a2 = b2 ∧ a3 = b3 ∧ a4 = b4 ∧ a5 = b5) → spEqN (Tre.mk (a1, (a2, (a3, (a4, ())))) a5) (Tre.mk (b1, (b2, (b3, (b4, ())))) b5) = false := fun h => by
      rw [Bool.eq_false_iff]; exact fun e => h (key.1 e)
    by_cases h1 : a1 = b1
    · refine (bif_false (by simpa using h1) _ _).trans ?_
      by_cases h2 : a2 = b2
      · refine (bif_false (by simpa using h2) _ _).trans ?_
        by_cases h3 : a3 = b3
        · refine (bif_false (by simp [h3]) _ _).trans ?_
          by_cases h4 : a4 = b4
          · refine (bif_false (by simp [h4]) _ _).trans ?_
            by_cases h5 : a5.length = b5.length
            · refine (bif_false (by simp [h5]) _ _).trans ?_
              have c1 : (decide ((0 : Int) = 0) && (decide (a5.length = b5.length) && decide (spWts a5 < spFuel))) = true := by simp; omega
              have e1 : FtAlike_5 ((0, ()), ((a1, (a2, (a3, (a4, (a5, ()))))), ((b1, (b2, (b3, (b4, (b5, ()))))), ()))) = .ite true (.ite (spEqNs a5 b5) (.ret (.pan (.ret ((), ((), ()))))) (.ret (.ret ((), ((false, ()), ()))))) .no := congrArg (fun c => Tr.ite c _ _) c1
              rw [e1]
              by_cases h6 : a5 = b5
              · rw [spEqNs_iff.2 h6, key.2 ⟨h1, h2, h3, h4, h6⟩]; rfl
              · have : spEqNs a5 b5 = false := by rw [Bool.eq_false_iff]; exact fun e => h6 (spEqNs_iff.1 e)
                rw [this, no (fun h => h6 h.2.2.2.2)]; rfl
            · refine (bif_true (bne_iff_ne.2 (fun e => h5 (Int.ofNat.inj e))) _ _).trans ?_
              rw [no (fun h => h5 (by rw [h.2.2.2.2]))]
          · refine (bif_true (by simp [h4]) _ _).trans ?_
            rw [no (fun h => h4 h.2.2.2.1)]
        · refine (bif_true (by cases a3 <;> cases b3 <;> simp_all) _ _).trans ?_
          rw [no (fun h => h3 h.2.2.1)]
      · refine (bif_true (by simpa using h2) _ _).trans ?_
        rw [no (fun h => h2 h.2.1)]
    · refine (bif_true (by simpa using h1) _ _).trans ?_
      rw [no (fun h => h1 h.1)]
end
theorem oktAlikeN (n : Nat) : HcOk prog 66 (ioHd iotAlike (FtAlikeN n)) := by
  induction n with
  | zero => exact HcOk.none (fn := Go.Proofs.Tryz.f66) (by kernel_rfl) (by kernel_rfl) (by kernel_rfl) _ _ fun d out h => by cases h
  | succ n ih =>
    have := @oktAlikeS ⟨⟨n⟩⟩ (by rw [FuT.val]; exact ih)
    rw [FuT.val] at this
    exact this
theorem oktAlike : HcOk prog 66 (ioHd iotAlike FtAlike) := by
  refine HcOk.lim oktAlikeN fun d => ⟨spWt d.1.1 + 1, fun out h => ?_⟩
  exact (bif_true (decide_eq_true (Nat.lt_succ_self _)) _ _).trans h
abbrev iotTwin : Io := ⟨[dNode], [], [], [dNode], none⟩
def FtTwinN (n : Nat) (d : iotTwin.In) : Tr iotTwin.Res := .ite (decide (spWt d.1.1 < n) && decide (spWt d.1.1 ≤ 4294967296)) (.ret (.ret ((d.1.1, ()), ()))) .no
def FtTwin (d : iotTwin.In) : Tr iotTwin.Res := .ite (decide (spWt d.1.1 ≤ 4294967296)) (.ret (.ret ((d.1.1, ()), ()))) .no
section
variable [Inhabited FuT]
abbrev cstTwin : List (Nat × Hc) := [(46, ioHd ioCopy FCopy), (51, ioHd iotTwin (FtTwinN spFuel))]
def hdtTwin : Hd := hdT cstTwin
abbrev lotTwin_4 : Lo := ⟨⟨[.any, .one (.ptr 1 0), .one (.ptr 2 0), .one (.onl 98 tNode 7), .one (.hol (.int IntKind.i64)), .any, .any, .any, .any, .any, .any, .any, .any, .any, .any, .any, .any, .any, .any, .any, .any, .any, .any, .any, .any, .any, .any, .any, .any, .any, .any, .any, .any], [none, some [.hol (.int IntKind.i64), .hol (.int IntKind.i64), .hol .bool, .hol (.sl 5 (Ty.int IntKind.u8)), .hol (.sl 98 tNode)], some [.hol (.int IntKind.i64), .hol (.int IntKind.i64), .hol .bool, .onl 5 (Ty.int IntKind.u8) 1032, .onl 98 tNode 1034]]⟩, [(.exit 0, ⟨[.any, .one (.ptr 1 0), .one (.ptr 2 0), .one (.onl 98 tNode 7), .any, .any, .any, .any, .any, .any, .any, .any, .any, .any, .any, .any, .any, .any, .any, .any, .any, .any, .any, .any, .any, .any, .any, .any, .any, .any, .any, .any, .any], [none, some [.hol (.int IntKind.i64), .hol (.int IntKind.i64), .hol .bool, .hol (.sl 5 (Ty.int IntKind.u8)), .hol (.sl 98 tNode)], some [.hol (.int IntKind.i64), .hol (.int IntKind.i64), .hol .bool, .onl 5 (Ty.int IntKind.u8) 1032, .onl 98 tNode 1034]]⟩)]⟩
-- FtTwin_4 : lotTwin_4.st.den → Tr (DenX lotTwin_4.xs) | ((h1, (h2, ())), ((h3, (h4, (h5, (h6, (h7, ()))))), ((h8, (h9, (h10, (h11, (h12, ()))))), ())))
def FtTwin_4 (d : lotTwin_4.st.den) : Tr (DenX lotTwin_4.xs) :=
  .ite (decide (d.1.1.length = 0) && (decide (d.1.2.1 = 0) && (decide (spWts d.2.1.2.2.2.2.1 < spFuel) && decide (spWts d.2.1.2.2.2.2.1 ≤ 4294967296)))) (.ret (.ret ((), ((d.2.1.2.2.2.2.1, ()), d.2)))) .no
def lptTwin : Lp := lpT [(4, loHd lotTwin_4 FtTwin_4)]
def steptTwin_4 {R : Type} (h1 : List tNode.den) (h2 : Int) (h3 : Int) (h4 : Int) (h5 : Bool) (h6 : List Int) (h7 : List (Nd)) (h8 : Int) (h9 : Int) (h10 : Bool) (h11 : List Int) (h12 : List tNode.den) (next : List tNode.den → Int → Int → Int → Bool → List Int → List (Nd) → Int → Int → Bool → List Int → List tNode.den → Option R) (out : DenX lotTwin_4.xs → Option R) : Option R := bif decide (h2 < (↑h7.length : Int)) then bif decide (0 ≤ h2) && decide (h2 < (↑h7.length : Int)) then bif decide (spWt (Tre.mk (h7.getD h2.toNat (Tre.mk (0, 0, false, [], ()) [])).1 (h7.getD h2.toNat (Tre.mk (0, 0, false, [], ()) [])).2) < spFuel) && decide (spWt (Tre.mk (h7.getD h2.toNat (Tre.mk (0, 0, false, [], ()) [])).1 (h7.getD h2.toNat (Tre.mk (0, 0, false, [], ()) [])).2) ≤ 4294967296) then bif decide (h1.length + 1 ≤ 4294967296) then next (h1 ++ [Tre.mk (h7.getD h2.toNat (Tre.mk (0, 0, false, [], ()) [])).1 (h7.getD h2.toNat (Tre.mk (0, 0, false, [], ()) [])).2]) (IntKind.i64.wrap (h2 + 1)) (h3) (h4) (h5) (h6) (h7) (h8) (h9) (h10) (h11) (h12) else none else none else none else out (.ret ((), ((h1, ()), ((h3, (h4, (h5, (h6, (h7, ()))))), ((h8, (h9, (h10, (h11, (h12, ()))))), ())))))
def ittTwin_4 (n : Nat) (h1 : List tNode.den) (h2 : Int) (h3 : Int) (h4 : Int) (h5 : Bool) (h6 : List Int) (h7 : List (Nd)) (h8 : Int) (h9 : Int) (h10 : Bool) (h11 : List Int) (h12 : List tNode.den) : Option (DenX lotTwin_4.xs) := lpN tt hdtTwin dr lptTwin 0 Go.Proofs.Tryz.f51 (topL Go.Proofs.Tryz.f51 0) n (lotTwin_4.st.mk' ((h1, (h2, ())), ((h3, (h4, (h5, (h6, (h7, ()))))), ((h8, (h9, (h10, (h11, (h12, ()))))), ())))) (decX lotTwin_4.xs)
theorem sltTwin_4 (n : Nat) (h1 : List tNode.den) (h2 : Int) (h3 : Int) (h4 : Int) (h5 : Bool) (h6 : List Int) (h7 : List (Nd)) (h8 : Int) (h9 : Int) (h10 : Bool) (h11 : List Int) (h12 : List tNode.den) : ittTwin_4 (n + 1) h1 h2 h3 h4 h5 h6 h7 h8 h9 h10 h11 h12 = steptTwin_4 h1 h2 h3 h4 h5 h6 h7 h8 h9 h10 h11 h12 (ittTwin_4 n) some := by kernel_rfl
theorem looptTwin {l : List Nd} (hw : spWts l < spFuel) (hb : spWts l ≤ 4294967296) (a b : Int) (z : Bool) (x : List Int) (c d : Int) (z' : Bool) (y : List Int) (m : List Nd) : ∀ (k j : Nat), l.length < j + k → j ≤ l.length →
    ittTwin_4 k (l.take j) j a b z x l c d z' y m = some (.ret ((), ((l, ()), ((a, (b, (z, (x, (l, ()))))), ((c, (d, (z', (y, (m, ()))))), ()))))) := by
  intro k
  induction k with
  | zero => intro j h1 h2; omega
  | succ k ih =>
    intro j h1 h2
    rw [sltTwin_4]
    unfold steptTwin_4
    by_cases hj : j < l.length
    · refine (bif_true (decide_eq_true (show (j : Int) < (l.length : Int) by omega)) _ _).trans ?_
      refine (bif_true (by simp; omega) _ _).trans ?_
      have hlen := spWts_len l
      rw [wrap_i64 (n := (j : Int) + 1) (by omega) (by omega)]
      have hmem := spWt_mem (List.getElem_mem hj)
      have ht : l.take (j + 1) = l.take j ++ [l[j]] := List.take_succ_eq_append_getElem hj
      have ih' := ih (j + 1) (by omega) (by omega)
      rw [ht] at ih'
      simp only [Int.toNat_natCast, getD_lt hj]
      generalize l[j] = u at hmem ht ih' ⊢
      obtain ⟨ul, uk⟩ := u
      refine (bif_true (show (decide (spWt (Tre.mk ul uk) < spFuel) && decide (spWt (Tre.mk ul uk) ≤ 4294967296)) = true by simp; omega) _ _).trans ?_
      refine (bif_true (decide_eq_true (show (l.take j).length + 1 ≤ 4294967296 by simp; omega)) _ _).trans ?_
      exact ih'
    · refine (bif_false (decide_eq_false (show ¬ (j : Int) < (l.length : Int) by omega)) _ _).trans ?_
      rw [List.take_of_length_le (by omega)]
def bodytTwin (a0 : Nd) : Option iotTwin.Res := (FtTwin_4 (([], (0, ())), ((a0.1.fst, (a0.1.snd.fst, (a0.1.snd.snd.fst, (a0.1.snd.snd.snd.fst, (a0.2, ()))))), ((0, (0, (false, ([], ([], ()))))), ())))).run fun y => match y with | .ret ((), ((x36, ()), (x37, x38, x39, x40, x41, ()), (x42, x43, x44, x45, x46, ()), ())) => (bif decide (x40.length ≤ 4294967296) then some (Out.ret ((Tre.mk (x37, x38, x39, x40, ()) x36, ()), ())) else none)
theorem runtTwin (a0 : Nd) : Io.run tt hdtTwin dr lptTwin iotTwin Go.Proofs.Tryz.f51 ((a0, ()), ()) = bodytTwin a0 := by kernel_rfl
theorem oktTwinS (rtTwin : HcOk prog 51 (ioHd iotTwin (FtTwinN spFuel))) : HcOk prog 51 (ioHd iotTwin (FtTwinN (spFuel + 1))) := by
  refine fn_sound (n := 400) hm (cs := cstTwin) (.cons okCopy (.cons rtTwin .nil)) (lp := lptTwin) (fn := Go.Proofs.Tryz.f51) (by kernel_rfl) (by kernel_rfl) (by kernel_rfl) iotTwin (.step (h0 := loHd lotTwin_4 FtTwin_4) (by kernel_rfl) (loop_sound (n := 400) hm (cs := cstTwin) (.cons okCopy (.cons rtTwin .nil)) (lp := lptTwin) (fn := Go.Proofs.Tryz.f51) (.done (by kernel_rfl)) lotTwin_4 FtTwin_4 ?_) (.done (by kernel_rfl))) (FtTwinN (spFuel + 1)) ?_
  · rintro ⟨⟨(o : List Nd), (i : Int), ⟨⟩⟩, ⟨⟨(a : Int), (b : Int), (z : Bool), (x : List Int), (l : List Nd), ⟨⟩⟩, ⟨(c : Int), (d : Int), (z' : Bool), (y' : List Int), (m : List Nd), ⟨⟩⟩, ⟨⟩⟩⟩ y hw hy
    obtain ⟨hg, hy⟩ := Tr.guard hy
    simp only [Bool.and_eq_true, decide_eq_true_eq] at hg
    obtain ⟨h1, h2, h3, h4⟩ := hg
    have h1 : o = [] := List.eq_nil_of_length_eq_zero h1
    have h2 : i = 0 := h2
    have h3 : spWts l < spFuel := h3
    have h4 : spWts l ≤ 4294967296 := h4
    subst h1
    subst h2
    refine ⟨l.length + 1, (looptTwin h3 h4 a b z x c d z' y' m (l.length + 1) 0 (by omega) (by omega)).trans ?_⟩
    rw [← hy]
    rfl
  · rintro ⟨⟨(a : Nd), ⟨⟩⟩, ⟨⟩⟩ out hw ho
    obtain ⟨hg, ho⟩ := Tr.guard ho
    simp only [Bool.and_eq_true, decide_eq_true_eq] at hg
    obtain ⟨hk, hb⟩ := hg
    have hk : spWt a < spFuel + 1 := hk
    have hb : spWt a ≤ 4294967296 := hb
    cases ho
    refine (runtTwin a).trans ?_
    unfold bodytTwin
    show _ = some (Out.ret ((a, ()), ()))
    obtain ⟨⟨a1, a2, a3, a4, ⟨⟩⟩, a5⟩ := a
    rw [spWt_eq] at hk hb
    have hk : 1 + a4.length + spWts a5 < spFuel + 1 := hk
    have hb : 1 + a4.length + spWts a5 ≤ 4294967296 := hb
    have c1 : (decide (([] : List Nd).length = 0) && (decide ((0 : Int) = 0) && (decide (spWts a5 < spFuel) && decide (spWts a5 ≤ 4294967296)))) = true := by simp; omega
    have e1 : FtTwin_4 ((([] : List Nd), (0, ())), ((a1, (a2, (a3, (a4, (a5, ()))))), ((0, (0, (false, (([] : List Int), (([] : List Nd), ()))))), ()))) = .ite true (.ret (.ret ((), ((a5, ()), ((a1, (a2, (a3, (a4, (a5, ()))))), ((0, (0, (false, (([] : List Int), (([] : List Nd), ()))))), ())))))) .no := congrArg (fun c => Tr.ite c _ _) c1
    rw [e1]
    exact bif_true (decide_eq_true (show a4.length ≤ 4294967296 by omega)) _ _
end
theorem oktTwinN (n : Nat) : HcOk prog 51 (ioHd iotTwin (FtTwinN n)) := by
  induction n with
  | zero => exact HcOk.none (fn := Go.Proofs.Tryz.f51) (by kernel_rfl) (by kernel_rfl) (by kernel_rfl) _ _ fun d out h => by cases h
  | succ n ih =>
    have := @oktTwinS ⟨⟨n⟩⟩ (by rw [FuT.val]; exact ih)
    rw [FuT.val] at this
    exact this
theorem oktTwin : HcOk prog 51 (ioHd iotTwin FtTwin) := by
  refine HcOk.lim oktTwinN fun d => ⟨spWt d.1.1 + 1, fun out h => ?_⟩
  obtain ⟨hg, h⟩ := Tr.guard h
  refine (bif_true ?_ _ _).trans h
  simp only [Bool.and_eq_true, decide_eq_true_eq]
  exact ⟨Nat.lt_succ_self _, of_decide_eq_true hg⟩
end
end Go.Proofs.YtjpeefegeobgfaaGreat.Sym
namespace Go.Proofs.YtjpeefegeobgfaaGreat.Sym
open Go
set_option linter.unusedSimpArgs false
set_option linter.unusedVariables false
noncomputable section
mutual
def spVal (f : Fd) (v : Int) : Nd → List Int × Int
  | .mk a ks =>
    if spShN f.lab.2.1 (.mk a ks) = false then ([], 101)
    else if f.lab.2.1 ≤ 4 then (if spFits a.2.1 (spWid f.lab.2.1) = true then (spBE a.2.1 (spWid f.lab.2.1).toNat, 0) else ([], 102))
    else if f.lab.2.1 = 9 then (if 16 < ks.length then ([], 9) else if (spVItems (f.kids.headD f) v ks).2 ≠ 0 then ([], (spVItems (f.kids.headD f) v ks).2) else (spBE ks.length 4 ++ (spVItems (f.kids.headD f) v ks).1, 0))
    else if f.lab.2.1 = 10 then spVParts f.kids v (.mk a ks)
    else if a.2.2.1 = true then (if a.2.2.2.1.length = 0 then (spBE (-1) (spWid f.lab.2.1).toNat, 0) else ([], 70))
    else if f.lab.2.1 ≤ 6 ∧ (spUtf a.2.2.2.1).2 = false then ([], 6)
    else if f.lab.2.1 ≤ 6 ∧ 255 < a.2.2.2.1.length then ([], 4)
    else (spBE a.2.2.2.1.length (spWid f.lab.2.1).toNat ++ a.2.2.2.1, 0)
termination_by n => (SizeOf.sizeOf n, 1)
def spVParts (fs : List Fd) (v : Int) : Nd → List Int × Int
  | .mk a ks => if ks.length ≠ (spHere fs v).length then ([], 101) else spVZip v (spHere fs v) ks
termination_by n => (SizeOf.sizeOf n, 0)
def spVItems (f : Fd) (v : Int) : List Nd → List Int × Int
  | [] => ([], 0)
  | k :: ks => if (spVal f v k).2 ≠ 0 then ([], (spVal f v k).2) else if (spVItems f v ks).2 ≠ 0 then ([], (spVItems f v ks).2) else ((spVal f v k).1 ++ (spVItems f v ks).1, 0)
termination_by l => (SizeOf.sizeOf l, 0)
def spVZip (v : Int) : List Fd → List Nd → List Int × Int
  | f :: fs, k :: ks => if (spVal f v k).2 ≠ 0 then ([], (spVal f v k).2) else if (spVZip v fs ks).2 ≠ 0 then ([], (spVZip v fs ks).2) else ((spVal f v k).1 ++ (spVZip v fs ks).1, 0)
  | _, _ => ([], 0)
termination_by fs l => (SizeOf.sizeOf l, 0)
end
mutual
def Tre.arr : Fd → Bool
  | .mk a ks => ((decide (a.2.1 ≠ 9) || decide (ks.length ≠ 0)) && decide (ks.length ≤ 16)) && Tre.arrs ks
def Tre.arrs : List Fd → Bool
  | [] => true
  | k :: ks => k.arr && Tre.arrs ks
end
@[irreducible] noncomputable def spArr (f : Fd) : Bool := f.arr
@[irreducible] noncomputable def spArrs (f : List Fd) : Bool := Tre.arrs f
theorem spArr_eq (f : Fd) : spArr f = (((decide (f.lab.2.1 ≠ 9) || decide (f.kids.length ≠ 0)) && decide (f.kids.length ≤ 16)) && spArrs f.kids) := by
  cases f; unfold spArr spArrs; rfl
theorem spArrs_mem {k : Fd} : ∀ {l : List Fd}, spArrs l = true → k ∈ l → spArr k = true
  | [], _, h => by cases h
  | x :: l, h, hk => by
    unfold spArrs at h
    simp only [Tre.arrs, Bool.and_eq_true] at h
    rcases List.mem_cons.1 hk with rfl | hk
    · unfold spArr; exact h.1
    · exact spArrs_mem (l := l) (by unfold spArrs; exact h.2) hk
theorem spArrs_here {l : List Fd} {v : Int} (h : spArrs l = true) : spArrs (spHere l v) = true := by
  have key : ∀ l : List Fd, (∀ k ∈ l, spArr k = true) → spArrs l = true := by
    intro l
    induction l with
    | nil => intro _; unfold spArrs; rfl
    | cons x l ih =>
      intro h
      have h1 := ih fun k hk => h k (List.mem_cons_of_mem _ hk)
      have h2 := h x (by simp)
      unfold spArrs spArr at *
      simp only [Tre.arrs, h1, h2, Bool.and_self]
  refine key _ fun k hk => spArrs_mem h (List.mem_filter.1 hk).1
theorem spWts_cons (k : Nd) (ks : List Nd) : spWts (k :: ks) = spWt k + spWts ks := by unfold spWts spWt; rfl
theorem spWid_le (k : Int) : 1 ≤ spWid k ∧ spWid k ≤ 8 := by unfold spWid; split; omega; split; omega; split <;> omega
theorem spVItems_len {f : Fd} {v : Int} : ∀ {ks : List Nd}, (∀ k ∈ ks, (spVal f v k).1.length ≤ 8 * spWt k) → (spVItems f v ks).1.length ≤ 8 * spWts ks
  | [], _ => by rw [spVItems]; simp
  | k :: ks, h => by
    have h1 := h k (by simp)
    have h2 := spVItems_len (f := f) (v := v) (ks := ks) fun k hk => h k (List.mem_cons_of_mem _ hk)
    rw [spVItems, spWts_cons]
    split
    · simp
    · split
      · simp
      · rw [List.length_append]; omega
theorem spVZip_len {v : Int} : ∀ {fs : List Fd} {ks : List Nd}, (∀ f, ∀ k ∈ ks, (spVal f v k).1.length ≤ 8 * spWt k) → (spVZip v fs ks).1.length ≤ 8 * spWts ks
  | f :: fs, k :: ks, h => by
    have h1 := h f k (by simp)
    have h2 := spVZip_len (v := v) (fs := fs) (ks := ks) fun f k hk => h f k (List.mem_cons_of_mem _ hk)
    rw [spVZip, spWts_cons]
    split
    · simp
    · split
      · simp
      · rw [List.length_append]; omega
  | [], ks, h => by rw [spVZip]; simp; simp
  | _ :: _, [], h => by rw [spVZip]; simp; simp
theorem spVZip_nil {v : Int} : ∀ {fs : List Fd} {ks : List Nd}, (spVZip v fs ks).2 ≠ 0 → (spVZip v fs ks).1 = []
  | [], ks, h => by rw [spVZip]; simp
  | _ :: _, [], h => by rw [spVZip]; simp
  | f :: fs, k :: ks, h => by
    rw [spVZip] at h ⊢
    split
    · rfl
    · rename_i h1
      rw [if_neg h1] at h
      split
      · rfl
      · rename_i h2
        rw [if_neg h2] at h
        exact absurd rfl h
theorem spVal_lenN (v : Int) : ∀ (N : Nat), (∀ f n, spWt n ≤ N → (spVal f v n).1.length ≤ 8 * spWt n) ∧ (∀ fs n, spWt n ≤ N → (spVParts fs v n).1.length + 8 ≤ 8 * spWt n) := by
  intro N
  induction N with
  | zero => exact ⟨fun f n h => by have := spWt_pos n; omega, fun f n h => by have := spWt_pos n; omega⟩
  | succ N ih =>
    have hp : ∀ fs n, spWt n ≤ N + 1 → (spVParts fs v n).1.length + 8 ≤ 8 * spWt n := by
      rintro fs ⟨a, ks⟩ h
      rw [spWt_eq] at h ⊢
      rw [spVParts]
      simp only at h ⊢
      split
      · simp; omega
      · have := spVZip_len (v := v) (fs := spHere fs v) (ks := ks) fun f k hk => ih.1 f k (by have := spWt_mem hk; omega)
        omega
    refine ⟨?_, hp⟩
    rintro f ⟨a, ks⟩ h
    have hpp := hp f.kids (.mk a ks) h
    have hw := spWid_le f.lab.2.1
    rw [spWt_eq] at h hpp ⊢
    rw [spVal]
    simp only at h hpp ⊢
    have hi := spVItems_len (f := f.kids.headD f) (v := v) (ks := ks) fun k hk => ih.1 _ k (by have := spWt_mem hk; omega)
    split
    · simp
    split
    · split
      · simp [spBE_len]; omega
      · simp
    split
    · split
      · simp
      · split
        · simp
        · rw [List.length_append, spBE_len]; omega
    split
    · omega
    split
    · split
      · simp [spBE_len]; omega
      · simp
    split
    · simp
    split
    · simp
    · rw [List.length_append, spBE_len]; omega
theorem spVal_len (f : Fd) (v : Int) (n : Nd) : (spVal f v n).1.length ≤ 8 * spWt n := (spVal_lenN v _).1 f n (Nat.le_refl _)
abbrev iovValue : Io := ⟨[dFld, dI, dNode], [], [], [dL, dI], none⟩
def FvValueN (n : Nat) (d : iovValue.In) : Tr iovValue.Res := .ite (decide (2 * spWt d.1.2.2.1 + 1 ≤ n) && (spArr d.1.1 && decide (8 * spWt d.1.2.2.1 ≤ 4294967296))) (.ret (.ret (((spVal d.1.1 d.1.2.1 d.1.2.2.1).1, ((spVal d.1.1 d.1.2.1 d.1.2.2.1).2, ())), ()))) .no
abbrev iovParts : Io := ⟨[dFlds, dI, dNode], [], [], [dL, dI], none⟩
def FvPartsN (n : Nat) (d : iovParts.In) : Tr iovParts.Res := .ite (decide (2 * spWt d.1.2.2.1 ≤ n) && (spArrs d.1.1 && (decide (8 * spWt d.1.2.2.1 ≤ 4294967296) && decide (d.1.1.length ≤ 4294967296)))) (.ret (.ret (((spVParts d.1.1 d.1.2.1 d.1.2.2.1).1, ((spVParts d.1.1 d.1.2.1 d.1.2.2.1).2, ())), ()))) .no
def FvParts (d : iovParts.In) : Tr iovParts.Res := .ite (spArrs d.1.1 && (decide (8 * spWt d.1.2.2.1 ≤ 4294967296) && decide (d.1.1.length ≤ 4294967296))) (.ret (.ret (((spVParts d.1.1 d.1.2.1 d.1.2.2.1).1, ((spVParts d.1.1 d.1.2.1 d.1.2.2.1).2, ())), ()))) .no
section
variable [Inhabited FuT]
abbrev csvValue : List (Nat × Hc) := [(173, ioHd iotShape FtShape), (197, ioHd iotWidth FtWidth), (198, ioHd ionFits FnFits), (199, ioHd ionDigits FnDigits), (188, ioHd iovValue (FvValueN spFuel)), (174, ioHd iovParts (FvPartsN spFuel)), (200, ioHd iorUtf FrUtf), (189, ioHd ioCat FCat)]
def hdvValue : Hd := hdT csvValue
abbrev lovValue_14 : Lo := ⟨⟨[.any, .one (.hol (.int IntKind.i64)), .any, .one (.ptr 3 0), .any, .one (.ptr 5 0), .any, .any, .any, .one (.onl 5 (Ty.int IntKind.u8) 19), .one (.hol (.int IntKind.i64)), .any, .any, .any, .any, .any, .any, .any, .any, .any, .any, .any, .any, .any, .any, .any, .any, .any, .any, .any, .any, .any, .any, .any, .any, .any, .any, .any, .any, .any, .any, .any, .any, .any, .any, .any, .any, .any, .any, .any, .any, .any, .any, .any, .any, .any, .any, .any, .any, .any, .any, .any, .any, .any, .any, .any, .any, .any, .any, .any, .any, .any, .any, .any, .any, .any, .any, .any, .any, .any, .any, .any, .any, .any, .any, .any, .any, .any, .any, .any, .any, .any, .any, .any, .any, .any, .any, .any, .any, .any, .any, .any, .any, .any, .any, .any, .any, .any, .any, .any, .any, .any, .any, .any, .any, .any, .any, .any], [none, none, none, some [.hol .str, .hol (.int IntKind.i64), .hol (.int IntKind.i64), .hol (.int IntKind.i64), .hol (.sl 213 tFld)], none, some [.hol (.int IntKind.i64), .hol (.int IntKind.i64), .hol .bool, .hol (.sl 5 (Ty.int IntKind.u8)), .hol (.sl 98 (((Ty.int IntKind.i64).prod ((Ty.int IntKind.i64).prod (Ty.bool.prod ((Ty.sl 5 (Ty.int IntKind.u8)).prod Ty.unit)))).tree 98))]]⟩, [(.ret, ⟨[.any, .any, .any, .any, .any, .any, .one (.onl 5 (Ty.int IntKind.u8) 13), .one (.hol (.int IntKind.i64)), .any, .any, .any, .any, .any, .any, .any, .any, .any, .any, .any, .any, .any, .any, .any, .any, .any, .any, .any, .any, .any, .any, .any, .any, .any, .any, .any, .any, .any, .any, .any, .any, .any, .any, .any, .any, .any, .any, .any, .any, .any, .any, .any, .any, .any, .any, .any, .any, .any, .any, .any, .any, .any, .any, .any, .any, .any, .any, .any, .any, .any, .any, .any, .any, .any, .any, .any, .any, .any, .any, .any, .any, .any, .any, .any, .any, .any, .any, .any, .any, .any, .any, .any, .any, .any, .any, .any, .any, .any, .any, .any, .any, .any, .any, .any, .any, .any, .any, .any, .any, .any, .any, .any, .any, .any, .any, .any, .any, .any, .any], []⟩), (.exit 0, ⟨[.any, .any, .any, .any, .any, .any, .any, .any, .any, .one (.onl 5 (Ty.int IntKind.u8) 19), .any, .any, .any, .any, .any, .any, .any, .any, .any, .any, .any, .any, .any, .any, .any, .any, .any, .any, .any, .any, .any, .any, .any, .any, .any, .any, .any, .any, .any, .any, .any, .any, .any, .any, .any, .any, .any, .any, .any, .any, .any, .any, .any, .any, .any, .any, .any, .any, .any, .any, .any, .any, .any, .any, .any, .any, .any, .any, .any, .any, .any, .any, .any, .any, .any, .any, .any, .any, .any, .any, .any, .any, .any, .any, .any, .any, .any, .any, .any, .any, .any, .any, .any, .any, .any, .any, .any, .any, .any, .any, .any, .any, .any, .any, .any, .any, .any, .any, .any, .any, .any, .any, .any, .any, .any, .any, .any, .any], []⟩)]⟩
-- FvValue_14 : lovValue_14.st.den → Tr (DenX lovValue_14.xs) | ((h3, (h4, (h5, ()))), ((h6, (h7, (h8, (h9, (h10, ()))))), ((h11, (h12, (h13, (h14, (h15, ()))))), ())))
def FvValue_14 (d : lovValue_14.st.den) : Tr (DenX lovValue_14.xs) :=
  .ite (decide (d.1.2.2.1 = 0) && (decide (d.1.2.1.length = 4) && ((decide (d.2.1.2.2.2.2.1.length ≠ 0) && spArrs d.2.1.2.2.2.2.1) && (decide (2 * spWts d.2.2.1.2.2.2.2.1 + 1 ≤ spFuel) && decide (8 + 8 * spWts d.2.2.1.2.2.2.2.1 ≤ 4294967296)))))
    (.ite (decide ((spVItems (d.2.1.2.2.2.2.1.headD (.mk ([], (0, (0, (0, ())))) [])) d.1.1 d.2.2.1.2.2.2.2.1).2 = 0))
      (.ret (.pan (.ret ((), ((d.1.2.1 ++ (spVItems (d.2.1.2.2.2.2.1.headD (.mk ([], (0, (0, (0, ())))) [])) d.1.1 d.2.2.1.2.2.2.2.1).1, ()), ())))))
      (.ret (.ret ((), (([], ((spVItems (d.2.1.2.2.2.2.1.headD (.mk ([], (0, (0, (0, ())))) [])) d.1.1 d.2.2.1.2.2.2.2.1).2, ())), ()))))) .no
def lpvValue : Lp := lpT [(14, loHd lovValue_14 FvValue_14)]
def stepvValue_14 {R : Type} (h3 : Int) (h4 : List Int) (h5 : Int) (h6 : List Int) (h7 : Int) (h8 : Int) (h9 : Int) (h10 : List (Fd)) (h11 : Int) (h12 : Int) (h13 : Bool) (h14 : List Int) (h15 : List (Nd)) (next : Int → List Int → Int → List Int → Int → Int → Int → List (Fd) → Int → Int → Bool → List Int → List (Nd) → Option R) (out : DenX lovValue_14.xs → Option R) : Option R := bif decide (h5 < (↑h15.length : Int)) then bif decide (0 ≤ 0) && decide (0 < (↑h10.length : Int)) then bif decide (0 ≤ h5) && decide (h5 < (↑h15.length : Int)) then bif decide (2 * spWt (Tre.mk (h15.getD h5.toNat (Tre.mk (0, 0, false, [], ()) [])).1 (h15.getD h5.toNat (Tre.mk (0, 0, false, [], ()) [])).2) + 1 ≤ spFuel) && (spArr (Tre.mk (h10.getD (Int.toNat 0) (Tre.mk ([], 0, 0, 0, ()) [])).1 (h10.getD (Int.toNat 0) (Tre.mk ([], 0, 0, 0, ()) [])).2) && decide (8 * spWt (Tre.mk (h15.getD h5.toNat (Tre.mk (0, 0, false, [], ()) [])).1 (h15.getD h5.toNat (Tre.mk (0, 0, false, [], ()) [])).2) ≤ 4294967296)) then bif (spVal (Tre.mk (h10.getD (Int.toNat 0) (Tre.mk ([], 0, 0, 0, ()) [])).1 (h10.getD (Int.toNat 0) (Tre.mk ([], 0, 0, 0, ()) [])).2) h3 (Tre.mk (h15.getD h5.toNat (Tre.mk (0, 0, false, [], ()) [])).1 (h15.getD h5.toNat (Tre.mk (0, 0, false, [], ()) [])).2)).snd != 0 then out (.ret ((), (([], ((spVal (Tre.mk (h10.getD (Int.toNat 0) (Tre.mk ([], 0, 0, 0, ()) [])).1 (h10.getD (Int.toNat 0) (Tre.mk ([], 0, 0, 0, ()) [])).2) h3 (Tre.mk (h15.getD h5.toNat (Tre.mk (0, 0, false, [], ()) [])).1 (h15.getD h5.toNat (Tre.mk (0, 0, false, [], ()) [])).2)).snd, ())), ()))) else bif decide (h4.length + (spVal (Tre.mk (h10.getD (Int.toNat 0) (Tre.mk ([], 0, 0, 0, ()) [])).1 (h10.getD (Int.toNat 0) (Tre.mk ([], 0, 0, 0, ()) [])).2) h3 (Tre.mk (h15.getD h5.toNat (Tre.mk (0, 0, false, [], ()) [])).1 (h15.getD h5.toNat (Tre.mk (0, 0, false, [], ()) [])).2)).fst.length ≤ 4294967296) then next (h3) (h4 ++ (spVal (Tre.mk (h10.getD (Int.toNat 0) (Tre.mk ([], 0, 0, 0, ()) [])).1 (h10.getD (Int.toNat 0) (Tre.mk ([], 0, 0, 0, ()) [])).2) h3 (Tre.mk (h15.getD h5.toNat (Tre.mk (0, 0, false, [], ()) [])).1 (h15.getD h5.toNat (Tre.mk (0, 0, false, [], ()) [])).2)).fst) (IntKind.i64.wrap (h5 + 1)) (h6) (h7) (h8) (h9) (h10) (h11) (h12) (h13) (h14) (h15) else none else none else none else none else out (.pan (.ret ((), ((h4, ()), ()))))
def itvValue_14 (n : Nat) (h3 : Int) (h4 : List Int) (h5 : Int) (h6 : List Int) (h7 : Int) (h8 : Int) (h9 : Int) (h10 : List (Fd)) (h11 : Int) (h12 : Int) (h13 : Bool) (h14 : List Int) (h15 : List (Nd)) : Option (DenX lovValue_14.xs) := lpN tt hdvValue dr lpvValue 0 Go.Proofs.Tryz.f188 (topL Go.Proofs.Tryz.f188 0) n (lovValue_14.st.mk' ((h3, (h4, (h5, ()))), ((h6, (h7, (h8, (h9, (h10, ()))))), ((h11, (h12, (h13, (h14, (h15, ()))))), ())))) (decX lovValue_14.xs)
theorem slvValue_14 (n : Nat) (h3 : Int) (h4 : List Int) (h5 : Int) (h6 : List Int) (h7 : Int) (h8 : Int) (h9 : Int) (h10 : List (Fd)) (h11 : Int) (h12 : Int) (h13 : Bool) (h14 : List Int) (h15 : List (Nd)) : itvValue_14 (n + 1) h3 h4 h5 h6 h7 h8 h9 h10 h11 h12 h13 h14 h15 = stepvValue_14 h3 h4 h5 h6 h7 h8 h9 h10 h11 h12 h13 h14 h15 (itvValue_14 n) some := by kernel_rfl
theorem loopvValue {f0 : Fd} {fs : List Fd} {ks : List Nd} {v : Int} (hl : ks.length ≤ maxLen) (ha : spArr f0 = true) (hf : 2 * spWts ks + 1 ≤ spFuel) (hb : 8 * spWts ks ≤ 4294967296) (nm : List Int) (k' lo hi a b : Int) (z : Bool) (x : List Int) : ∀ (k j : Nat) (o : List Int), ks.length < j + k → j ≤ ks.length → o.length + 8 * spWts (ks.drop j) ≤ 4294967296 →
    itvValue_14 k v o j nm k' lo hi (f0 :: fs) a b z x ks = if (spVItems f0 v (ks.drop j)).2 = 0 then some (.pan (.ret ((), ((o ++ (spVItems f0 v (ks.drop j)).1, ()), ())))) else some (.ret ((), (([], ((spVItems f0 v (ks.drop j)).2, ())), ()))) := by
  intro k
  induction k with
  | zero => intro j o h1 h2; omega
  | succ k ih =>
    intro j o h1 h2 h3
    rw [slvValue_14]
    unfold stepvValue_14
    by_cases hj : j < ks.length
    · refine (bif_true (decide_eq_true (show (j : Int) < (ks.length : Int) by omega)) _ _).trans ?_
      refine (bif_true (by simp) _ _).trans ?_
      refine (bif_true (by simp; omega) _ _).trans ?_
      have hmem := spWt_mem (List.getElem_mem hj)
      have hd : ks.drop j = ks[j] :: ks.drop (j + 1) := List.drop_eq_getElem_cons hj
      have hvl := spVal_len f0 v ks[j]
      have ih' := ih (j + 1) (o ++ (spVal f0 v ks[j]).1) (by omega) (by omega)
      rw [hd, spWts_cons] at h3
      rw [hd, spVItems]
      rw [wrap_succ hj hl]
      simp only [Int.toNat_natCast, getD_lt hj]
      generalize ks[j] = u at hmem hvl ih' h3 ⊢
      obtain ⟨ul, uk⟩ := u
      obtain ⟨fl, fk⟩ := f0
      refine (bif_true (show (decide (2 * spWt (Tre.mk ul uk) + 1 ≤ spFuel) && (spArr (Tre.mk fl fk) && decide (8 * spWt (Tre.mk ul uk) ≤ 4294967296))) = true by rw [ha]; simp; omega) _ _).trans ?_
      by_cases he : (spVal (Tre.mk fl fk) v (Tre.mk ul uk)).2 = 0
      · refine (bif_false (show ((spVal (Tre.mk fl fk) v (Tre.mk ul uk)).2 != 0) = false by rw [he]; rfl) _ _).trans ?_
        refine (bif_true (decide_eq_true (show o.length + (spVal (Tre.mk fl fk) v (Tre.mk ul uk)).1.length ≤ 4294967296 by omega)) _ _).trans ?_
        refine (ih' (by rw [List.length_append]; omega)).trans ?_
        by_cases h2 : (spVItems (Tre.mk fl fk) v (ks.drop (j + 1))).2 = 0
        · simp [he, h2]
        · simp [he, h2]
      · refine (bif_true (show ((spVal (Tre.mk fl fk) v (Tre.mk ul uk)).2 != 0) = true by simpa using he) _ _).trans ?_
        simp [he]
    · refine (bif_false (decide_eq_false (show ¬ (j : Int) < (ks.length : Int) by omega)) _ _).trans ?_
      rw [List.drop_of_length_le (by omega), spVItems, if_pos rfl, List.append_nil]
def bodyvValue (a0 : Fd) (a1 : Int) (a2 : Nd) : Option iovValue.Res := bif !spShN a0.1.snd.fst (Tre.mk a2.1 a2.2) then some (Out.ret (([], 101, ()), ())) else bif decide (a0.1.snd.fst ≤ 4) then bif decide (1 ≤ spWid a0.1.snd.fst) then bif !spFits a2.1.snd.fst (spWid a0.1.snd.fst) then some (Out.ret (([], 102, ()), ())) else bif decide (0 ≤ spWid a0.1.snd.fst) && decide (spWid a0.1.snd.fst ≤ 8) then some (Out.ret ((spBE a2.1.snd.fst (spWid a0.1.snd.fst).toNat, 0, ()), ())) else none else none else bif a0.1.snd.fst == 9 then bif decide (16 < (↑a2.2.length : Int)) then some (Out.ret (([], 9, ()), ())) else (FvValue_14 ((a1, (spBE (↑a2.2.length : Int) (Int.toNat 4), (0, ()))), ((a0.1.fst, (a0.1.snd.fst, (a0.1.snd.snd.fst, (a0.1.snd.snd.snd.fst, (a0.2, ()))))), ((a2.1.fst, (a2.1.snd.fst, (a2.1.snd.snd.fst, (a2.1.snd.snd.snd.fst, (a2.2, ()))))), ())))).run fun y => match y with | .ret ((), ((x32, x33, ()), ())) => (some (Out.ret ((x32, x33, ()), ()))) | .pan (.ret ((), ((x34, ()), ()))) => (some (Out.ret ((x34, 0, ()), ()))) else bif a0.1.snd.fst == 10 then bif decide (2 * spWt (Tre.mk a2.1 a2.2) ≤ spFuel) && (spArrs a0.2 && (decide (8 * spWt (Tre.mk a2.1 a2.2) ≤ 4294967296) && decide (a0.2.length ≤ 4294967296))) then some (Out.ret (((spVParts a0.2 a1 (Tre.mk a2.1 a2.2)).fst, (spVParts a0.2 a1 (Tre.mk a2.1 a2.2)).snd, ()), ())) else none else bif a2.1.snd.snd.fst then bif decide (0 < (↑(List.length a2.1.snd.snd.snd.fst) : Int)) then some (Out.ret (([], 70, ()), ())) else bif a2.1.snd.snd.fst then bif decide (0 ≤ spWid a0.1.snd.fst) && decide (spWid a0.1.snd.fst ≤ 8) then some (Out.ret ((spBE (-1) (spWid a0.1.snd.fst).toNat, 0, ()), ())) else none else bif decide (a0.1.snd.fst ≤ 6) then bif !(spUtf a2.1.snd.snd.snd.fst).snd then some (Out.ret (([], 6, ()), ())) else bif decide (255 < (↑(List.length a2.1.snd.snd.snd.fst) : Int)) then some (Out.ret (([], 4, ()), ())) else bif decide (0 ≤ spWid a0.1.snd.fst) && decide (spWid a0.1.snd.fst ≤ 8) then bif decide ((spBE (↑(List.length a2.1.snd.snd.snd.fst) : Int) (spWid a0.1.snd.fst).toNat).length + List.length a2.1.snd.snd.snd.fst ≤ 4294967296) then some (Out.ret ((spBE (↑(List.length a2.1.snd.snd.snd.fst) : Int) (spWid a0.1.snd.fst).toNat ++ a2.1.snd.snd.snd.fst, 0, ()), ())) else none else none else bif decide (0 ≤ spWid a0.1.snd.fst) && decide (spWid a0.1.snd.fst ≤ 8) then bif decide ((spBE (↑(List.length a2.1.snd.snd.snd.fst) : Int) (spWid a0.1.snd.fst).toNat).length + List.length a2.1.snd.snd.snd.fst ≤ 4294967296) then some (Out.ret ((spBE (↑(List.length a2.1.snd.snd.snd.fst) : Int) (spWid a0.1.snd.fst).toNat ++ a2.1.snd.snd.snd.fst, 0, ()), ())) else none else none else bif a2.1.snd.snd.fst then bif decide (0 ≤ spWid a0.1.snd.fst) && decide (spWid a0.1.snd.fst ≤ 8) then some (Out.ret ((spBE (-1) (spWid a0.1.snd.fst).toNat, 0, ()), ())) else none else bif decide (a0.1.snd.fst ≤ 6) then bif !(spUtf a2.1.snd.snd.snd.fst).snd then some (Out.ret (([], 6, ()), ())) else bif decide (255 < (↑(List.length a2.1.snd.snd.snd.fst) : Int)) then some (Out.ret (([], 4, ()), ())) else bif decide (0 ≤ spWid a0.1.snd.fst) && decide (spWid a0.1.snd.fst ≤ 8) then bif decide ((spBE (↑(List.length a2.1.snd.snd.snd.fst) : Int) (spWid a0.1.snd.fst).toNat).length + List.length a2.1.snd.snd.snd.fst ≤ 4294967296) then some (Out.ret ((spBE (↑(List.length a2.1.snd.snd.snd.fst) : Int) (spWid a0.1.snd.fst).toNat ++ a2.1.snd.snd.snd.fst, 0, ()), ())) else none else none else bif decide (0 ≤ spWid a0.1.snd.fst) && decide (spWid a0.1.snd.fst ≤ 8) then bif decide ((spBE (↑(List.length a2.1.snd.snd.snd.fst) : Int) (spWid a0.1.snd.fst).toNat).length + List.length a2.1.snd.snd.snd.fst ≤ 4294967296) then some (Out.ret ((spBE (↑(List.length a2.1.snd.snd.snd.fst) : Int) (spWid a0.1.snd.fst).toNat ++ a2.1.snd.snd.snd.fst, 0, ()), ())) else none else none
theorem runvValue (a0 : Fd) (a1 : Int) (a2 : Nd) : Io.run tt hdvValue dr lpvValue iovValue Go.Proofs.Tryz.f188 ((a0, a1, a2, ()), ()) = bodyvValue a0 a1 a2 := by kernel_rfl
theorem okvValueS (rvValue : HcOk prog 188 (ioHd iovValue (FvValueN spFuel))) (rvParts : HcOk prog 174 (ioHd iovParts (FvPartsN spFuel))) : HcOk prog 188 (ioHd iovValue (FvValueN (spFuel + 1))) := by
  refine fn_sound (n := 400) hm (cs := csvValue) (.cons oktShape (.cons oktWidth (.cons oknFits (.cons oknDigits (.cons rvValue (.cons rvParts (.cons okrUtf (.cons okCat .nil)))))))) (lp := lpvValue) (fn := Go.Proofs.Tryz.f188) (by kernel_rfl) (by kernel_rfl) (by kernel_rfl) iovValue (.step (h0 := loHd lovValue_14 FvValue_14) (by kernel_rfl) (loop_sound (n := 400) hm (cs := csvValue) (.cons oktShape (.cons oktWidth (.cons oknFits (.cons oknDigits (.cons rvValue (.cons rvParts (.cons okrUtf (.cons okCat .nil)))))))) (lp := lpvValue) (fn := Go.Proofs.Tryz.f188) (.done (by kernel_rfl)) lovValue_14 FvValue_14 ?_) (.done (by kernel_rfl))) (FvValueN (spFuel + 1)) ?_
  · rintro ⟨⟨(v : Int), (o : List Int), (i : Int), ⟨⟩⟩, ⟨⟨(nm : List Int), (k' : Int), (lo : Int), (hi : Int), (fs : List Fd), ⟨⟩⟩, ⟨(a : Int), (b : Int), (z : Bool), (x : List Int), (ks : List Nd), ⟨⟩⟩, ⟨⟩⟩⟩ y hw hy
    obtain ⟨hg, hy⟩ := Tr.guard hy
    simp only [Bool.and_eq_true, decide_eq_true_eq] at hg
    obtain ⟨h1, h2, ⟨h3, h4⟩, h5, h6⟩ := hg
    have h1 : i = 0 := h1
    have h2 : o.length = 4 := h2
    have h3 : fs.length ≠ 0 := h3
    have h4 : spArrs fs = true := h4
    have h5 : 2 * spWts ks + 1 ≤ spFuel := h5
    have h6 : 8 + 8 * spWts ks ≤ 4294967296 := h6
    subst h1
    obtain ⟨f0, fs, rfl⟩ : ∃ f0 fs', fs = f0 :: fs' := by cases fs with | nil => exact absurd rfl h3 | cons a b => exact ⟨a, b, rfl⟩
    refine ⟨ks.length + 1, (loopvValue (by have := hw.2.2.1.2.2.2.2.1.1; exact this) (spArrs_mem h4 (by simp)) h5 (by omega) nm k' lo hi a b z x (ks.length + 1) 0 o (by omega) (by omega) (by rw [List.drop_zero]; omega)).trans ?_⟩
    rw [← hy, List.drop_zero]
    by_cases h : (spVItems f0 v ks).2 = 0
    · rw [if_pos h]; exact (bif_true (decide_eq_true h) _ _).symm
    · rw [if_neg h]; exact (bif_false (decide_eq_false h) _ _).symm
  · rintro ⟨⟨(f : Fd), (v : Int), (n : Nd), ⟨⟩⟩, ⟨⟩⟩ out hw ho
    obtain ⟨hg, ho⟩ := Tr.guard ho
    simp only [Bool.and_eq_true, decide_eq_true_eq] at hg
    obtain ⟨hk, ha, hb⟩ := hg
    have hk : 2 * spWt n + 1 ≤ spFuel + 1 := hk
    have ha : spArr f = true := ha
    have hb : 8 * spWt n ≤ 4294967296 := hb
    cases ho
    refine (runvValue f v n).trans ?_
    unfold bodyvValue
    show _ = some (Out.ret (((spVal f v n).1, ((spVal f v n).2, ())), ()))
    obtain ⟨⟨nm, k', lo, hi, ⟨⟩⟩, fs⟩ := f
    obtain ⟨⟨a, b, z, x, ⟨⟩⟩, ks⟩ := n
    have hw8 := spWid_le k'
    have hwf := spWt_eq (Tre.mk (a, (b, (z, (x, ())))) ks)
    have hwf : spWt (Tre.mk (a, (b, (z, (x, ())))) ks) = 1 + x.length + spWts ks := hwf
    have hk : 2 * (1 + x.length + spWts ks) + 1 ≤ spFuel + 1 := by rw [← hwf]; exact hk
    have hb : 8 * (1 + x.length + spWts ks) ≤ 4294967296 := by rw [← hwf]; exact hb
    rw [spArr_eq] at ha
    simp only [Bool.and_eq_true] at ha
    obtain ⟨⟨ha1, ha3⟩, ha2⟩ := ha
    have ha2 : spArrs fs = true := ha2
    have ha3 : fs.length ≤ 16 := of_decide_eq_true ha3
    rw [spVal]
    simp only
    have cW : (decide (0 ≤ spWid k') && decide (spWid k' ≤ 8)) = true := by simp; omega
    have tail : (bif decide (0 ≤ spWid k') && decide (spWid k' ≤ 8) then bif decide ((spBE ((x.length : Nat) : Int) (spWid k').toNat).length + x.length ≤ 4294967296) then (some (Out.ret ((spBE ((x.length : Nat) : Int) (spWid k').toNat ++ x, ((0 : Int), ())), ())) : Option iovValue.Res) else none else none) = some (Out.ret ((spBE ((x.length : Nat) : Int) (spWid k').toNat ++ x, ((0 : Int), ())), ())) := by
      refine (bif_true cW _ _).trans ?_
      exact bif_true (decide_eq_true (by rw [spBE_len]; omega)) _ _
    by_cases h1 : spShN k' (Tre.mk (a, (b, (z, (x, ())))) ks) = false
    · rw [if_pos h1]
      exact bif_true (by rw [show spShN k' (Tre.mk (a, (b, (z, (x, ())))) ks) = false from h1]; rfl) _ _
    rw [if_neg h1]
    refine (bif_false (by simpa using h1) _ _).trans ?_
    by_cases h2 : k' ≤ 4
    · rw [if_pos h2]
      refine (bif_true (by simpa using h2) _ _).trans ?_
      refine (bif_true (decide_eq_true (show 1 ≤ spWid k' by omega)) _ _).trans ?_
      by_cases h3 : spFits b (spWid k') = true
      · rw [if_pos h3]
        refine (bif_false (show (!spFits b (spWid k')) = false by rw [h3]; rfl) _ _).trans ?_
        exact bif_true cW _ _
      · rw [if_neg h3]
        exact bif_true (show (!spFits b (spWid k')) = true by simpa using h3) _ _
    rw [if_neg h2]
    refine (bif_false (by simpa using h2) _ _).trans ?_
    by_cases h3 : k' = 9
    · rw [if_pos h3]
      refine (bif_true (by simpa using h3) _ _).trans ?_
      by_cases h4 : 16 < ks.length
      · rw [if_pos h4]
        exact bif_true (decide_eq_true (show (16 : Int) < (ks.length : Int) by omega)) _ _
      · rw [if_neg h4]
        refine (bif_false (decide_eq_false (show ¬ (16 : Int) < (ks.length : Int) by omega)) _ _).trans ?_
        have h0 : fs.length ≠ 0 := by
          rcases Bool.or_eq_true _ _ ▸ ha1 with h | h
          · exact absurd h3 (of_decide_eq_true h)
          · exact of_decide_eq_true h
        have c1 : (decide ((0 : Int) = 0) && (decide ((spBE ((ks.length : Nat) : Int) (Int.toNat 4)).length = 4) && ((decide (fs.length ≠ 0) && spArrs fs) && (decide (2 * spWts ks + 1 ≤ spFuel) && decide (8 + 8 * spWts ks ≤ 4294967296))))) = true := by
          have h0' : fs ≠ [] := fun e => h0 (by rw [e]; rfl)
          rw [ha2, spBE_len]; simp [h0']; omega
        obtain ⟨f0, fs, rfl⟩ : ∃ f0 fs', fs = f0 :: fs' := by cases fs with | nil => exact absurd rfl h0 | cons a b => exact ⟨a, b, rfl⟩
        refine (bif_true c1 _ _).trans ?_
        show (Tr.ite (decide ((spVItems f0 v ks).2 = 0)) _ _).run _ = some (Out.ret (((if (spVItems f0 v ks).2 ≠ 0 then _ else _ : List Int × Int).1, ((if (spVItems f0 v ks).2 ≠ 0 then _ else _ : List Int × Int).2, ())), ()))
        by_cases h5 : (spVItems f0 v ks).2 = 0
        · rw [if_neg (by simpa using h5)]
          exact bif_true (decide_eq_true h5) _ _
        · rw [if_pos h5]
          exact bif_false (decide_eq_false h5) _ _
    rw [if_neg h3]
    refine (bif_false (by simpa using h3) _ _).trans ?_
    by_cases h4 : k' = 10
    · rw [if_pos h4]
      refine (bif_true (by simpa using h4) _ _).trans ?_
      exact bif_true (show (decide (2 * spWt (Tre.mk (a, (b, (z, (x, ())))) ks) ≤ spFuel) && (spArrs fs && (decide (8 * spWt (Tre.mk (a, (b, (z, (x, ())))) ks) ≤ 4294967296) && decide (fs.length ≤ 4294967296)))) = true by rw [ha2, hwf]; simp; omega) _ _
    rw [if_neg h4]
    refine (bif_false (by simpa using h4) _ _).trans ?_
    have rest : (bif decide (k' ≤ 6) then bif !(spUtf x).2 then (some (Out.ret (([], ((6 : Int), ())), ())) : Option iovValue.Res) else bif decide ((255 : Int) < ((x.length : Nat) : Int)) then some (Out.ret (([], ((4 : Int), ())), ())) else bif decide (0 ≤ spWid k') && decide (spWid k' ≤ 8) then bif decide ((spBE ((x.length : Nat) : Int) (spWid k').toNat).length + x.length ≤ 4294967296) then (some (Out.ret ((spBE ((x.length : Nat) : Int) (spWid k').toNat ++ x, ((0 : Int), ())), ())) : Option iovValue.Res) else none else none
        else bif decide (0 ≤ spWid k') && decide (spWid k' ≤ 8) then bif decide ((spBE ((x.length : Nat) : Int) (spWid k').toNat).length + x.length ≤ 4294967296) then (some (Out.ret ((spBE ((x.length : Nat) : Int) (spWid k').toNat ++ x, ((0 : Int), ())), ())) : Option iovValue.Res) else none else none) =
        some (Out.ret (((if k' ≤ 6 ∧ (spUtf x).2 = false then ([], 6) else if k' ≤ 6 ∧ 255 < x.length then ([], 4) else (spBE ((x.length : Nat) : Int) (spWid k').toNat ++ x, 0) : List Int × Int).1, ((if k' ≤ 6 ∧ (spUtf x).2 = false then ([], 6) else if k' ≤ 6 ∧ 255 < x.length then ([], 4) else (spBE ((x.length : Nat) : Int) (spWid k').toNat ++ x, 0) : List Int × Int).2, ())), ())) := by
      rw [tail]
      by_cases h6 : k' ≤ 6
      · refine (bif_true (decide_eq_true h6) _ _).trans ?_
        by_cases h7 : (spUtf x).2 = false
        · rw [if_pos ⟨h6, h7⟩]
          exact bif_true (by rw [h7]; rfl) _ _
        · rw [if_neg (fun h => h7 h.2)]
          refine (bif_false (by simpa using h7) _ _).trans ?_
          by_cases h8 : 255 < x.length
          · rw [if_pos ⟨h6, h8⟩]
            exact bif_true (decide_eq_true (by omega)) _ _
          · rw [if_neg (fun h => h8 h.2)]
            exact bif_false (decide_eq_false (by omega)) _ _
      · rw [if_neg (fun h => h6 h.1), if_neg (fun h => h6 h.1)]
        exact bif_false (decide_eq_false h6) _ _
    by_cases h5 : z = true
    · subst h5
      rw [if_pos rfl]
      refine (bif_true rfl _ _).trans ?_
      by_cases h6 : x.length = 0
      · rw [if_pos h6]
        refine (bif_false (decide_eq_false (show ¬ (0 : Int) < ((x.length : Nat) : Int) by omega)) _ _).trans ?_
        refine (bif_true rfl _ _).trans ?_
        exact bif_true cW _ _
      · rw [if_neg h6]
        exact bif_true (decide_eq_true (show (0 : Int) < ((x.length : Nat) : Int) by omega)) _ _
    · have h5 : z = false := by simpa using h5
      subst h5
      rw [if_neg (by decide)]
      refine (bif_false rfl _ _).trans ?_
      refine (bif_false rfl _ _).trans ?_
      exact rest
end
section
variable [Inhabited FuT]
abbrev csvParts : List (Nat × Hc) := [(187, ioHd iotHere FtHere), (188, ioHd iovValue (FvValueN spFuel)), (189, ioHd ioCat FCat)]
def hdvParts : Hd := hdT csvParts
abbrev lovParts_7 : Lo := ⟨⟨[.any, .one (.hol (.int IntKind.i64)), .any, .any, .any, .one (.ptr 5 0), .any, .any, .one (.onl 213 tFld 17), .one (.onl 5 (Ty.int IntKind.u8) 19), .one (.hol (.int IntKind.i64)), .any, .any, .any, .any, .any, .any, .any, .any, .any, .any, .any, .any, .any, .any, .any, .any, .any, .any, .any, .any, .any, .any, .any, .any, .any, .any, .any, .any, .any, .any, .any, .any, .any, .any, .any, .any, .any, .any, .any], [none, none, none, none, none, some [.hol (.int IntKind.i64), .hol (.int IntKind.i64), .hol .bool, .hol (.sl 5 (Ty.int IntKind.u8)), .hol (.sl 98 (((Ty.int IntKind.i64).prod ((Ty.int IntKind.i64).prod (Ty.bool.prod ((Ty.sl 5 (Ty.int IntKind.u8)).prod Ty.unit)))).tree 98))]]⟩, [(.ret, ⟨[.any, .any, .any, .any, .any, .any, .one (.onl 5 (Ty.int IntKind.u8) 13), .one (.hol (.int IntKind.i64)), .any, .any, .any, .any, .any, .any, .any, .any, .any, .any, .any, .any, .any, .any, .any, .any, .any, .any, .any, .any, .any, .any, .any, .any, .any, .any, .any, .any, .any, .any, .any, .any, .any, .any, .any, .any, .any, .any, .any, .any, .any, .any], []⟩), (.exit 0, ⟨[.any, .any, .any, .any, .any, .any, .any, .any, .any, .one (.onl 5 (Ty.int IntKind.u8) 19), .any, .any, .any, .any, .any, .any, .any, .any, .any, .any, .any, .any, .any, .any, .any, .any, .any, .any, .any, .any, .any, .any, .any, .any, .any, .any, .any, .any, .any, .any, .any, .any, .any, .any, .any, .any, .any, .any, .any, .any], []⟩)]⟩
-- FvParts_7 : lovParts_7.st.den → Tr (DenX lovParts_7.xs) | ((h3, (h4, (h5, (h6, ())))), ((h7, (h8, (h9, (h10, (h11, ()))))), ()))
def FvParts_7 (d : lovParts_7.st.den) : Tr (DenX lovParts_7.xs) :=
  .ite (decide (d.1.2.2.2.1 = 0) && (decide (d.1.2.2.1.length = 0) && ((decide (d.1.2.1.length = d.2.1.2.2.2.2.1.length) && spArrs d.1.2.1) && (decide (2 * spWts d.2.1.2.2.2.2.1 + 1 ≤ spFuel) && decide (8 + 8 * spWts d.2.1.2.2.2.2.1 ≤ 4294967296)))))
    (.ite (decide ((spVZip d.1.1 d.1.2.1 d.2.1.2.2.2.2.1).2 = 0))
      (.ret (.pan (.ret ((), (((spVZip d.1.1 d.1.2.1 d.2.1.2.2.2.2.1).1, ()), ())))))
      (.ret (.ret ((), (([], ((spVZip d.1.1 d.1.2.1 d.2.1.2.2.2.2.1).2, ())), ()))))) .no
def lpvParts : Lp := lpT [(7, loHd lovParts_7 FvParts_7)]
def stepvParts_7 {R : Type} (h3 : Int) (h4 : List tFld.den) (h5 : List Int) (h6 : Int) (h7 : Int) (h8 : Int) (h9 : Bool) (h10 : List Int) (h11 : List (Nd)) (next : Int → List tFld.den → List Int → Int → Int → Int → Bool → List Int → List (Nd) → Option R) (out : DenX lovParts_7.xs → Option R) : Option R := bif decide (h6 < (↑h4.length : Int)) then bif decide (0 ≤ h6) && decide (h6 < (↑h4.length : Int)) then bif decide (0 ≤ h6) && decide (h6 < (↑h11.length : Int)) then bif decide (2 * spWt (Tre.mk (h11.getD h6.toNat (Tre.mk (0, 0, false, [], ()) [])).1 (h11.getD h6.toNat (Tre.mk (0, 0, false, [], ()) [])).2) + 1 ≤ spFuel) && (spArr (Tre.mk (h4.getD h6.toNat (Tre.mk ([], 0, 0, 0, ()) [])).1 (h4.getD h6.toNat (Tre.mk ([], 0, 0, 0, ()) [])).2) && decide (8 * spWt (Tre.mk (h11.getD h6.toNat (Tre.mk (0, 0, false, [], ()) [])).1 (h11.getD h6.toNat (Tre.mk (0, 0, false, [], ()) [])).2) ≤ 4294967296)) then bif (spVal (Tre.mk (h4.getD h6.toNat (Tre.mk ([], 0, 0, 0, ()) [])).1 (h4.getD h6.toNat (Tre.mk ([], 0, 0, 0, ()) [])).2) h3 (Tre.mk (h11.getD h6.toNat (Tre.mk (0, 0, false, [], ()) [])).1 (h11.getD h6.toNat (Tre.mk (0, 0, false, [], ()) [])).2)).snd != 0 then out (.ret ((), (([], ((spVal (Tre.mk (h4.getD h6.toNat (Tre.mk ([], 0, 0, 0, ()) [])).1 (h4.getD h6.toNat (Tre.mk ([], 0, 0, 0, ()) [])).2) h3 (Tre.mk (h11.getD h6.toNat (Tre.mk (0, 0, false, [], ()) [])).1 (h11.getD h6.toNat (Tre.mk (0, 0, false, [], ()) [])).2)).snd, ())), ()))) else bif decide (h5.length + (spVal (Tre.mk (h4.getD h6.toNat (Tre.mk ([], 0, 0, 0, ()) [])).1 (h4.getD h6.toNat (Tre.mk ([], 0, 0, 0, ()) [])).2) h3 (Tre.mk (h11.getD h6.toNat (Tre.mk (0, 0, false, [], ()) [])).1 (h11.getD h6.toNat (Tre.mk (0, 0, false, [], ()) [])).2)).fst.length ≤ 4294967296) then next (h3) (h4) (h5 ++ (spVal (Tre.mk (h4.getD h6.toNat (Tre.mk ([], 0, 0, 0, ()) [])).1 (h4.getD h6.toNat (Tre.mk ([], 0, 0, 0, ()) [])).2) h3 (Tre.mk (h11.getD h6.toNat (Tre.mk (0, 0, false, [], ()) [])).1 (h11.getD h6.toNat (Tre.mk (0, 0, false, [], ()) [])).2)).fst) (IntKind.i64.wrap (h6 + 1)) (h7) (h8) (h9) (h10) (h11) else none else none else none else none else out (.pan (.ret ((), ((h5, ()), ()))))
def itvParts_7 (n : Nat) (h3 : Int) (h4 : List tFld.den) (h5 : List Int) (h6 : Int) (h7 : Int) (h8 : Int) (h9 : Bool) (h10 : List Int) (h11 : List (Nd)) : Option (DenX lovParts_7.xs) := lpN tt hdvParts dr lpvParts 0 Go.Proofs.Tryz.f174 (topL Go.Proofs.Tryz.f174 0) n (lovParts_7.st.mk' ((h3, (h4, (h5, (h6, ())))), ((h7, (h8, (h9, (h10, (h11, ()))))), ()))) (decX lovParts_7.xs)
theorem slvParts_7 (n : Nat) (h3 : Int) (h4 : List tFld.den) (h5 : List Int) (h6 : Int) (h7 : Int) (h8 : Int) (h9 : Bool) (h10 : List Int) (h11 : List (Nd)) : itvParts_7 (n + 1) h3 h4 h5 h6 h7 h8 h9 h10 h11 = stepvParts_7 h3 h4 h5 h6 h7 h8 h9 h10 h11 (itvParts_7 n) some := by kernel_rfl
theorem loopvParts {fs : List Fd} {ks : List Nd} {v : Int} (hl : ks.length ≤ maxLen) (hfk : fs.length = ks.length) (ha : spArrs fs = true) (hf : 2 * spWts ks + 1 ≤ spFuel) (hb : 8 * spWts ks ≤ 4294967296) (a b : Int) (z : Bool) (x : List Int) : ∀ (k j : Nat) (o : List Int), ks.length < j + k → j ≤ ks.length → o.length + 8 * spWts (ks.drop j) ≤ 4294967296 →
    itvParts_7 k v fs o j a b z x ks = if (spVZip v (fs.drop j) (ks.drop j)).2 = 0 then some (.pan (.ret ((), ((o ++ (spVZip v (fs.drop j) (ks.drop j)).1, ()), ())))) else some (.ret ((), (([], ((spVZip v (fs.drop j) (ks.drop j)).2, ())), ()))) := by
  intro k
  induction k with
  | zero => intro j o h1 h2; omega
  | succ k ih =>
    intro j o h1 h2 h3
    rw [slvParts_7]
    unfold stepvParts_7
    by_cases hj : j < ks.length
    · have hj' : j < fs.length := by omega
      refine (bif_true (decide_eq_true (show (j : Int) < (fs.length : Int) by omega)) _ _).trans ?_
      refine (bif_true (by simp; omega) _ _).trans ?_
      refine (bif_true (by simp; omega) _ _).trans ?_
      have hmem := spWt_mem (List.getElem_mem hj)
      have har := spArrs_mem ha (List.getElem_mem hj')
      have hd : ks.drop j = ks[j] :: ks.drop (j + 1) := List.drop_eq_getElem_cons hj
      have hd' : fs.drop j = fs[j] :: fs.drop (j + 1) := List.drop_eq_getElem_cons hj'
      have hvl := spVal_len fs[j] v ks[j]
      have ih' := ih (j + 1) (o ++ (spVal fs[j] v ks[j]).1) (by omega) (by omega)
      rw [hd, spWts_cons] at h3
      rw [hd, hd', spVZip]
      rw [wrap_succ hj hl]
      simp only [Int.toNat_natCast, getD_lt hj, getD_lt hj']
      generalize ks[j] = u at hmem hvl ih' h3 ⊢
      generalize fs[j] = f0 at har hvl ih' ⊢
      obtain ⟨ul, uk⟩ := u
      obtain ⟨fl, fk⟩ := f0
      refine (bif_true (show (decide (2 * spWt (Tre.mk ul uk) + 1 ≤ spFuel) && (spArr (Tre.mk fl fk) && decide (8 * spWt (Tre.mk ul uk) ≤ 4294967296))) = true by rw [har]; simp; omega) _ _).trans ?_
      by_cases he : (spVal (Tre.mk fl fk) v (Tre.mk ul uk)).2 = 0
      · refine (bif_false (show ((spVal (Tre.mk fl fk) v (Tre.mk ul uk)).2 != 0) = false by rw [he]; rfl) _ _).trans ?_
        refine (bif_true (decide_eq_true (show o.length + (spVal (Tre.mk fl fk) v (Tre.mk ul uk)).1.length ≤ 4294967296 by omega)) _ _).trans ?_
        refine (ih' (by rw [List.length_append]; omega)).trans ?_
        by_cases h2 : (spVZip v (fs.drop (j + 1)) (ks.drop (j + 1))).2 = 0
        · simp [he, h2]
        · simp [he, h2]
      · refine (bif_true (show ((spVal (Tre.mk fl fk) v (Tre.mk ul uk)).2 != 0) = true by simpa using he) _ _).trans ?_
        simp [he]
    · refine (bif_false (decide_eq_false (show ¬ (j : Int) < (fs.length : Int) by omega)) _ _).trans ?_
      rw [List.drop_of_length_le (by omega), List.drop_of_length_le (by omega), spVZip, if_pos rfl, List.append_nil]
      simp
def bodyvParts (a0 : List tFld.den) (a1 : Int) (a2 : Nd) : Option iovParts.Res := bif decide (a0.length ≤ 4294967296) then bif (↑a2.2.length : Int) != (↑(spHere a0 a1).length : Int) then some (Out.ret (([], 101, ()), ())) else (FvParts_7 ((a1, (spHere a0 a1, ([], (0, ())))), ((a2.1.fst, (a2.1.snd.fst, (a2.1.snd.snd.fst, (a2.1.snd.snd.snd.fst, (a2.2, ()))))), ()))).run fun y => match y with | .ret ((), ((x24, x25, ()), ())) => (some (Out.ret ((x24, x25, ()), ()))) | .pan (.ret ((), ((x26, ()), ()))) => (some (Out.ret ((x26, 0, ()), ()))) else none
theorem runvParts (a0 : List tFld.den) (a1 : Int) (a2 : Nd) : Io.run tt hdvParts dr lpvParts iovParts Go.Proofs.Tryz.f174 ((a0, a1, a2, ()), ()) = bodyvParts a0 a1 a2 := by kernel_rfl
theorem okvPartsS (rvValue : HcOk prog 188 (ioHd iovValue (FvValueN spFuel))) : HcOk prog 174 (ioHd iovParts (FvPartsN (spFuel + 1))) := by
  refine fn_sound (n := 400) hm (cs := csvParts) (.cons oktHere (.cons rvValue (.cons okCat .nil))) (lp := lpvParts) (fn := Go.Proofs.Tryz.f174) (by kernel_rfl) (by kernel_rfl) (by kernel_rfl) iovParts (.step (h0 := loHd lovParts_7 FvParts_7) (by kernel_rfl) (loop_sound (n := 400) hm (cs := csvParts) (.cons oktHere (.cons rvValue (.cons okCat .nil))) (lp := lpvParts) (fn := Go.Proofs.Tryz.f174) (.done (by kernel_rfl)) lovParts_7 FvParts_7 ?_) (.done (by kernel_rfl))) (FvPartsN (spFuel + 1)) ?_
  · rintro ⟨⟨(v : Int), (fs : List Fd), (o : List Int), (i : Int), ⟨⟩⟩, ⟨⟨(a : Int), (b : Int), (z : Bool), (x : List Int), (ks : List Nd), ⟨⟩⟩, ⟨⟩⟩⟩ y hw hy
    obtain ⟨hg, hy⟩ := Tr.guard hy
    simp only [Bool.and_eq_true, decide_eq_true_eq] at hg
    obtain ⟨h1, h2, ⟨h3, h4⟩, h5, h6⟩ := hg
    have h1 : i = 0 := h1
    have h2 : o = [] := List.eq_nil_of_length_eq_zero h2
    have h3 : fs.length = ks.length := h3
    have h4 : spArrs fs = true := h4
    have h5 : 2 * spWts ks + 1 ≤ spFuel := h5
    have h6 : 8 + 8 * spWts ks ≤ 4294967296 := h6
    subst h1
    subst h2
    refine ⟨ks.length + 1, (loopvParts (by have := hw.2.1.2.2.2.2.1.1; exact this) h3 h4 h5 (by omega) a b z x (ks.length + 1) 0 [] (by omega) (by omega) (by rw [List.drop_zero]; simp; omega)).trans ?_⟩
    rw [← hy, List.drop_zero, List.drop_zero]
    by_cases h : (spVZip v fs ks).2 = 0
    · rw [if_pos h]; exact (bif_true (decide_eq_true h) _ _).symm
    · rw [if_neg h]; exact (bif_false (decide_eq_false h) _ _).symm
  · rintro ⟨⟨(fs : List Fd), (v : Int), (n : Nd), ⟨⟩⟩, ⟨⟩⟩ out hw ho
    obtain ⟨hg, ho⟩ := Tr.guard ho
    simp only [Bool.and_eq_true, decide_eq_true_eq] at hg
    obtain ⟨hk, ha, hb, hl⟩ := hg
    have hk : 2 * spWt n ≤ spFuel + 1 := hk
    have ha : spArrs fs = true := ha
    have hb : 8 * spWt n ≤ 4294967296 := hb
    have hl : fs.length ≤ 4294967296 := hl
    cases ho
    refine (runvParts fs v n).trans ?_
    unfold bodyvParts
    show _ = some (Out.ret (((spVParts fs v n).1, ((spVParts fs v n).2, ())), ()))
    obtain ⟨⟨a, b, z, x, ⟨⟩⟩, ks⟩ := n
    have hwf := spWt_eq (Tre.mk (a, (b, (z, (x, ())))) ks)
    have hwf : spWt (Tre.mk (a, (b, (z, (x, ())))) ks) = 1 + x.length + spWts ks := hwf
    have hk : 2 * (1 + x.length + spWts ks) ≤ spFuel + 1 := by rw [← hwf]; exact hk
    have hb : 8 * (1 + x.length + spWts ks) ≤ 4294967296 := by rw [← hwf]; exact hb
    rw [spVParts]
    refine (bif_true (decide_eq_true hl) _ _).trans ?_
    by_cases h1 : ks.length = (spHere fs v).length
    · rw [if_neg (by simpa using h1)]
      refine (bif_false (by simp [h1]) _ _).trans ?_
      have c1 : (decide ((0 : Int) = 0) && (decide (([] : List Int).length = 0) && ((decide ((spHere fs v).length = ks.length) && spArrs (spHere fs v)) && (decide (2 * spWts ks + 1 ≤ spFuel) && decide (8 + 8 * spWts ks ≤ 4294967296))))) = true := by
        rw [spArrs_here ha]; simp; omega
      refine (bif_true c1 _ _).trans ?_
      by_cases h5 : (spVZip v (spHere fs v) ks).2 = 0
      · refine (bif_true (decide_eq_true h5) _ _).trans ?_
        rw [h5]; rfl
      · refine (bif_false (decide_eq_false h5) _ _).trans ?_
        rw [spVZip_nil h5]; rfl
    · rw [if_pos h1]
      exact bif_true (bne_iff_ne.2 (fun e => h1 (Int.ofNat.inj e))) _ _
end
theorem okvBoth (n : Nat) : HcOk prog 188 (ioHd iovValue (FvValueN n)) ∧ HcOk prog 174 (ioHd iovParts (FvPartsN n)) := by
  induction n with
  | zero => 
    refine ⟨HcOk.none (fn := Go.Proofs.Tryz.f188) (by kernel_rfl) (by kernel_rfl) (by kernel_rfl) _ _ fun d out h => ?_, HcOk.none (fn := Go.Proofs.Tryz.f174) (by kernel_rfl) (by kernel_rfl) (by kernel_rfl) _ _ fun d out h => ?_⟩
    · cases h
    · obtain ⟨hg, h⟩ := Tr.guard h
      simp only [Bool.and_eq_true, decide_eq_true_eq] at hg
      have := spWt_pos d.1.2.2.1
      omega
  | succ n ih =>
    have h1 := @okvValueS ⟨⟨n⟩⟩ (by rw [FuT.val]; exact ih.1) (by rw [FuT.val]; exact ih.2)
    have h2 := @okvPartsS ⟨⟨n⟩⟩ (by rw [FuT.val]; exact ih.1)
    rw [FuT.val] at h1 h2
    exact ⟨h1, h2⟩
theorem okvParts : HcOk prog 174 (ioHd iovParts FvParts) := by
  refine HcOk.lim (fun n => (okvBoth n).2) fun d => ⟨2 * spWt d.1.2.2.1, fun out h => ?_⟩
  obtain ⟨hg, h⟩ := Tr.guard h
  exact (bif_true (by rw [hg]; simp) _ _).trans h
end
end Go.Proofs.YtjpeefegeobgfaaGreat.Sym
