/- leatref10: the tables, EncodeWhole. -/
import Derived.Test.YtjpeefegeobgfaaGreatQ5

namespace Go.Proofs.YtjpeefegeobgfaaGreat.Sym
open Go
set_option linter.unusedSimpArgs false
set_option linter.unusedVariables false
noncomputable section
abbrev iotbOne : Io := ⟨[dS, dI, dI, dI], [], [], [dFld], none⟩
def FtbOne (d : iotbOne.In) : Tr iotbOne.Res := .ret (.ret ((.mk (d.1.1, (d.1.2.1, (d.1.2.2.1, (d.1.2.2.2.1, ())))) [], ()), ()))
abbrev cstbOne : List (Nat × Hc) := []
def hdtbOne : Hd := hdT cstbOne
def lptbOne : Lp := lpT []
def bodytbOne (a0 : List Int) (a1 : Int) (a2 : Int) (a3 : Int) : Option iotbOne.Res := some (Out.ret ((Tre.mk (a0, a1, a2, a3, ()) [], ()), ()))
theorem runtbOne (a0 : List Int) (a1 : Int) (a2 : Int) (a3 : Int) : Io.run tt hdtbOne dr lptbOne iotbOne Go.Proofs.Tryz.f168 ((a0, a1, a2, a3, ()), ()) = bodytbOne a0 a1 a2 a3 := by kernel_rfl
theorem oktbOne : HcOk prog 168 (ioHd iotbOne FtbOne) := by
  refine fn_sound (n := 400) hm (cs := cstbOne) HcsOk.nil (lp := lptbOne) (fn := Go.Proofs.Tryz.f168) (by kernel_rfl) (by kernel_rfl) (by kernel_rfl) iotbOne (.done (by kernel_rfl)) FtbOne ?_
  rintro ⟨⟨(a : List Int), (b : Int), (c : Int), (e : Int), ⟨⟩⟩, ⟨⟩⟩ out hw ho
  cases ho
  exact runtbOne a b c e
abbrev iotbTopics : Io := ⟨[dFlds], [], [], [dFld], none⟩
abbrev fld (s : List Int) (k lo hi : Int) (e : List Fd) : Fd := Tre.mk (s, (k, (lo, (hi, ())))) e
def spTopics (part : List Fd) : Fd := fld [116, 111, 112, 105, 99, 115] 9 0 3 [fld [116, 111, 112, 105, 99] 10 0 3 [fld [110, 97, 109, 101] 5 0 3 [], fld [112, 97, 114, 116, 115] 9 0 3 [fld [112, 97, 114, 116] 10 0 3 part]]]
def FtbTopics (d : iotbTopics.In) : Tr iotbTopics.Res := .ret (.ret ((spTopics d.1.1, ()), ()))
abbrev cstbTopics : List (Nat × Hc) := [(168, ioHd iotbOne FtbOne)]
def hdtbTopics : Hd := hdT cstbTopics
def lptbTopics : Lp := lpT []
def bodytbTopics (a0 : List tFld.den) : Option iotbTopics.Res := some (Out.ret ((Tre.mk ([116, 111, 112, 105, 99, 115], 9, 0, 3, ()) [Tre.mk ([116, 111, 112, 105, 99], 10, 0, 3, ()) [Tre.mk ([110, 97, 109, 101], 5, 0, 3, ()) [], Tre.mk ([112, 97, 114, 116, 115], 9, 0, 3, ()) [Tre.mk ([112, 97, 114, 116], 10, 0, 3, ()) a0]]], ()), ()))
theorem runtbTopics (a0 : List tFld.den) : Io.run tt hdtbTopics dr lptbTopics iotbTopics Go.Proofs.Tryz.f169 ((a0, ()), ()) = bodytbTopics a0 := by kernel_rfl
theorem oktbTopics : HcOk prog 169 (ioHd iotbTopics FtbTopics) := by
  refine fn_sound (n := 400) hm (cs := cstbTopics) (.cons oktbOne .nil) (lp := lptbTopics) (fn := Go.Proofs.Tryz.f169) (by kernel_rfl) (by kernel_rfl) (by kernel_rfl) iotbTopics (.done (by kernel_rfl)) FtbTopics ?_
  rintro ⟨⟨(a : List Fd), ⟨⟩⟩, ⟨⟩⟩ out hw ho
  cases ho
  exact runtbTopics a
abbrev iotbTable : Io := ⟨[d16, dB], [], [], [dFlds, dI], none⟩
def spT0q : List Fd := [fld [116, 120, 110] 6 3 3 [], fld [97, 99, 107, 115] 2 0 3 [], fld [119, 97, 105, 116] 3 0 3 [], spTopics [fld [105, 110, 100, 101, 120] 3 0 3 [], fld [114, 101, 99, 115] 8 0 3 []]]
def spT0p : List Fd := [spTopics [fld [105, 110, 100, 101, 120] 3 0 3 [], fld [99, 111, 100, 101] 2 0 3 [], fld [98, 97, 115, 101] 4 0 3 [], fld [116, 105, 109, 101] 4 2 3 [], fld [115, 116, 97, 114, 116] 4 3 3 []], fld [116, 104, 114, 111, 116, 116, 108, 101] 3 1 3 []]
def spT1q : List Fd := [fld [114, 101, 112, 108, 105, 99, 97] 3 0 3 [], fld [119, 97, 105, 116] 3 0 3 [], fld [109, 105, 110] 3 0 3 [], fld [109, 97, 120] 3 1 3 [], fld [108, 101, 118, 101, 108] 1 2 3 [], spTopics [fld [105, 110, 100, 101, 120] 3 0 3 [], fld [101, 112, 111, 99, 104] 3 3 3 [], fld [111, 102, 102, 115, 101, 116] 4 0 3 [], fld [109, 97, 120] 3 0 3 []]]
def spT1p : List Fd := [fld [116, 104, 114, 111, 116, 116, 108, 101] 3 1 3 [], spTopics [fld [105, 110, 100, 101, 120] 3 0 3 [], fld [99, 111, 100, 101] 2 0 3 [], fld [104, 105, 103, 104] 4 0 3 [], fld [115, 116, 97, 98, 108, 101] 4 2 3 [], fld [115, 116, 97, 114, 116] 4 3 3 [], fld [114, 101, 99, 115] 8 0 3 []]]
def spT2q : List Fd := [fld [114, 101, 112, 108, 105, 99, 97] 3 0 3 [], fld [108, 101, 118, 101, 108] 1 2 3 [], spTopics [fld [105, 110, 100, 101, 120] 3 0 3 [], fld [101, 112, 111, 99, 104] 3 3 3 [], fld [116, 105, 109, 101] 4 0 3 [], fld [109, 111, 115, 116] 3 0 0 []]]
def spT2p : List Fd := [fld [116, 104, 114, 111, 116, 116, 108, 101] 3 2 3 [], spTopics [fld [105, 110, 100, 101, 120] 3 0 3 [], fld [99, 111, 100, 101] 2 0 3 [], fld [111, 102, 102, 115, 101, 116, 115] 9 0 0 [fld [111, 102, 102, 115, 101, 116] 4 0 0 []], fld [116, 105, 109, 101] 4 1 3 [], fld [111, 102, 102, 115, 101, 116] 4 1 3 [], fld [101, 112, 111, 99, 104] 3 3 3 []]]
def spTab (k : Int) (r : Bool) : List Fd × Int :=
  if k = 0 then (if r = false then (spT0q, 0) else (spT0p, 0)) else if k = 1 then (if r = false then (spT1q, 0) else (spT1p, 0)) else if k = 2 then (if r = false then (spT2q, 0) else (spT2p, 0)) else ([], 160)
def FtbTable (d : iotbTable.In) : Tr iotbTable.Res := .ret (.ret (((spTab d.1.1 d.1.2.1).1, ((spTab d.1.1 d.1.2.1).2, ())), ()))
abbrev cstbTable : List (Nat × Hc) := [(168, ioHd iotbOne FtbOne), (169, ioHd iotbTopics FtbTopics)]
def hdtbTable : Hd := hdT cstbTable
def lptbTable : Lp := lpT []
def bodytbTable (a0 : Int) (a1 : Bool) : Option iotbTable.Res := bif a0 == 0 then bif !a1 then some (Out.ret (([Tre.mk ([116, 120, 110], 6, 3, 3, ()) [], Tre.mk ([97, 99, 107, 115], 2, 0, 3, ()) [], Tre.mk ([119, 97, 105, 116], 3, 0, 3, ()) [], Tre.mk ([116, 111, 112, 105, 99, 115], 9, 0, 3, ()) [Tre.mk ([116, 111, 112, 105, 99], 10, 0, 3, ()) [Tre.mk ([110, 97, 109, 101], 5, 0, 3, ()) [], Tre.mk ([112, 97, 114, 116, 115], 9, 0, 3, ()) [Tre.mk ([112, 97, 114, 116], 10, 0, 3, ()) [Tre.mk ([105, 110, 100, 101, 120], 3, 0, 3, ()) [], Tre.mk ([114, 101, 99, 115], 8, 0, 3, ()) []]]]]], 0, ()), ())) else bif a0 == 0 then some (Out.ret (([Tre.mk ([116, 111, 112, 105, 99, 115], 9, 0, 3, ()) [Tre.mk ([116, 111, 112, 105, 99], 10, 0, 3, ()) [Tre.mk ([110, 97, 109, 101], 5, 0, 3, ()) [], Tre.mk ([112, 97, 114, 116, 115], 9, 0, 3, ()) [Tre.mk ([112, 97, 114, 116], 10, 0, 3, ()) [Tre.mk ([105, 110, 100, 101, 120], 3, 0, 3, ()) [], Tre.mk ([99, 111, 100, 101], 2, 0, 3, ()) [], Tre.mk ([98, 97, 115, 101], 4, 0, 3, ()) [], Tre.mk ([116, 105, 109, 101], 4, 2, 3, ()) [], Tre.mk ([115, 116, 97, 114, 116], 4, 3, 3, ()) []]]]], Tre.mk ([116, 104, 114, 111, 116, 116, 108, 101], 3, 1, 3, ()) []], 0, ()), ())) else bif a0 == 1 then bif !a1 then some (Out.ret (([Tre.mk ([114, 101, 112, 108, 105, 99, 97], 3, 0, 3, ()) [], Tre.mk ([119, 97, 105, 116], 3, 0, 3, ()) [], Tre.mk ([109, 105, 110], 3, 0, 3, ()) [], Tre.mk ([109, 97, 120], 3, 1, 3, ()) [], Tre.mk ([108, 101, 118, 101, 108], 1, 2, 3, ()) [], Tre.mk ([116, 111, 112, 105, 99, 115], 9, 0, 3, ()) [Tre.mk ([116, 111, 112, 105, 99], 10, 0, 3, ()) [Tre.mk ([110, 97, 109, 101], 5, 0, 3, ()) [], Tre.mk ([112, 97, 114, 116, 115], 9, 0, 3, ()) [Tre.mk ([112, 97, 114, 116], 10, 0, 3, ()) [Tre.mk ([105, 110, 100, 101, 120], 3, 0, 3, ()) [], Tre.mk ([101, 112, 111, 99, 104], 3, 3, 3, ()) [], Tre.mk ([111, 102, 102, 115, 101, 116], 4, 0, 3, ()) [], Tre.mk ([109, 97, 120], 3, 0, 3, ()) []]]]]], 0, ()), ())) else bif a0 == 1 then some (Out.ret (([Tre.mk ([116, 104, 114, 111, 116, 116, 108, 101], 3, 1, 3, ()) [], Tre.mk ([116, 111, 112, 105, 99, 115], 9, 0, 3, ()) [Tre.mk ([116, 111, 112, 105, 99], 10, 0, 3, ()) [Tre.mk ([110, 97, 109, 101], 5, 0, 3, ()) [], Tre.mk ([112, 97, 114, 116, 115], 9, 0, 3, ()) [Tre.mk ([112, 97, 114, 116], 10, 0, 3, ()) [Tre.mk ([105, 110, 100, 101, 120], 3, 0, 3, ()) [], Tre.mk ([99, 111, 100, 101], 2, 0, 3, ()) [], Tre.mk ([104, 105, 103, 104], 4, 0, 3, ()) [], Tre.mk ([115, 116, 97, 98, 108, 101], 4, 2, 3, ()) [], Tre.mk ([115, 116, 97, 114, 116], 4, 3, 3, ()) [], Tre.mk ([114, 101, 99, 115], 8, 0, 3, ()) []]]]]], 0, ()), ())) else bif a0 == 2 then bif !a1 then some (Out.ret (([Tre.mk ([114, 101, 112, 108, 105, 99, 97], 3, 0, 3, ()) [], Tre.mk ([108, 101, 118, 101, 108], 1, 2, 3, ()) [], Tre.mk ([116, 111, 112, 105, 99, 115], 9, 0, 3, ()) [Tre.mk ([116, 111, 112, 105, 99], 10, 0, 3, ()) [Tre.mk ([110, 97, 109, 101], 5, 0, 3, ()) [], Tre.mk ([112, 97, 114, 116, 115], 9, 0, 3, ()) [Tre.mk ([112, 97, 114, 116], 10, 0, 3, ()) [Tre.mk ([105, 110, 100, 101, 120], 3, 0, 3, ()) [], Tre.mk ([101, 112, 111, 99, 104], 3, 3, 3, ()) [], Tre.mk ([116, 105, 109, 101], 4, 0, 3, ()) [], Tre.mk ([109, 111, 115, 116], 3, 0, 0, ()) []]]]]], 0, ()), ())) else bif a0 == 2 then some (Out.ret (([Tre.mk ([116, 104, 114, 111, 116, 116, 108, 101], 3, 2, 3, ()) [], Tre.mk ([116, 111, 112, 105, 99, 115], 9, 0, 3, ()) [Tre.mk ([116, 111, 112, 105, 99], 10, 0, 3, ()) [Tre.mk ([110, 97, 109, 101], 5, 0, 3, ()) [], Tre.mk ([112, 97, 114, 116, 115], 9, 0, 3, ()) [Tre.mk ([112, 97, 114, 116], 10, 0, 3, ()) [Tre.mk ([105, 110, 100, 101, 120], 3, 0, 3, ()) [], Tre.mk ([99, 111, 100, 101], 2, 0, 3, ()) [], Tre.mk ([111, 102, 102, 115, 101, 116, 115], 9, 0, 0, ()) [Tre.mk ([111, 102, 102, 115, 101, 116], 4, 0, 0, ()) []], Tre.mk ([116, 105, 109, 101], 4, 1, 3, ()) [], Tre.mk ([111, 102, 102, 115, 101, 116], 4, 1, 3, ()) [], Tre.mk ([101, 112, 111, 99, 104], 3, 3, 3, ()) []]]]]], 0, ()), ())) else some (Out.ret (([], 160, ()), ())) else bif a0 == 2 then some (Out.ret (([Tre.mk ([116, 104, 114, 111, 116, 116, 108, 101], 3, 2, 3, ()) [], Tre.mk ([116, 111, 112, 105, 99, 115], 9, 0, 3, ()) [Tre.mk ([116, 111, 112, 105, 99], 10, 0, 3, ()) [Tre.mk ([110, 97, 109, 101], 5, 0, 3, ()) [], Tre.mk ([112, 97, 114, 116, 115], 9, 0, 3, ()) [Tre.mk ([112, 97, 114, 116], 10, 0, 3, ()) [Tre.mk ([105, 110, 100, 101, 120], 3, 0, 3, ()) [], Tre.mk ([99, 111, 100, 101], 2, 0, 3, ()) [], Tre.mk ([111, 102, 102, 115, 101, 116, 115], 9, 0, 0, ()) [Tre.mk ([111, 102, 102, 115, 101, 116], 4, 0, 0, ()) []], Tre.mk ([116, 105, 109, 101], 4, 1, 3, ()) [], Tre.mk ([111, 102, 102, 115, 101, 116], 4, 1, 3, ()) [], Tre.mk ([101, 112, 111, 99, 104], 3, 3, 3, ()) []]]]]], 0, ()), ())) else some (Out.ret (([], 160, ()), ())) else bif a0 == 1 then some (Out.ret (([Tre.mk ([116, 104, 114, 111, 116, 116, 108, 101], 3, 1, 3, ()) [], Tre.mk ([116, 111, 112, 105, 99, 115], 9, 0, 3, ()) [Tre.mk ([116, 111, 112, 105, 99], 10, 0, 3, ()) [Tre.mk ([110, 97, 109, 101], 5, 0, 3, ()) [], Tre.mk ([112, 97, 114, 116, 115], 9, 0, 3, ()) [Tre.mk ([112, 97, 114, 116], 10, 0, 3, ()) [Tre.mk ([105, 110, 100, 101, 120], 3, 0, 3, ()) [], Tre.mk ([99, 111, 100, 101], 2, 0, 3, ()) [], Tre.mk ([104, 105, 103, 104], 4, 0, 3, ()) [], Tre.mk ([115, 116, 97, 98, 108, 101], 4, 2, 3, ()) [], Tre.mk ([115, 116, 97, 114, 116], 4, 3, 3, ()) [], Tre.mk ([114, 101, 99, 115], 8, 0, 3, ()) []]]]]], 0, ()), ())) else bif a0 == 2 then bif !a1 then some (Out.ret (([Tre.mk ([114, 101, 112, 108, 105, 99, 97], 3, 0, 3, ()) [], Tre.mk ([108, 101, 118, 101, 108], 1, 2, 3, ()) [], Tre.mk ([116, 111, 112, 105, 99, 115], 9, 0, 3, ()) [Tre.mk ([116, 111, 112, 105, 99], 10, 0, 3, ()) [Tre.mk ([110, 97, 109, 101], 5, 0, 3, ()) [], Tre.mk ([112, 97, 114, 116, 115], 9, 0, 3, ()) [Tre.mk ([112, 97, 114, 116], 10, 0, 3, ()) [Tre.mk ([105, 110, 100, 101, 120], 3, 0, 3, ()) [], Tre.mk ([101, 112, 111, 99, 104], 3, 3, 3, ()) [], Tre.mk ([116, 105, 109, 101], 4, 0, 3, ()) [], Tre.mk ([109, 111, 115, 116], 3, 0, 0, ()) []]]]]], 0, ()), ())) else bif a0 == 2 then some (Out.ret (([Tre.mk ([116, 104, 114, 111, 116, 116, 108, 101], 3, 2, 3, ()) [], Tre.mk ([116, 111, 112, 105, 99, 115], 9, 0, 3, ()) [Tre.mk ([116, 111, 112, 105, 99], 10, 0, 3, ()) [Tre.mk ([110, 97, 109, 101], 5, 0, 3, ()) [], Tre.mk ([112, 97, 114, 116, 115], 9, 0, 3, ()) [Tre.mk ([112, 97, 114, 116], 10, 0, 3, ()) [Tre.mk ([105, 110, 100, 101, 120], 3, 0, 3, ()) [], Tre.mk ([99, 111, 100, 101], 2, 0, 3, ()) [], Tre.mk ([111, 102, 102, 115, 101, 116, 115], 9, 0, 0, ()) [Tre.mk ([111, 102, 102, 115, 101, 116], 4, 0, 0, ()) []], Tre.mk ([116, 105, 109, 101], 4, 1, 3, ()) [], Tre.mk ([111, 102, 102, 115, 101, 116], 4, 1, 3, ()) [], Tre.mk ([101, 112, 111, 99, 104], 3, 3, 3, ()) []]]]]], 0, ()), ())) else some (Out.ret (([], 160, ()), ())) else bif a0 == 2 then some (Out.ret (([Tre.mk ([116, 104, 114, 111, 116, 116, 108, 101], 3, 2, 3, ()) [], Tre.mk ([116, 111, 112, 105, 99, 115], 9, 0, 3, ()) [Tre.mk ([116, 111, 112, 105, 99], 10, 0, 3, ()) [Tre.mk ([110, 97, 109, 101], 5, 0, 3, ()) [], Tre.mk ([112, 97, 114, 116, 115], 9, 0, 3, ()) [Tre.mk ([112, 97, 114, 116], 10, 0, 3, ()) [Tre.mk ([105, 110, 100, 101, 120], 3, 0, 3, ()) [], Tre.mk ([99, 111, 100, 101], 2, 0, 3, ()) [], Tre.mk ([111, 102, 102, 115, 101, 116, 115], 9, 0, 0, ()) [Tre.mk ([111, 102, 102, 115, 101, 116], 4, 0, 0, ()) []], Tre.mk ([116, 105, 109, 101], 4, 1, 3, ()) [], Tre.mk ([111, 102, 102, 115, 101, 116], 4, 1, 3, ()) [], Tre.mk ([101, 112, 111, 99, 104], 3, 3, 3, ()) []]]]]], 0, ()), ())) else some (Out.ret (([], 160, ()), ())) else bif a0 == 0 then some (Out.ret (([Tre.mk ([116, 111, 112, 105, 99, 115], 9, 0, 3, ()) [Tre.mk ([116, 111, 112, 105, 99], 10, 0, 3, ()) [Tre.mk ([110, 97, 109, 101], 5, 0, 3, ()) [], Tre.mk ([112, 97, 114, 116, 115], 9, 0, 3, ()) [Tre.mk ([112, 97, 114, 116], 10, 0, 3, ()) [Tre.mk ([105, 110, 100, 101, 120], 3, 0, 3, ()) [], Tre.mk ([99, 111, 100, 101], 2, 0, 3, ()) [], Tre.mk ([98, 97, 115, 101], 4, 0, 3, ()) [], Tre.mk ([116, 105, 109, 101], 4, 2, 3, ()) [], Tre.mk ([115, 116, 97, 114, 116], 4, 3, 3, ()) []]]]], Tre.mk ([116, 104, 114, 111, 116, 116, 108, 101], 3, 1, 3, ()) []], 0, ()), ())) else bif a0 == 1 then bif !a1 then some (Out.ret (([Tre.mk ([114, 101, 112, 108, 105, 99, 97], 3, 0, 3, ()) [], Tre.mk ([119, 97, 105, 116], 3, 0, 3, ()) [], Tre.mk ([109, 105, 110], 3, 0, 3, ()) [], Tre.mk ([109, 97, 120], 3, 1, 3, ()) [], Tre.mk ([108, 101, 118, 101, 108], 1, 2, 3, ()) [], Tre.mk ([116, 111, 112, 105, 99, 115], 9, 0, 3, ()) [Tre.mk ([116, 111, 112, 105, 99], 10, 0, 3, ()) [Tre.mk ([110, 97, 109, 101], 5, 0, 3, ()) [], Tre.mk ([112, 97, 114, 116, 115], 9, 0, 3, ()) [Tre.mk ([112, 97, 114, 116], 10, 0, 3, ()) [Tre.mk ([105, 110, 100, 101, 120], 3, 0, 3, ()) [], Tre.mk ([101, 112, 111, 99, 104], 3, 3, 3, ()) [], Tre.mk ([111, 102, 102, 115, 101, 116], 4, 0, 3, ()) [], Tre.mk ([109, 97, 120], 3, 0, 3, ()) []]]]]], 0, ()), ())) else bif a0 == 1 then some (Out.ret (([Tre.mk ([116, 104, 114, 111, 116, 116, 108, 101], 3, 1, 3, ()) [], Tre.mk ([116, 111, 112, 105, 99, 115], 9, 0, 3, ()) [Tre.mk ([116, 111, 112, 105, 99], 10, 0, 3, ()) [Tre.mk ([110, 97, 109, 101], 5, 0, 3, ()) [], Tre.mk ([112, 97, 114, 116, 115], 9, 0, 3, ()) [Tre.mk ([112, 97, 114, 116], 10, 0, 3, ()) [Tre.mk ([105, 110, 100, 101, 120], 3, 0, 3, ()) [], Tre.mk ([99, 111, 100, 101], 2, 0, 3, ()) [], Tre.mk ([104, 105, 103, 104], 4, 0, 3, ()) [], Tre.mk ([115, 116, 97, 98, 108, 101], 4, 2, 3, ()) [], Tre.mk ([115, 116, 97, 114, 116], 4, 3, 3, ()) [], Tre.mk ([114, 101, 99, 115], 8, 0, 3, ()) []]]]]], 0, ()), ())) else bif a0 == 2 then bif !a1 then some (Out.ret (([Tre.mk ([114, 101, 112, 108, 105, 99, 97], 3, 0, 3, ()) [], Tre.mk ([108, 101, 118, 101, 108], 1, 2, 3, ()) [], Tre.mk ([116, 111, 112, 105, 99, 115], 9, 0, 3, ()) [Tre.mk ([116, 111, 112, 105, 99], 10, 0, 3, ()) [Tre.mk ([110, 97, 109, 101], 5, 0, 3, ()) [], Tre.mk ([112, 97, 114, 116, 115], 9, 0, 3, ()) [Tre.mk ([112, 97, 114, 116], 10, 0, 3, ()) [Tre.mk ([105, 110, 100, 101, 120], 3, 0, 3, ()) [], Tre.mk ([101, 112, 111, 99, 104], 3, 3, 3, ()) [], Tre.mk ([116, 105, 109, 101], 4, 0, 3, ()) [], Tre.mk ([109, 111, 115, 116], 3, 0, 0, ()) []]]]]], 0, ()), ())) else bif a0 == 2 then some (Out.ret (([Tre.mk ([116, 104, 114, 111, 116, 116, 108, 101], 3, 2, 3, ()) [], Tre.mk ([116, 111, 112, 105, 99, 115], 9, 0, 3, ()) [Tre.mk ([116, 111, 112, 105, 99], 10, 0, 3, ()) [Tre.mk ([110, 97, 109, 101], 5, 0, 3, ()) [], Tre.mk ([112, 97, 114, 116, 115], 9, 0, 3, ()) [Tre.mk ([112, 97, 114, 116], 10, 0, 3, ()) [Tre.mk ([105, 110, 100, 101, 120], 3, 0, 3, ()) [], Tre.mk ([99, 111, 100, 101], 2, 0, 3, ()) [], Tre.mk ([111, 102, 102, 115, 101, 116, 115], 9, 0, 0, ()) [Tre.mk ([111, 102, 102, 115, 101, 116], 4, 0, 0, ()) []], Tre.mk ([116, 105, 109, 101], 4, 1, 3, ()) [], Tre.mk ([111, 102, 102, 115, 101, 116], 4, 1, 3, ()) [], Tre.mk ([101, 112, 111, 99, 104], 3, 3, 3, ()) []]]]]], 0, ()), ())) else some (Out.ret (([], 160, ()), ())) else bif a0 == 2 then some (Out.ret (([Tre.mk ([116, 104, 114, 111, 116, 116, 108, 101], 3, 2, 3, ()) [], Tre.mk ([116, 111, 112, 105, 99, 115], 9, 0, 3, ()) [Tre.mk ([116, 111, 112, 105, 99], 10, 0, 3, ()) [Tre.mk ([110, 97, 109, 101], 5, 0, 3, ()) [], Tre.mk ([112, 97, 114, 116, 115], 9, 0, 3, ()) [Tre.mk ([112, 97, 114, 116], 10, 0, 3, ()) [Tre.mk ([105, 110, 100, 101, 120], 3, 0, 3, ()) [], Tre.mk ([99, 111, 100, 101], 2, 0, 3, ()) [], Tre.mk ([111, 102, 102, 115, 101, 116, 115], 9, 0, 0, ()) [Tre.mk ([111, 102, 102, 115, 101, 116], 4, 0, 0, ()) []], Tre.mk ([116, 105, 109, 101], 4, 1, 3, ()) [], Tre.mk ([111, 102, 102, 115, 101, 116], 4, 1, 3, ()) [], Tre.mk ([101, 112, 111, 99, 104], 3, 3, 3, ()) []]]]]], 0, ()), ())) else some (Out.ret (([], 160, ()), ())) else bif a0 == 1 then some (Out.ret (([Tre.mk ([116, 104, 114, 111, 116, 116, 108, 101], 3, 1, 3, ()) [], Tre.mk ([116, 111, 112, 105, 99, 115], 9, 0, 3, ()) [Tre.mk ([116, 111, 112, 105, 99], 10, 0, 3, ()) [Tre.mk ([110, 97, 109, 101], 5, 0, 3, ()) [], Tre.mk ([112, 97, 114, 116, 115], 9, 0, 3, ()) [Tre.mk ([112, 97, 114, 116], 10, 0, 3, ()) [Tre.mk ([105, 110, 100, 101, 120], 3, 0, 3, ()) [], Tre.mk ([99, 111, 100, 101], 2, 0, 3, ()) [], Tre.mk ([104, 105, 103, 104], 4, 0, 3, ()) [], Tre.mk ([115, 116, 97, 98, 108, 101], 4, 2, 3, ()) [], Tre.mk ([115, 116, 97, 114, 116], 4, 3, 3, ()) [], Tre.mk ([114, 101, 99, 115], 8, 0, 3, ()) []]]]]], 0, ()), ())) else bif a0 == 2 then bif !a1 then some (Out.ret (([Tre.mk ([114, 101, 112, 108, 105, 99, 97], 3, 0, 3, ()) [], Tre.mk ([108, 101, 118, 101, 108], 1, 2, 3, ()) [], Tre.mk ([116, 111, 112, 105, 99, 115], 9, 0, 3, ()) [Tre.mk ([116, 111, 112, 105, 99], 10, 0, 3, ()) [Tre.mk ([110, 97, 109, 101], 5, 0, 3, ()) [], Tre.mk ([112, 97, 114, 116, 115], 9, 0, 3, ()) [Tre.mk ([112, 97, 114, 116], 10, 0, 3, ()) [Tre.mk ([105, 110, 100, 101, 120], 3, 0, 3, ()) [], Tre.mk ([101, 112, 111, 99, 104], 3, 3, 3, ()) [], Tre.mk ([116, 105, 109, 101], 4, 0, 3, ()) [], Tre.mk ([109, 111, 115, 116], 3, 0, 0, ()) []]]]]], 0, ()), ())) else bif a0 == 2 then some (Out.ret (([Tre.mk ([116, 104, 114, 111, 116, 116, 108, 101], 3, 2, 3, ()) [], Tre.mk ([116, 111, 112, 105, 99, 115], 9, 0, 3, ()) [Tre.mk ([116, 111, 112, 105, 99], 10, 0, 3, ()) [Tre.mk ([110, 97, 109, 101], 5, 0, 3, ()) [], Tre.mk ([112, 97, 114, 116, 115], 9, 0, 3, ()) [Tre.mk ([112, 97, 114, 116], 10, 0, 3, ()) [Tre.mk ([105, 110, 100, 101, 120], 3, 0, 3, ()) [], Tre.mk ([99, 111, 100, 101], 2, 0, 3, ()) [], Tre.mk ([111, 102, 102, 115, 101, 116, 115], 9, 0, 0, ()) [Tre.mk ([111, 102, 102, 115, 101, 116], 4, 0, 0, ()) []], Tre.mk ([116, 105, 109, 101], 4, 1, 3, ()) [], Tre.mk ([111, 102, 102, 115, 101, 116], 4, 1, 3, ()) [], Tre.mk ([101, 112, 111, 99, 104], 3, 3, 3, ()) []]]]]], 0, ()), ())) else some (Out.ret (([], 160, ()), ())) else bif a0 == 2 then some (Out.ret (([Tre.mk ([116, 104, 114, 111, 116, 116, 108, 101], 3, 2, 3, ()) [], Tre.mk ([116, 111, 112, 105, 99, 115], 9, 0, 3, ()) [Tre.mk ([116, 111, 112, 105, 99], 10, 0, 3, ()) [Tre.mk ([110, 97, 109, 101], 5, 0, 3, ()) [], Tre.mk ([112, 97, 114, 116, 115], 9, 0, 3, ()) [Tre.mk ([112, 97, 114, 116], 10, 0, 3, ()) [Tre.mk ([105, 110, 100, 101, 120], 3, 0, 3, ()) [], Tre.mk ([99, 111, 100, 101], 2, 0, 3, ()) [], Tre.mk ([111, 102, 102, 115, 101, 116, 115], 9, 0, 0, ()) [Tre.mk ([111, 102, 102, 115, 101, 116], 4, 0, 0, ()) []], Tre.mk ([116, 105, 109, 101], 4, 1, 3, ()) [], Tre.mk ([111, 102, 102, 115, 101, 116], 4, 1, 3, ()) [], Tre.mk ([101, 112, 111, 99, 104], 3, 3, 3, ()) []]]]]], 0, ()), ())) else some (Out.ret (([], 160, ()), ()))
theorem runtbTable (a0 : Int) (a1 : Bool) : Io.run tt hdtbTable dr lptbTable iotbTable Go.Proofs.Tryz.f134 ((a0, a1, ()), ()) = bodytbTable a0 a1 := by kernel_rfl
theorem oktbTable : HcOk prog 134 (ioHd iotbTable FtbTable) := by
  refine fn_sound (n := 400) hm (cs := cstbTable) (.cons oktbOne (.cons oktbTopics .nil)) (lp := lptbTable) (fn := Go.Proofs.Tryz.f134) (by kernel_rfl) (by kernel_rfl) (by kernel_rfl) iotbTable (.done (by kernel_rfl)) FtbTable ?_
  rintro ⟨⟨(k : Int), (r : Bool), ⟨⟩⟩, ⟨⟩⟩ out hw ho
  cases ho
  refine (runtbTable k r).trans ?_
  unfold bodytbTable
  show _ = some (Out.ret (((spTab k r).1, ((spTab k r).2, ())), ()))
  unfold spTab
  by_cases h0 : k = 0
  · subst h0
    cases r <;> rfl
  by_cases h1 : k = 1
  · subst h1
    cases r <;> rfl
  by_cases h2 : k = 2
  · subst h2
    cases r <;> rfl
  rw [if_neg h0, if_neg h1, if_neg h2]
  simp only [beq_eq_false_iff_ne.2 h0, beq_eq_false_iff_ne.2 h1, beq_eq_false_iff_ne.2 h2]
  cases r <;> rfl
theorem spTab_ok (k : Int) (r : Bool) : (spTab k r).2 = 0 → spArr (Tre.mk (([] : List Int), ((10 : Int), ((0 : Int), ((0 : Int), ())))) (spTab k r).1) = true := by
  unfold spTab
  intro h
  by_cases h0 : k = 0
  · subst h0
    cases r <;> (unfold spArr; rfl)
  by_cases h1 : k = 1
  · subst h1
    cases r <;> (unfold spArr; rfl)
  by_cases h2 : k = 2
  · subst h2
    cases r <;> (unfold spArr; rfl)
  rw [if_neg h0, if_neg h1, if_neg h2] at h
  cases h
theorem spWts_nil : spWts [] = 0 := by unfold spWts; rfl
theorem spCZip_nl (v : Int) (l : List Nd) : spCZip v [] l = ([], true) := by rw [spCZip]; simp
theorem spCZip_nr (v : Int) (fs : List Fd) : spCZip v fs [] = ([], true) := by rw [spCZip]; simp
theorem spCut_wt (v : Int) : ∀ (N : Nat) (f : Fd) (n : Nd), spWt n ≤ N → spWt (spCut f v n).1 ≤ spWt n := by
  intro N
  induction N with
  | zero => intro f n h; have := spWt_pos n; omega
  | succ N ih =>
    rintro f ⟨a, ks⟩ h
    rw [spWt_eq] at h
    rw [spCut]
    have hi : ∀ (f : Fd) (l : List Nd), (∀ k ∈ l, spWt k ≤ N) → spWts (spCItems f v l).1 ≤ spWts l := by
      intro f l
      induction l with
      | nil => intro _; rw [spCItems]; exact Nat.le_refl _
      | cons k l ihl =>
        intro hk
        rw [spCItems, spWts_cons, spWts_cons]
        have := ih f k (hk k (by simp))
        have := ihl fun k' hk' => hk k' (List.mem_cons_of_mem _ hk')
        omega
    have hz : ∀ (l : List Nd) (fs : List Fd), (∀ k ∈ l, spWt k ≤ N) → spWts (spCZip v fs l).1 ≤ spWts l := by
      intro l
      induction l with
      | nil => intro fs _; rw [spCZip_nr]; exact Nat.le_refl _
      | cons k l ihl =>
        intro fs hk
        cases fs with
        | nil => rw [spCZip_nl]; show spWts [] ≤ _; rw [spWts_nil]; exact Nat.zero_le _
        | cons f fs =>
          rw [spCZip, spWts_cons]
          have h1 := ih f k (hk k (by simp))
          have h2 := ihl fs fun k' hk' => hk k' (List.mem_cons_of_mem _ hk')
          split
          · rw [spWts_cons]; omega
          · show spWts (spCZip v fs l).1 ≤ _; omega
    have hks : ∀ k ∈ ks, spWt k ≤ N := fun k hk => by have := spWt_mem hk; simp only at h; omega
    split
    · rw [spWt_eq, spWt_eq]
      have := hi (f.kids.headD f) ks hks
      simp only [List.length_nil]; omega
    split
    · rw [spWt_eq, spWt_eq]
      have := hz ks f.kids hks
      simp only [List.length_nil]; omega
    · exact Nat.le_refl _
abbrev iotbEW : Io := ⟨[d16, dB, dI, dNode], [], [], [dL, dI], none⟩
def spEW (k : Int) (r : Bool) (v : Int) (n : Nd) : List Int × Int := if (spTab k r).2 ≠ 0 then ([], (spTab k r).2) else if v < 0 ∨ 3 < v then ([], 8) else
  if (spCut (Tre.mk (([] : List Int), ((10 : Int), ((0 : Int), ((0 : Int), ())))) (spTab k r).1) v n).2 = false then ([], 7) else spEnc (spTab k r).1 v (spCut (Tre.mk (([] : List Int), ((10 : Int), ((0 : Int), ((0 : Int), ())))) (spTab k r).1) v n).1
def FtbEW (d : iotbEW.In) : Tr iotbEW.Res := .ite (decide (8 * spWt d.1.2.2.2.1 ≤ 4294967296)) (.ret (.ret (((spEW d.1.1 d.1.2.1 d.1.2.2.1 d.1.2.2.2.1).1, ((spEW d.1.1 d.1.2.1 d.1.2.2.1 d.1.2.2.2.1).2, ())), ()))) .no
abbrev cstbEW : List (Nat × Hc) := [(134, ioHd iotbTable FtbTable), (135, ioHd iovCut FvCut), (136, ioHd iovEncode FvEncode)]
def hdtbEW : Hd := hdT cstbEW
def lptbEW : Lp := lpT []
def bodytbEW (a0 : Int) (a1 : Bool) (a2 : Int) (a3 : Nd) : Option iotbEW.Res := bif (spTab a0 a1).snd != 0 then some (Out.ret (([], (spTab a0 a1).snd, ()), ())) else bif decide (a2 < 0) then some (Out.ret (([], 8, ()), ())) else bif decide (3 < a2) then some (Out.ret (([], 8, ()), ())) else bif spArr (Tre.mk ([], 10, 0, 0, ()) (spTab a0 a1).fst) && decide (spWt (Tre.mk a3.1 a3.2) ≤ 4294967296) then bif !(spCut (Tre.mk ([], 10, 0, 0, ()) (spTab a0 a1).fst) a2 (Tre.mk a3.1 a3.2)).snd then some (Out.ret (([], 7, ()), ())) else bif decide (8 * spWt (Tre.mk (spCut (Tre.mk ([], 10, 0, 0, ()) (spTab a0 a1).fst) a2 (Tre.mk a3.1 a3.2)).fst.1 (spCut (Tre.mk ([], 10, 0, 0, ()) (spTab a0 a1).fst) a2 (Tre.mk a3.1 a3.2)).fst.2) ≤ 4294967296) then some (Out.ret (((spEnc (spTab a0 a1).fst a2 (Tre.mk (spCut (Tre.mk ([], 10, 0, 0, ()) (spTab a0 a1).fst) a2 (Tre.mk a3.1 a3.2)).fst.1 (spCut (Tre.mk ([], 10, 0, 0, ()) (spTab a0 a1).fst) a2 (Tre.mk a3.1 a3.2)).fst.2)).fst, (spEnc (spTab a0 a1).fst a2 (Tre.mk (spCut (Tre.mk ([], 10, 0, 0, ()) (spTab a0 a1).fst) a2 (Tre.mk a3.1 a3.2)).fst.1 (spCut (Tre.mk ([], 10, 0, 0, ()) (spTab a0 a1).fst) a2 (Tre.mk a3.1 a3.2)).fst.2)).snd, ()), ())) else none else none
theorem runtbEW (a0 : Int) (a1 : Bool) (a2 : Int) (a3 : Nd) : Io.run tt hdtbEW dr lptbEW iotbEW Go.Proofs.Tryz.f53 ((a0, a1, a2, a3, ()), ()) = bodytbEW a0 a1 a2 a3 := by kernel_rfl
theorem oktbEW : HcOk prog 53 (ioHd iotbEW FtbEW) := by
  refine fn_sound (n := 400) hm (cs := cstbEW) (.cons oktbTable (.cons okvCut (.cons okvEncode .nil))) (lp := lptbEW) (fn := Go.Proofs.Tryz.f53) (by kernel_rfl) (by kernel_rfl) (by kernel_rfl) iotbEW (.done (by kernel_rfl)) FtbEW ?_
  rintro ⟨⟨(k : Int), (r : Bool), (v : Int), (n : Nd), ⟨⟩⟩, ⟨⟩⟩ out hw ho
  obtain ⟨hg, ho⟩ := Tr.guard ho
  have hb : 8 * spWt n ≤ 4294967296 := of_decide_eq_true hg
  cases ho
  refine (runtbEW k r v n).trans ?_
  unfold bodytbEW
  show _ = some (Out.ret (((spEW k r v n).1, ((spEW k r v n).2, ())), ()))
  unfold spEW
  have hok := spTab_ok k r
  generalize spTab k r = t at hok ⊢
  obtain ⟨tb, te⟩ := t
  have hok : te = 0 → spArr (Tre.mk (([] : List Int), ((10 : Int), ((0 : Int), ((0 : Int), ())))) tb) = true := hok
  by_cases h1 : te = 0
  · rw [if_neg (by simpa using h1)]
    refine (bif_false (by simpa using h1) _ _).trans ?_
    by_cases h2 : v < 0
    · rw [if_pos (.inl h2)]
      exact bif_true (decide_eq_true h2) _ _
    refine (bif_false (decide_eq_false h2) _ _).trans ?_
    by_cases h3 : 3 < v
    · rw [if_pos (.inr h3)]
      exact bif_true (decide_eq_true h3) _ _
    refine (bif_false (decide_eq_false h3) _ _).trans ?_
    rw [if_neg (by omega)]
    obtain ⟨nl, nk⟩ := n
    refine (bif_true (show (spArr (Tre.mk (([] : List Int), ((10 : Int), ((0 : Int), ((0 : Int), ())))) tb) && decide (spWt (Tre.mk nl nk) ≤ 4294967296)) = true by rw [hok h1]; simp; omega) _ _).trans ?_
    have hcw := spCut_wt v _ (Tre.mk (([] : List Int), ((10 : Int), ((0 : Int), ((0 : Int), ())))) tb) (Tre.mk nl nk) (Nat.le_refl _)
    show (bif !(spCut (Tre.mk (([] : List Int), ((10 : Int), ((0 : Int), ((0 : Int), ())))) tb) v (Tre.mk nl nk)).2 then _ else _) = _
    by_cases h4 : (spCut (Tre.mk (([] : List Int), ((10 : Int), ((0 : Int), ((0 : Int), ())))) tb) v (Tre.mk nl nk)).2 = false
    · rw [if_pos h4]
      exact bif_true (by rw [h4]; rfl) _ _
    · rw [if_neg h4]
      refine (bif_false (by simpa using h4) _ _).trans ?_
      generalize (spCut (Tre.mk (([] : List Int), ((10 : Int), ((0 : Int), ((0 : Int), ())))) tb) v (Tre.mk nl nk)).1 = c at hcw ⊢
      obtain ⟨cl, ck⟩ := c
      exact bif_true (decide_eq_true (show 8 * spWt (Tre.mk cl ck) ≤ 4294967296 by omega)) _ _
  · rw [if_pos h1]
    exact bif_true (by simpa using h1) _ _
end
end Go.Proofs.YtjpeefegeobgfaaGreat.Sym
namespace Go.Proofs.YtjpeefegeobgfaaGreat.Sym
open Go
set_option linter.unusedSimpArgs false
set_option linter.unusedVariables false
noncomputable section
abbrev ndNum (k n : Int) : Nd := .mk (k, (n, (false, (([] : List Int), ())))) []
abbrev ndText (s : List Int) : Nd := .mk (5, (0, (false, (s, ())))) []
abbrev ndRow (l : List Nd) : Nd := .mk (10, (0, (false, (([] : List Int), ())))) l
abbrev ndRows (l : List Nd) : Nd := .mk (9, (0, (false, (([] : List Int), ())))) l
theorem i64_i32 {n : Int} (h : inR .i32 n) : IntKind.i64.wrap n = n := by
  simp only [inR, IntKind.min, IntKind.max, IntKind.signed, IntKind.bits] at h
  simp at h
  exact wrap_i64 (by omega) (by omega)
theorem i64_i16 {n : Int} (h : inR .i16 n) : IntKind.i64.wrap n = n := by
  simp only [inR, IntKind.min, IntKind.max, IntKind.signed, IntKind.bits] at h
  simp at h
  exact wrap_i64 (by omega) (by omega)
theorem spWts_kids (n : Nd) : spWts n.kids ≤ spWt n := by rw [spWt_eq]; omega
theorem spAt_wt (n : Nd) (i : Int) : spWt (spAt n i) ≤ spWt n := by
  unfold spAt
  split
  · rename_i h
    have hlt : i.toNat < n.kids.length := by omega
    rw [getD_lt hlt]
    have := spWt_mem (List.getElem_mem hlt)
    have := spWts_kids n
    omega
  · have := spWt_pos n
    have h0 := spWts_nil
    rw [spWt_eq (Tre.mk _ _)]
    show 1 + 0 + spWts [] ≤ spWt n
    omega
-- FzFullReq_8 : lozFullReq_8.st.den → Tr (DenX lozFullReq_8.xs) | ((h17, (h18, (h19, (h20, ())))), ((h21, (h22, (h23, (h24, (h25, ()))))), ((h26, (h27, (h28, (h29, (h30, ()))))), ())))
-- FzFullReq_4 : lozFullReq_4.st.den → Tr (DenX lozFullReq_4.xs) | ((h5, (h6, ())), ((h7, (h8, (h9, (h10, (h11, ()))))), ((h12, (h13, (h14, (h15, (h16, ()))))), ())))
-- FzReqOf_10 : lozReqOf_10.st.den → Tr (DenX lozReqOf_10.xs) | ((h13, (h14, (h15, (h16, ())))), ((h17, (h18, (h19, (h20, (h21, ()))))), ((h22, (h23, (h24, (h25, (h26, ()))))), ((h27, (h28, ())), ()))))
-- FzReqOf_5 : lozReqOf_5.st.den → Tr (DenX lozReqOf_5.xs) | ((h1, (h2, ())), ((h3, (h4, (h5, (h6, (h7, ()))))), ((h8, (h9, (h10, (h11, (h12, ()))))), ())))
-- FzFullRep_8 : lozFullRep_8.st.den → Tr (DenX lozFullRep_8.xs) | ((h11, (h12, (h13, (h14, ())))), ((h15, (h16, ())), ((h17, (h18, (h19, (h20, (h21, ()))))), ())))
-- FzFullRep_4 : lozFullRep_4.st.den → Tr (DenX lozFullRep_4.xs) | ((h2, (h3, ())), ((h4, (h5, ())), ((h6, (h7, (h8, (h9, (h10, ()))))), ())))
-- FzRepOf_10 : lozRepOf_10.st.den → Tr (DenX lozRepOf_10.xs) | ((h7, (h8, (h9, (h10, ())))), ((h11, (h12, ())), ((h13, (h14, ())), ((h15, (h16, ())), ()))))
-- FzRepOf_5 : lozRepOf_5.st.den → Tr (DenX lozRepOf_5.xs) | ((h1, (h2, ())), ((h3, (h4, ())), ((h5, (h6, ())), ())))
end
end Go.Proofs.YtjpeefegeobgfaaGreat.Sym
namespace Go.Proofs.YtjpeefegeobgfaaGreat.Sym
open Go
set_option linter.unusedSimpArgs false
set_option linter.unusedVariables false
noncomputable section
theorem i32_id {n : Int} (h : inR .i32 n) : IntKind.i32.wrap n = n := by
  simp only [inR, IntKind.min, IntKind.max, IntKind.signed, IntKind.bits] at h
  exact wrap_id (by simp [inR, IntKind.min, IntKind.max, IntKind.signed, IntKind.bits]; simpa using h)
theorem i16_id {n : Int} (h : inR .i16 n) : IntKind.i16.wrap n = n := by
  simp only [inR, IntKind.min, IntKind.max, IntKind.signed, IntKind.bits] at h
  exact wrap_id (by simp [inR, IntKind.min, IntKind.max, IntKind.signed, IntKind.bits]; simpa using h)
theorem map_id_of {α : Type} {f : α → α} {l : List α} (h : ∀ x ∈ l, f x = x) : l.map f = l := by
  conv => rhs; rw [← List.map_id l]
  exact List.map_congr_left h
open Classical in
def spEqT {α : Type} (a b : α) : Bool := if a = b then true else false
theorem spEqT_iff {α : Type} {a b : α} : spEqT a b = true ↔ a = b := by unfold spEqT; split <;> simp_all
end
end Go.Proofs.YtjpeefegeobgfaaGreat.Sym
namespace Go.Proofs.YtjpeefegeobgfaaGreat.Sym
open Go
set_option linter.unusedSimpArgs false
set_option linter.unusedVariables false
noncomputable section
def spSeq (a b : List Int × Int) : List Int × Int := if a.2 ≠ 0 then ([], a.2) else if b.2 ≠ 0 then ([], b.2) else (a.1 ++ b.1, 0)
mutual
def spW (f : Fd) (v : Int) : Nd → List Int × Int
  | .mk a ks => if f.lab.2.1 = 9 then (if 16 < ks.length then ([], 9) else spSeq (spBE ks.length 4, 0) (spWItems (f.kids.headD f) v ks)) else if f.lab.2.1 = 10 then spWZip v f.kids ks else spVal f v (.mk a ks)
termination_by n => (SizeOf.sizeOf n, 0)
def spWItems (f : Fd) (v : Int) : List Nd → List Int × Int
  | [] => ([], 0)
  | k :: ks => spSeq (spW f v k) (spWItems f v ks)
termination_by l => (SizeOf.sizeOf l, 0)
def spWZip (v : Int) : List Fd → List Nd → List Int × Int
  | f :: fs, k :: ks => if spHas f v = true then spSeq (spW f v k) (spWZip v fs ks) else spWZip v fs ks
  | _, _ => ([], 0)
termination_by fs l => (SizeOf.sizeOf l, 0)
end
mutual
def spWhole (f : Fd) : Nd → Prop
  | .mk a ks => (f.lab.2.1 = 9 → spWholes (f.kids.headD f) ks) ∧ (f.lab.2.1 = 10 → ks.length = f.kids.length ∧ spWholeZ f.kids ks)
termination_by n => (SizeOf.sizeOf n, 0)
def spWholes (f : Fd) : List Nd → Prop
  | [] => True
  | k :: ks => spWhole f k ∧ spWholes f ks
termination_by l => (SizeOf.sizeOf l, 0)
def spWholeZ : List Fd → List Nd → Prop
  | f :: fs, k :: ks => spWhole f k ∧ spWholeZ fs ks
  | _, _ => True
termination_by fs l => (SizeOf.sizeOf l, 0)
end
theorem spWZip_nl (v : Int) (l : List Nd) : spWZip v [] l = ([], 0) := by rw [spWZip]; simp
theorem spVZip_nl (v : Int) (l : List Nd) : spVZip v [] l = ([], 0) := by rw [spVZip]; simp
theorem spCItems_len (f : Fd) (v : Int) : ∀ ks : List Nd, (spCItems f v ks).1.length = ks.length
  | [] => by rw [spCItems]
  | k :: ks => by rw [spCItems, List.length_cons, List.length_cons, spCItems_len f v ks]
theorem spHere_cons (f : Fd) (fs : List Fd) (v : Int) : spHere (f :: fs) v = if spHas f v = true then f :: spHere fs v else spHere fs v := by
  unfold spHere; rw [List.filter_cons]
theorem spCZip_len (v : Int) : ∀ (fs : List Fd) (ks : List Nd), ks.length = fs.length → (spCZip v fs ks).1.length = (spHere fs v).length
  | [], ks, _ => by rw [spCZip_nl]; rfl
  | f :: fs, [], h => by simp at h
  | f :: fs, k :: ks, h => by
    have ih := spCZip_len v fs ks (by simpa using h)
    rw [spCZip, spHere_cons]
    split
    · rw [List.length_cons, List.length_cons, ih]
    · exact ih
theorem spSh_row (k : Int) (l : List Nd) (h : 8 < k) : spShN k (Tre.mk (k, (0, (false, (([] : List Int), ())))) l) = true := by
  unfold spShN
  simp; omega
theorem spW_cut (v : Int) : ∀ (N : Nat) (f : Fd) (n : Nd), spWt n ≤ N → spWhole f n → spVal f v (spCut f v n).1 = spW f v n := by
  intro N
  induction N with
  | zero => intro f n h; have := spWt_pos n; omega
  | succ N ih =>
    rintro f ⟨a, ks⟩ h hw
    rw [spWt_eq] at h
    have hks : ∀ k ∈ ks, spWt k ≤ N := fun k hk => by have := spWt_mem hk; simp only at h; omega
    rw [spWhole] at hw
    rw [spCut, spW]
    have hi : ∀ (f : Fd) (l : List Nd), (∀ k ∈ l, spWt k ≤ N) → spWholes f l → spVItems f v (spCItems f v l).1 = spWItems f v l := by
      intro f l
      induction l with
      | nil => intro _ _; rw [spCItems, spVItems, spWItems]
      | cons k l ihl =>
        intro hk hw
        rw [spWholes] at hw
        rw [spCItems, spVItems, spWItems, ih f k (hk k (by simp)) hw.1, ihl (fun k' hk' => hk k' (List.mem_cons_of_mem _ hk')) hw.2]
        rfl
    have hz : ∀ (l : List Nd) (fs : List Fd), (∀ k ∈ l, spWt k ≤ N) → l.length = fs.length → spWholeZ fs l → spVZip v (spHere fs v) (spCZip v fs l).1 = spWZip v fs l := by
      intro l
      induction l with
      | nil =>
        intro fs _ hl _
        cases fs with
        | nil => rw [spCZip_nl, spWZip_nl]; exact spVZip_nl _ _
        | cons f fs => simp at hl
      | cons k l ihl =>
        intro fs hk hl hw
        cases fs with
        | nil => simp at hl
        | cons f fs =>
          rw [spWholeZ] at hw
          have ih2 := ihl fs (fun k' hk' => hk k' (List.mem_cons_of_mem _ hk')) (by simpa using hl) hw.2
          rw [spCZip, spWZip, spHere_cons]
          by_cases hh : spHas f v = true
          · rw [if_pos hh, if_pos hh, if_pos hh, spVZip, ih f k (hk k (by simp)) hw.1, ih2]
            rfl
          · rw [if_neg hh, if_neg hh, if_neg hh]
            exact ih2
    by_cases h9 : f.lab.2.1 = 9
    · rw [if_pos h9, if_pos h9, spVal, h9, spSh_row 9 _ (by omega)]
      rw [if_neg (by decide), if_neg (by decide), if_pos rfl, spCItems_len, hi _ ks hks (hw.1 h9)]
      split
      · rfl
      · unfold spSeq; simp
    · rw [if_neg h9, if_neg h9]
      by_cases h10 : f.lab.2.1 = 10
      · rw [if_pos h10, if_pos h10, spVal, h10, spSh_row 10 _ (by omega)]
        rw [if_neg (by decide), if_neg (by decide), if_neg (by decide), if_pos rfl, spVParts, spCZip_len v _ _ (hw.2 h10).1, if_neg (by simp), hz ks _ hks (hw.2 h10).1 (hw.2 h10).2]
      · rw [if_neg h10, if_neg h10]
theorem spEW_eq {k : Int} {r : Bool} {v : Int} {t : List Fd} {ks : List Nd} (ht : spTab k r = (t, 0)) (hc : spChk t = 0) (hl : ks.length = t.length) (hw : spWholeZ t ks) :
    spEW k r v (ndRow ks) = if v < 0 ∨ 3 < v then ([], 8) else if (spCZip v t ks).2 = false then ([], 7) else if (spWZip v t ks).2 ≠ 0 then ([], (spWZip v t ks).2) else if 130048 < (spWZip v t ks).1.length then ([], 4) else ((spWZip v t ks).1, 0) := by
  have hd : spWhole (Tre.mk (([] : List Int), ((10 : Int), ((0 : Int), ((0 : Int), ())))) t) (ndRow ks) := by
    rw [spWhole]
    exact ⟨fun h => absurd (show (10 : Int) = 9 from h) (by decide), fun _ => ⟨hl, hw⟩⟩
  have hcut := spW_cut v _ _ _ (Nat.le_refl _) hd
  have ecut : spCut (Tre.mk (([] : List Int), ((10 : Int), ((0 : Int), ((0 : Int), ())))) t) v (ndRow ks) = (ndRow (spCZip v t ks).1, (spCZip v t ks).2) := by
    rw [spCut]; exact (if_neg (show ¬ ((10 : Int) = 9) by decide)).trans (if_pos rfl)
  have eW : spW (Tre.mk (([] : List Int), ((10 : Int), ((0 : Int), ((0 : Int), ())))) t) v (ndRow ks) = spWZip v t ks := by
    rw [spW]; exact (if_neg (show ¬ ((10 : Int) = 9) by decide)).trans (if_pos rfl)
  have eV : ∀ l, spVal (Tre.mk (([] : List Int), ((10 : Int), ((0 : Int), ((0 : Int), ())))) t) v (ndRow l) = spVParts t v (ndRow l) := fun l => by
    rw [spVal]
    refine (if_neg ?_).trans ((if_neg (show ¬ (10 : Int) ≤ 4 by decide)).trans ((if_neg (show ¬ (10 : Int) = 9 by decide)).trans (if_pos rfl)))
    show ¬ spShN 10 (ndRow l) = false
    rw [spSh_row 10 _ (by omega)]; decide
  rw [eW, ecut, eV] at hcut
  unfold spEW
  rw [ht]
  simp only
  rw [if_neg (by simp)]
  by_cases hv : v < 0 ∨ 3 < v
  · rw [if_pos hv, if_pos hv]
  rw [if_neg hv, if_neg hv, ecut]
  by_cases h7 : (spCZip v t ks).2 = false
  · rw [if_pos h7, if_pos h7]
  rw [if_neg h7, if_neg h7]
  unfold spEnc
  have hb : spBeg t v = 0 := by unfold spBeg; rw [if_neg hv, hc]
  rw [hb, spSh_row 10 _ (by omega), if_neg (by simp), if_neg (by decide), hcut]
def Wri (r : List Int × Int) (f : EnS → EnS) : Prop := ∀ s : EnS, s.2.2.length ≤ 130048 →
  (s.1 ≠ 0 → (f s).1 = s.1) ∧ (s.1 = 0 → (f s).1 = r.2) ∧ ((f s).1 = 0 → (((f s).2.1 = false ↔ s.2.1 = false ∧ s.2.2.length + r.1.length ≤ 130048) ∧ ((f s).2.1 = false → (f s).2.2 = s.2.2 ++ r.1))) ∧ (f s).2.2.length ≤ 130048
theorem Wri.seq {r1 r2 : List Int × Int} {f g : EnS → EnS} (hf : Wri r1 f) (hg : Wri r2 g) : Wri (spSeq r1 r2) fun s => g (f s) := by
  intro s hs
  obtain ⟨f1, f2, f3, f4⟩ := hf s hs
  obtain ⟨g1, g2, g3, g4⟩ := hg (f s) f4
  unfold spSeq
  refine ⟨fun h => ?_, fun h => ?_, fun h => ?_, g4⟩
  · have := f1 h
    rw [g1 (by rw [this]; exact h), this]
  · have := f2 h
    by_cases h1 : r1.2 = 0
    · rw [g2 (by rw [this]; exact h1)]
      by_cases h2 : r2.2 = 0
      · simp [h1, h2]
      · simp [h1, h2]
    · rw [g1 (by rw [this]; exact h1), this]
      simp [h1]
  · by_cases h0 : (f s).1 = 0
    · have hs0 : s.1 = 0 := by
        rcases Classical.em (s.1 = 0) with h' | h'
        · exact h'
        · rw [f1 h'] at h0; exact absurd h0 h'
      have h1 : r1.2 = 0 := by rw [← f2 hs0]; exact h0
      have h2 : r2.2 = 0 := by rw [← g2 h0]; exact h
      obtain ⟨a1, a2⟩ := f3 h0
      obtain ⟨b1, b2⟩ := g3 h
      simp only [h1, h2, ne_eq, not_true_eq_false, if_false, List.length_append]
      constructor
      · constructor
        · intro hx
          obtain ⟨c1, c2⟩ := b1.1 hx
          obtain ⟨c3, c4⟩ := a1.1 c1
          rw [a2 c1, List.length_append] at c2
          exact ⟨c3, by omega⟩
        · rintro ⟨c1, c2⟩
          have c3 := a1.2 ⟨c1, by omega⟩
          exact b1.2 ⟨c3, by rw [a2 c3, List.length_append]; omega⟩
      · intro hx
        have c1 := (b1.1 hx).1
        rw [b2 hx, a2 c1, List.append_assoc]
    · rw [g1 h0] at h; exact absurd h h0
theorem Wri.fail {e : Int} (he : e ≠ 0) : Wri ([], e) (spFail e) := by
  intro s hs
  unfold spFail
  refine ⟨fun h => by rw [if_neg h], fun h => by rw [if_pos h], fun h => ?_, by split <;> exact hs⟩
  split at h
  · exact absurd h he
  · rename_i h'; exact absurd h h'
theorem Wri.put (x : Int) (n : Nat) : Wri (spBE x n, 0) (spPutE x n) := by
  intro s hs
  refine ⟨fun h => by unfold spPutE; split <;> rfl, fun h => by unfold spPutE; split <;> exact h, fun h => ?_, spPutE_le _ _ hs⟩
  unfold spPutE
  rw [spBE_len]
  split
  · constructor
    · constructor
      · intro h'; cases h'
      · rintro ⟨_, h'⟩; omega
    · intro h'; cases h'
  · constructor
    · constructor
      · intro h'; exact ⟨h', by omega⟩
      · rintro ⟨h', _⟩; exact h'
    · intro _; rfl
theorem Wri.raw (p : List Int) : Wri (p, 0) (spRawE p) := by
  intro s hs
  refine ⟨fun h => by unfold spRawE; split <;> rfl, fun h => by unfold spRawE; split <;> exact h, fun h => ?_, spRawE_le _ hs⟩
  have hp : (p, (0 : Int)).1.length = p.length := rfl
  rw [hp]
  unfold spRawE
  split
  · constructor
    · constructor
      · intro h'; cases h'
      · rintro ⟨_, h'⟩; omega
    · intro h'; cases h'
  · constructor
    · constructor
      · intro h'; exact ⟨h', by omega⟩
      · rintro ⟨h', _⟩; exact h'
    · intro _; rfl
theorem Wri.ofEq {r r' : List Int × Int} {f : EnS → EnS} (h : Wri r f) (e : r = r') : Wri r' f := e ▸ h
theorem Wri.nop : Wri ([], 0) fun s => s := by
  intro s hs
  exact ⟨fun _ => rfl, fun h => h, fun _ => ⟨⟨fun h => ⟨h, by simpa using hs⟩, fun h => h.1⟩, fun _ => by simp⟩, hs⟩
def spTxt (t : List Int) : List Int × Int := if (spUtf t).2 = false then ([], 6) else if 255 < t.length then ([], 4) else (spBE t.length 2 ++ t, 0)
theorem Wri.str (t : List Int) : Wri (spTxt t) (spStrE t) := by
  unfold spTxt
  by_cases h1 : (spUtf t).2 = false
  · rw [if_pos h1]
    have : spStrE t = spFail 6 := funext fun s => by unfold spStrE; rw [if_pos h1]
    rw [this]; exact Wri.fail (by decide)
  · rw [if_neg h1]
    by_cases h2 : 255 < t.length
    · rw [if_pos h2]
      have : spStrE t = spFail 4 := funext fun s => by unfold spStrE; rw [if_neg h1, if_pos (by omega)]
      rw [this]; exact Wri.fail (by decide)
    · rw [if_neg h2]
      have : spStrE t = fun s => spRawE t (spPutE t.length 2 s) := funext fun s => by unfold spStrE; rw [if_neg h1, if_neg (by omega)]
      rw [this]
      exact ((Wri.put _ _).seq (Wri.raw _)).ofEq (by unfold spSeq; simp)
def spNam (n : Bool × (List Int × Unit)) : List Int × Int := if n.1 = true then (if n.2.1.length = 0 then (spBE (-1) 2, 0) else ([], 70)) else spTxt n.2.1
theorem Wri.name (n : Bool × (List Int × Unit)) : Wri (spNam n) (spNameE n) := by
  unfold spNam
  by_cases h1 : n.1 = true
  · rw [if_pos h1]
    by_cases h2 : n.2.1 = []
    · rw [if_pos (by rw [h2]; rfl)]
      have : spNameE n = spPutE (-1) 2 := funext fun s => by unfold spNameE; rw [if_neg (fun h => h.2 h2), if_pos h1]
      rw [this]; exact Wri.put _ _
    · rw [if_neg (fun h => h2 (List.eq_nil_of_length_eq_zero h))]
      have : spNameE n = spFail 70 := funext fun s => by unfold spNameE; rw [if_pos ⟨h1, h2⟩]
      rw [this]; exact Wri.fail (by decide)
  · rw [if_neg h1]
    have : spNameE n = spStrE n.2.1 := funext fun s => by unfold spNameE; rw [if_neg (fun h => h1 h.1), if_neg h1]
    rw [this]; exact Wri.str _
def spBlo (n : Bool × (List Int × Unit)) : List Int × Int := if n.1 = true then (if n.2.1.length = 0 then (spBE (-1) 4, 0) else ([], 70)) else (spBE n.2.1.length 4 ++ n.2.1, 0)
theorem Wri.blob (n : Bool × (List Int × Unit)) (hn : n.2.1.length ≤ 2147483647) : Wri (spBlo n) (spBlobE n) := by
  unfold spBlo
  by_cases h1 : n.1 = true
  · rw [if_pos h1]
    by_cases h2 : n.2.1.length = 0
    · rw [if_pos h2]
      have : spBlobE n = spPutE (-1) 4 := funext fun s => by unfold spBlobE; rw [if_neg (fun h => by omega), if_pos h1]
      rw [this]; exact Wri.put _ _
    · rw [if_neg h2]
      have : spBlobE n = spFail 70 := funext fun s => by unfold spBlobE; rw [if_pos ⟨h1, by omega⟩]
      rw [this]; exact Wri.fail (by decide)
  · rw [if_neg h1]
    have hwr : IntKind.i32.wrap (n.2.1.length : Int) = n.2.1.length := wrap_id (by simp [inR, IntKind.min, IntKind.max, IntKind.signed, IntKind.bits]; omega)
    have : spBlobE n = fun s => spRawE n.2.1 (spPutE n.2.1.length 4 s) := funext fun s => by unfold spBlobE; rw [if_neg (fun h => h1 h.1), if_neg h1, hwr]
    rw [this]
    exact ((Wri.put _ _).seq (Wri.raw _)).ofEq (by unfold spSeq; simp)
def spAll {α : Type} (one : α → List Int × Int) : List α → List Int × Int
  | [] => ([], 0)
  | x :: xs => spSeq (one x) (spAll one xs)
theorem Wri.fold {α : Type} {one : α → List Int × Int} {f : α → EnS → EnS} : ∀ {xs : List α}, (∀ x ∈ xs, Wri (one x) (f x)) → Wri (spAll one xs) fun s => xs.foldl (fun s x => f x s) s
  | [], _ => Wri.nop
  | x :: xs, h => (h x (by simp)).seq (Wri.fold fun y hy => h y (List.mem_cons_of_mem _ hy))
def spArrW {α : Type} (one : α → List Int × Int) (xs : List α) : List Int × Int := if 16 < xs.length then ([], 9) else spSeq (spBE xs.length 4, 0) (spAll one xs)
theorem Wri.items {α : Type} {one : α → List Int × Int} {f : α → EnS → EnS} {xs : List α} (h : ∀ x ∈ xs, Wri (one x) (f x)) : Wri (spArrW one xs) (spItems f xs) := by
  unfold spArrW
  by_cases h1 : 16 < xs.length
  · rw [if_pos h1]
    have : spItems f xs = spFail 9 := funext fun s => by unfold spItems; rw [if_pos (by omega)]
    rw [this]; exact Wri.fail (by decide)
  · rw [if_neg h1]
    have : spItems f xs = fun s => xs.foldl (fun s x => f x s) (spPutE xs.length 4 s) := funext fun s => by unfold spItems; rw [if_neg (by omega)]
    rw [this]
    exact (Wri.put _ _).seq (Wri.fold h)
theorem Wri.hasE (v lo hi x : Int) (n : Nat) : Wri (if lo ≤ v ∧ v ≤ hi then (spBE x n, 0) else ([], 0)) (spHasE v lo hi x n) := by
  by_cases h : lo ≤ v ∧ v ≤ hi
  · rw [if_pos h]
    have : spHasE v lo hi x n = spPutE x n := funext fun s => by unfold spHasE; rw [if_pos h]
    rw [this]; exact Wri.put _ _
  · rw [if_neg h]
    have : spHasE v lo hi x n = fun s => s := funext fun s => by unfold spHasE; rw [if_neg h]
    rw [this]; exact Wri.nop
theorem Wri.done {r : List Int × Int} {f : EnS → EnS} (h : Wri r f) (e : Int) : (spDoneO (f (e, (false, []))), spDoneE (f (e, (false, [])))) = if e ≠ 0 then ([], e) else if r.2 ≠ 0 then ([], r.2) else if 130048 < r.1.length then ([], 4) else (r.1, 0) := by
  obtain ⟨h1, h2, h3, _⟩ := h (e, (false, [])) (by simp)
  by_cases he : e = 0
  · subst he
    have h2 := h2 rfl
    by_cases hr : r.2 = 0
    · have h0 : (f (0, (false, []))).1 = 0 := by rw [h2]; exact hr
      obtain ⟨h4, h5⟩ := h3 h0
      have h4 : (f (0, (false, []))).2.1 = false ↔ r.1.length ≤ 130048 :=
        ⟨fun hx => by have := (h4.1 hx).2; simpa using this, fun hx => h4.2 ⟨rfl, by simpa using hx⟩⟩
      by_cases hl : 130048 < r.1.length
      · have hf : (f (0, (false, []))).2.1 = true := by
          cases hx : (f (0, (false, []))).2.1 with
          | true => rfl
          | false => have := h4.1 hx; omega
        simp [spDoneO, spDoneE, h0, hf, hr, hl]
      · have hf := h4.2 (by omega)
        have h6 := h5 hf
        simp [spDoneO, spDoneE, h0, hf, hr, hl, h6]
    · have h0 : ¬ (f (0, (false, []))).1 = 0 := by rw [h2]; exact hr
      simp [spDoneO, spDoneE, h2, hr]
  · have h1 := h1 he
    simp [spDoneO, spDoneE, h1, he]
end
end Go.Proofs.YtjpeefegeobgfaaGreat.Sym
namespace Go.Proofs.YtjpeefegeobgfaaGreat.Sym
open Go
set_option linter.unusedSimpArgs false
set_option linter.unusedVariables false
noncomputable section
theorem spFits_i8 {n : Int} (h : inR .i8 n) : spFits n 1 = true := by
  simp only [inR, IntKind.min, IntKind.max, IntKind.signed, IntKind.bits] at h
  simp at h
  unfold spFits
  rw [if_neg (by decide), if_pos]
  simp; omega
theorem spFits_i16 {n : Int} (h : inR .i16 n) : spFits n 2 = true := by
  simp only [inR, IntKind.min, IntKind.max, IntKind.signed, IntKind.bits] at h
  simp at h
  unfold spFits
  rw [if_neg (by decide), if_pos]
  simp; omega
theorem spFits_i32 {n : Int} (h : inR .i32 n) : spFits n 4 = true := by
  simp only [inR, IntKind.min, IntKind.max, IntKind.signed, IntKind.bits] at h
  simp at h
  unfold spFits
  rw [if_neg (by decide), if_pos]
  simp; omega
theorem spFits_i64 (n : Int) : spFits n 8 = true := by unfold spFits; rw [if_pos (by decide)]
theorem spW_leaf {nm : List Int} {k lo hi : Int} {e : List Fd} {v : Int} {n : Nd} (h9 : k ≠ 9) (h10 : k ≠ 10) : spW (fld nm k lo hi e) v n = spVal (fld nm k lo hi e) v n := by
  obtain ⟨a, ks⟩ := n
  rw [spW]
  exact (if_neg h9).trans (if_neg h10)
theorem spCut_leaf {nm : List Int} {k lo hi : Int} {e : List Fd} {v : Int} {n : Nd} (h9 : k ≠ 9) (h10 : k ≠ 10) : (spCut (fld nm k lo hi e) v n).2 = true := by
  obtain ⟨a, ks⟩ := n
  rw [spCut]
  exact congrArg Prod.snd ((if_neg h9).trans (if_neg h10))
theorem spWhole_leaf {nm : List Int} {k lo hi : Int} {e : List Fd} {n : Nd} (h9 : k ≠ 9) (h10 : k ≠ 10) : spWhole (fld nm k lo hi e) n := by
  obtain ⟨a, ks⟩ := n
  rw [spWhole]
  exact ⟨fun h => absurd h h9, fun h => absurd h h10⟩
theorem spSh_num {k n : Int} (h : k < 5) : spShN k (ndNum k n) = true := by
  unfold spShN
  simp; omega
theorem spW_num {nm : List Int} {k lo hi n w : Int} {e : List Fd} {v : Int} (hk : k ≤ 4) (hw : spWid k = w) (hf : spFits n w = true) : spW (fld nm k lo hi e) v (ndNum k n) = (spBE n w.toNat, 0) := by
  rw [spW_leaf (by omega) (by omega), spVal]
  refine (if_neg ?_).trans ((if_pos hk).trans ?_)
  · show ¬ spShN k (ndNum k n) = false
    rw [spSh_num (by omega)]; decide
  · show (if spFits n (spWid k) = true then _ else _) = _
    rw [hw, if_pos hf]
theorem spW_text {nm : List Int} {lo hi : Int} {e : List Fd} {v : Int} (s : List Int) : spW (fld nm 5 lo hi e) v (ndText s) = spTxt s := by
  rw [spW_leaf (by decide) (by decide), spVal]
  refine (if_neg ?_).trans ((if_neg (show ¬ (5 : Int) ≤ 4 by decide)).trans ((if_neg (show ¬ (5 : Int) = 9 by decide)).trans ((if_neg (show ¬ (5 : Int) = 10 by decide)).trans ((if_neg (show ¬ (false = true) by decide)).trans ?_))))
  · show ¬ spShN 5 (ndText s) = false
    unfold spShN; simp
  · unfold spTxt
    by_cases h1 : (spUtf s).2 = false
    · rw [if_pos h1]; exact if_pos ⟨(show (5 : Int) ≤ 6 by decide), h1⟩
    · rw [if_neg h1]
      refine (if_neg (fun h => h1 h.2)).trans ?_
      by_cases h2 : 255 < s.length
      · rw [if_pos h2]; exact if_pos ⟨(show (5 : Int) ≤ 6 by decide), h2⟩
      · rw [if_neg h2]; exact if_neg (fun h => h2 h.2)
theorem spW_rows {α : Type} {nm : List Int} {lo hi : Int} {g : Fd} {v : Int} (F : α → Nd) (l : List α) : spW (fld nm 9 lo hi [g]) v (ndRows (l.map F)) = spArrW (fun x => spW g v (F x)) l := by
  rw [spW]
  refine (if_pos rfl).trans ?_
  unfold spArrW
  have : ∀ l : List α, spWItems g v (l.map F) = spAll (fun x => spW g v (F x)) l := by
    intro l
    induction l with
    | nil => rw [List.map_nil, spWItems]; rfl
    | cons x l ih => rw [List.map_cons, spWItems, ih]; rfl
  rw [List.length_map]
  show (if 16 < l.length then _ else spSeq _ (spWItems g v (l.map F))) = _
  rw [this]
theorem spW_row {nm : List Int} {lo hi : Int} {fs : List Fd} {v : Int} (ks : List Nd) : spW (fld nm 10 lo hi fs) v (ndRow ks) = spWZip v fs ks := by
  rw [spW]; exact (if_neg (show ¬ ((10 : Int) = 9) by decide)).trans (if_pos rfl)
theorem spCut_rows {α : Type} {nm : List Int} {lo hi : Int} {g : Fd} {v : Int} (F : α → Nd) (l : List α) : (spCut (fld nm 9 lo hi [g]) v (ndRows (l.map F))).2 = l.all fun x => (spCut g v (F x)).2 := by
  rw [spCut]
  refine (congrArg Prod.snd (if_pos rfl)).trans ?_
  show (spCItems g v (l.map F)).2 = _
  induction l with
  | nil => rw [List.map_nil, spCItems]; rfl
  | cons x l ih => rw [List.map_cons, spCItems, List.all_cons, ih]
theorem spCut_row {nm : List Int} {lo hi : Int} {fs : List Fd} {v : Int} (ks : List Nd) : (spCut (fld nm 10 lo hi fs) v (ndRow ks)).2 = (spCZip v fs ks).2 := by
  rw [spCut]; exact congrArg Prod.snd ((if_neg (show ¬ ((10 : Int) = 9) by decide)).trans (if_pos rfl))
theorem spWhole_rows {α : Type} {nm : List Int} {lo hi : Int} {g : Fd} (F : α → Nd) (l : List α) (h : ∀ x, spWhole g (F x)) : spWhole (fld nm 9 lo hi [g]) (ndRows (l.map F)) := by
  rw [spWhole]
  refine ⟨fun _ => ?_, fun h => absurd (show (9 : Int) = 10 from h) (by decide)⟩
  show spWholes g (l.map F)
  induction l with
  | nil => rw [List.map_nil, spWholes]; trivial
  | cons x l ih => rw [List.map_cons, spWholes]; exact ⟨h x, ih⟩
theorem spWhole_row {nm : List Int} {lo hi : Int} {fs : List Fd} {ks : List Nd} (hl : ks.length = fs.length) (h : spWholeZ fs ks) : spWhole (fld nm 10 lo hi fs) (ndRow ks) := by
  rw [spWhole]
  exact ⟨fun h => absurd (show (10 : Int) = 9 from h) (by decide), fun _ => ⟨hl, h⟩⟩
theorem spWhole_nil : spWholeZ [] [] := by rw [spWholeZ]; trivial; simp
theorem spWhole_cons {f : Fd} {fs : List Fd} {k : Nd} {ks : List Nd} (h1 : spWhole f k) (h2 : spWholeZ fs ks) : spWholeZ (f :: fs) (k :: ks) := by rw [spWholeZ]; exact ⟨h1, h2⟩
theorem spWZ_has {f : Fd} {fs : List Fd} {k : Nd} {ks : List Nd} {v : Int} (h : spHas f v = true) : spWZip v (f :: fs) (k :: ks) = spSeq (spW f v k) (spWZip v fs ks) := by rw [spWZip, if_pos h]
theorem spWZ_not {f : Fd} {fs : List Fd} {k : Nd} {ks : List Nd} {v : Int} (h : spHas f v = false) : spWZip v (f :: fs) (k :: ks) = spWZip v fs ks := by rw [spWZip, if_neg (by rw [h]; decide)]
theorem spCZ_has {f : Fd} {fs : List Fd} {k : Nd} {ks : List Nd} {v : Int} (h : spHas f v = true) : (spCZip v (f :: fs) (k :: ks)).2 = ((spCut f v k).2 && (spCZip v fs ks).2) := by rw [spCZip, if_pos h]
theorem spCZ_not {f : Fd} {fs : List Fd} {k : Nd} {ks : List Nd} {v : Int} (h : spHas f v = false) : (spCZip v (f :: fs) (k :: ks)).2 = (spZeroN k && (spCZip v fs ks).2) := by rw [spCZip, if_neg (by rw [h]; decide)]
theorem spHas_in {nm : List Int} {k lo hi v : Int} {e : List Fd} (h1 : lo ≤ v) (h2 : v ≤ hi) : spHas (fld nm k lo hi e) v = true := if_pos ⟨h1, h2⟩
theorem spHas_out {nm : List Int} {k lo hi v : Int} {e : List Fd} (h : v < lo ∨ hi < v) : spHas (fld nm k lo hi e) v = false := if_neg (by show ¬ (lo ≤ v ∧ v ≤ hi); omega)
theorem spCZ_opt {nm : List Int} {k lo hi : Int} {e fs : List Fd} {n : Nd} {ks : List Nd} {v : Int} : (spCZip v (fld nm k lo hi e :: fs) (n :: ks)).2 = ((if lo ≤ v ∧ v ≤ hi then (spCut (fld nm k lo hi e) v n).2 else spZeroN n) && (spCZip v fs ks).2) := by
  by_cases h : lo ≤ v ∧ v ≤ hi
  · rw [if_pos h, spCZ_has (spHas_in h.1 h.2)]
  · rw [if_neg h, spCZ_not (spHas_out (by omega))]
theorem spCZ_nil {v : Int} : (spCZip v [] []).2 = true := by rw [spCZip_nl]
theorem spZero_num {k n : Int} : spZeroN (ndNum k n) = (n == 0) := by unfold spZeroN; by_cases h : n = 0 <;> simp [h]
def okF : Nat → Int → Fd → Bool
  | 0, _, _ => false
  | n + 1, d, .mk a ks => !(decide (a.1.length = 0)) && (!(decide (a.2.2.1 < 0)) && (!(decide (3 < a.2.2.2.1)) && (!(decide (a.2.2.2.1 < a.2.2.1)) && (!(decide (a.2.1 < 1)) && (!(decide (10 < a.2.1)) &&
      (if a.2.1 < 9 then decide (ks.length = 0) else
        (!(decide (ks.length < 1)) && (!(decide (16 < ks.length)) && (!(decide (8 < d + 1)) && (spDist ks 0 ks && ks.all fun k => okF n (d + 1) k)))) && (spVers ks 5 a.2.2.1 a.2.2.2.1 && (decide (a.2.1 = 10) || decide (ks.length = 1)))))))))
theorem spFieldsOk_all {d : Int} : ∀ {l : List Fd}, (∀ k ∈ l, spFieldOk d k = true) → spFieldsOk d l = true
  | [], _ => by rw [spFieldsOk]
  | k :: l, h => by rw [spFieldsOk, h k (by simp), spFieldsOk_all (l := l) fun k' hk' => h k' (List.mem_cons_of_mem _ hk')]; rfl
theorem okF_sound : ∀ (n : Nat) (d : Int) (f : Fd), okF n d f = true → spFieldOk d f = true
  | 0, _, _, h => by cases h
  | n + 1, d, .mk a ks, h => by
    rw [okF] at h
    simp only [Bool.and_eq_true, Bool.not_eq_true', decide_eq_false_iff_not] at h
    obtain ⟨h1, h2, h3, h4, h5, h6, h7⟩ := h
    rw [spFieldOk, if_neg h1, if_neg h2, if_neg h3, if_neg h4, if_neg h5, if_neg h6]
    by_cases h9 : a.2.1 < 9
    · rw [if_pos h9] at h7 ⊢
      rw [if_pos (of_decide_eq_true h7)]
    · rw [if_neg h9] at h7 ⊢
      simp only [Bool.and_eq_true, Bool.not_eq_true', decide_eq_false_iff_not, Bool.or_eq_true, decide_eq_true_eq, List.all_eq_true] at h7
      obtain ⟨⟨g1, g2, g3, g4, g5⟩, g6, g7⟩ := h7
      have hl : spListOk (d + 1) ks = true := by
        rw [spListOk, if_neg g1, if_neg g2, if_neg g3, g4, spFieldsOk_all fun k hk => okF_sound n _ k (g5 k hk)]; rfl
      rw [hl, if_neg (by decide), g6, if_neg (by decide)]
      split
      · rfl
      · rename_i h10
        rw [if_pos (g7.resolve_left h10)]
theorem spChk_of {t : List Fd} (h : (!(decide (t.length < 1)) && (!(decide (16 < t.length)) && (spDist t 0 t && t.all fun k => okF 9 1 k))) = true) : spChk t = 0 := by
  simp only [Bool.and_eq_true, Bool.not_eq_true', decide_eq_false_iff_not, List.all_eq_true] at h
  obtain ⟨g1, g2, g4, g5⟩ := h
  unfold spChk
  rw [if_pos]
  rw [spListOk, if_neg g1, if_neg g2, if_neg (by decide), g4, spFieldsOk_all fun k hk => okF_sound 9 _ k (g5 k hk)]; rfl
theorem spChk_2q : spChk spT2q = 0 := spChk_of rfl
theorem spChk_2p : spChk spT2p = 0 := spChk_of rfl
end
end Go.Proofs.YtjpeefegeobgfaaGreat.Sym
namespace Go.Proofs.YtjpeefegeobgfaaGreat.Sym
open Go
set_option linter.unusedSimpArgs false
set_option linter.unusedVariables false
noncomputable section
theorem spEW_len (k : Int) (r : Bool) (v : Int) (n : Nd) : (spEW k r v n).1.length ≤ 130048 := by
  unfold spEW spEnc
  repeat' split
  all_goals first | (simp; done) | (dsimp only; omega)
theorem spLacks_first {e v lo hi : Int} {z : Bool} : spLacks v z lo hi (e, (false, ([] : List Int))) = ((if e ≠ 0 then e else if z = false ∧ (v < lo ∨ hi < v) then 7 else 0), (false, [])) := by
  unfold spLacks spFail
  by_cases h : z = false ∧ (v < lo ∨ hi < v)
  · rw [if_pos h]
    by_cases he : e = 0
    · simp [he, h]
    · simp [he]
  · rw [if_neg h]
    by_cases he : e = 0
    · simp [he, h]
    · simp [he]
def wPart (p : tPart.den) : List Int × Int := spSeq (spBE p.1 4, 0) (spSeq (spBlo p.2.1) ([], 0))
theorem Wri.part (p : tPart.den) (h : partOk p = true) : Wri (wPart p) (spPartE p) := (Wri.put _ _).seq ((Wri.blob _ (of_decide_eq_true h)).seq Wri.nop)
theorem spArrW_congr {α : Type} {f g : α → List Int × Int} {l : List α} (h : ∀ x ∈ l, f x = g x) : spArrW f l = spArrW g l := by
  have : spAll f l = spAll g l := by
    induction l with
    | nil => rfl
    | cons x l ih =>
      rw [spAll, spAll, h x (by simp), ih fun y hy => h y (List.mem_cons_of_mem _ hy)]
  unfold spArrW
  rw [this]
theorem Wri.opt {r : List Int × Int} {g : EnS → EnS} (v lo hi x : Int) (n : Nat) (hg : Wri r g) : Wri (if lo ≤ v ∧ v ≤ hi then spSeq (spBE x n, 0) r else r) (fun s => g (spHasE v lo hi x n s)) := by
  by_cases h : lo ≤ v ∧ v ≤ hi
  · rw [if_pos h]
    have : (fun s => g (spHasE v lo hi x n s)) = fun s => g (spPutE x n s) := funext fun s => by unfold spHasE; rw [if_pos h]
    rw [this]; exact (Wri.put x n).seq hg
  · rw [if_neg h]
    have : (fun s => g (spHasE v lo hi x n s)) = g := funext fun s => by unfold spHasE; rw [if_neg h]
    rw [this]; exact hg
def wDone (v : Int) (p : tDone.den) : List Int × Int := spSeq (spBE p.1 4, 0) (spSeq (spBE p.2.1 2, 0) (spSeq (spBE p.2.2.1 8, 0)
  (if 2 ≤ v ∧ v ≤ 3 then spSeq (spBE p.2.2.2.1 8, 0) (if 3 ≤ v ∧ v ≤ 3 then spSeq (spBE p.2.2.2.2.1 8, 0) ([], 0) else ([], 0)) else (if 3 ≤ v ∧ v ≤ 3 then spSeq (spBE p.2.2.2.2.1 8, 0) ([], 0) else ([], 0)))))
def okDone (v : Int) (p : tDone.den) : Bool := (if 2 ≤ v ∧ v ≤ 3 then true else (p.2.2.2.1 == 0)) && (if 3 ≤ v ∧ v ≤ 3 then true else (p.2.2.2.2.1 == 0))
def spLk (e : Int) (ok : Bool) : Int := if e ≠ 0 then e else if ok = false then 7 else 0
theorem spLk_and (e : Int) (a b : Bool) : spLk (spLk e a) b = spLk e (a && b) := by
  unfold spLk
  by_cases he : e = 0
  · subst he; cases a <;> cases b <;> simp
  · simp [he]
theorem spLk_true (e : Int) : spLk e true = e := by unfold spLk; by_cases h : e = 0 <;> simp [h]
theorem spLacks_lk {e v lo hi : Int} {z : Bool} : spLacks v z lo hi (e, (false, ([] : List Int))) = (spLk e (if lo ≤ v ∧ v ≤ hi then true else z), (false, [])) := by
  rw [spLacks_first]
  unfold spLk
  by_cases he : e = 0
  · subst he
    by_cases h : lo ≤ v ∧ v ≤ hi
    · rw [if_pos h]
      have : ¬ (z = false ∧ (v < lo ∨ hi < v)) := by rintro ⟨_, h'⟩; omega
      simp [this]
    · rw [if_neg h]
      have : v < lo ∨ hi < v := by omega
      simp [this]
  · simp [he]
theorem HcOk.weakW {f : Nat} {io : Io} {Fn Fn' : io.In → Tr io.Res} (h : HcOk prog f (ioHd io Fn)) (hF : ∀ d y, io.wf d → (Fn' d).val = some y → (Fn d).val = some y) : HcOk prog f (ioHd io Fn') := by
  intro R args id A K r F G ts cst w vals hid hc Rl hv
  unfold ioHd at hc
  cases h1 : mVs io.args args (List.replicate io.obs.length Option.none) with
  | none => rw [h1] at hc; cases hc
  | some p =>
    obtain ⟨a, β1⟩ := p
    rw [h1] at hc
    simp only at hc
    cases h2 : mOb A.ob io.obs 0 β1 with
    | none => rw [h2] at hc; cases hc
    | some q =>
      obtain ⟨o, β⟩ := q
      rw [h2] at hc
      simp only at hc
      have hn := fun y => hF (a, o) y ⟨mVs_wf h1 hv, mOb_wf Rl.ob h2⟩
      refine h R args id A K r F G ts cst w vals hid ?_ Rl hv
      unfold ioHd
      rw [h1]
      simp only [h2]
      revert hc
      cases nodupB ((owVs (idTmp 0) io.args args 0 ++ owOb A.ob β (bnId io.obs.length 0) io.obs 0).map (·.2)) && (nodupB ((owVs (idTmp 0) io.args args 0 ++ owOb A.ob β (bnId io.obs.length 0) io.obs 0).map (·.1)) && io.ok) with
      | false => intro hc; cases hc
      | true =>
        intro hc
        obtain ⟨out, ho, hk⟩ := Tr.run_val hc
        exact (Tr.val_run (hn out ho)).trans hk
--@alias qReqR leat/produce.EncodeReq
--@alias rRepR leat/produce.EncodeRep
end
end Go.Proofs.YtjpeefegeobgfaaGreat.Sym
namespace Go.Proofs.YtjpeefegeobgfaaGreat.Sym
open Go
set_option linter.unusedSimpArgs false
set_option linter.unusedVariables false
noncomputable section
theorem foldl_BE (x : Int) : ∀ (n : Nat) (v : Int), (spBE x n).foldl (fun v c => v * 256 + c) v = v * 256 ^ n + x % 256 ^ n
  | 0, v => by simp [spBE]
  | n + 1, v => by
    rw [spBE, List.foldl_cons, foldl_BE x n]
    have h1 : x % 256 ^ (n + 1) = x % 256 ^ n + 256 ^ n * ((x / 256 ^ n) % 256) := by
      have hq : (0 : Int) < 256 ^ n := Int.pow_pos (by decide)
      rw [Int.pow_succ]
      have hx := Int.emod_add_mul_ediv x (256 ^ n)
      have hy := Int.emod_add_mul_ediv (x / 256 ^ n) 256
      have h1 := Int.emod_nonneg x (Int.ne_of_gt hq)
      have h2 := Int.emod_lt_of_pos x hq
      have h3 : 0 ≤ (x / 256 ^ n) % 256 := Int.emod_nonneg _ (by decide)
      have h4 : (x / 256 ^ n) % 256 < 256 := Int.emod_lt_of_pos _ (by decide)
      generalize x % 256 ^ n = r at hx h1 h2 ⊢
      generalize hd : x / 256 ^ n = d at hx hy h3 h4 ⊢
      generalize d % 256 = c at hy h3 h4 ⊢
      generalize d / 256 = e at hy
      generalize (256 : Int) ^ n = q at hq hx h2 ⊢
      refine ((Int.ediv_emod_unique (q := e) (by omega)).2 ⟨?_, ?_, ?_⟩).2
      · rw [← hx, ← hy, Int.mul_add, Int.mul_assoc]; omega
      · have := Int.mul_nonneg (Int.le_of_lt hq) h3; omega
      · have : q * c ≤ q * 255 := Int.mul_le_mul_of_nonneg_left (by omega) (Int.le_of_lt hq); omega
    rw [h1, Int.pow_succ, Int.add_mul, Int.mul_assoc, Int.mul_comm 256 (256 ^ n), Int.mul_comm ((x / 256 ^ n) % 256)]
    omega
theorem spBEv_BE (x : Int) (n : Nat) : spBEv (spBE x n) = x % 256 ^ n := by
  unfold spBEv
  rw [foldl_BE]; omega
theorem wrapBE_i8 {x : Int} (h : inR .i8 x) : IntKind.i8.wrap (spBEv (spBE x 1)) = x := by
  rw [spBEv_BE]
  simp only [inR, IntKind.min, IntKind.max, IntKind.signed, IntKind.bits] at h
  simp at h
  simp [IntKind.wrap, IntKind.min, IntKind.max, IntKind.signed, IntKind.bits]
  omega
theorem wrapBE_i16 {x : Int} (h : inR .i16 x) : IntKind.i16.wrap (spBEv (spBE x 2)) = x := by
  rw [spBEv_BE]
  simp only [inR, IntKind.min, IntKind.max, IntKind.signed, IntKind.bits] at h
  simp at h
  simp [IntKind.wrap, IntKind.min, IntKind.max, IntKind.signed, IntKind.bits]
  omega
theorem wrapBE_i32 {x : Int} (h : inR .i32 x) : IntKind.i32.wrap (spBEv (spBE x 4)) = x := by
  rw [spBEv_BE]
  simp only [inR, IntKind.min, IntKind.max, IntKind.signed, IntKind.bits] at h
  simp at h
  simp [IntKind.wrap, IntKind.min, IntKind.max, IntKind.signed, IntKind.bits]
  omega
theorem wrapBE_i64 {x : Int} (h : inR .i64 x) : IntKind.i64.wrap (spBEv (spBE x 8)) = x := by
  rw [spBEv_BE]
  simp only [inR, IntKind.min, IntKind.max, IntKind.signed, IntKind.bits] at h
  simp at h
  simp [IntKind.wrap, IntKind.min, IntKind.max, IntKind.signed, IntKind.bits]
  omega
structure Rea {α : Type} (b : List Int) (x : α) (r : List Int) (f : DeS → α × DeS) : Prop where
  full : ∀ (p : Nat) (rest : List Int), p ≤ b.length → b.drop p = r ++ rest → f (0, (p : Int)) = (x, (0, ((p + r.length : Nat) : Int)))
  short : ∀ (p : Nat) (t : List Int), p ≤ b.length → t ≠ [] → b.drop p ++ t = r → (f (0, (p : Int))).2.1 = 1
  dead : ∀ s, s.1 ≠ 0 → (f s).2.1 = s.1
theorem drop_len {b r rest : List Int} {p : Nat} (hp : p ≤ b.length) (h : b.drop p = r ++ rest) : p + r.length ≤ b.length ∧ b.drop (p + r.length) = rest := by
  have h1 := congrArg List.length h
  simp only [List.length_drop, List.length_append] at h1
  refine ⟨by omega, ?_⟩
  rw [← List.drop_drop, h, List.drop_left]
theorem Rea.seq {α β γ : Type} {b r1 r2 : List Int} {x : α} {y : β} {f : DeS → α × DeS} {g : DeS → β × DeS} (c : α → β → γ) (hf : Rea b x r1 f) (hg : Rea b y r2 g) :
    Rea b (c x y) (r1 ++ r2) fun s => (c (f s).1 (g (f s).2).1, (g (f s).2).2) where
  full := fun p rest hp h => by
    rw [List.append_assoc] at h
    obtain ⟨h1, h2⟩ := drop_len hp h
    simp only [hf.full p _ hp h, hg.full _ rest h1 h2, List.length_append, Nat.add_assoc]
  short := fun p t hp ht h => by
    by_cases hl : r1.length ≤ (b.drop p).length
    · have h1 : b.drop p = r1 ++ (b.drop p).drop r1.length := by
        have : (b.drop p).take r1.length = r1 := by
          have := congrArg (List.take r1.length) h
          rwa [List.take_append_of_le_length hl, List.take_left] at this
        conv => lhs; rw [← List.take_append_drop r1.length (b.drop p), this]
      obtain ⟨h3, h4⟩ := drop_len hp h1
      rw [h1, List.append_assoc] at h
      have h5 := List.append_cancel_left h
      simp only [hf.full p _ hp h1]
      exact hg.short _ t h3 ht (by rw [h4]; exact h5)
    · have h1 : r1 = b.drop p ++ r1.drop (b.drop p).length := by
        have : r1.take (b.drop p).length = b.drop p := by
          have := congrArg (List.take (b.drop p).length) h
          rw [List.take_left, List.take_append_of_le_length (by omega)] at this
          exact this.symm
        conv => lhs; rw [← List.take_append_drop (b.drop p).length r1, this]
      have h2 := hf.short p (r1.drop (b.drop p).length) hp (by intro e; have := congrArg List.length e; simp only [List.length_drop, List.length_nil] at this hl; omega) h1.symm
      have h3 := hg.dead (f (0, (p : Int))).2 (by rw [h2]; decide)
      exact h3.trans h2
  dead := fun s hs => by
    have h1 := hf.dead s hs
    exact (hg.dead _ (by rw [h1]; exact hs)).trans h1
theorem Rea.nop {α : Type} (b : List Int) (x : α) {f : DeS → α × DeS} (hf : ∀ p : Nat, f (0, (p : Int)) = (x, (0, (p : Int)))) (hd : ∀ s, s.1 ≠ 0 → (f s).2.1 = s.1) : Rea b x [] f where
  full := fun p rest hp h => by rw [hf]; rfl
  short := fun p t hp ht h => absurd (List.append_eq_nil_iff.1 h).2 ht
  dead := hd
theorem Rea.congr {α : Type} {b r : List Int} {x : α} {f g : DeS → α × DeS} (h : Rea b x r f) (e : ∀ s, g s = f s) : Rea b x r g := by
  have : g = f := funext e
  rw [this]; exact h
theorem spDn_dead (k : IntKind) (n : Nat) (b : List Int) {s : DeS} (h : s.1 ≠ 0) : spDn k n b s = (0, s) := by unfold spDn; rw [if_neg h]
theorem Rea.num {b : List Int} {k : IntKind} {n : Nat} {x : Int} (hx : k.wrap (spBEv (spBE x n)) = x) : Rea b x (spBE x n) (spDn k n b) where
  full := fun p rest hp h => by
    obtain ⟨h1, h2⟩ := drop_len hp h
    rw [spBE_len] at h1 ⊢
    unfold spDn
    rw [if_pos rfl]
    have hr : spRd b (p : Int) n = (spBEv (spBE x n), ((p : Int) + n, 0)) := by
      unfold spRd
      rw [if_neg (by omega)]
      have : ((b.drop ((p : Int)).toNat).take n) = spBE x n := by
        rw [Int.toNat_natCast, h]
        have := List.take_left (l₁ := spBE x n) (l₂ := rest)
        rw [spBE_len] at this
        exact this
      rw [this]
    simp only [hr, hx]
    simp
  short := fun p t hp ht h => by
    have hl := congrArg List.length h
    rw [List.length_append, List.length_drop, spBE_len] at hl
    have : 0 < t.length := List.length_pos_iff.2 ht
    unfold spDn
    rw [if_pos rfl]
    unfold spRd
    rw [if_pos (by omega)]
  dead := fun s hs => by rw [spDn_dead _ _ _ hs]
theorem spDTake_dead (b : List Int) (n : Int) {s : DeS} (h : s.1 ≠ 0) : spDTake b n s = ([], s) := by unfold spDTake; rw [if_neg h]
theorem Rea.take {b : List Int} (t : List Int) : Rea b t t (spDTake b t.length) where
  full := fun p rest hp h => by
    obtain ⟨h1, h2⟩ := drop_len hp h
    unfold spDTake
    rw [if_pos rfl, if_neg (by omega)]
    have hr : spTakeB b (p : Int) (t.length : Int) = (t, ((p : Int) + t.length, 0)) := by
      unfold spTakeB
      rw [if_neg (by omega), if_neg (by omega), Int.toNat_natCast, Int.toNat_natCast, h, List.take_left]
    simp only [hr]
    simp
  short := fun p u hp ht h => by
    have hl := congrArg List.length h
    rw [List.length_append, List.length_drop] at hl
    have : 0 < u.length := List.length_pos_iff.2 ht
    unfold spDTake
    rw [if_pos rfl, if_neg (by omega)]
    unfold spTakeB
    rw [if_neg (by omega), if_pos (by omega)]
  dead := fun s hs => by rw [spDTake_dead _ _ hs]
theorem Rea.bind {α β : Type} {b r1 r2 : List Int} {x : α} {y : β} {f : DeS → α × DeS} {g : α → DeS → β × DeS} (hf : Rea b x r1 f) (hg : Rea b y r2 (g x)) (a0 : α) (hz : ∀ s, (f s).2.1 ≠ 0 → (f s).1 = a0) (hd : ∀ s, s.1 ≠ 0 → (g a0 s).2.1 = s.1) :
    Rea b y (r1 ++ r2) fun s => g (f s).1 (f s).2 where
  full := fun p rest hp h => by
    rw [List.append_assoc] at h
    obtain ⟨h1, h2⟩ := drop_len hp h
    simp only [hf.full p _ hp h, hg.full _ rest h1 h2, List.length_append, Nat.add_assoc]
  short := fun p t hp ht h => by
    by_cases hl : r1.length ≤ (b.drop p).length
    · have h1 : b.drop p = r1 ++ (b.drop p).drop r1.length := by
        have : (b.drop p).take r1.length = r1 := by
          have := congrArg (List.take r1.length) h
          rwa [List.take_append_of_le_length hl, List.take_left] at this
        conv => lhs; rw [← List.take_append_drop r1.length (b.drop p), this]
      obtain ⟨h3, h4⟩ := drop_len hp h1
      rw [h1, List.append_assoc] at h
      have h5 := List.append_cancel_left h
      simp only [hf.full p _ hp h1]
      exact hg.short _ t h3 ht (by rw [h4]; exact h5)
    · have h1 : r1 = b.drop p ++ r1.drop (b.drop p).length := by
        have : r1.take (b.drop p).length = b.drop p := by
          have := congrArg (List.take (b.drop p).length) h
          rw [List.take_left, List.take_append_of_le_length (by omega)] at this
          exact this.symm
        conv => lhs; rw [← List.take_append_drop (b.drop p).length r1, this]
      have h2 := hf.short p (r1.drop (b.drop p).length) hp (by intro e; have := congrArg List.length e; simp only [List.length_drop, List.length_nil] at this hl; omega) h1.symm
      have h3 := hd (f (0, (p : Int))).2 (by rw [h2]; decide)
      rw [← hz (0, (p : Int)) (by rw [h2]; decide)] at h3
      exact h3.trans h2
  dead := fun s hs => by
    have h1 := hf.dead s hs
    have h3 := hd (f s).2 (by rw [h1]; exact hs)
    rw [← hz s (by rw [h1]; exact hs)] at h3
    exact h3.trans h1
theorem spUtf_nil : (spUtf []).2 = true := by rfl
theorem spDText_dead (b : List Int) (n : Int) {s : DeS} (h : s.1 ≠ 0) (hn : n ≤ 255) : spDText b n s = ([], s) := by
  have e : spDLong n s = s := by unfold spDLong; rw [if_neg (by omega)]
  unfold spDText
  rw [e, spDTake_dead b n h, if_pos spUtf_nil]
theorem Rea.text {b : List Int} (t : List Int) (hl : t.length ≤ 255) (hu : (spUtf t).2 = true) : Rea b t t (spDText b t.length) := by
  have e : ∀ s, spDLong (t.length : Int) s = s := fun s => by unfold spDLong; rw [if_neg (by omega)]
  have ht := Rea.take (b := b) t
  refine ⟨fun p rest hp h => ?_, fun p u hp hu' h => ?_, fun s hs => ?_⟩
  · have h1 := ht.full p rest hp h
    unfold spDText
    rw [e, h1, if_pos hu]
  · have h1 := ht.short p u hp hu' h
    unfold spDText
    rw [e]
    have h0 : (spDTake b (t.length : Int) (0, (p : Int))).1 = [] := by
      unfold spDTake at h1 ⊢
      rw [if_pos rfl, if_neg (by omega)] at h1 ⊢
      simp only at h1 ⊢
      unfold spTakeB at h1 ⊢
      split
      · rfl
      · split
        · rfl
        · rename_i h2 h3
          rw [if_neg h2, if_neg h3] at h1
          cases h1
    rw [h0, if_pos spUtf_nil]; exact h1
  · rw [spDText_dead b _ hs (by omega)]
theorem wrap0 (k : IntKind) : k.wrap 0 = 0 := by cases k <;> rfl
theorem spDn_zero (k : IntKind) (n : Nat) (b : List Int) (s : DeS) (h : (spDn k n b s).2.1 ≠ 0) : (spDn k n b s).1 = 0 := by
  unfold spDn at h ⊢
  split
  · rename_i h0
    rw [if_pos h0] at h
    unfold spRd at h ⊢
    split
    · exact wrap0 k
    · rename_i h1
      rw [if_neg h1] at h
      exact absurd rfl h
  · rfl
theorem Rea.str {b : List Int} (t : List Int) (hl : t.length ≤ 255) (hu : (spUtf t).2 = true) : Rea b t (spBE t.length 2 ++ t) (spDStr b) :=
  Rea.bind (g := spDText b) (Rea.num (b := b) (k := .i16) (n := 2) (x := (t.length : Int)) (wrapBE_i16 (by simp [inR, IntKind.min, IntKind.max, IntKind.signed, IntKind.bits]; omega))) (Rea.text t hl hu) 0 (spDn_zero _ _ _) fun s hs => by
    rw [spDText_dead b _ hs (by decide)]
def Rd {α : Type} (b : List Int) (x : α) (w : List Int × Int) (f : DeS → α × DeS) : Prop := w.2 = 0 → Rea b x w.1 f
theorem spSeq_zero {a b : List Int × Int} (h : (spSeq a b).2 = 0) : a.2 = 0 ∧ b.2 = 0 ∧ (spSeq a b).1 = a.1 ++ b.1 := by
  unfold spSeq at h ⊢
  by_cases h1 : a.2 = 0
  · by_cases h2 : b.2 = 0
    · refine ⟨h1, h2, ?_⟩
      simp [h1, h2]
    · simp [h1, h2] at h
  · simp [h1] at h
theorem Rd.seq {α β γ : Type} {b : List Int} {w1 w2 : List Int × Int} {x : α} {y : β} {f : DeS → α × DeS} {g : DeS → β × DeS} (c : α → β → γ) (hf : Rd b x w1 f) (hg : Rd b y w2 g) :
    Rd b (c x y) (spSeq w1 w2) fun s => (c (f s).1 (g (f s).2).1, (g (f s).2).2) := by
  intro h
  obtain ⟨h1, h2, h3⟩ := spSeq_zero h
  rw [h3]
  exact (hf h1).seq c (hg h2)
theorem Rd.num {b : List Int} {k : IntKind} {n : Nat} {x : Int} (hx : k.wrap (spBEv (spBE x n)) = x) : Rd b x (spBE x n, 0) (spDn k n b) := fun _ => Rea.num hx
theorem Rd.nop {α : Type} (b : List Int) (x : α) : Rd b x ([], 0) fun s => (x, s) := fun _ => Rea.nop b x (fun p => rfl) fun s _ => rfl
theorem Rd.txt {b : List Int} (t : List Int) : Rd b t (spTxt t) (spDStr b) := by
  intro h
  unfold spTxt at h ⊢
  split at h
  · cases h
  · rename_i h1
    split at h
    · cases h
    · rename_i h2
      rw [if_neg h1, if_neg h2]
      exact Rea.str t (by omega) (by simpa using h1)
theorem Rea.map {α β : Type} {b r : List Int} {x : α} {f : DeS → α × DeS} (c : α → β) (h : Rea b x r f) : Rea b (c x) r fun s => (c (f s).1, (f s).2) :=
  ⟨fun p rest hp hd => by simp only [h.full p rest hp hd], fun p t hp ht hd => h.short p t hp ht hd, fun s hs => h.dead s hs⟩
def blG (b : List Int) (a : Int) (s : DeS) : tBlobT.den × DeS := if a = -1 then ((true, (([] : List Int), ())), s) else ((false, ((spDTake b a s).1, ())), (spDTake b a s).2)
theorem Rd.blo {b : List Int} (n : tBlobT.den) (hn : n.2.1.length ≤ 2147483647) : Rd b n (spBlo n) (spDBlob b) := by
  have e : ∀ s, spDBlob b s = blG b (spDn .i32 4 b s).1 (spDn .i32 4 b s).2 := fun s => rfl
  have hd : ∀ s : DeS, s.1 ≠ 0 → (blG b 0 s).2.1 = s.1 := fun s hs => by
    unfold blG
    rw [if_neg (by decide), spDTake_dead b _ hs]
  obtain ⟨z, t, ⟨⟩⟩ := n
  have hn : t.length ≤ 2147483647 := hn
  intro hh
  have h : (if z = true then (if t.length = 0 then (spBE (-1) 4, 0) else ([], 70)) else (spBE t.length 4 ++ t, 0) : List Int × Int).2 = 0 := hh
  clear hh
  show Rea b _ (if z = true then (if t.length = 0 then (spBE (-1) 4, 0) else ([], 70)) else (spBE t.length 4 ++ t, 0) : List Int × Int).1 _
  by_cases hz : z = true
  · rw [if_pos hz] at h ⊢
    by_cases h0 : List.length t = 0
    · rw [if_pos h0] at h ⊢
      have ht : t = [] := List.eq_nil_of_length_eq_zero h0
      subst ht
      subst hz
      have hg : Rea b (true, (([] : List Int), ())) [] (blG b (-1)) := Rea.nop b _ (fun p => by unfold blG; rw [if_pos rfl]) fun s hs => by unfold blG; rw [if_pos rfl]
      have := (Rea.bind (Rea.num (b := b) (k := .i32) (n := 4) (x := -1) (wrapBE_i32 (by simp [inR, IntKind.min, IntKind.max, IntKind.signed, IntKind.bits]))) hg 0 (spDn_zero _ _ _) hd).congr e
      rw [List.append_nil] at this
      exact this
    · rw [if_neg h0] at h
      cases h
  · rw [if_neg hz] at h ⊢
    have hz : z = false := by simpa using hz
    subst hz
    have hg : Rea b (false, (t, ())) t (blG b t.length) := ((Rea.take (b := b) t).map fun x => (false, (x, ()))).congr fun s => by unfold blG; rw [if_neg (by omega)]
    exact (Rea.bind (Rea.num (b := b) (k := .i32) (n := 4) (x := (t.length : Int)) (wrapBE_i32 (by simp [inR, IntKind.min, IntKind.max, IntKind.signed, IntKind.bits]; omega))) hg 0 (spDn_zero _ _ _) hd).congr e
theorem Rd.rep {α : Type} {b : List Int} {w : α → List Int × Int} {one : DeS → α × DeS} : ∀ {xs : List α}, (∀ x ∈ xs, Rd b x (w x) one) → Rd b xs (spAll w xs) (spRep one xs.length)
  | [], _ => fun _ => Rea.nop b _ (fun p => rfl) fun s hs => rfl
  | x :: xs, h => by
    intro hz
    have hs := (Rd.seq List.cons (h x (by simp)) (Rd.rep fun y hy => h y (List.mem_cons_of_mem _ hy))) hz
    refine ⟨fun p rest hp hd => ?_, fun p t hp ht hd => ?_, fun s hs => ?_⟩
    · rw [List.length_cons, spRep, if_pos rfl]
      exact hs.full p rest hp hd
    · rw [List.length_cons, spRep, if_pos rfl]
      exact hs.short p t hp ht hd
    · rw [List.length_cons, spRep, if_neg hs]
theorem Rd.list {α : Type} {b : List Int} {w : α → List Int × Int} {one : DeS → α × DeS} {xs : List α} (h : ∀ x ∈ xs, Rd b x (w x) one) : Rd b xs (spArrW w xs) (spList one b) := by
  intro hz
  unfold spArrW at hz ⊢
  by_cases h1 : 16 < xs.length
  · rw [if_pos h1] at hz; cases hz
  rw [if_neg h1] at hz ⊢
  obtain ⟨_, h2, h3⟩ := spSeq_zero hz
  rw [h3]
  have hr := Rd.rep h h2
  have hg : Rea b xs (spAll w xs).1 (fun s => spRep one ((xs.length : Int)).toNat (spLen xs.length s)) := hr.congr fun s => by
    rw [Int.toNat_natCast]
    have : spLen (xs.length : Int) s = s := by
      unfold spLen
      split
      · rw [if_neg (by omega), if_neg (by omega)]
      · rfl
    rw [this]
  exact Rea.bind (g := fun a s => spRep one a.toNat (spLen a s)) (Rea.num (b := b) (k := .i32) (n := 4) (x := (xs.length : Int)) (wrapBE_i32 (by simp [inR, IntKind.min, IntKind.max, IntKind.signed, IntKind.bits]; omega))) hg 0 (spDn_zero _ _ _) fun s hs => by
    show (spLen 0 s).1 = s.1
    unfold spLen
    rw [if_neg hs]
theorem Rd.congr {α : Type} {b : List Int} {x : α} {w : List Int × Int} {f g : DeS → α × DeS} (h : Rd b x w f) (e : ∀ s, g s = f s) : Rd b x w g := fun hz => (h hz).congr e
theorem spDHas_in {v lo hi : Int} (h : lo ≤ v ∧ v ≤ hi) : spDHas v lo hi 0 = true := if_pos ⟨rfl, h⟩
theorem spDHas_out {v lo hi e : Int} (h : ¬ (lo ≤ v ∧ v ≤ hi)) : spDHas v lo hi e = false := if_neg fun h' => h h'.2
theorem spDHas_err {v lo hi e : Int} (h : e ≠ 0) : spDHas v lo hi e = false := if_neg fun h' => h h'.1
theorem Rd.opt {b : List Int} {k : IntKind} {n : Nat} {x v lo hi : Int} (hx : k.wrap (spBEv (spBE x n)) = x) (h0 : ¬ (lo ≤ v ∧ v ≤ hi) → x = 0) : Rd b x (if lo ≤ v ∧ v ≤ hi then (spBE x n, 0) else ([], 0)) (spDHasN k n v lo hi b) := by
  intro _
  by_cases h : lo ≤ v ∧ v ≤ hi
  · rw [if_pos h]
    have hn := Rea.num (b := b) hx
    refine ⟨fun p rest hp hd => ?_, fun p t hp ht hd => ?_, fun s hs => ?_⟩
    · unfold spDHasN
      rw [if_pos (spDHas_in h)]; exact hn.full p rest hp hd
    · unfold spDHasN
      rw [if_pos (spDHas_in h)]; exact hn.short p t hp ht hd
    · unfold spDHasN
      rw [if_neg (by rw [spDHas_err hs]; decide)]
  · rw [if_neg h]
    have hx0 := h0 h
    subst hx0
    refine Rea.nop b _ (fun p => ?_) fun s hs => ?_
    · unfold spDHasN
      rw [if_neg (by rw [spDHas_out h]; decide)]
    · unfold spDHasN
      rw [if_neg (by rw [spDHas_out h]; decide)]
end
end Go.Proofs.YtjpeefegeobgfaaGreat.Sym
namespace Go.Proofs.YtjpeefegeobgfaaGreat.Sym
open Go
set_option linter.unusedSimpArgs false
set_option linter.unusedVariables false
noncomputable section
theorem Rd.part {b : List Int} {p : tPart.den} (h : tPart.wf p) (hb : p.2.1.2.1.length ≤ 2147483647) : Rd b p (wPart p) (spDPart b) :=
  (Rd.seq (fun a r => (a, r)) (Rd.num (wrapBE_i32 h.1)) (Rd.seq (fun a r => (a, r)) (Rd.blo p.2.1 hb) (Rd.nop b ()))).congr fun s => by unfold spDPart; rfl
theorem spSeq_good {a b : List Int × Int} (h : (spSeq a b).2 ≠ 0) : (spSeq a b).1 = [] := by
  unfold spSeq at h ⊢
  split
  · rfl
  · split
    · rfl
    · rename_i h1 h2
      rw [if_neg h1, if_neg h2] at h
      exact absurd rfl h
theorem spSeq_nil (a b : List Int × Int) : spSeq ([], 0) (spSeq a b) = spSeq a b := by
  by_cases h : (spSeq a b).2 = 0
  · have e : spSeq a b = ((spSeq a b).1, 0) := by rw [← h]
    rw [e]; unfold spSeq; simp
  · have := spSeq_good h
    have e : spSeq a b = ([], (spSeq a b).2) := by rw [← this]
    generalize spSeq a b = c at h e ⊢
    rw [e]
    unfold spSeq
    simp only [List.nil_append]
    rw [if_neg (by simp), if_pos h]
theorem take_last {r : List Int} (h : r ≠ []) : ∃ t, t ≠ [] ∧ r.take (r.length - 1) ++ t = r := ⟨r.drop (r.length - 1), by
  intro e
  have := congrArg List.length e
  have h1 := List.length_pos_iff.2 h
  simp only [List.length_drop, List.length_nil] at this
  omega, List.take_append_drop _ _⟩
theorem Rd.optSeq {β γ : Type} {b : List Int} {k : IntKind} {n : Nat} {x v lo hi : Int} {R : List Int × Int} {y : β} {g : DeS → β × DeS} (c : Int → β → γ) (hx : k.wrap (spBEv (spBE x n)) = x) (h0 : ¬ (lo ≤ v ∧ v ≤ hi) → x = 0) (hg : Rd b y R g) :
    Rd b (c x y) (if lo ≤ v ∧ v ≤ hi then spSeq (spBE x n, 0) R else R) fun s => (c (spDHasN k n v lo hi b s).1 (g (spDHasN k n v lo hi b s).2).1, (g (spDHasN k n v lo hi b s).2).2) := by
  by_cases h : lo ≤ v ∧ v ≤ hi
  · rw [if_pos h]
    have := Rd.seq c (Rd.opt (b := b) (k := k) (n := n) (v := v) (lo := lo) (hi := hi) hx h0) hg
    rw [if_pos h] at this
    exact this
  · rw [if_neg h]
    have hx0 := h0 h
    subst hx0
    intro hz
    have hr := hg hz
    exact (hr.map (c 0)).congr fun s => by
      have : spDHasN k n v lo hi b s = (0, s) := by unfold spDHasN; rw [if_neg (by rw [spDHas_out h]; decide)]
      rw [this]
theorem okDone_iff {v : Int} {p : tDone.den} (h : okDone v p = true) : (¬ (2 ≤ v ∧ v ≤ 3) → p.2.2.2.1 = 0) ∧ (¬ (3 ≤ v ∧ v ≤ 3) → p.2.2.2.2.1 = 0) := by
  unfold okDone at h
  simp only [Bool.and_eq_true] at h
  refine ⟨fun hv => ?_, fun hv => ?_⟩
  · have := h.1; rw [if_neg hv] at this; simpa using this
  · have := h.2; rw [if_neg hv] at this; simpa using this
theorem Rd.done {b : List Int} {p : tDone.den} {v : Int} (h : tDone.wf p) (hk : okDone v p = true) : Rd b p (wDone v p) (spDDone v b) :=
  (Rd.seq (fun a r => (a, r)) (Rd.num (wrapBE_i32 h.1)) (Rd.seq (fun a r => (a, r)) (Rd.num (wrapBE_i16 h.2.1)) (Rd.seq (fun a r => (a, r)) (Rd.num (wrapBE_i64 h.2.2.1))
    (Rd.optSeq (fun a r => (a, r)) (wrapBE_i64 h.2.2.2.1) (okDone_iff hk).1 (Rd.optSeq (fun a r => (a, r)) (wrapBE_i64 h.2.2.2.2.1) (okDone_iff hk).2 (Rd.nop b ())))))).congr fun s => by unfold spDDone spD3; rfl
theorem spArrW_len {α : Type} {w : α → List Int × Int} {l : List α} (h : (spArrW w l).2 = 0) : 4 ≤ (spArrW w l).1.length := by
  unfold spArrW at h ⊢
  split at h
  · cases h
  · rename_i h1
    rw [if_neg h1, (spSeq_zero h).2.2, List.length_append, spBE_len]; omega
end
end Go.Proofs.YtjpeefegeobgfaaGreat.Sym
namespace Go.Proofs.YtjpeefegeobgfaaGreat.Sym
open Go
set_option linter.unusedSimpArgs false
set_option linter.unusedVariables false
noncomputable section
theorem i64_i8 {n : Int} (h : inR .i8 n) : IntKind.i64.wrap n = n := by
  simp only [inR, IntKind.min, IntKind.max, IntKind.signed, IntKind.bits] at h
  simp at h
  exact wrap_i64 (by omega) (by omega)
theorem i8_id {n : Int} (h : inR .i8 n) : IntKind.i8.wrap n = n := by
  simp only [inR, IntKind.min, IntKind.max, IntKind.signed, IntKind.bits] at h
  exact wrap_id (by simp [inR, IntKind.min, IntKind.max, IntKind.signed, IntKind.bits]; simpa using h)
theorem spSeq_nilW {v : Int} (fs : List Fd) (ks : List Nd) : spSeq ([], 0) (spWZip v fs ks) = spWZip v fs ks := by
  induction fs generalizing ks with
  | nil => rw [spWZip_nl]; rfl
  | cons f fs ih =>
    cases ks with
    | nil => rw [spWZip]; rfl; all_goals simp
    | cons k ks =>
      rw [spWZip]
      split
      · exact spSeq_nil _ _
      · exact ih ks
theorem spWZ_o {nm : List Int} {k lo hi : Int} {e fs : List Fd} {n : Nd} {ks : List Nd} {v : Int} : spWZip v (fld nm k lo hi e :: fs) (n :: ks) = spSeq (if lo ≤ v ∧ v ≤ hi then spW (fld nm k lo hi e) v n else ([], 0)) (spWZip v fs ks) := by
  by_cases h : lo ≤ v ∧ v ≤ hi
  · rw [if_pos h, spWZ_has (spHas_in h.1 h.2)]
  · rw [if_neg h, spWZ_not (spHas_out (by omega)), spSeq_nilW]
theorem Rd.map {α β : Type} {b : List Int} {x : α} {w : List Int × Int} {f : DeS → α × DeS} (c : α → β) (h : Rd b x w f) : Rd b (c x) w fun s => (c (f s).1, (f s).2) := fun hz => (h hz).map c
end
end Go.Proofs.YtjpeefegeobgfaaGreat.Sym
namespace Go.Proofs.YtjpeefegeobgfaaGreat.Sym
open Go
set_option linter.unusedSimpArgs false
set_option linter.unusedVariables false
noncomputable section
abbrev toqPart : Ty := .prod (.int .i32) (.prod (.int .i32) (.prod (.int .i64) (.prod (.int .i32) .unit)))
abbrev toqTopic : Ty := .prod .str (.prod (.sl 113 toqPart) .unit)
abbrev toqMsg : Ty := .prod (.int .i32) (.prod (.int .i8) (.prod (.sl 111 toqTopic) .unit))
def spoqPE (v : Int) (p : toqPart.den) (s : EnS) : EnS := spHasE v 0 0 p.2.2.2.1 4 (spPutE p.2.2.1 8 (spHasE v 3 3 p.2.1 4 (spPutE p.1 4 (s))))
theorem spoqPE_le {s : EnS} (v : Int) (p : toqPart.den) (h : s.2.2.length ≤ 130048) : (spoqPE v p s).2.2.length ≤ 130048 :=
  spHasE_le _ _ _ _ _ (spPutE_le _ _ (spHasE_le _ _ _ _ _ (spPutE_le _ _ (h))))
abbrev iooqPart : Io := ⟨[.dat toqPart true false, .ptr 0 0], oEnc1, [], [], none⟩
def FoqPart (d : iooqPart.In) : Tr iooqPart.Res := .ite (encOk d.2.2) (.ret (.ret ((), encOut1 d.2.2.1.2.1 (spoqPE d.2.2.1.2.1 d.1.1 (encSt d.2.2))))) .no
abbrev csoqPart : List (Nat × Hc) := [(56, ioHd ioeI32 FeI32), (64, ioHd ioeI64 FeI64), (57, ioHd ioeHas FeHas)]
def hdoqPart : Hd := hdT csoqPart
def lpoqPart : Lp := lpT []
def bodyoqPart (a0 : Int) (a1 : Int) (a2 : Int) (a3 : Int) (a4 : Int) (a5 : Int) (a6 : Bool) (a7 : List Int) (a8 : Int) : Option iooqPart.Res := bif decide (a8 = 130048) && decide (a7.length ≤ 130048) then bif decide (130048 = 130048) && decide ((spPutE a0 4 (a5, a6, a7)).snd.snd.length ≤ 130048) then bif decide (3 ≤ a4) && decide (a4 ≤ 3) then bif decide (130048 = 130048) && decide ((spPutE a0 4 (a5, a6, a7)).snd.snd.length ≤ 130048) then bif decide (130048 = 130048) && decide ((spPutE a1 4 (spPutE a0 4 (a5, a6, a7))).snd.snd.length ≤ 130048) then bif decide (130048 = 130048) && decide ((spPutE a2 8 (spPutE a1 4 (spPutE a0 4 (a5, a6, a7)))).snd.snd.length ≤ 130048) then bif decide (0 ≤ a4) && decide (a4 ≤ 0) then bif decide (130048 = 130048) && decide ((spPutE a2 8 (spPutE a1 4 (spPutE a0 4 (a5, a6, a7)))).snd.snd.length ≤ 130048) then some (Out.ret ((), ((), ()), ((), a4, (spPutE a3 4 (spPutE a2 8 (spPutE a1 4 (spPutE a0 4 (a5, a6, a7))))).fst, (spPutE a3 4 (spPutE a2 8 (spPutE a1 4 (spPutE a0 4 (a5, a6, a7))))).snd.fst, ()), ((spPutE a3 4 (spPutE a2 8 (spPutE a1 4 (spPutE a0 4 (a5, a6, a7))))).snd.snd, 130048, ()), ())) else none else some (Out.ret ((), ((), ()), ((), a4, (spPutE a2 8 (spPutE a1 4 (spPutE a0 4 (a5, a6, a7)))).fst, (spPutE a2 8 (spPutE a1 4 (spPutE a0 4 (a5, a6, a7)))).snd.fst, ()), ((spPutE a2 8 (spPutE a1 4 (spPutE a0 4 (a5, a6, a7)))).snd.snd, 130048, ()), ())) else none else none else none else bif decide (130048 = 130048) && decide ((spPutE a0 4 (a5, a6, a7)).snd.snd.length ≤ 130048) then bif decide (130048 = 130048) && decide ((spPutE a2 8 (spPutE a0 4 (a5, a6, a7))).snd.snd.length ≤ 130048) then bif decide (0 ≤ a4) && decide (a4 ≤ 0) then bif decide (130048 = 130048) && decide ((spPutE a2 8 (spPutE a0 4 (a5, a6, a7))).snd.snd.length ≤ 130048) then some (Out.ret ((), ((), ()), ((), a4, (spPutE a3 4 (spPutE a2 8 (spPutE a0 4 (a5, a6, a7)))).fst, (spPutE a3 4 (spPutE a2 8 (spPutE a0 4 (a5, a6, a7)))).snd.fst, ()), ((spPutE a3 4 (spPutE a2 8 (spPutE a0 4 (a5, a6, a7)))).snd.snd, 130048, ()), ())) else none else some (Out.ret ((), ((), ()), ((), a4, (spPutE a2 8 (spPutE a0 4 (a5, a6, a7))).fst, (spPutE a2 8 (spPutE a0 4 (a5, a6, a7))).snd.fst, ()), ((spPutE a2 8 (spPutE a0 4 (a5, a6, a7))).snd.snd, 130048, ()), ())) else none else none else none else none
theorem runoqPart (a0 : Int) (a1 : Int) (a2 : Int) (a3 : Int) (a4 : Int) (a5 : Int) (a6 : Bool) (a7 : List Int) (a8 : Int) : Io.run tt hdoqPart dr lpoqPart iooqPart Go.Proofs.Tryz.f63 (((a0, a1, a2, a3, ()), (), ()), ((), ()), ((), a4, a5, a6, ()), (a7, a8, ()), ()) = bodyoqPart a0 a1 a2 a3 a4 a5 a6 a7 a8 := by kernel_rfl
theorem okoqPart : HcOk prog 63 (ioHd iooqPart FoqPart) := by
  refine fn_sound (n := 400) hm (cs := csoqPart) (.cons okeI32 (.cons okeI64 (.cons okeHas .nil))) (lp := lpoqPart) (fn := Go.Proofs.Tryz.f63) (by kernel_rfl) (by kernel_rfl) (by kernel_rfl) iooqPart (.done (by kernel_rfl)) FoqPart ?_
  rintro ⟨⟨⟨(ix : Int), (ep : Int), (ti : Int), (mo : Int), ⟨⟩⟩, ⟨⟩, ⟨⟩⟩, ⟨⟨⟩, ⟨⟩⟩, ⟨⟨⟩, (v : Int), (e : Int), (f : Bool), ⟨⟩⟩, ⟨(b : List Int), (m : Int), ⟨⟩⟩, ⟨⟩⟩ out hw ho
  obtain ⟨hg, ho⟩ := Tr.guard ho
  obtain ⟨rfl, hb⟩ := encOk_iff (v := v) (e := e) (f := f) hg
  cases ho
  refine (runoqPart ix ep ti mo v e f b 130048).trans ?_
  unfold bodyoqPart
  have hg : ∀ s : EnS, s.2.2.length ≤ 130048 → (decide ((130048 : Int) = 130048) && decide (s.2.2.length ≤ 130048)) = true := fun s h => by simpa using h
  have hb : (e, (f, b)).2.2.length ≤ 130048 := hb
  show _ = some (Out.ret ((), encOut1 v (spoqPE v (ix, (ep, (ti, (mo, ())))) (e, f, b))))
  refine (bif_true (hg _ hb) _ _).trans ?_
  have l0_1 := spPutE_le ix 4 hb
  refine (bif_true (hg _ l0_1) _ _).trans ?_
  by_cases h1_1 : 3 ≤ v ∧ v ≤ 3
  · refine (bif_true (by simpa using h1_1) _ _).trans ?_
    refine (bif_true (hg _ l0_1) _ _).trans ?_
    have l1_1 := spPutE_le ep 4 l0_1
    refine (bif_true (hg _ l1_1) _ _).trans ?_
    have l2_2 := spPutE_le ti 8 l1_1
    refine (bif_true (hg _ l2_2) _ _).trans ?_
    by_cases h3_2 : 0 ≤ v ∧ v ≤ 0
    · refine (bif_true (by simpa using h3_2) _ _).trans ?_
      refine (bif_true (hg _ l2_2) _ _).trans ?_
      have l3_2 := spPutE_le mo 4 l2_2
      simp only [spoqPE, spHasE_in h1_1, spHasE_in h3_2]
    · refine (bif_false (Bool.eq_false_iff.2 fun h' => h3_2 (by simpa using h')) _ _).trans ?_
      simp only [spoqPE, spHasE_in h1_1, spHasE_out h3_2]
  · refine (bif_false (Bool.eq_false_iff.2 fun h' => h1_1 (by simpa using h')) _ _).trans ?_
    refine (bif_true (hg _ l0_1) _ _).trans ?_
    have l2_2 := spPutE_le ti 8 l0_1
    refine (bif_true (hg _ l2_2) _ _).trans ?_
    by_cases h3_2 : 0 ≤ v ∧ v ≤ 0
    · refine (bif_true (by simpa using h3_2) _ _).trans ?_
      refine (bif_true (hg _ l2_2) _ _).trans ?_
      have l3_2 := spPutE_le mo 4 l2_2
      simp only [spoqPE, spHasE_out h1_1, spHasE_in h3_2]
    · refine (bif_false (Bool.eq_false_iff.2 fun h' => h3_2 (by simpa using h')) _ _).trans ?_
      simp only [spoqPE, spHasE_out h1_1, spHasE_out h3_2]
def spoqPsE (v : Int) (xs : List toqPart.den) (s : EnS) : EnS := spItems (spoqPE v) xs s
abbrev iooqParts : Io := ⟨[.ptr 0 0, .dat (.sl 113 toqPart) false false, .fnc 63 false [2]], oEncC, [], [], none⟩
def FoqParts (d : iooqParts.In) : Tr iooqParts.Res := .ite (encOkC d.2) (.ret (.ret ((), encOutC d.2.1.2.1 (spoqPsE d.2.1.2.1 d.1.2.1 (encStC d.2))))) .no
abbrev csoqParts : List (Nat × Hc) := [(137, ioHd ioeFail FeFail), (56, ioHd ioeI32 FeI32), (63, ioHd iooqPart FoqPart)]
def hdoqParts : Hd := hdT csoqParts
abbrev looqParts_5 : Lo := ⟨⟨[.any, .any, .one (.fnp 63 false [2]), .any, .any, .any, .any, .any, .any, .any, .any, .any, .any, .any, .any, .any, .any, .any, .one (.hol (.sl 113 toqPart)), .one (.hol (.int IntKind.i64)), .one (.hol (.int IntKind.i64)), .any, .any, .any, .any, .any, .any, .any], [some [.ptr 1 0, .hol (.int IntKind.i64), .hol (.int IntKind.i64), .hol .bool], some [.onl 5 (Ty.int IntKind.u8) 514, .hol (.int IntKind.i64)], some [.ptr 0 0]]⟩, [(.exit 0, ⟨[.any, .any, .any, .any, .any, .any, .any, .any, .any, .any, .any, .any, .any, .any, .any, .any, .any, .any, .any, .any, .any, .any, .any, .any, .any, .any, .any, .any], [some [.ptr 1 0, .hol (.int IntKind.i64), .hol (.int IntKind.i64), .hol .bool], some [.onl 5 (Ty.int IntKind.u8) 514, .hol (.int IntKind.i64)], some [.ptr 0 0]]⟩)]⟩
-- FoqParts_5 : looqParts_5.st.den → Tr (DenX looqParts_5.xs) | ((h6, (h7, (h8, ()))), ((h9, (h10, (h11, ()))), ((h12, (h13, ())), ((), ()))))
def FoqParts_5 (d : looqParts_5.st.den) : Tr (DenX looqParts_5.xs) :=
  .ite (decide (d.1.2.2.1 = 0) && (decide (d.1.2.1 = (d.1.1.length : Int)) && (decide (d.2.2.1.2.1 = 130048) && decide (d.2.2.1.1.length ≤ 130048)))) (.ret (.ret ((), ((), encOutB d.2.1.1 (d.1.1.foldl (fun s x => spoqPE d.2.1.1 x s) (d.2.1.2.1, (d.2.1.2.2.1, d.2.2.1.1))))))) .no
def lpoqParts : Lp := lpT [(5, loHd looqParts_5 FoqParts_5)]
def stepoqParts_5 {R : Type} (h6 : List toqPart.den) (h7 : Int) (h8 : Int) (h9 : Int) (h10 : Int) (h11 : Bool) (h12 : List Int) (h13 : Int) (next : List toqPart.den → Int → Int → Int → Int → Bool → List Int → Int → Option R) (out : DenX looqParts_5.xs → Option R) : Option R := bif decide (h8 < h7) then bif decide (0 ≤ h8) && decide (h8 < (↑h6.length : Int)) then bif decide (h13 = 130048) && decide (h12.length ≤ 130048) then next (h6) (h7) (IntKind.i64.wrap (h8 + 1)) (h9) ((spoqPE h9 (h6.getD h8.toNat (0, 0, 0, 0, ())) (h10, h11, h12)).fst) ((spoqPE h9 (h6.getD h8.toNat (0, 0, 0, 0, ())) (h10, h11, h12)).snd.fst) ((spoqPE h9 (h6.getD h8.toNat (0, 0, 0, 0, ())) (h10, h11, h12)).snd.snd) (130048) else none else none else out (.ret ((), ((), ((h9, (h10, (h11, ()))), ((h12, (h13, ())), ((), ()))))))
def itoqParts_5 (n : Nat) (h6 : List toqPart.den) (h7 : Int) (h8 : Int) (h9 : Int) (h10 : Int) (h11 : Bool) (h12 : List Int) (h13 : Int) : Option (DenX looqParts_5.xs) := lpN tt hdoqParts dr lpoqParts 3 Go.Proofs.Tryz.f62 (topL Go.Proofs.Tryz.f62 0) n (looqParts_5.st.mk' ((h6, (h7, (h8, ()))), ((h9, (h10, (h11, ()))), ((h12, (h13, ())), ((), ()))))) (decX looqParts_5.xs)
theorem sloqParts_5 (n : Nat) (h6 : List toqPart.den) (h7 : Int) (h8 : Int) (h9 : Int) (h10 : Int) (h11 : Bool) (h12 : List Int) (h13 : Int) : itoqParts_5 (n + 1) h6 h7 h8 h9 h10 h11 h12 h13 = stepoqParts_5 h6 h7 h8 h9 h10 h11 h12 h13 (itoqParts_5 n) some := by kernel_rfl
theorem loopoqParts {xs : List toqPart.den} (v : Int) (hl : xs.length ≤ maxLen) : ∀ (k i : Nat) (s : EnS), xs.length < i + k → i ≤ xs.length → s.2.2.length ≤ 130048 →
    itoqParts_5 k xs (xs.length : Int) i v s.1 s.2.1 s.2.2 130048 = some (.ret ((), ((), encOutB v ((xs.drop i).foldl (fun s x => spoqPE v x s) s)))) := by
  intro k
  induction k with
  | zero => intro i s h; omega
  | succ k ih =>
    intro i s h1 h2 h3
    rw [sloqParts_5]
    unfold stepoqParts_5
    by_cases hi : i < xs.length
    · refine (bif_true (decide_eq_true (show (i : Int) < (xs.length : Int) by omega)) _ _).trans ?_
      refine (bif_true (by simpa using hi) _ _).trans ?_
      simp only [Int.toNat_natCast, getD_lt hi, wrap_succ hi hl]
      have g : (decide ((130048 : Int) = 130048) && decide (s.2.2.length ≤ 130048)) = true := by
        simpa using h3
      refine (bif_true g _ _).trans ?_
      rw [List.drop_eq_getElem_cons hi]
      exact ih (i + 1) (spoqPE v xs[i] s) (by omega) (by omega) (spoqPE_le v _ h3)
    · refine (bif_false (by simp; omega) _ _).trans ?_
      rw [List.drop_of_length_le (by omega)]
      rfl
def bodyoqParts (a0 : List toqPart.den) (a1 : Int) (a2 : Int) (a3 : Bool) (a4 : List Int) (a5 : Int) : Option iooqParts.Res := bif decide (16 < (↑a0.length : Int)) then bif decide (a5 = 130048) && decide (a4.length ≤ 130048) then some (Out.ret ((), ((), a1, (spFail 9 (a2, a3, a4)).fst, (spFail 9 (a2, a3, a4)).snd.fst, ()), ((spFail 9 (a2, a3, a4)).snd.snd, 130048, ()), ((), ()), ())) else none else bif decide (a5 = 130048) && decide (a4.length ≤ 130048) then (FoqParts_5 ((a0, ((↑a0.length : Int), (0, ()))), ((a1, ((spPutE (IntKind.i32.wrap (↑a0.length : Int)) 4 (a2, a3, a4)).fst, ((spPutE (IntKind.i32.wrap (↑a0.length : Int)) 4 (a2, a3, a4)).snd.fst, ()))), (((spPutE (IntKind.i32.wrap (↑a0.length : Int)) 4 (a2, a3, a4)).snd.snd, (130048, ())), ((), ()))))).run fun y => match y with | .ret ((), ((), (x27, x28, x29, ()), (x30, x31, ()), (), ())) => (some (Out.ret ((), ((), x27, x28, x29, ()), (x30, x31, ()), ((), ()), ()))) else none
theorem runoqParts (a0 : List toqPart.den) (a1 : Int) (a2 : Int) (a3 : Bool) (a4 : List Int) (a5 : Int) : Io.run tt hdoqParts dr lpoqParts iooqParts Go.Proofs.Tryz.f62 (((), a0, (), ()), ((), a1, a2, a3, ()), (a4, a5, ()), ((), ()), ()) = bodyoqParts a0 a1 a2 a3 a4 a5 := by kernel_rfl
theorem okoqParts : HcOk prog 62 (ioHd iooqParts FoqParts) := by
  refine fn_sound (n := 400) hm (cs := csoqParts) (.cons okeFail (.cons okeI32 (.cons okoqPart .nil))) (lp := lpoqParts) (fn := Go.Proofs.Tryz.f62) (by kernel_rfl) (by kernel_rfl) (by kernel_rfl) iooqParts (.step (h0 := loHd looqParts_5 FoqParts_5) (by kernel_rfl) (loop_sound (n := 400) hm (cs := csoqParts) (.cons okeFail (.cons okeI32 (.cons okoqPart .nil))) (lp := lpoqParts) (fn := Go.Proofs.Tryz.f62) (.done (by kernel_rfl)) looqParts_5 FoqParts_5 ?_) (.done (by kernel_rfl))) FoqParts ?_
  · rintro ⟨⟨(xs : List toqPart.den), (n : Int), (i : Int), ⟨⟩⟩, ⟨⟨(v : Int), (e : Int), (f : Bool), ⟨⟩⟩, ⟨(b : List Int), (m : Int), ⟨⟩⟩, ⟨⟨⟩, ⟨⟩⟩⟩⟩ y hw hy
    obtain ⟨hg, hy⟩ := Tr.guard hy
    simp only [Bool.and_eq_true, decide_eq_true_eq] at hg
    obtain ⟨rfl, rfl, rfl, h4⟩ := hg
    have h4 : b.length ≤ 130048 := h4
    have hl : xs.length ≤ maxLen := hw.1.1.1
    refine ⟨xs.length + 1, (loopoqParts v hl (xs.length + 1) 0 (e, (f, b)) (by omega) (by omega) h4).trans ?_⟩
    rw [← hy]; rfl
  · rintro ⟨⟨⟨⟩, (xs : List toqPart.den), ⟨⟩, ⟨⟩⟩, ⟨⟨⟩, (v : Int), (e : Int), (f : Bool), ⟨⟩⟩, ⟨(b : List Int), (m : Int), ⟨⟩⟩, ⟨⟨⟩, ⟨⟩⟩, ⟨⟩⟩ out hw ho
    obtain ⟨hg, ho⟩ := Tr.guard ho
    obtain ⟨rfl, hb⟩ := encOk_iff (v := v) (e := e) (f := f) hg
    cases ho
    refine (runoqParts xs v e f b 130048).trans ?_
    unfold bodyoqParts
    have g : (decide ((130048 : Int) = 130048) && decide (b.length ≤ 130048)) = true := by simpa using hb
    show _ = some (Out.ret ((), encOutC v (spItems (spoqPE v) xs (e, f, b))))
    unfold spItems
    by_cases h : 16 < (xs.length : Int)
    · rw [if_pos h]
      refine (bif_true (decide_eq_true h) _ _).trans ?_
      exact bif_true g _ _
    · rw [if_neg h]
      refine (bif_false (decide_eq_false h) _ _).trans ?_
      refine (bif_true g _ _).trans ?_
      have hw32 : IntKind.i32.wrap (xs.length : Int) = xs.length := wrap_id (by simp [inR, IntKind.min, IntKind.max, IntKind.signed, IntKind.bits]; omega)
      rw [hw32]
      have c1 : (decide ((0 : Int) = 0) && (decide ((xs.length : Int) = (xs.length : Int)) && (decide ((130048 : Int) = 130048) && decide ((spPutE xs.length 4 (e, f, b)).2.2.length ≤ 130048)))) = true := by
        simpa using spPutE_le (s := (e, f, b)) _ 4 hb
      have e1 : FoqParts_5 ((xs, ((xs.length : Int), (0, ()))), ((v, ((spPutE xs.length 4 (e, f, b)).1, ((spPutE xs.length 4 (e, f, b)).2.1, ()))), (((spPutE xs.length 4 (e, f, b)).2.2, (130048, ())), ((), ())))) =
          .ite true (.ret (.ret ((), ((), encOutB v (xs.foldl (fun s x => spoqPE v x s) (spPutE xs.length 4 (e, f, b))))))) .no := congrArg (fun c => Tr.ite c _ _) c1
      rw [e1]
      rfl
def spoqTE (v : Int) (t : toqTopic.den) (s : EnS) : EnS := spoqPsE v t.2.1 (spStrE t.1 s)
abbrev iooqTopic : Io := ⟨[.dat toqTopic true false, .ptr 0 0], oEnc1, [], [], none⟩
def FoqTopic (d : iooqTopic.In) : Tr iooqTopic.Res := .ite (encOk d.2.2) (.ret (.ret ((), encOut1 d.2.2.1.2.1 (spoqTE d.2.2.1.2.1 d.1.1 (encSt d.2.2))))) .no
abbrev csoqTopic : List (Nat × Hc) := [(61, ioHd ioeStr FeStr), (62, ioHd iooqParts FoqParts)]
def hdoqTopic : Hd := hdT csoqTopic
def lpoqTopic : Lp := lpT []
def bodyoqTopic (a0 : List Int) (a1 : List toqPart.den) (a2 : Int) (a3 : Int) (a4 : Bool) (a5 : List Int) (a6 : Int) : Option iooqTopic.Res := bif decide (a6 = 130048) && decide (a5.length ≤ 130048) then bif decide (130048 = 130048) && decide ((spStrE a0 (a3, a4, a5)).snd.snd.length ≤ 130048) then some (Out.ret ((), ((), ()), ((), a2, (spoqPsE a2 a1 (spStrE a0 (a3, a4, a5))).fst, (spoqPsE a2 a1 (spStrE a0 (a3, a4, a5))).snd.fst, ()), ((spoqPsE a2 a1 (spStrE a0 (a3, a4, a5))).snd.snd, 130048, ()), ())) else none else none
theorem runoqTopic (a0 : List Int) (a1 : List toqPart.den) (a2 : Int) (a3 : Int) (a4 : Bool) (a5 : List Int) (a6 : Int) : Io.run tt hdoqTopic dr lpoqTopic iooqTopic Go.Proofs.Tryz.f60 (((a0, a1, ()), (), ()), ((), ()), ((), a2, a3, a4, ()), (a5, a6, ()), ()) = bodyoqTopic a0 a1 a2 a3 a4 a5 a6 := by kernel_rfl
theorem okoqTopic : HcOk prog 60 (ioHd iooqTopic FoqTopic) := by
  refine fn_sound (n := 400) hm (cs := csoqTopic) (.cons okeStr (.cons okoqParts .nil)) (lp := lpoqTopic) (fn := Go.Proofs.Tryz.f60) (by kernel_rfl) (by kernel_rfl) (by kernel_rfl) iooqTopic (.done (by kernel_rfl)) FoqTopic ?_
  rintro ⟨⟨⟨(t : List Int), (ps : List toqPart.den), ⟨⟩⟩, ⟨⟩, ⟨⟩⟩, ⟨⟨⟩, ⟨⟩⟩, ⟨⟨⟩, (v : Int), (e : Int), (f : Bool), ⟨⟩⟩, ⟨(b : List Int), (m : Int), ⟨⟩⟩, ⟨⟩⟩ out hw ho
  obtain ⟨hg, ho⟩ := Tr.guard ho
  obtain ⟨rfl, hb⟩ := encOk_iff (v := v) (e := e) (f := f) hg
  cases ho
  refine (runoqTopic t ps v e f b 130048).trans ?_
  unfold bodyoqTopic
  refine (bif_true (by simpa using hb) _ _).trans ?_
  refine (bif_true (by simpa using spStrE_le (s := (e, f, b)) t hb) _ _).trans ?_
  rfl
theorem spoqTE_le {s : EnS} (v : Int) (t : toqTopic.den) (h : s.2.2.length ≤ 130048) : (spoqTE v t s).2.2.length ≤ 130048 := spItems_le (fun x s => spoqPE_le v x) _ (spStrE_le _ h)
def spoqTsE (v : Int) (xs : List toqTopic.den) (s : EnS) : EnS := spItems (spoqTE v) xs s
abbrev iooqTopics : Io := ⟨[.ptr 0 0, .dat (.sl 111 toqTopic) false false, .fnc 60 false [2]], oEncC, [], [], none⟩
def FoqTopics (d : iooqTopics.In) : Tr iooqTopics.Res := .ite (encOkC d.2) (.ret (.ret ((), encOutC d.2.1.2.1 (spoqTsE d.2.1.2.1 d.1.2.1 (encStC d.2))))) .no
abbrev csoqTopics : List (Nat × Hc) := [(137, ioHd ioeFail FeFail), (56, ioHd ioeI32 FeI32), (60, ioHd iooqTopic FoqTopic)]
def hdoqTopics : Hd := hdT csoqTopics
abbrev looqTopics_5 : Lo := ⟨⟨[.any, .any, .one (.fnp 60 false [2]), .any, .any, .any, .any, .any, .any, .any, .any, .any, .any, .any, .any, .any, .any, .any, .one (.hol (.sl 111 toqTopic)), .one (.hol (.int IntKind.i64)), .one (.hol (.int IntKind.i64)), .any, .any, .any, .any, .any, .any, .any], [some [.ptr 1 0, .hol (.int IntKind.i64), .hol (.int IntKind.i64), .hol .bool], some [.onl 5 (Ty.int IntKind.u8) 514, .hol (.int IntKind.i64)], some [.ptr 0 0]]⟩, [(.exit 0, ⟨[.any, .any, .any, .any, .any, .any, .any, .any, .any, .any, .any, .any, .any, .any, .any, .any, .any, .any, .any, .any, .any, .any, .any, .any, .any, .any, .any, .any], [some [.ptr 1 0, .hol (.int IntKind.i64), .hol (.int IntKind.i64), .hol .bool], some [.onl 5 (Ty.int IntKind.u8) 514, .hol (.int IntKind.i64)], some [.ptr 0 0]]⟩)]⟩
-- FoqTopics_5 : looqTopics_5.st.den → Tr (DenX looqTopics_5.xs) | ((h6, (h7, (h8, ()))), ((h9, (h10, (h11, ()))), ((h12, (h13, ())), ((), ()))))
def FoqTopics_5 (d : looqTopics_5.st.den) : Tr (DenX looqTopics_5.xs) :=
  .ite (decide (d.1.2.2.1 = 0) && (decide (d.1.2.1 = (d.1.1.length : Int)) && (decide (d.2.2.1.2.1 = 130048) && decide (d.2.2.1.1.length ≤ 130048)))) (.ret (.ret ((), ((), encOutB d.2.1.1 (d.1.1.foldl (fun s x => spoqTE d.2.1.1 x s) (d.2.1.2.1, (d.2.1.2.2.1, d.2.2.1.1))))))) .no
def lpoqTopics : Lp := lpT [(5, loHd looqTopics_5 FoqTopics_5)]
def stepoqTopics_5 {R : Type} (h6 : List toqTopic.den) (h7 : Int) (h8 : Int) (h9 : Int) (h10 : Int) (h11 : Bool) (h12 : List Int) (h13 : Int) (next : List toqTopic.den → Int → Int → Int → Int → Bool → List Int → Int → Option R) (out : DenX looqTopics_5.xs → Option R) : Option R := bif decide (h8 < h7) then bif decide (0 ≤ h8) && decide (h8 < (↑h6.length : Int)) then bif decide (h13 = 130048) && decide (h12.length ≤ 130048) then next (h6) (h7) (IntKind.i64.wrap (h8 + 1)) (h9) ((spoqTE h9 (h6.getD h8.toNat ([], [], ())) (h10, h11, h12)).fst) ((spoqTE h9 (h6.getD h8.toNat ([], [], ())) (h10, h11, h12)).snd.fst) ((spoqTE h9 (h6.getD h8.toNat ([], [], ())) (h10, h11, h12)).snd.snd) (130048) else none else none else out (.ret ((), ((), ((h9, (h10, (h11, ()))), ((h12, (h13, ())), ((), ()))))))
def itoqTopics_5 (n : Nat) (h6 : List toqTopic.den) (h7 : Int) (h8 : Int) (h9 : Int) (h10 : Int) (h11 : Bool) (h12 : List Int) (h13 : Int) : Option (DenX looqTopics_5.xs) := lpN tt hdoqTopics dr lpoqTopics 3 Go.Proofs.Tryz.f59 (topL Go.Proofs.Tryz.f59 0) n (looqTopics_5.st.mk' ((h6, (h7, (h8, ()))), ((h9, (h10, (h11, ()))), ((h12, (h13, ())), ((), ()))))) (decX looqTopics_5.xs)
theorem sloqTopics_5 (n : Nat) (h6 : List toqTopic.den) (h7 : Int) (h8 : Int) (h9 : Int) (h10 : Int) (h11 : Bool) (h12 : List Int) (h13 : Int) : itoqTopics_5 (n + 1) h6 h7 h8 h9 h10 h11 h12 h13 = stepoqTopics_5 h6 h7 h8 h9 h10 h11 h12 h13 (itoqTopics_5 n) some := by kernel_rfl
theorem loopoqTopics {xs : List toqTopic.den} (v : Int) (hl : xs.length ≤ maxLen) : ∀ (k i : Nat) (s : EnS), xs.length < i + k → i ≤ xs.length → s.2.2.length ≤ 130048 →
    itoqTopics_5 k xs (xs.length : Int) i v s.1 s.2.1 s.2.2 130048 = some (.ret ((), ((), encOutB v ((xs.drop i).foldl (fun s x => spoqTE v x s) s)))) := by
  intro k
  induction k with
  | zero => intro i s h; omega
  | succ k ih =>
    intro i s h1 h2 h3
    rw [sloqTopics_5]
    unfold stepoqTopics_5
    by_cases hi : i < xs.length
    · refine (bif_true (decide_eq_true (show (i : Int) < (xs.length : Int) by omega)) _ _).trans ?_
      refine (bif_true (by simpa using hi) _ _).trans ?_
      simp only [Int.toNat_natCast, getD_lt hi, wrap_succ hi hl]
      have g : (decide ((130048 : Int) = 130048) && decide (s.2.2.length ≤ 130048)) = true := by
        simpa using h3
      refine (bif_true g _ _).trans ?_
      rw [List.drop_eq_getElem_cons hi]
      exact ih (i + 1) (spoqTE v xs[i] s) (by omega) (by omega) (spoqTE_le v _ h3)
    · refine (bif_false (by simp; omega) _ _).trans ?_
      rw [List.drop_of_length_le (by omega)]
      rfl
def bodyoqTopics (a0 : List toqTopic.den) (a1 : Int) (a2 : Int) (a3 : Bool) (a4 : List Int) (a5 : Int) : Option iooqTopics.Res := bif decide (16 < (↑a0.length : Int)) then bif decide (a5 = 130048) && decide (a4.length ≤ 130048) then some (Out.ret ((), ((), a1, (spFail 9 (a2, a3, a4)).fst, (spFail 9 (a2, a3, a4)).snd.fst, ()), ((spFail 9 (a2, a3, a4)).snd.snd, 130048, ()), ((), ()), ())) else none else bif decide (a5 = 130048) && decide (a4.length ≤ 130048) then (FoqTopics_5 ((a0, ((↑a0.length : Int), (0, ()))), ((a1, ((spPutE (IntKind.i32.wrap (↑a0.length : Int)) 4 (a2, a3, a4)).fst, ((spPutE (IntKind.i32.wrap (↑a0.length : Int)) 4 (a2, a3, a4)).snd.fst, ()))), (((spPutE (IntKind.i32.wrap (↑a0.length : Int)) 4 (a2, a3, a4)).snd.snd, (130048, ())), ((), ()))))).run fun y => match y with | .ret ((), ((), (x27, x28, x29, ()), (x30, x31, ()), (), ())) => (some (Out.ret ((), ((), x27, x28, x29, ()), (x30, x31, ()), ((), ()), ()))) else none
theorem runoqTopics (a0 : List toqTopic.den) (a1 : Int) (a2 : Int) (a3 : Bool) (a4 : List Int) (a5 : Int) : Io.run tt hdoqTopics dr lpoqTopics iooqTopics Go.Proofs.Tryz.f59 (((), a0, (), ()), ((), a1, a2, a3, ()), (a4, a5, ()), ((), ()), ()) = bodyoqTopics a0 a1 a2 a3 a4 a5 := by kernel_rfl
theorem okoqTopics : HcOk prog 59 (ioHd iooqTopics FoqTopics) := by
  refine fn_sound (n := 400) hm (cs := csoqTopics) (.cons okeFail (.cons okeI32 (.cons okoqTopic .nil))) (lp := lpoqTopics) (fn := Go.Proofs.Tryz.f59) (by kernel_rfl) (by kernel_rfl) (by kernel_rfl) iooqTopics (.step (h0 := loHd looqTopics_5 FoqTopics_5) (by kernel_rfl) (loop_sound (n := 400) hm (cs := csoqTopics) (.cons okeFail (.cons okeI32 (.cons okoqTopic .nil))) (lp := lpoqTopics) (fn := Go.Proofs.Tryz.f59) (.done (by kernel_rfl)) looqTopics_5 FoqTopics_5 ?_) (.done (by kernel_rfl))) FoqTopics ?_
  · rintro ⟨⟨(xs : List toqTopic.den), (n : Int), (i : Int), ⟨⟩⟩, ⟨⟨(v : Int), (e : Int), (f : Bool), ⟨⟩⟩, ⟨(b : List Int), (m : Int), ⟨⟩⟩, ⟨⟨⟩, ⟨⟩⟩⟩⟩ y hw hy
    obtain ⟨hg, hy⟩ := Tr.guard hy
    simp only [Bool.and_eq_true, decide_eq_true_eq] at hg
    obtain ⟨rfl, rfl, rfl, h4⟩ := hg
    have h4 : b.length ≤ 130048 := h4
    have hl : xs.length ≤ maxLen := hw.1.1.1
    refine ⟨xs.length + 1, (loopoqTopics v hl (xs.length + 1) 0 (e, (f, b)) (by omega) (by omega) h4).trans ?_⟩
    rw [← hy]; rfl
  · rintro ⟨⟨⟨⟩, (xs : List toqTopic.den), ⟨⟩, ⟨⟩⟩, ⟨⟨⟩, (v : Int), (e : Int), (f : Bool), ⟨⟩⟩, ⟨(b : List Int), (m : Int), ⟨⟩⟩, ⟨⟨⟩, ⟨⟩⟩, ⟨⟩⟩ out hw ho
    obtain ⟨hg, ho⟩ := Tr.guard ho
    obtain ⟨rfl, hb⟩ := encOk_iff (v := v) (e := e) (f := f) hg
    cases ho
    refine (runoqTopics xs v e f b 130048).trans ?_
    unfold bodyoqTopics
    have g : (decide ((130048 : Int) = 130048) && decide (b.length ≤ 130048)) = true := by simpa using hb
    show _ = some (Out.ret ((), encOutC v (spItems (spoqTE v) xs (e, f, b))))
    unfold spItems
    by_cases h : 16 < (xs.length : Int)
    · rw [if_pos h]
      refine (bif_true (decide_eq_true h) _ _).trans ?_
      exact bif_true g _ _
    · rw [if_neg h]
      refine (bif_false (decide_eq_false h) _ _).trans ?_
      refine (bif_true g _ _).trans ?_
      have hw32 : IntKind.i32.wrap (xs.length : Int) = xs.length := wrap_id (by simp [inR, IntKind.min, IntKind.max, IntKind.signed, IntKind.bits]; omega)
      rw [hw32]
      have c1 : (decide ((0 : Int) = 0) && (decide ((xs.length : Int) = (xs.length : Int)) && (decide ((130048 : Int) = 130048) && decide ((spPutE xs.length 4 (e, f, b)).2.2.length ≤ 130048)))) = true := by
        simpa using spPutE_le (s := (e, f, b)) _ 4 hb
      have e1 : FoqTopics_5 ((xs, ((xs.length : Int), (0, ()))), ((v, ((spPutE xs.length 4 (e, f, b)).1, ((spPutE xs.length 4 (e, f, b)).2.1, ()))), (((spPutE xs.length 4 (e, f, b)).2.2, (130048, ())), ((), ())))) =
          .ite true (.ret (.ret ((), ((), encOutB v (xs.foldl (fun s x => spoqTE v x s) (spPutE xs.length 4 (e, f, b))))))) .no := congrArg (fun c => Tr.ite c _ _) c1
      rw [e1]
      rfl
def spoqLP (v : Int) (p : toqPart.den) (s : EnS) : EnS := spLacks v (p.2.2.2.1 == 0) 0 0 (spLacks v (p.2.1 == 0) 3 3 (s))
def spoqLPs (v : Int) (ps : List toqPart.den) (s : EnS) : EnS := ps.foldl (fun s p => spoqLP v p s) s
def spoqLR (v : Int) (ts : List toqTopic.den) (s : EnS) : EnS := ts.foldl (fun s t => spoqLPs v t.2.1 s) s
def spoqE (v : Int) (m : toqMsg.den) : EnS := spoqTsE v m.2.2.1 (spHasE v 2 3 m.2.1 1 (spPutE m.1 4 (spoqLR v m.2.2.1 (spLacks v (m.2.1 == 0) 2 3 (spNewE v, (false, ([] : List Int)))))))
abbrev iooqMsg : Io := ⟨[dI, .dat toqMsg true false], [], [], [dO, dI], none⟩
def FoqMsg (d : iooqMsg.In) : Tr iooqMsg.Res := .ret (.ret ((spDoneO (spoqE d.1.1 d.1.2.1), (spDoneE (spoqE d.1.1 d.1.2.1), ())), ()))
abbrev csoqMsg : List (Nat × Hc) := [(54, ioHd ioeNew FeNew), (55, ioHd ioeLacks FeLacks), (57, ioHd ioeHas FeHas), (56, ioHd ioeI32 FeI32), (58, ioHd ioeI8 FeI8), (59, ioHd iooqTopics FoqTopics), (65, ioHd ioeDone FeDone)]
def hdoqMsg : Hd := hdT csoqMsg
abbrev looqMsg_8 : Lo := ⟨⟨[.any, .any, .any, .one (.ptr 3 0), .any, .any, .one (.ptr 6 0), .any, .any, .any, .any, .any, .any, .any, .any, .any, .any, .any, .any, .one (.hol (.sl 111 toqTopic)), .one (.hol (.int IntKind.i64)), .one (.hol (.int IntKind.i64)), .any, .any, .any, .any, .one (.hol (.sl 113 toqPart)), .one (.hol (.int IntKind.i64)), .one (.hol (.int IntKind.i64)), .any, .any, .any, .any, .any, .any, .any, .any, .any, .any, .any, .any, .any, .any, .any, .any, .any, .any, .any, .any, .any, .any, .any, .any, .any, .any, .any, .any, .any, .any, .any, .any, .any, .any], [none, none, none, some [.hol (.int IntKind.i32), .hol (.int IntKind.i8), .hol (.sl 111 toqTopic)], none, none, some [.ptr 12 0], none, none, none, none, none, some [.ptr 13 0, .hol (.int IntKind.i64), .hol (.int IntKind.i64), .hol .bool], some [.onl 5 (Ty.int IntKind.u8) 6658, .hol (.int IntKind.i64)]]⟩, [(.exit 2, ⟨[.any, .any, .any, .one (.ptr 3 0), .any, .any, .one (.ptr 6 0), .any, .any, .any, .any, .any, .any, .any, .any, .any, .any, .any, .any, .one (.hol (.sl 111 toqTopic)), .one (.hol (.int IntKind.i64)), .one (.hol (.int IntKind.i64)), .any, .any, .any, .any, .any, .any, .any, .any, .any, .any, .any, .any, .any, .any, .any, .any, .any, .any, .any, .any, .any, .any, .any, .any, .any, .any, .any, .any, .any, .any, .any, .any, .any, .any, .any, .any, .any, .any, .any, .any, .any], [none, none, none, some [.hol (.int IntKind.i32), .hol (.int IntKind.i8), .hol (.sl 111 toqTopic)], none, none, some [.ptr 12 0], none, none, none, none, none, some [.ptr 13 0, .hol (.int IntKind.i64), .hol (.int IntKind.i64), .hol .bool], some [.onl 5 (Ty.int IntKind.u8) 6658, .hol (.int IntKind.i64)]]⟩)]⟩
-- FoqMsg_8 : looqMsg_8.st.den → Tr (DenX looqMsg_8.xs) | ((h15, (h16, (h17, (h18, (h19, (h20, ())))))), ((h21, (h22, (h23, ()))), ((), ((h24, (h25, (h26, ()))), ((h27, (h28, ())), ())))))
abbrev looqMsg_5 : Lo := ⟨⟨[.any, .any, .any, .one (.ptr 3 0), .any, .any, .one (.ptr 6 0), .any, .any, .any, .any, .any, .any, .any, .any, .any, .any, .any, .any, .one (.hol (.sl 111 toqTopic)), .one (.hol (.int IntKind.i64)), .one (.hol (.int IntKind.i64)), .any, .any, .any, .any, .any, .any, .any, .any, .any, .any, .any, .any, .any, .any, .any, .any, .any, .any, .any, .any, .any, .any, .any, .any, .any, .any, .any, .any, .any, .any, .any, .any, .any, .any, .any, .any, .any, .any, .any, .any, .any], [none, none, none, some [.hol (.int IntKind.i32), .hol (.int IntKind.i8), .hol (.sl 111 toqTopic)], none, none, some [.ptr 12 0], none, none, none, none, none, some [.ptr 13 0, .hol (.int IntKind.i64), .hol (.int IntKind.i64), .hol .bool], some [.onl 5 (Ty.int IntKind.u8) 6658, .hol (.int IntKind.i64)]]⟩, [(.exit 0, ⟨[.any, .any, .any, .one (.ptr 3 0), .any, .any, .one (.ptr 6 0), .any, .any, .any, .any, .any, .any, .any, .any, .any, .any, .any, .any, .any, .any, .any, .any, .any, .any, .any, .any, .any, .any, .any, .any, .any, .any, .any, .any, .any, .any, .any, .any, .any, .any, .any, .any, .any, .any, .any, .any, .any, .any, .any, .any, .any, .any, .any, .any, .any, .any, .any, .any, .any, .any, .any, .any], [none, none, none, some [.hol (.int IntKind.i32), .hol (.int IntKind.i8), .hol (.sl 111 toqTopic)], none, none, some [.ptr 12 0], none, none, none, none, none, some [.ptr 13 0, .hol (.int IntKind.i64), .hol (.int IntKind.i64), .hol .bool], some [.onl 5 (Ty.int IntKind.u8) 6658, .hol (.int IntKind.i64)]]⟩)]⟩
-- FoqMsg_5 : looqMsg_5.st.den → Tr (DenX looqMsg_5.xs) | ((h4, (h5, (h6, ()))), ((h7, (h8, (h9, ()))), ((), ((h10, (h11, (h12, ()))), ((h13, (h14, ())), ())))))
abbrev outBoq (re' : Int) (lv' : Int) (ts' : List toqTopic.den) (v : Int) (s : EnS) : (Int × (Int × (List toqTopic.den × Unit))) × (Unit × ((Int × (Int × (Bool × Unit))) × ((List Int × (Int × Unit)) × Unit))) := ((re', (lv', (ts', ()))), ((), ((v, (s.1, (s.2.1, ()))), ((s.2.2, (130048, ())), ()))))
def FoqMsg_8 (d : looqMsg_8.st.den) : Tr (DenX looqMsg_8.xs) :=
  .ite (decide (d.1.2.2.2.2.2.1 = 0) && (decide (d.1.2.2.2.2.1 = (d.1.2.2.2.1.length : Int)) && (decide (d.2.2.2.2.1.2.1 = 130048) && decide (d.2.2.2.2.1.1.length ≤ 130048)))) (.ret (.ret ((), ((d.1.1, (d.1.2.1, (d.1.2.2.1, ()))), outBoq d.2.1.1 d.2.1.2.1 d.2.1.2.2.1 d.2.2.2.1.1 (spoqLPs d.2.2.2.1.1 d.1.2.2.2.1 (d.2.2.2.1.2.1, (d.2.2.2.1.2.2.1, d.2.2.2.2.1.1))))))) .no
def FoqMsg_5 (d : looqMsg_5.st.den) : Tr (DenX looqMsg_5.xs) :=
  .ite (decide (d.1.2.2.1 = 0) && (decide (d.1.2.1 = (d.1.1.length : Int)) && (decide (d.2.2.2.2.1.2.1 = 130048) && decide (d.2.2.2.2.1.1.length ≤ 130048)))) (.ret (.ret ((), ((), outBoq d.2.1.1 d.2.1.2.1 d.2.1.2.2.1 d.2.2.2.1.1 (spoqLR d.2.2.2.1.1 d.1.1 (d.2.2.2.1.2.1, (d.2.2.2.1.2.2.1, d.2.2.2.2.1.1))))))) .no
def lpoqMsg : Lp := lpT [(5, loHd looqMsg_5 FoqMsg_5), (8, loHd looqMsg_8 FoqMsg_8)]
def stepoqMsg_8 {R : Type} (h15 : List toqTopic.den) (h16 : Int) (h17 : Int) (h18 : List toqPart.den) (h19 : Int) (h20 : Int) (h21 : Int) (h22 : Int) (h23 : List toqTopic.den) (h24 : Int) (h25 : Int) (h26 : Bool) (h27 : List Int) (h28 : Int) (next : List toqTopic.den → Int → Int → List toqPart.den → Int → Int → Int → Int → List toqTopic.den → Int → Int → Bool → List Int → Int → Option R) (out : DenX looqMsg_8.xs → Option R) : Option R := bif decide (h20 < h19) then bif decide (0 ≤ h20) && decide (h20 < (↑h18.length : Int)) then bif decide (h28 = 130048) && decide (h27.length ≤ 130048) then bif decide (130048 = 130048) && decide ((spLacks h24 ((h18.getD h20.toNat (0, 0, 0, 0, ())).snd.fst == 0) 3 3 (h25, h26, h27)).snd.snd.length ≤ 130048) then next (h15) (h16) (h17) (h18) (h19) (IntKind.i64.wrap (h20 + 1)) (h21) (h22) (h23) (h24) ((spLacks h24 ((h18.getD h20.toNat (0, 0, 0, 0, ())).snd.snd.snd.fst == 0) 0 0 (spLacks h24 ((h18.getD h20.toNat (0, 0, 0, 0, ())).snd.fst == 0) 3 3 (h25, h26, h27))).fst) ((spLacks h24 ((h18.getD h20.toNat (0, 0, 0, 0, ())).snd.snd.snd.fst == 0) 0 0 (spLacks h24 ((h18.getD h20.toNat (0, 0, 0, 0, ())).snd.fst == 0) 3 3 (h25, h26, h27))).snd.fst) ((spLacks h24 ((h18.getD h20.toNat (0, 0, 0, 0, ())).snd.snd.snd.fst == 0) 0 0 (spLacks h24 ((h18.getD h20.toNat (0, 0, 0, 0, ())).snd.fst == 0) 3 3 (h25, h26, h27))).snd.snd) (130048) else none else none else none else out (.ret ((), ((h15, (h16, (h17, ()))), ((h21, (h22, (h23, ()))), ((), ((h24, (h25, (h26, ()))), ((h27, (h28, ())), ())))))))
def itoqMsg_8 (n : Nat) (h15 : List toqTopic.den) (h16 : Int) (h17 : Int) (h18 : List toqPart.den) (h19 : Int) (h20 : Int) (h21 : Int) (h22 : Int) (h23 : List toqTopic.den) (h24 : Int) (h25 : Int) (h26 : Bool) (h27 : List Int) (h28 : Int) : Option (DenX looqMsg_8.xs) := lpN tt hdoqMsg dr lpoqMsg 0 Go.Proofs.Tryz.f16 (subL Go.Proofs.Tryz.f16 (topL Go.Proofs.Tryz.f16 0) 0) n (looqMsg_8.st.mk' ((h15, (h16, (h17, (h18, (h19, (h20, ())))))), ((h21, (h22, (h23, ()))), ((), ((h24, (h25, (h26, ()))), ((h27, (h28, ())), ())))))) (decX looqMsg_8.xs)
theorem sloqMsg_8 (n : Nat) (h15 : List toqTopic.den) (h16 : Int) (h17 : Int) (h18 : List toqPart.den) (h19 : Int) (h20 : Int) (h21 : Int) (h22 : Int) (h23 : List toqTopic.den) (h24 : Int) (h25 : Int) (h26 : Bool) (h27 : List Int) (h28 : Int) : itoqMsg_8 (n + 1) h15 h16 h17 h18 h19 h20 h21 h22 h23 h24 h25 h26 h27 h28 = stepoqMsg_8 h15 h16 h17 h18 h19 h20 h21 h22 h23 h24 h25 h26 h27 h28 (itoqMsg_8 n) some := by kernel_rfl
def stepoqMsg_5 {R : Type} (h4 : List toqTopic.den) (h5 : Int) (h6 : Int) (h7 : Int) (h8 : Int) (h9 : List toqTopic.den) (h10 : Int) (h11 : Int) (h12 : Bool) (h13 : List Int) (h14 : Int) (next : List toqTopic.den → Int → Int → Int → Int → List toqTopic.den → Int → Int → Bool → List Int → Int → Option R) (out : DenX looqMsg_5.xs → Option R) : Option R := bif decide (h6 < h5) then bif decide (0 ≤ h6) && decide (h6 < (↑h4.length : Int)) then (FoqMsg_8 ((h4, (h5, (h6, ((h4.getD h6.toNat ([], [], ())).snd.fst, ((↑(List.length (h4.getD h6.toNat ([], [], ())).snd.fst) : Int), (0, ())))))), ((h7, (h8, (h9, ()))), ((), ((h10, (h11, (h12, ()))), ((h13, (h14, ())), ())))))).run fun y => match y with | .ret ((), ((x54, x55, x56, ()), (x57, x58, x59, ()), (), (x60, x61, x62, ()), (x63, x64, ()), ())) => (next (x54) (x55) (IntKind.i64.wrap (x56 + 1)) (x57) (x58) (x59) (x60) (x61) (x62) (x63) (x64)) else none else out (.ret ((), ((), ((h7, (h8, (h9, ()))), ((), ((h10, (h11, (h12, ()))), ((h13, (h14, ())), ())))))))
def itoqMsg_5 (n : Nat) (h4 : List toqTopic.den) (h5 : Int) (h6 : Int) (h7 : Int) (h8 : Int) (h9 : List toqTopic.den) (h10 : Int) (h11 : Int) (h12 : Bool) (h13 : List Int) (h14 : Int) : Option (DenX looqMsg_5.xs) := lpN tt hdoqMsg dr lpoqMsg 0 Go.Proofs.Tryz.f16 (topL Go.Proofs.Tryz.f16 0) n (looqMsg_5.st.mk' ((h4, (h5, (h6, ()))), ((h7, (h8, (h9, ()))), ((), ((h10, (h11, (h12, ()))), ((h13, (h14, ())), ())))))) (decX looqMsg_5.xs)
theorem sloqMsg_5 (n : Nat) (h4 : List toqTopic.den) (h5 : Int) (h6 : Int) (h7 : Int) (h8 : Int) (h9 : List toqTopic.den) (h10 : Int) (h11 : Int) (h12 : Bool) (h13 : List Int) (h14 : Int) : itoqMsg_5 (n + 1) h4 h5 h6 h7 h8 h9 h10 h11 h12 h13 h14 = stepoqMsg_5 h4 h5 h6 h7 h8 h9 h10 h11 h12 h13 h14 (itoqMsg_5 n) some := by kernel_rfl
theorem spoqLP_le {s : EnS} (v : Int) (p : toqPart.den) (h : s.2.2.length ≤ 130048) : (spoqLP v p s).2.2.length ≤ 130048 := spLacks_le _ _ _ _ (spLacks_le _ _ _ _ h)
theorem spoqLPs_le {s : EnS} (v : Int) (ps : List toqPart.den) (h : s.2.2.length ≤ 130048) : (spoqLPs v ps s).2.2.length ≤ 130048 := foldl_le (fun x s => spoqLP_le v x) ps s h
theorem spoqLR_le {s : EnS} (v : Int) (ts : List toqTopic.den) (h : s.2.2.length ≤ 130048) : (spoqLR v ts s).2.2.length ≤ 130048 := foldl_le (one := fun (t : toqTopic.den) (s : EnS) => spoqLPs v t.2.1 s) (fun x s h => spoqLPs_le v x.2.1 h) ts s h
theorem loopoqMsg_8 (us : List toqTopic.den) (n i : Int) (re' : Int) (lv' : Int) (ts' : List toqTopic.den) (v : Int) {ps : List toqPart.den} (hl : ps.length ≤ maxLen) : ∀ (k j : Nat) (s : EnS), ps.length < j + k → j ≤ ps.length → s.2.2.length ≤ 130048 →
    itoqMsg_8 k us n i ps (ps.length : Int) j re' lv' ts' v s.1 s.2.1 s.2.2 130048 = some (.ret ((), ((us, (n, (i, ()))), outBoq re' lv' ts' v ((ps.drop j).foldl (fun s p => spoqLP v p s) s)))) := by
  intro k
  have hg : ∀ s : EnS, s.2.2.length ≤ 130048 → (decide ((130048 : Int) = 130048) && decide (s.2.2.length ≤ 130048)) = true := fun s h => by simpa using h
  induction k with
  | zero => intro j s h; omega
  | succ k ih =>
    intro j s h1 h2 q0
    rw [sloqMsg_8]
    unfold stepoqMsg_8
    by_cases hi : j < ps.length
    · refine (bif_true (decide_eq_true (show (j : Int) < (ps.length : Int) by omega)) _ _).trans ?_
      refine (bif_true (by simpa using hi) _ _).trans ?_
      simp only [Int.toNat_natCast, getD_lt hi, wrap_succ hi hl]
      refine (bif_true (hg _ q0) _ _).trans ?_
      have q1 := spLacks_le (s := s) v (ps[j].2.1 == 0) 3 3 q0
      refine (bif_true (hg _ q1) _ _).trans ?_
      have q2 := spLacks_le (s := spLacks v (ps[j].2.1 == 0) 3 3 s) v (ps[j].2.2.2.1 == 0) 0 0 q1
      rw [List.drop_eq_getElem_cons hi]
      exact ih (j + 1) (spoqLP v ps[j] s) (by omega) (by omega) (spoqLP_le _ _ q0)
    · refine (bif_false (by simp; omega) _ _).trans ?_
      rw [List.drop_of_length_le (by omega)]
      rfl
theorem loopoqMsg_5 {us : List toqTopic.den} (re' : Int) (lv' : Int) (ts' : List toqTopic.den) (v : Int) (hl : us.length ≤ maxLen) : ∀ (k j : Nat) (s : EnS), us.length < j + k → j ≤ us.length → s.2.2.length ≤ 130048 →
    itoqMsg_5 k us (us.length : Int) j re' lv' ts' v s.1 s.2.1 s.2.2 130048 = some (.ret ((), ((), outBoq re' lv' ts' v ((us.drop j).foldl (fun s t => spoqLPs v t.2.1 s) s)))) := by
  intro k
  induction k with
  | zero => intro j s h; omega
  | succ k ih =>
    intro j s h1 h2 h3
    rw [sloqMsg_5]
    unfold stepoqMsg_5
    by_cases hi : j < us.length
    · refine (bif_true (decide_eq_true (show (j : Int) < (us.length : Int) by omega)) _ _).trans ?_
      refine (bif_true (by simpa using hi) _ _).trans ?_
      simp only [Int.toNat_natCast, getD_lt hi]
      have c1 : (decide ((0 : Int) = 0) && (decide ((us[j].2.1.length : Int) = (us[j].2.1.length : Int)) && (decide ((130048 : Int) = 130048) && decide (s.2.2.length ≤ 130048)))) = true := by simpa using h3
      have e1 : FoqMsg_8 ((us, ((us.length : Int), ((j : Int), (us[j].2.1, ((us[j].2.1.length : Int), (0, ())))))), ((re', (lv', (ts', ()))), ((), ((v, (s.1, (s.2.1, ()))), ((s.2.2, (130048, ())), ()))))) =
          .ite true (.ret (.ret ((), ((us, ((us.length : Int), ((j : Int), ()))), outBoq re' lv' ts' v (spoqLPs v us[j].2.1 s))))) .no := congrArg (fun c => Tr.ite c _ _) c1
      rw [e1]
      show itoqMsg_5 k us (us.length : Int) (IntKind.i64.wrap ((j : Int) + 1)) re' lv' ts' v (spoqLPs v us[j].2.1 s).1 (spoqLPs v us[j].2.1 s).2.1 (spoqLPs v us[j].2.1 s).2.2 130048 = _
      rw [wrap_succ hi hl, List.drop_eq_getElem_cons hi]
      exact ih (j + 1) (spoqLPs v us[j].2.1 s) (by omega) (by omega) (spoqLPs_le _ _ h3)
    · refine (bif_false (by simp; omega) _ _).trans ?_
      rw [List.drop_of_length_le (by omega)]
      rfl
def bodyoqMsg (a0 : Int) (a1 : Int) (a2 : Int) (a3 : List toqTopic.den) : Option iooqMsg.Res := (FoqMsg_5 ((a3, ((↑a3.length : Int), (0, ()))), ((a1, (a2, (a3, ()))), ((), ((a0, ((spLacks a0 (a2 == 0) 2 3 (spNewE a0, false, [])).fst, ((spLacks a0 (a2 == 0) 2 3 (spNewE a0, false, [])).snd.fst, ()))), (((spLacks a0 (a2 == 0) 2 3 (spNewE a0, false, [])).snd.snd, (130048, ())), ())))))).run fun y => match y with | .ret ((), ((), (x84, x85, x86, ()), (), (x87, x88, x89, ()), (x90, x91, ()), ())) => (bif decide (x91 = 130048) && decide (x90.length ≤ 130048) then bif decide (130048 = 130048) && decide ((spPutE x84 4 (x88, x89, x90)).snd.snd.length ≤ 130048) then bif decide (2 ≤ x87) && decide (x87 ≤ 3) then bif decide (130048 = 130048) && decide ((spPutE x84 4 (x88, x89, x90)).snd.snd.length ≤ 130048) then bif decide (130048 = 130048) && decide ((spPutE x85 1 (spPutE x84 4 (x88, x89, x90))).snd.snd.length ≤ 130048) then bif decide (130048 = 130048) && decide ((spoqTsE x87 x86 (spPutE x85 1 (spPutE x84 4 (x88, x89, x90)))).snd.snd.length ≤ 130048) then some (Out.ret ((spDoneO (spoqTsE x87 x86 (spPutE x85 1 (spPutE x84 4 (x88, x89, x90)))), spDoneE (spoqTsE x87 x86 (spPutE x85 1 (spPutE x84 4 (x88, x89, x90)))), ()), ())) else none else none else none else bif decide (130048 = 130048) && decide ((spPutE x84 4 (x88, x89, x90)).snd.snd.length ≤ 130048) then bif decide (130048 = 130048) && decide ((spoqTsE x87 x86 (spPutE x84 4 (x88, x89, x90))).snd.snd.length ≤ 130048) then some (Out.ret ((spDoneO (spoqTsE x87 x86 (spPutE x84 4 (x88, x89, x90))), spDoneE (spoqTsE x87 x86 (spPutE x84 4 (x88, x89, x90))), ()), ())) else none else none else none else none)
theorem runoqMsg (a0 : Int) (a1 : Int) (a2 : Int) (a3 : List toqTopic.den) : Io.run tt hdoqMsg dr lpoqMsg iooqMsg Go.Proofs.Tryz.f16 ((a0, (a1, a2, a3, ()), ()), ()) = bodyoqMsg a0 a1 a2 a3 := by kernel_rfl
theorem okoqMsg : HcOk prog 16 (ioHd iooqMsg FoqMsg) := by
  refine fn_sound (n := 400) hm (cs := csoqMsg) (.cons okeNew (.cons okeLacks (.cons okeHas (.cons okeI32 (.cons okeI8 (.cons okoqTopics (.cons okeDone .nil))))))) (lp := lpoqMsg) (fn := Go.Proofs.Tryz.f16) (by kernel_rfl) (by kernel_rfl) (by kernel_rfl) iooqMsg (.step (h0 := loHd looqMsg_5 FoqMsg_5) (by kernel_rfl) (loop_sound (n := 400) hm (cs := csoqMsg) (.cons okeNew (.cons okeLacks (.cons okeHas (.cons okeI32 (.cons okeI8 (.cons okoqTopics (.cons okeDone .nil))))))) (lp := lpoqMsg) (fn := Go.Proofs.Tryz.f16) (.step (h0 := loHd looqMsg_8 FoqMsg_8) (by kernel_rfl) (loop_sound (n := 400) hm (cs := csoqMsg) (.cons okeNew (.cons okeLacks (.cons okeHas (.cons okeI32 (.cons okeI8 (.cons okoqTopics (.cons okeDone .nil))))))) (lp := lpoqMsg) (fn := Go.Proofs.Tryz.f16) (.done (by kernel_rfl)) looqMsg_8 FoqMsg_8 ?_) (.done (by kernel_rfl))) looqMsg_5 FoqMsg_5 ?_) (.done (by kernel_rfl))) FoqMsg ?_
  · rintro ⟨⟨(us : List toqTopic.den), (n : Int), (i : Int), (ps : List toqPart.den), (pn : Int), (pj : Int), ⟨⟩⟩, ⟨⟨(re' : Int), (lv' : Int), (ts' : List toqTopic.den), ⟨⟩⟩, ⟨⟩, ⟨(v : Int), (e : Int), (f : Bool), ⟨⟩⟩, ⟨(b : List Int), (m : Int), ⟨⟩⟩, ⟨⟩⟩⟩ y hw hy
    obtain ⟨hg, hy⟩ := Tr.guard hy
    simp only [Bool.and_eq_true, decide_eq_true_eq] at hg
    obtain ⟨rfl, rfl, rfl, h4⟩ := hg
    have h4 : b.length ≤ 130048 := h4
    have hl : ps.length ≤ maxLen := hw.1.2.2.2.1.1
    refine ⟨ps.length + 1, (loopoqMsg_8 us n i re' lv' ts' v hl (ps.length + 1) 0 (e, (f, b)) (by omega) (by omega) h4).trans ?_⟩
    rw [← hy]; rfl
  · rintro ⟨⟨(us : List toqTopic.den), (n : Int), (i : Int), ⟨⟩⟩, ⟨⟨(re' : Int), (lv' : Int), (ts' : List toqTopic.den), ⟨⟩⟩, ⟨⟩, ⟨(v : Int), (e : Int), (f : Bool), ⟨⟩⟩, ⟨(b : List Int), (m : Int), ⟨⟩⟩, ⟨⟩⟩⟩ y hw hy
    obtain ⟨hg, hy⟩ := Tr.guard hy
    simp only [Bool.and_eq_true, decide_eq_true_eq] at hg
    obtain ⟨rfl, rfl, rfl, h4⟩ := hg
    have h4 : b.length ≤ 130048 := h4
    have hl : us.length ≤ maxLen := hw.1.1.1
    refine ⟨us.length + 1, (loopoqMsg_5 re' lv' ts' v hl (us.length + 1) 0 (e, (f, b)) (by omega) (by omega) h4).trans ?_⟩
    rw [← hy]; rfl
  · rintro ⟨⟨(v : Int), ⟨(re : Int), (lv : Int), (ts : List toqTopic.den), ⟨⟩⟩, ⟨⟩⟩, ⟨⟩⟩ out hw ho
    cases ho
    refine (runoqMsg v re lv ts).trans ?_
    unfold bodyoqMsg
    have hg : ∀ s : EnS, s.2.2.length ≤ 130048 → (decide ((130048 : Int) = 130048) && decide (s.2.2.length ≤ 130048)) = true := fun s h => by simpa using h
    have q0 : (spNewE v, (false, ([] : List Int))).2.2.length ≤ 130048 := by simp
    have q1 := spLacks_le (s := (spNewE v, (false, ([] : List Int)))) v (lv == 0) 2 3 q0
    have c1 : (decide ((0 : Int) = 0) && (decide ((ts.length : Int) = (ts.length : Int)) && (decide ((130048 : Int) = 130048) && decide ((spLacks v (lv == 0) 2 3 (spNewE v, (false, ([] : List Int)))).2.2.length ≤ 130048)))) = true := by simpa using q1
    have e1 : FoqMsg_5 ((ts, ((ts.length : Int), (0, ()))), ((re, (lv, (ts, ()))), ((), ((v, ((spLacks v (lv == 0) 2 3 (spNewE v, (false, ([] : List Int)))).1, ((spLacks v (lv == 0) 2 3 (spNewE v, (false, ([] : List Int)))).2.1, ()))), (((spLacks v (lv == 0) 2 3 (spNewE v, (false, ([] : List Int)))).2.2, (130048, ())), ()))))) =
        .ite true (.ret (.ret ((), ((), outBoq re lv ts v (spoqLR v ts (spLacks v (lv == 0) 2 3 (spNewE v, (false, ([] : List Int))))))))) .no := congrArg (fun c => Tr.ite c _ _) c1
    rw [e1]
    have r0 := spoqLR_le v ts q1
    refine (bif_true (hg _ r0) _ _).trans ?_
    have l0_0 := spPutE_le re 4 r0
    refine (bif_true (hg _ l0_0) _ _).trans ?_
    by_cases h1_0 : 2 ≤ v ∧ v ≤ 3
    · refine (bif_true (by simpa using h1_0) _ _).trans ?_
      refine (bif_true (hg _ l0_0) _ _).trans ?_
      have l1_0 := spPutE_le lv 1 l0_0
      refine (bif_true (hg _ l1_0) _ _).trans ?_
      have l2_1 := spItems_le (fun x s => spoqTE_le v x) ts l1_0
      refine (bif_true (hg _ l2_1) _ _).trans ?_
      simp only [spoqE, spHasE_in h1_0]
    · refine (bif_false (Bool.eq_false_iff.2 fun h' => h1_0 (by simpa using h')) _ _).trans ?_
      refine (bif_true (hg _ l0_0) _ _).trans ?_
      have l2_1 := spItems_le (fun x s => spoqTE_le v x) ts l0_0
      refine (bif_true (hg _ l2_1) _ _).trans ?_
      simp only [spoqE, spHasE_out h1_0]
end
end Go.Proofs.YtjpeefegeobgfaaGreat.Sym
namespace Go.Proofs.YtjpeefegeobgfaaGreat.Sym
open Go
set_option linter.unusedSimpArgs false
set_option linter.unusedVariables false
noncomputable section
@[irreducible] noncomputable def spoqPD (v : Int) (b : List Int) (s : DeS) : toqPart.den × DeS :=
  (((spDn .i32 4 b s).1, ((spDHasN .i32 4 v 3 3 b (spDn .i32 4 b s).2).1, ((spDn .i64 8 b (spDHasN .i32 4 v 3 3 b (spDn .i32 4 b s).2).2).1, ((spDHasN .i32 4 v 0 0 b (spDn .i64 8 b (spDHasN .i32 4 v 3 3 b (spDn .i32 4 b s).2).2).2).1, ())))), (spDHasN .i32 4 v 0 0 b (spDn .i64 8 b (spDHasN .i32 4 v 3 3 b (spDn .i32 4 b s).2).2).2).2)
theorem spoqPD_ok {v : Int} {b : List Int} {s : DeS} (h : spDok b s.2 = true) : spDok b (spoqPD v b s).2.2 = true := by
  unfold spoqPD
  exact spDHasN_ok (spDn_ok _ _ (spDHasN_ok (spDn_ok _ _ (h))))
abbrev iodoqPart : Io := ⟨[.ptr 0 0], oDec1, [], [.dat toqPart true false], none⟩
def FdoqPart (d : iodoqPart.In) : Tr iodoqPart.Res := .ite (spDok d.2.2.2.1.1 d.2.2.2.1.2.1) (.ret (.ret (((spoqPD d.2.2.1.2.1 d.2.2.2.1.1 (decSt d.2.2)).1, ()), decOut1 d.2.2.1.2.1 d.2.2.2.1.1 (spoqPD d.2.2.1.2.1 d.2.2.2.1.1 (decSt d.2.2)).2))) .no
abbrev csdoqPart : List (Nat × Hc) := [(81, ioHd iodI32 FdI32), (89, ioHd iodI64 FdI64), (80, ioHd iodHas FdHas)]
def hddoqPart : Hd := hdT csdoqPart
def lpdoqPart : Lp := lpT []
def bodydoqPart (a0 : Int) (a1 : Int) (a2 : List Int) (a3 : Int) : Option iodoqPart.Res := bif spDok a2 a3 then bif spDHas a0 3 3 (spDn IntKind.i32 4 a2 (a1, a3)).snd.fst then bif spDok a2 (spDn IntKind.i32 4 a2 (a1, a3)).snd.snd then bif spDok a2 (spDn IntKind.i32 4 a2 (spDn IntKind.i32 4 a2 (a1, a3)).snd).snd.snd then bif spDHas a0 0 0 (spDn IntKind.i64 8 a2 (spDn IntKind.i32 4 a2 (spDn IntKind.i32 4 a2 (a1, a3)).snd).snd).snd.fst then bif spDok a2 (spDn IntKind.i64 8 a2 (spDn IntKind.i32 4 a2 (spDn IntKind.i32 4 a2 (a1, a3)).snd).snd).snd.snd then some (Out.ret ((((spDn IntKind.i32 4 a2 (a1, a3)).fst, (spDn IntKind.i32 4 a2 (spDn IntKind.i32 4 a2 (a1, a3)).snd).fst, (spDn IntKind.i64 8 a2 (spDn IntKind.i32 4 a2 (spDn IntKind.i32 4 a2 (a1, a3)).snd).snd).fst, (spDn IntKind.i32 4 a2 (spDn IntKind.i64 8 a2 (spDn IntKind.i32 4 a2 (spDn IntKind.i32 4 a2 (a1, a3)).snd).snd).snd).fst, ()), ()), ((), ()), ((), a0, (spDn IntKind.i32 4 a2 (spDn IntKind.i64 8 a2 (spDn IntKind.i32 4 a2 (spDn IntKind.i32 4 a2 (a1, a3)).snd).snd).snd).snd.fst, ()), (a2, (spDn IntKind.i32 4 a2 (spDn IntKind.i64 8 a2 (spDn IntKind.i32 4 a2 (spDn IntKind.i32 4 a2 (a1, a3)).snd).snd).snd).snd.snd, ()), ())) else none else some (Out.ret ((((spDn IntKind.i32 4 a2 (a1, a3)).fst, (spDn IntKind.i32 4 a2 (spDn IntKind.i32 4 a2 (a1, a3)).snd).fst, (spDn IntKind.i64 8 a2 (spDn IntKind.i32 4 a2 (spDn IntKind.i32 4 a2 (a1, a3)).snd).snd).fst, 0, ()), ()), ((), ()), ((), a0, (spDn IntKind.i64 8 a2 (spDn IntKind.i32 4 a2 (spDn IntKind.i32 4 a2 (a1, a3)).snd).snd).snd.fst, ()), (a2, (spDn IntKind.i64 8 a2 (spDn IntKind.i32 4 a2 (spDn IntKind.i32 4 a2 (a1, a3)).snd).snd).snd.snd, ()), ())) else none else none else bif spDok a2 (spDn IntKind.i32 4 a2 (a1, a3)).snd.snd then bif spDHas a0 0 0 (spDn IntKind.i64 8 a2 (spDn IntKind.i32 4 a2 (a1, a3)).snd).snd.fst then bif spDok a2 (spDn IntKind.i64 8 a2 (spDn IntKind.i32 4 a2 (a1, a3)).snd).snd.snd then some (Out.ret ((((spDn IntKind.i32 4 a2 (a1, a3)).fst, 0, (spDn IntKind.i64 8 a2 (spDn IntKind.i32 4 a2 (a1, a3)).snd).fst, (spDn IntKind.i32 4 a2 (spDn IntKind.i64 8 a2 (spDn IntKind.i32 4 a2 (a1, a3)).snd).snd).fst, ()), ()), ((), ()), ((), a0, (spDn IntKind.i32 4 a2 (spDn IntKind.i64 8 a2 (spDn IntKind.i32 4 a2 (a1, a3)).snd).snd).snd.fst, ()), (a2, (spDn IntKind.i32 4 a2 (spDn IntKind.i64 8 a2 (spDn IntKind.i32 4 a2 (a1, a3)).snd).snd).snd.snd, ()), ())) else none else some (Out.ret ((((spDn IntKind.i32 4 a2 (a1, a3)).fst, 0, (spDn IntKind.i64 8 a2 (spDn IntKind.i32 4 a2 (a1, a3)).snd).fst, 0, ()), ()), ((), ()), ((), a0, (spDn IntKind.i64 8 a2 (spDn IntKind.i32 4 a2 (a1, a3)).snd).snd.fst, ()), (a2, (spDn IntKind.i64 8 a2 (spDn IntKind.i32 4 a2 (a1, a3)).snd).snd.snd, ()), ())) else none else none
theorem rundoqPart (a0 : Int) (a1 : Int) (a2 : List Int) (a3 : Int) : Io.run tt hddoqPart dr lpdoqPart iodoqPart Go.Proofs.Tryz.f95 (((), ()), ((), ()), ((), a0, a1, ()), (a2, a3, ()), ()) = bodydoqPart a0 a1 a2 a3 := by kernel_rfl
theorem okdoqPart : HcOk prog 95 (ioHd iodoqPart FdoqPart) := by
  refine fn_sound (n := 400) hm (cs := csdoqPart) (.cons okdI32 (.cons okdI64 (.cons okdHas .nil))) (lp := lpdoqPart) (fn := Go.Proofs.Tryz.f95) (by kernel_rfl) (by kernel_rfl) (by kernel_rfl) iodoqPart (.done (by kernel_rfl)) FdoqPart ?_
  rintro ⟨⟨⟨⟩, ⟨⟩⟩, ⟨⟨⟩, ⟨⟩⟩, ⟨⟨⟩, (v : Int), (e : Int), ⟨⟩⟩, ⟨(b : List Int), (p : Int), ⟨⟩⟩, ⟨⟩⟩ out hw ho
  obtain ⟨hg, ho⟩ := Tr.guard ho
  have hg : spDok b p = true := hg
  cases ho
  refine (rundoqPart v e b p).trans ?_
  unfold bodydoqPart
  show _ = some (Out.ret (((spoqPD v b (e, p)).1, ()), decOut1 v b (spoqPD v b (e, p)).2))
  unfold spoqPD
  have hg : spDok b ((e, p) : DeS).2 = true := hg
  refine (bif_true hg _ _).trans ?_
  have g0 : spDok b (spDn .i32 4 b ((e, p) : DeS)).2.2 = true := spDn_ok .i32 4 (s := ((e, p) : DeS)) hg
  show (bif spDHas v 3 3 (spDn .i32 4 b ((e, p) : DeS)).2.1 then _ else _) = _
  cases h1 : spDHas v 3 3 (spDn .i32 4 b ((e, p) : DeS)).2.1
  · have e1 : spDHasN .i32 4 v 3 3 b (spDn .i32 4 b ((e, p) : DeS)).2 = (0, (spDn .i32 4 b ((e, p) : DeS)).2) := by unfold spDHasN; rw [if_neg (by rw [h1]; decide)]
    rw [e1]
    refine (bif_true g0 _ _).trans ?_
    have gf2 : spDok b (spDn .i64 8 b (spDn .i32 4 b ((e, p) : DeS)).2).2.2 = true := spDn_ok .i64 8 (s := (spDn .i32 4 b ((e, p) : DeS)).2) g0
    show (bif spDHas v 0 0 (spDn .i64 8 b (spDn .i32 4 b ((e, p) : DeS)).2).2.1 then _ else _) = _
    cases hf3 : spDHas v 0 0 (spDn .i64 8 b (spDn .i32 4 b ((e, p) : DeS)).2).2.1
    · have ef3 : spDHasN .i32 4 v 0 0 b (spDn .i64 8 b (spDn .i32 4 b ((e, p) : DeS)).2).2 = (0, (spDn .i64 8 b (spDn .i32 4 b ((e, p) : DeS)).2).2) := by unfold spDHasN; rw [if_neg (by rw [hf3]; decide)]
      rw [ef3]
      rfl
    · have ef3 : spDHasN .i32 4 v 0 0 b (spDn .i64 8 b (spDn .i32 4 b ((e, p) : DeS)).2).2 = spDn .i32 4 b (spDn .i64 8 b (spDn .i32 4 b ((e, p) : DeS)).2).2 := by unfold spDHasN; rw [if_pos hf3]
      rw [ef3]
      refine (bif_true gf2 _ _).trans ?_
      have gf3 : spDok b (spDn .i32 4 b (spDn .i64 8 b (spDn .i32 4 b ((e, p) : DeS)).2).2).2.2 = true := spDn_ok .i32 4 (s := (spDn .i64 8 b (spDn .i32 4 b ((e, p) : DeS)).2).2) gf2
      rfl
  · have e1 : spDHasN .i32 4 v 3 3 b (spDn .i32 4 b ((e, p) : DeS)).2 = spDn .i32 4 b (spDn .i32 4 b ((e, p) : DeS)).2 := by unfold spDHasN; rw [if_pos h1]
    rw [e1]
    refine (bif_true g0 _ _).trans ?_
    have g1 : spDok b (spDn .i32 4 b (spDn .i32 4 b ((e, p) : DeS)).2).2.2 = true := spDn_ok .i32 4 (s := (spDn .i32 4 b ((e, p) : DeS)).2) g0
    refine (bif_true g1 _ _).trans ?_
    have gt2 : spDok b (spDn .i64 8 b (spDn .i32 4 b (spDn .i32 4 b ((e, p) : DeS)).2).2).2.2 = true := spDn_ok .i64 8 (s := (spDn .i32 4 b (spDn .i32 4 b ((e, p) : DeS)).2).2) g1
    show (bif spDHas v 0 0 (spDn .i64 8 b (spDn .i32 4 b (spDn .i32 4 b ((e, p) : DeS)).2).2).2.1 then _ else _) = _
    cases ht3 : spDHas v 0 0 (spDn .i64 8 b (spDn .i32 4 b (spDn .i32 4 b ((e, p) : DeS)).2).2).2.1
    · have et3 : spDHasN .i32 4 v 0 0 b (spDn .i64 8 b (spDn .i32 4 b (spDn .i32 4 b ((e, p) : DeS)).2).2).2 = (0, (spDn .i64 8 b (spDn .i32 4 b (spDn .i32 4 b ((e, p) : DeS)).2).2).2) := by unfold spDHasN; rw [if_neg (by rw [ht3]; decide)]
      rw [et3]
      rfl
    · have et3 : spDHasN .i32 4 v 0 0 b (spDn .i64 8 b (spDn .i32 4 b (spDn .i32 4 b ((e, p) : DeS)).2).2).2 = spDn .i32 4 b (spDn .i64 8 b (spDn .i32 4 b (spDn .i32 4 b ((e, p) : DeS)).2).2).2 := by unfold spDHasN; rw [if_pos ht3]
      rw [et3]
      refine (bif_true gt2 _ _).trans ?_
      have gt3 : spDok b (spDn .i32 4 b (spDn .i64 8 b (spDn .i32 4 b (spDn .i32 4 b ((e, p) : DeS)).2).2).2).2.2 = true := spDn_ok .i32 4 (s := (spDn .i64 8 b (spDn .i32 4 b (spDn .i32 4 b ((e, p) : DeS)).2).2).2) gt2
      rfl
@[irreducible] noncomputable def spoqPsD (v : Int) (b : List Int) (s : DeS) : List toqPart.den × DeS := spList (spoqPD v b) b s
theorem spoqPsD_ok {v : Int} {b : List Int} {s : DeS} (h : spDok b s.2 = true) : spDok b (spoqPsD v b s).2.2 = true := by
  unfold spoqPsD
  exact spList_ok (fun s h => spoqPD_ok h) h
abbrev iodoqParts : Io := ⟨[.ptr 0 0, .fnc 95 false [2]], oDecC, [], [.dat (.sl 113 toqPart) false false], none⟩
def FdoqParts (d : iodoqParts.In) : Tr iodoqParts.Res := .ite (spDok d.2.2.1.1 d.2.2.1.2.1) (.ret (.ret (((spoqPsD d.2.1.2.1 d.2.2.1.1 (decStC d.2)).1, ()), decOutC d.2.1.2.1 d.2.2.1.1 (spoqPsD d.2.1.2.1 d.2.2.1.1 (decStC d.2)).2))) .no
abbrev csdoqParts : List (Nat × Hc) := [(81, ioHd iodI32 FdI32), (95, ioHd iodoqPart FdoqPart)]
def hddoqParts : Hd := hdT csdoqParts
abbrev lodoqParts_10 : Lo := ⟨⟨[.one (.ptr 0 0), .one (.fnp 95 false [2]), .any, .any, .any, .one (.hol (.int IntKind.i32)), .one (.onl 113 toqPart 19), .one (.hol (.int IntKind.i32)), .any, .any, .any, .any, .any, .any, .any, .any, .any, .any, .any, .any, .any, .any, .any, .any, .any, .any, .any, .any, .any, .any, .any, .any, .any, .any, .any, .any, .any, .any, .any, .any, .any, .any, .any, .any, .any, .any], [some [.ptr 1 0, .hol (.int IntKind.i64), .hol (.int IntKind.i64)], some [.hol (.sl 5 (Ty.int IntKind.u8)), .hol (.int IntKind.i64)], some [.ptr 0 0]]⟩, [(.exit 1, ⟨[.any, .any, .any, .any, .any, .any, .one (.onl 113 toqPart 19), .any, .any, .any, .any, .any, .any, .any, .any, .any, .any, .any, .any, .any, .any, .any, .any, .any, .any, .any, .any, .any, .any, .any, .any, .any, .any, .any, .any, .any, .any, .any, .any, .any, .any, .any, .any, .any, .any, .any], [some [.ptr 1 0, .hol (.int IntKind.i64), .hol (.int IntKind.i64)], some [.hol (.sl 5 (Ty.int IntKind.u8)), .hol (.int IntKind.i64)], some [.ptr 0 0]]⟩)]⟩
-- FdoqParts_10 : lodoqParts_10.st.den → Tr (DenX lodoqParts_10.xs) | ((h4, (h5, (h6, ()))), ((h7, (h8, ())), ((h9, (h10, ())), ((), ()))))
def FdoqParts_10 (d : lodoqParts_10.st.den) : Tr (DenX lodoqParts_10.xs) :=
  .ite (decide (d.1.2.2.1 = 0) && (decide (d.1.2.1.length = 0) && (spDok d.2.2.1.1 d.2.2.1.2.1 && (decide (d.1.1 ≤ (16 : Int)) || decide (d.2.1.2.1 ≠ 0))))) (.ret (.ret ((), (((spRep (spoqPD d.2.1.1 d.2.2.1.1) d.1.1.toNat (d.2.1.2.1, d.2.2.1.2.1)).1, ()), decOutB d.2.1.1 d.2.2.1.1 (spRep (spoqPD d.2.1.1 d.2.2.1.1) d.1.1.toNat (d.2.1.2.1, d.2.2.1.2.1)).2)))) .no
def lpdoqParts : Lp := lpT [(10, loHd lodoqParts_10 FdoqParts_10)]
def stepdoqParts_10 {R : Type} (h4 : Int) (h5 : List toqPart.den) (h6 : Int) (h7 : Int) (h8 : Int) (h9 : List Int) (h10 : Int) (next : Int → List toqPart.den → Int → Int → Int → List Int → Int → Option R) (out : DenX lodoqParts_10.xs → Option R) : Option R := bif decide (h6 < h4) then bif h8 == 0 then bif spDok h9 h10 then bif decide (h5.length + 1 ≤ 4294967296) then next (h4) (h5 ++ [(spoqPD h7 h9 (h8, h10)).fst]) (IntKind.i32.wrap (h6 + 1)) (h7) ((spoqPD h7 h9 (h8, h10)).snd.fst) (h9) ((spoqPD h7 h9 (h8, h10)).snd.snd) else none else none else out (.ret ((), ((h5, ()), ((h7, (h8, ())), ((h9, (h10, ())), ((), ())))))) else out (.ret ((), ((h5, ()), ((h7, (h8, ())), ((h9, (h10, ())), ((), ()))))))
def itdoqParts_10 (n : Nat) (h4 : Int) (h5 : List toqPart.den) (h6 : Int) (h7 : Int) (h8 : Int) (h9 : List Int) (h10 : Int) : Option (DenX lodoqParts_10.xs) := lpN tt hddoqParts dr lpdoqParts 3 Go.Proofs.Tryz.f94 (topL Go.Proofs.Tryz.f94 0) n (lodoqParts_10.st.mk' ((h4, (h5, (h6, ()))), ((h7, (h8, ())), ((h9, (h10, ())), ((), ()))))) (decX lodoqParts_10.xs)
theorem sldoqParts_10 (n : Nat) (h4 : Int) (h5 : List toqPart.den) (h6 : Int) (h7 : Int) (h8 : Int) (h9 : List Int) (h10 : Int) : itdoqParts_10 (n + 1) h4 h5 h6 h7 h8 h9 h10 = stepdoqParts_10 h4 h5 h6 h7 h8 h9 h10 (itdoqParts_10 n) some := by kernel_rfl
theorem loopdoqParts (n v : Int) (b : List Int) : ∀ (k j : Nat) (xs : List toqPart.den) (s : DeS), n.toNat < j + k → j ≤ n.toNat → xs.length = j → spDok b s.2 = true → (s.1 = 0 → n ≤ 16) →
    itdoqParts_10 k n xs j v s.1 b s.2 = some (.ret ((), ((xs ++ (spRep (spoqPD v b) (n.toNat - j) s).1, ()), decOutB v b (spRep (spoqPD v b) (n.toNat - j) s).2))) := by
  intro k
  induction k with
  | zero => intro j xs s h; omega
  | succ k ih =>
    intro j xs s h1 h2 h3 h4 h5
    rw [sldoqParts_10]
    unfold stepdoqParts_10
    by_cases hj : (j : Int) < n
    · refine (bif_true (by simpa using hj) _ _).trans ?_
      obtain ⟨m, hm⟩ : ∃ m, n.toNat - j = m + 1 := ⟨n.toNat - j - 1, by omega⟩
      rw [hm]
      by_cases he : s.1 = 0
      · refine (bif_true (by simpa using he) _ _).trans ?_
        have hn := h5 he
        refine (bif_true h4 _ _).trans ?_
        refine (bif_true (decide_eq_true (show xs.length + 1 ≤ 4294967296 by omega)) _ _).trans ?_
        have hw : IntKind.i32.wrap ((j : Int) + 1) = ((j + 1 : Nat) : Int) := wrap_id (by simp [inR, IntKind.min, IntKind.max, IntKind.signed, IntKind.bits]; omega)
        rw [hw]
        refine (ih (j + 1) (xs ++ [(spoqPD v b s).1]) (spoqPD v b s).2 (by omega) (by omega) (by simp [h3]) (spoqPD_ok h4) (fun _ => hn)).trans ?_
        rw [show n.toNat - (j + 1) = m by omega, spRep, if_pos he]
        simp
      · refine (bif_false (by simpa using he) _ _).trans ?_
        rw [spRep, if_neg he]
        simp
    · refine (bif_false (by simpa using hj) _ _).trans ?_
      rw [show n.toNat - j = 0 by omega, spRep]
      simp
def bodydoqParts (a0 : Int) (a1 : Int) (a2 : List Int) (a3 : Int) : Option iodoqParts.Res := bif spDok a2 a3 then bif (spDn IntKind.i32 4 a2 (a1, a3)).snd.fst != 0 then (FdoqParts_10 (((spDn IntKind.i32 4 a2 (a1, a3)).fst, ([], (0, ()))), ((a0, ((spDn IntKind.i32 4 a2 (a1, a3)).snd.fst, ())), ((a2, ((spDn IntKind.i32 4 a2 (a1, a3)).snd.snd, ())), ((), ()))))).run fun y => match y with | .ret ((), ((x28, ()), (x29, x30, ()), (x31, x32, ()), (), ())) => (some (Out.ret ((x28, ()), ((), x29, x30, ()), (x31, x32, ()), ((), ()), ()))) else bif decide ((spDn IntKind.i32 4 a2 (a1, a3)).fst < 0) then (FdoqParts_10 (((spDn IntKind.i32 4 a2 (a1, a3)).fst, ([], (0, ()))), ((a0, (5, ())), ((a2, ((spDn IntKind.i32 4 a2 (a1, a3)).snd.snd, ())), ((), ()))))).run fun y => match y with | .ret ((), ((x40, ()), (x41, x42, ()), (x43, x44, ()), (), ())) => (some (Out.ret ((x40, ()), ((), x41, x42, ()), (x43, x44, ()), ((), ()), ()))) else bif decide (16 < (spDn IntKind.i32 4 a2 (a1, a3)).fst) then (FdoqParts_10 (((spDn IntKind.i32 4 a2 (a1, a3)).fst, ([], (0, ()))), ((a0, (9, ())), ((a2, ((spDn IntKind.i32 4 a2 (a1, a3)).snd.snd, ())), ((), ()))))).run fun y => match y with | .ret ((), ((x52, ()), (x53, x54, ()), (x55, x56, ()), (), ())) => (some (Out.ret ((x52, ()), ((), x53, x54, ()), (x55, x56, ()), ((), ()), ()))) else (FdoqParts_10 (((spDn IntKind.i32 4 a2 (a1, a3)).fst, ([], (0, ()))), ((a0, ((spDn IntKind.i32 4 a2 (a1, a3)).snd.fst, ())), ((a2, ((spDn IntKind.i32 4 a2 (a1, a3)).snd.snd, ())), ((), ()))))).run fun y => match y with | .ret ((), ((x64, ()), (x65, x66, ()), (x67, x68, ()), (), ())) => (some (Out.ret ((x64, ()), ((), x65, x66, ()), (x67, x68, ()), ((), ()), ()))) else none
theorem rundoqParts (a0 : Int) (a1 : Int) (a2 : List Int) (a3 : Int) : Io.run tt hddoqParts dr lpdoqParts iodoqParts Go.Proofs.Tryz.f94 (((), (), ()), ((), a0, a1, ()), (a2, a3, ()), ((), ()), ()) = bodydoqParts a0 a1 a2 a3 := by kernel_rfl
theorem okdoqParts : HcOk prog 94 (ioHd iodoqParts FdoqParts) := by
  refine fn_sound (n := 400) hm (cs := csdoqParts) (.cons okdI32 (.cons okdoqPart .nil)) (lp := lpdoqParts) (fn := Go.Proofs.Tryz.f94) (by kernel_rfl) (by kernel_rfl) (by kernel_rfl) iodoqParts (.step (h0 := loHd lodoqParts_10 FdoqParts_10) (by kernel_rfl) (loop_sound (n := 400) hm (cs := csdoqParts) (.cons okdI32 (.cons okdoqPart .nil)) (lp := lpdoqParts) (fn := Go.Proofs.Tryz.f94) (.done (by kernel_rfl)) lodoqParts_10 FdoqParts_10 ?_) (.done (by kernel_rfl))) FdoqParts ?_
  · rintro ⟨⟨(n : Int), (xs : List toqPart.den), (i : Int), ⟨⟩⟩, ⟨⟨(v : Int), (e : Int), ⟨⟩⟩, ⟨(b : List Int), (p : Int), ⟨⟩⟩, ⟨⟨⟩, ⟨⟩⟩⟩⟩ y hw hy
    obtain ⟨hg, hy⟩ := Tr.guard hy
    simp only [Bool.and_eq_true, decide_eq_true_eq, Bool.or_eq_true] at hg
    obtain ⟨h1, h2, h3, h4⟩ := hg
    have h1 : i = 0 := h1
    have h2 : xs = [] := List.eq_nil_of_length_eq_zero h2
    have h3 : spDok b p = true := h3
    have h4 : n ≤ 16 ∨ e ≠ 0 := h4
    subst h1
    subst h2
    refine ⟨n.toNat + 1, (loopdoqParts n v b (n.toNat + 1) 0 [] (e, p) (by omega) (by omega) rfl h3 (fun he => h4.resolve_right (fun h => h he))).trans ?_⟩
    rw [← hy]; rfl
  · rintro ⟨⟨⟨⟩, ⟨⟩, ⟨⟩⟩, ⟨⟨⟩, (v : Int), (e : Int), ⟨⟩⟩, ⟨(b : List Int), (p : Int), ⟨⟩⟩, ⟨⟨⟩, ⟨⟩⟩, ⟨⟩⟩ out hw ho
    obtain ⟨hg, ho⟩ := Tr.guard ho
    have hg : spDok b p = true := hg
    cases ho
    refine (rundoqParts v e b p).trans ?_
    unfold bodydoqParts
    show _ = some (Out.ret (((spoqPsD v b (e, p)).1, ()), decOutC v b (spoqPsD v b (e, p)).2))
    unfold spoqPsD spList
    refine (bif_true hg _ _).trans ?_
    have hr : spDok b (spDn .i32 4 b (e, p)).2.2 = true := spDn_ok .i32 4 (s := (e, p)) hg
    generalize spDn .i32 4 b (e, p) = r at hr ⊢
    obtain ⟨n, e1, q⟩ := r
    have hr : spDok b q = true := hr
    have key : ∀ e' : Int, (e' = 0 → n ≤ 16) → FdoqParts_10 ((n, ([], (0, ()))), ((v, (e', ())), ((b, (q, ())), ((), ())))) = .ite true (.ret (.ret ((), (((spRep (spoqPD v b) n.toNat (e', q)).1, ()), decOutB v b (spRep (spoqPD v b) n.toNat (e', q)).2)))) .no := by
      intro e' he
      refine congrArg (fun c => Tr.ite c _ _) ?_
      show (decide ((0 : Int) = 0) && (decide (([] : List toqPart.den).length = 0) && (spDok b q && (decide (n ≤ 16) || decide (e' ≠ 0))))) = true
      rw [hr]
      by_cases h : e' = 0
      · simp [he h]
      · simp [h]
    unfold spLen
    show (bif e1 != 0 then _ else _) = _
    by_cases h1 : e1 = 0
    · refine (bif_false (by simpa using h1) _ _).trans ?_
      show (bif decide (n < 0) then _ else _) = _
      rw [if_pos h1]
      by_cases h2 : n < 0
      · refine (bif_true (by simpa using h2) _ _).trans ?_
        show (FdoqParts_10 ((n, ([], (0, ()))), ((v, (5, ())), ((b, (q, ())), ((), ()))))).run _ = _
        rw [key 5 (by omega), if_pos h2]
        rfl
      · refine (bif_false (by simpa using h2) _ _).trans ?_
        show (bif decide (16 < n) then _ else _) = _
        rw [if_neg h2]
        by_cases h3 : 16 < n
        · refine (bif_true (by simpa using h3) _ _).trans ?_
          show (FdoqParts_10 ((n, ([], (0, ()))), ((v, (9, ())), ((b, (q, ())), ((), ()))))).run _ = _
          rw [key 9 (by omega), if_pos h3]
          rfl
        · refine (bif_false (by simpa using h3) _ _).trans ?_
          show (FdoqParts_10 ((n, ([], (0, ()))), ((v, (e1, ())), ((b, (q, ())), ((), ()))))).run _ = _
          rw [key e1 (by omega), if_neg h3]
          rfl
    · refine (bif_true (by simpa using h1) _ _).trans ?_
      show (FdoqParts_10 ((n, ([], (0, ()))), ((v, (e1, ())), ((b, (q, ())), ((), ()))))).run _ = _
      rw [key e1 (fun h => absurd h h1), if_neg h1]
      rfl
@[irreducible] noncomputable def spoqTD (v : Int) (b : List Int) (s : DeS) : toqTopic.den × DeS := (((spDStr b s).1, ((spoqPsD v b (spDStr b s).2).1, ())), (spoqPsD v b (spDStr b s).2).2)
theorem spoqTD_ok {v : Int} {b : List Int} {s : DeS} (h : spDok b s.2 = true) : spDok b (spoqTD v b s).2.2 = true := by
  unfold spoqTD
  exact spoqPsD_ok (spDStr_ok h)
abbrev iodoqTopic : Io := ⟨[.ptr 0 0], oDec1, [], [.dat toqTopic true false], none⟩
def FdoqTopic (d : iodoqTopic.In) : Tr iodoqTopic.Res := .ite (spDok d.2.2.2.1.1 d.2.2.2.1.2.1) (.ret (.ret (((spoqTD d.2.2.1.2.1 d.2.2.2.1.1 (decSt d.2.2)).1, ()), decOut1 d.2.2.1.2.1 d.2.2.2.1.1 (spoqTD d.2.2.1.2.1 d.2.2.2.1.1 (decSt d.2.2)).2))) .no
abbrev csdoqTopic : List (Nat × Hc) := [(84, ioHd iodStr FdStr), (94, ioHd iodoqParts FdoqParts)]
def hddoqTopic : Hd := hdT csdoqTopic
def lpdoqTopic : Lp := lpT []
def bodydoqTopic (a0 : Int) (a1 : Int) (a2 : List Int) (a3 : Int) : Option iodoqTopic.Res := bif spDok a2 a3 then bif spDok a2 (spDStr a2 (a1, a3)).snd.snd then some (Out.ret ((((spDStr a2 (a1, a3)).fst, (spoqPsD a0 a2 (spDStr a2 (a1, a3)).snd).fst, ()), ()), ((), ()), ((), a0, (spoqPsD a0 a2 (spDStr a2 (a1, a3)).snd).snd.fst, ()), (a2, (spoqPsD a0 a2 (spDStr a2 (a1, a3)).snd).snd.snd, ()), ())) else none else none
theorem rundoqTopic (a0 : Int) (a1 : Int) (a2 : List Int) (a3 : Int) : Io.run tt hddoqTopic dr lpdoqTopic iodoqTopic Go.Proofs.Tryz.f93 (((), ()), ((), ()), ((), a0, a1, ()), (a2, a3, ()), ()) = bodydoqTopic a0 a1 a2 a3 := by kernel_rfl
theorem okdoqTopic : HcOk prog 93 (ioHd iodoqTopic FdoqTopic) := by
  refine fn_sound (n := 400) hm (cs := csdoqTopic) (.cons okdStr (.cons okdoqParts .nil)) (lp := lpdoqTopic) (fn := Go.Proofs.Tryz.f93) (by kernel_rfl) (by kernel_rfl) (by kernel_rfl) iodoqTopic (.done (by kernel_rfl)) FdoqTopic ?_
  rintro ⟨⟨⟨⟩, ⟨⟩⟩, ⟨⟨⟩, ⟨⟩⟩, ⟨⟨⟩, (v : Int), (e : Int), ⟨⟩⟩, ⟨(b : List Int), (p : Int), ⟨⟩⟩, ⟨⟩⟩ out hw ho
  obtain ⟨hg, ho⟩ := Tr.guard ho
  have hg : spDok b p = true := hg
  cases ho
  refine (rundoqTopic v e b p).trans ?_
  unfold bodydoqTopic
  show _ = some (Out.ret (((spoqTD v b (e, p)).1, ()), decOut1 v b (spoqTD v b (e, p)).2))
  unfold spoqTD
  refine (bif_true hg _ _).trans ?_
  exact bif_true (spDStr_ok (s := (e, p)) hg) _ _
@[irreducible] noncomputable def spoqTsD (v : Int) (b : List Int) (s : DeS) : List toqTopic.den × DeS := spList (spoqTD v b) b s
theorem spoqTsD_ok {v : Int} {b : List Int} {s : DeS} (h : spDok b s.2 = true) : spDok b (spoqTsD v b s).2.2 = true := by
  unfold spoqTsD
  exact spList_ok (fun s h => spoqTD_ok h) h
abbrev iodoqTopics : Io := ⟨[.ptr 0 0, .fnc 93 false [2]], oDecC, [], [.dat (.sl 111 toqTopic) false false], none⟩
def FdoqTopics (d : iodoqTopics.In) : Tr iodoqTopics.Res := .ite (spDok d.2.2.1.1 d.2.2.1.2.1) (.ret (.ret (((spoqTsD d.2.1.2.1 d.2.2.1.1 (decStC d.2)).1, ()), decOutC d.2.1.2.1 d.2.2.1.1 (spoqTsD d.2.1.2.1 d.2.2.1.1 (decStC d.2)).2))) .no
abbrev csdoqTopics : List (Nat × Hc) := [(81, ioHd iodI32 FdI32), (93, ioHd iodoqTopic FdoqTopic)]
def hddoqTopics : Hd := hdT csdoqTopics
abbrev lodoqTopics_10 : Lo := ⟨⟨[.one (.ptr 0 0), .one (.fnp 93 false [2]), .any, .any, .any, .one (.hol (.int IntKind.i32)), .one (.onl 111 toqTopic 19), .one (.hol (.int IntKind.i32)), .any, .any, .any, .any, .any, .any, .any, .any, .any, .any, .any, .any, .any, .any, .any, .any, .any, .any, .any, .any, .any, .any, .any, .any, .any, .any, .any, .any, .any, .any, .any, .any, .any, .any, .any, .any, .any, .any], [some [.ptr 1 0, .hol (.int IntKind.i64), .hol (.int IntKind.i64)], some [.hol (.sl 5 (Ty.int IntKind.u8)), .hol (.int IntKind.i64)], some [.ptr 0 0]]⟩, [(.exit 1, ⟨[.any, .any, .any, .any, .any, .any, .one (.onl 111 toqTopic 19), .any, .any, .any, .any, .any, .any, .any, .any, .any, .any, .any, .any, .any, .any, .any, .any, .any, .any, .any, .any, .any, .any, .any, .any, .any, .any, .any, .any, .any, .any, .any, .any, .any, .any, .any, .any, .any, .any, .any], [some [.ptr 1 0, .hol (.int IntKind.i64), .hol (.int IntKind.i64)], some [.hol (.sl 5 (Ty.int IntKind.u8)), .hol (.int IntKind.i64)], some [.ptr 0 0]]⟩)]⟩
-- FdoqTopics_10 : lodoqTopics_10.st.den → Tr (DenX lodoqTopics_10.xs) | ((h4, (h5, (h6, ()))), ((h7, (h8, ())), ((h9, (h10, ())), ((), ()))))
def FdoqTopics_10 (d : lodoqTopics_10.st.den) : Tr (DenX lodoqTopics_10.xs) :=
  .ite (decide (d.1.2.2.1 = 0) && (decide (d.1.2.1.length = 0) && (spDok d.2.2.1.1 d.2.2.1.2.1 && (decide (d.1.1 ≤ (16 : Int)) || decide (d.2.1.2.1 ≠ 0))))) (.ret (.ret ((), (((spRep (spoqTD d.2.1.1 d.2.2.1.1) d.1.1.toNat (d.2.1.2.1, d.2.2.1.2.1)).1, ()), decOutB d.2.1.1 d.2.2.1.1 (spRep (spoqTD d.2.1.1 d.2.2.1.1) d.1.1.toNat (d.2.1.2.1, d.2.2.1.2.1)).2)))) .no
def lpdoqTopics : Lp := lpT [(10, loHd lodoqTopics_10 FdoqTopics_10)]
def stepdoqTopics_10 {R : Type} (h4 : Int) (h5 : List toqTopic.den) (h6 : Int) (h7 : Int) (h8 : Int) (h9 : List Int) (h10 : Int) (next : Int → List toqTopic.den → Int → Int → Int → List Int → Int → Option R) (out : DenX lodoqTopics_10.xs → Option R) : Option R := bif decide (h6 < h4) then bif h8 == 0 then bif spDok h9 h10 then bif decide (h5.length + 1 ≤ 4294967296) then next (h4) (h5 ++ [(spoqTD h7 h9 (h8, h10)).fst]) (IntKind.i32.wrap (h6 + 1)) (h7) ((spoqTD h7 h9 (h8, h10)).snd.fst) (h9) ((spoqTD h7 h9 (h8, h10)).snd.snd) else none else none else out (.ret ((), ((h5, ()), ((h7, (h8, ())), ((h9, (h10, ())), ((), ())))))) else out (.ret ((), ((h5, ()), ((h7, (h8, ())), ((h9, (h10, ())), ((), ()))))))
def itdoqTopics_10 (n : Nat) (h4 : Int) (h5 : List toqTopic.den) (h6 : Int) (h7 : Int) (h8 : Int) (h9 : List Int) (h10 : Int) : Option (DenX lodoqTopics_10.xs) := lpN tt hddoqTopics dr lpdoqTopics 3 Go.Proofs.Tryz.f92 (topL Go.Proofs.Tryz.f92 0) n (lodoqTopics_10.st.mk' ((h4, (h5, (h6, ()))), ((h7, (h8, ())), ((h9, (h10, ())), ((), ()))))) (decX lodoqTopics_10.xs)
theorem sldoqTopics_10 (n : Nat) (h4 : Int) (h5 : List toqTopic.den) (h6 : Int) (h7 : Int) (h8 : Int) (h9 : List Int) (h10 : Int) : itdoqTopics_10 (n + 1) h4 h5 h6 h7 h8 h9 h10 = stepdoqTopics_10 h4 h5 h6 h7 h8 h9 h10 (itdoqTopics_10 n) some := by kernel_rfl
theorem loopdoqTopics (n v : Int) (b : List Int) : ∀ (k j : Nat) (xs : List toqTopic.den) (s : DeS), n.toNat < j + k → j ≤ n.toNat → xs.length = j → spDok b s.2 = true → (s.1 = 0 → n ≤ 16) →
    itdoqTopics_10 k n xs j v s.1 b s.2 = some (.ret ((), ((xs ++ (spRep (spoqTD v b) (n.toNat - j) s).1, ()), decOutB v b (spRep (spoqTD v b) (n.toNat - j) s).2))) := by
  intro k
  induction k with
  | zero => intro j xs s h; omega
  | succ k ih =>
    intro j xs s h1 h2 h3 h4 h5
    rw [sldoqTopics_10]
    unfold stepdoqTopics_10
    by_cases hj : (j : Int) < n
    · refine (bif_true (by simpa using hj) _ _).trans ?_
      obtain ⟨m, hm⟩ : ∃ m, n.toNat - j = m + 1 := ⟨n.toNat - j - 1, by omega⟩
      rw [hm]
      by_cases he : s.1 = 0
      · refine (bif_true (by simpa using he) _ _).trans ?_
        have hn := h5 he
        refine (bif_true h4 _ _).trans ?_
        refine (bif_true (decide_eq_true (show xs.length + 1 ≤ 4294967296 by omega)) _ _).trans ?_
        have hw : IntKind.i32.wrap ((j : Int) + 1) = ((j + 1 : Nat) : Int) := wrap_id (by simp [inR, IntKind.min, IntKind.max, IntKind.signed, IntKind.bits]; omega)
        rw [hw]
        refine (ih (j + 1) (xs ++ [(spoqTD v b s).1]) (spoqTD v b s).2 (by omega) (by omega) (by simp [h3]) (spoqTD_ok h4) (fun _ => hn)).trans ?_
        rw [show n.toNat - (j + 1) = m by omega, spRep, if_pos he]
        simp
      · refine (bif_false (by simpa using he) _ _).trans ?_
        rw [spRep, if_neg he]
        simp
    · refine (bif_false (by simpa using hj) _ _).trans ?_
      rw [show n.toNat - j = 0 by omega, spRep]
      simp
def bodydoqTopics (a0 : Int) (a1 : Int) (a2 : List Int) (a3 : Int) : Option iodoqTopics.Res := bif spDok a2 a3 then bif (spDn IntKind.i32 4 a2 (a1, a3)).snd.fst != 0 then (FdoqTopics_10 (((spDn IntKind.i32 4 a2 (a1, a3)).fst, ([], (0, ()))), ((a0, ((spDn IntKind.i32 4 a2 (a1, a3)).snd.fst, ())), ((a2, ((spDn IntKind.i32 4 a2 (a1, a3)).snd.snd, ())), ((), ()))))).run fun y => match y with | .ret ((), ((x28, ()), (x29, x30, ()), (x31, x32, ()), (), ())) => (some (Out.ret ((x28, ()), ((), x29, x30, ()), (x31, x32, ()), ((), ()), ()))) else bif decide ((spDn IntKind.i32 4 a2 (a1, a3)).fst < 0) then (FdoqTopics_10 (((spDn IntKind.i32 4 a2 (a1, a3)).fst, ([], (0, ()))), ((a0, (5, ())), ((a2, ((spDn IntKind.i32 4 a2 (a1, a3)).snd.snd, ())), ((), ()))))).run fun y => match y with | .ret ((), ((x40, ()), (x41, x42, ()), (x43, x44, ()), (), ())) => (some (Out.ret ((x40, ()), ((), x41, x42, ()), (x43, x44, ()), ((), ()), ()))) else bif decide (16 < (spDn IntKind.i32 4 a2 (a1, a3)).fst) then (FdoqTopics_10 (((spDn IntKind.i32 4 a2 (a1, a3)).fst, ([], (0, ()))), ((a0, (9, ())), ((a2, ((spDn IntKind.i32 4 a2 (a1, a3)).snd.snd, ())), ((), ()))))).run fun y => match y with | .ret ((), ((x52, ()), (x53, x54, ()), (x55, x56, ()), (), ())) => (some (Out.ret ((x52, ()), ((), x53, x54, ()), (x55, x56, ()), ((), ()), ()))) else (FdoqTopics_10 (((spDn IntKind.i32 4 a2 (a1, a3)).fst, ([], (0, ()))), ((a0, ((spDn IntKind.i32 4 a2 (a1, a3)).snd.fst, ())), ((a2, ((spDn IntKind.i32 4 a2 (a1, a3)).snd.snd, ())), ((), ()))))).run fun y => match y with | .ret ((), ((x64, ()), (x65, x66, ()), (x67, x68, ()), (), ())) => (some (Out.ret ((x64, ()), ((), x65, x66, ()), (x67, x68, ()), ((), ()), ()))) else none
theorem rundoqTopics (a0 : Int) (a1 : Int) (a2 : List Int) (a3 : Int) : Io.run tt hddoqTopics dr lpdoqTopics iodoqTopics Go.Proofs.Tryz.f92 (((), (), ()), ((), a0, a1, ()), (a2, a3, ()), ((), ()), ()) = bodydoqTopics a0 a1 a2 a3 := by kernel_rfl
theorem okdoqTopics : HcOk prog 92 (ioHd iodoqTopics FdoqTopics) := by
  refine fn_sound (n := 400) hm (cs := csdoqTopics) (.cons okdI32 (.cons okdoqTopic .nil)) (lp := lpdoqTopics) (fn := Go.Proofs.Tryz.f92) (by kernel_rfl) (by kernel_rfl) (by kernel_rfl) iodoqTopics (.step (h0 := loHd lodoqTopics_10 FdoqTopics_10) (by kernel_rfl) (loop_sound (n := 400) hm (cs := csdoqTopics) (.cons okdI32 (.cons okdoqTopic .nil)) (lp := lpdoqTopics) (fn := Go.Proofs.Tryz.f92) (.done (by kernel_rfl)) lodoqTopics_10 FdoqTopics_10 ?_) (.done (by kernel_rfl))) FdoqTopics ?_
  · rintro ⟨⟨(n : Int), (xs : List toqTopic.den), (i : Int), ⟨⟩⟩, ⟨⟨(v : Int), (e : Int), ⟨⟩⟩, ⟨(b : List Int), (p : Int), ⟨⟩⟩, ⟨⟨⟩, ⟨⟩⟩⟩⟩ y hw hy
    obtain ⟨hg, hy⟩ := Tr.guard hy
    simp only [Bool.and_eq_true, decide_eq_true_eq, Bool.or_eq_true] at hg
    obtain ⟨h1, h2, h3, h4⟩ := hg
    have h1 : i = 0 := h1
    have h2 : xs = [] := List.eq_nil_of_length_eq_zero h2
    have h3 : spDok b p = true := h3
    have h4 : n ≤ 16 ∨ e ≠ 0 := h4
    subst h1
    subst h2
    refine ⟨n.toNat + 1, (loopdoqTopics n v b (n.toNat + 1) 0 [] (e, p) (by omega) (by omega) rfl h3 (fun he => h4.resolve_right (fun h => h he))).trans ?_⟩
    rw [← hy]; rfl
  · rintro ⟨⟨⟨⟩, ⟨⟩, ⟨⟩⟩, ⟨⟨⟩, (v : Int), (e : Int), ⟨⟩⟩, ⟨(b : List Int), (p : Int), ⟨⟩⟩, ⟨⟨⟩, ⟨⟩⟩, ⟨⟩⟩ out hw ho
    obtain ⟨hg, ho⟩ := Tr.guard ho
    have hg : spDok b p = true := hg
    cases ho
    refine (rundoqTopics v e b p).trans ?_
    unfold bodydoqTopics
    show _ = some (Out.ret (((spoqTsD v b (e, p)).1, ()), decOutC v b (spoqTsD v b (e, p)).2))
    unfold spoqTsD spList
    refine (bif_true hg _ _).trans ?_
    have hr : spDok b (spDn .i32 4 b (e, p)).2.2 = true := spDn_ok .i32 4 (s := (e, p)) hg
    generalize spDn .i32 4 b (e, p) = r at hr ⊢
    obtain ⟨n, e1, q⟩ := r
    have hr : spDok b q = true := hr
    have key : ∀ e' : Int, (e' = 0 → n ≤ 16) → FdoqTopics_10 ((n, ([], (0, ()))), ((v, (e', ())), ((b, (q, ())), ((), ())))) = .ite true (.ret (.ret ((), (((spRep (spoqTD v b) n.toNat (e', q)).1, ()), decOutB v b (spRep (spoqTD v b) n.toNat (e', q)).2)))) .no := by
      intro e' he
      refine congrArg (fun c => Tr.ite c _ _) ?_
      show (decide ((0 : Int) = 0) && (decide (([] : List toqTopic.den).length = 0) && (spDok b q && (decide (n ≤ 16) || decide (e' ≠ 0))))) = true
      rw [hr]
      by_cases h : e' = 0
      · simp [he h]
      · simp [h]
    unfold spLen
    show (bif e1 != 0 then _ else _) = _
    by_cases h1 : e1 = 0
    · refine (bif_false (by simpa using h1) _ _).trans ?_
      show (bif decide (n < 0) then _ else _) = _
      rw [if_pos h1]
      by_cases h2 : n < 0
      · refine (bif_true (by simpa using h2) _ _).trans ?_
        show (FdoqTopics_10 ((n, ([], (0, ()))), ((v, (5, ())), ((b, (q, ())), ((), ()))))).run _ = _
        rw [key 5 (by omega), if_pos h2]
        rfl
      · refine (bif_false (by simpa using h2) _ _).trans ?_
        show (bif decide (16 < n) then _ else _) = _
        rw [if_neg h2]
        by_cases h3 : 16 < n
        · refine (bif_true (by simpa using h3) _ _).trans ?_
          show (FdoqTopics_10 ((n, ([], (0, ()))), ((v, (9, ())), ((b, (q, ())), ((), ()))))).run _ = _
          rw [key 9 (by omega), if_pos h3]
          rfl
        · refine (bif_false (by simpa using h3) _ _).trans ?_
          show (FdoqTopics_10 ((n, ([], (0, ()))), ((v, (e1, ())), ((b, (q, ())), ((), ()))))).run _ = _
          rw [key e1 (by omega), if_neg h3]
          rfl
    · refine (bif_true (by simpa using h1) _ _).trans ?_
      show (FdoqTopics_10 ((n, ([], (0, ()))), ((v, (e1, ())), ((b, (q, ())), ((), ()))))).run _ = _
      rw [key e1 (fun h => absurd h h1), if_neg h1]
      rfl
abbrev iodoqTopicsZ : Io := ⟨[.ptr 0 0, .fnc 93 false [1]], oDecCZ, [], [.dat (.sl 111 toqTopic) false false], none⟩
def FdoqTopicsZ (d : iodoqTopicsZ.In) : Tr iodoqTopicsZ.Res := .ite (decide (d.2.1.2.2.1 ≠ 0)) (.ret (.ret ((([] : List toqTopic.den), ()), d.2))) .no
abbrev csdoqTopicsZ : List (Nat × Hc) := [(81, orHd deadB (ioHd iodI32Z FdI32Z) (ioHd iodI32 FdI32))]
def hddoqTopicsZ : Hd := hdT csdoqTopicsZ
abbrev lodoqTopicsZ_10 : Lo := ⟨⟨[.one (.ptr 0 0), .one (.fnp 93 false [1]), .any, .any, .any, .one (.hol (.int IntKind.i32)), .one (.onl 111 toqTopic 17), .one (.hol (.int IntKind.i32)), .any, .any, .any, .any, .any, .any, .any, .any, .any, .any, .any, .any, .any, .any, .any, .any, .any, .any, .any, .any, .any, .any, .any, .any, .any, .any, .any, .any, .any, .any, .any, .any, .any, .any, .any, .any, .any, .any], [some [.nilp, .hol (.int IntKind.i64), .hol (.int IntKind.i64)], some [.ptr 0 0]]⟩, [(.exit 1, ⟨[.any, .any, .any, .any, .any, .any, .one (.onl 111 toqTopic 17), .any, .any, .any, .any, .any, .any, .any, .any, .any, .any, .any, .any, .any, .any, .any, .any, .any, .any, .any, .any, .any, .any, .any, .any, .any, .any, .any, .any, .any, .any, .any, .any, .any, .any, .any, .any, .any, .any, .any], [some [.nilp, .hol (.int IntKind.i64), .hol (.int IntKind.i64)], some [.ptr 0 0]]⟩)]⟩
-- FdoqTopicsZ_10 : lodoqTopicsZ_10.st.den → Tr (DenX lodoqTopicsZ_10.xs) | ((h2, (h3, (h4, ()))), ((h5, (h6, ())), ((), ())))
def FdoqTopicsZ_10 (d : lodoqTopicsZ_10.st.den) : Tr (DenX lodoqTopicsZ_10.xs) :=
  .ite (decide (d.2.1.2.1 ≠ 0)) (.ret (.ret ((), ((d.1.2.1, ()), d.2)))) .no
def lpdoqTopicsZ : Lp := lpT [(10, loHd lodoqTopicsZ_10 FdoqTopicsZ_10)]
def stepdoqTopicsZ_10 {R : Type} (h2 : Int) (h3 : List toqTopic.den) (h4 : Int) (h5 : Int) (h6 : Int) (next : Int → List toqTopic.den → Int → Int → Int → Option R) (out : DenX lodoqTopicsZ_10.xs → Option R) : Option R := bif decide (h4 < h2) then bif h6 == 0 then none else out (.ret ((), ((h3, ()), ((h5, (h6, ())), ((), ()))))) else out (.ret ((), ((h3, ()), ((h5, (h6, ())), ((), ())))))
def itdoqTopicsZ_10 (n : Nat) (h2 : Int) (h3 : List toqTopic.den) (h4 : Int) (h5 : Int) (h6 : Int) : Option (DenX lodoqTopicsZ_10.xs) := lpN tt hddoqTopicsZ dr lpdoqTopicsZ 2 Go.Proofs.Tryz.f92 (topL Go.Proofs.Tryz.f92 0) n (lodoqTopicsZ_10.st.mk' ((h2, (h3, (h4, ()))), ((h5, (h6, ())), ((), ())))) (decX lodoqTopicsZ_10.xs)
theorem sldoqTopicsZ_10 (n : Nat) (h2 : Int) (h3 : List toqTopic.den) (h4 : Int) (h5 : Int) (h6 : Int) : itdoqTopicsZ_10 (n + 1) h2 h3 h4 h5 h6 = stepdoqTopicsZ_10 h2 h3 h4 h5 h6 (itdoqTopicsZ_10 n) some := by kernel_rfl
def bodydoqTopicsZ (a0 : Int) (a1 : Int) : Option iodoqTopicsZ.Res := bif decide (a1 ≠ 0) then bif a1 != 0 then (FdoqTopicsZ_10 ((0, ([], (0, ()))), ((a0, (a1, ())), ((), ())))).run fun y => match y with | .ret ((), ((x13, ()), (x14, x15, ()), (), ())) => (some (Out.ret ((x13, ()), ((), x14, x15, ()), ((), ()), ()))) else (FdoqTopicsZ_10 ((0, ([], (0, ()))), ((a0, (a1, ())), ((), ())))).run fun y => match y with | .ret ((), ((x21, ()), (x22, x23, ()), (), ())) => (some (Out.ret ((x21, ()), ((), x22, x23, ()), ((), ()), ()))) else none
theorem rundoqTopicsZ (a0 : Int) (a1 : Int) : Io.run tt hddoqTopicsZ dr lpdoqTopicsZ iodoqTopicsZ Go.Proofs.Tryz.f92 (((), (), ()), ((), a0, a1, ()), ((), ()), ()) = bodydoqTopicsZ a0 a1 := by kernel_rfl
theorem okdoqTopicsZ : HcOk prog 92 (ioHd iodoqTopicsZ FdoqTopicsZ) := by
  refine fn_sound (n := 400) hm (cs := csdoqTopicsZ) (.cons (or_sound okdI32Z okdI32) .nil) (lp := lpdoqTopicsZ) (fn := Go.Proofs.Tryz.f92) (by kernel_rfl) (by kernel_rfl) (by kernel_rfl) iodoqTopicsZ (.step (h0 := loHd lodoqTopicsZ_10 FdoqTopicsZ_10) (by kernel_rfl) (loop_sound (n := 400) hm (cs := csdoqTopicsZ) (.cons (or_sound okdI32Z okdI32) .nil) (lp := lpdoqTopicsZ) (fn := Go.Proofs.Tryz.f92) (.done (by kernel_rfl)) lodoqTopicsZ_10 FdoqTopicsZ_10 ?_) (.done (by kernel_rfl))) FdoqTopicsZ ?_
  · rintro ⟨⟨(n : Int), (xs : List toqTopic.den), (i : Int), ⟨⟩⟩, ⟨⟨(v : Int), (e : Int), ⟨⟩⟩, ⟨⟨⟩, ⟨⟩⟩⟩⟩ y hw hy
    obtain ⟨hg, hy⟩ := Tr.guard hy
    have hg : e ≠ 0 := of_decide_eq_true hg
    refine ⟨1, (sldoqTopicsZ_10 0 n xs i v e).trans ?_⟩
    unfold stepdoqTopicsZ_10
    rw [← hy]
    by_cases h : i < n
    · refine (bif_true (by simpa using h) _ _).trans ?_
      exact bif_false (by simpa using hg) _ _
    · exact bif_false (by simpa using h) _ _
  · rintro ⟨⟨⟨⟩, ⟨⟩, ⟨⟩⟩, ⟨⟨⟩, (v : Int), (e : Int), ⟨⟩⟩, ⟨⟨⟩, ⟨⟩⟩, ⟨⟩⟩ out hw ho
    obtain ⟨hg, ho⟩ := Tr.guard ho
    have hg : e ≠ 0 := of_decide_eq_true hg
    cases ho
    refine (rundoqTopicsZ v e).trans ?_
    unfold bodydoqTopicsZ
    have e1 : FdoqTopicsZ_10 ((0, ([], (0, ()))), ((v, (e, ())), ((), ()))) = .ite true (.ret (.ret ((), ((([] : List toqTopic.den), ()), ((v, (e, ())), ((), ())))))) .no := congrArg (fun c => Tr.ite c _ _) (decide_eq_true hg)
    refine (bif_true (by simpa using hg) _ _).trans ?_
    refine (bif_true (by simpa using hg) _ _).trans ?_
    rw [e1]
    rfl
def spoqZ : toqMsg.den := (0, (0, (([] : List toqTopic.den), ())))
def spoqDB (v : Int) (b : List Int) (s : DeS) : toqMsg.den × DeS :=
  (((spDn .i32 4 b s).1, ((spDHasN .i8 1 v 2 3 b (spDn .i32 4 b s).2).1, ((spoqTsD v b (spDHasN .i8 1 v 2 3 b (spDn .i32 4 b s).2).2).1, ()))), (spoqTsD v b (spDHasN .i8 1 v 2 3 b (spDn .i32 4 b s).2).2).2)
def spoqD (v : Int) (b : List Int) : toqMsg.den × Int := if 0 ≤ v ∧ v ≤ 3 ∧ (b.length : Int) ≤ 130048 then (if spDEnd b (spoqDB v b (0, 0)).2 = 0 then ((spoqDB v b (0, 0)).1, 0) else (spoqZ, spDEnd b (spoqDB v b (0, 0)).2)) else (spoqZ, spNewD v)
abbrev iodoqMsg : Io := ⟨[dI, dL], [], [], [.dat toqMsg true false, dI], none⟩
def FdoqMsg (d : iodoqMsg.In) : Tr iodoqMsg.Res := .ret (.ret (((spoqD d.1.1 d.1.2.1).1, ((spoqD d.1.1 d.1.2.1).2, ())), ()))
abbrev csdoqMsg : List (Nat × Hc) := [(79, orHd newBad (ioHd iodNewZ FdNewZ) (ioHd iodNew FdNew)), (80, orHd deadB (ioHd iodHasZ FdHasZ) (ioHd iodHas FdHas)), (81, orHd deadB (ioHd iodI32Z FdI32Z) (ioHd iodI32 FdI32)), (91, orHd deadB (ioHd iodI8Z FdI8Z) (ioHd iodI8 FdI8)), (92, orHd deadB (ioHd iodoqTopicsZ FdoqTopicsZ) (ioHd iodoqTopics FdoqTopics)), (90, orHd deadB (ioHd iodEndZ FdEndZ) (ioHd iodEnd FdEnd))]
def hddoqMsg : Hd := hdT csdoqMsg
def lpdoqMsg : Lp := lpT []
def bodydoqMsg (a0 : Int) (a1 : List Int) : Option iodoqMsg.Res := bif !(decide (0 ≤ a0) && (decide (a0 ≤ 3) && decide ((↑a1.length : Int) ≤ 130048))) then bif decide (0 ≤ a0) && (decide (a0 ≤ 3) && decide ((↑a1.length : Int) ≤ 130048)) then none else bif decide (spNewD a0 ≠ 0) then bif decide (spNewD a0 ≠ 0) then bif decide (spNewD a0 ≠ 0) then bif decide (spNewD a0 ≠ 0) then bif spNewD a0 != 0 then some (Out.ret (((0, 0, [], ()), spNewD a0, ()), ())) else some (Out.ret (((0, 0, [], ()), 0, ()), ())) else none else none else none else none else bif decide (0 ≤ a0) && (decide (a0 ≤ 3) && decide ((↑a1.length : Int) ≤ 130048)) then bif spDok a1 0 then bif spDHas a0 2 3 (spRd a1 0 4).snd.snd then bif spDok a1 (spRd a1 0 4).snd.fst then bif spDok a1 (spDn IntKind.i8 1 a1 ((spRd a1 0 4).snd.snd, (spRd a1 0 4).snd.fst)).snd.snd then bif spDEnd a1 (spoqTsD a0 a1 (spDn IntKind.i8 1 a1 ((spRd a1 0 4).snd.snd, (spRd a1 0 4).snd.fst)).snd).snd != 0 then some (Out.ret (((0, 0, [], ()), spDEnd a1 (spoqTsD a0 a1 (spDn IntKind.i8 1 a1 ((spRd a1 0 4).snd.snd, (spRd a1 0 4).snd.fst)).snd).snd, ()), ())) else some (Out.ret (((IntKind.i32.wrap (spRd a1 0 4).fst, (spDn IntKind.i8 1 a1 ((spRd a1 0 4).snd.snd, (spRd a1 0 4).snd.fst)).fst, (spoqTsD a0 a1 (spDn IntKind.i8 1 a1 ((spRd a1 0 4).snd.snd, (spRd a1 0 4).snd.fst)).snd).fst, ()), 0, ()), ())) else none else none else bif spDok a1 (spRd a1 0 4).snd.fst then bif spDEnd a1 (spoqTsD a0 a1 ((spRd a1 0 4).snd.snd, (spRd a1 0 4).snd.fst)).snd != 0 then some (Out.ret (((0, 0, [], ()), spDEnd a1 (spoqTsD a0 a1 ((spRd a1 0 4).snd.snd, (spRd a1 0 4).snd.fst)).snd, ()), ())) else some (Out.ret (((IntKind.i32.wrap (spRd a1 0 4).fst, 0, (spoqTsD a0 a1 ((spRd a1 0 4).snd.snd, (spRd a1 0 4).snd.fst)).fst, ()), 0, ()), ())) else none else none else none
theorem rundoqMsg (a0 : Int) (a1 : List Int) : Io.run tt hddoqMsg dr lpdoqMsg iodoqMsg Go.Proofs.Tryz.f27 ((a0, a1, ()), ()) = bodydoqMsg a0 a1 := by kernel_rfl
theorem okdoqMsg : HcOk prog 27 (ioHd iodoqMsg FdoqMsg) := by
  refine fn_sound (n := 400) hm (cs := csdoqMsg) (.cons (or_sound okdNewZ okdNew) (.cons (or_sound okdHasZ okdHas) (.cons (or_sound okdI32Z okdI32) (.cons (or_sound okdI8Z okdI8) (.cons (or_sound okdoqTopicsZ okdoqTopics) (.cons (or_sound okdEndZ okdEnd) .nil)))))) (lp := lpdoqMsg) (fn := Go.Proofs.Tryz.f27) (by kernel_rfl) (by kernel_rfl) (by kernel_rfl) iodoqMsg (.done (by kernel_rfl)) FdoqMsg ?_
  rintro ⟨⟨(v : Int), (b : List Int), ⟨⟩⟩, ⟨⟩⟩ out hw ho
  cases ho
  refine (rundoqMsg v b).trans ?_
  unfold bodydoqMsg
  show _ = some (Out.ret (((spoqD v b).1, ((spoqD v b).2, ())), ()))
  by_cases h : 0 ≤ v ∧ v ≤ 3 ∧ (b.length : Int) ≤ 130048
  · have hc : (decide (0 ≤ v) && (decide (v ≤ 3) && decide ((b.length : Int) ≤ 130048))) = true := by simpa using h
    refine (bif_false (by rw [hc]; rfl) _ _).trans ?_
    refine (bif_true hc _ _).trans ?_
    have hg : spDok b ((0, 0) : DeS).2 = true := by simp [spDok]; omega
    unfold spoqD spoqDB
    rw [if_pos h]
    refine (bif_true hg _ _).trans ?_
    have g0 : spDok b (spDn .i32 4 b ((0, 0) : DeS)).2.2 = true := spDn_ok .i32 4 (s := ((0, 0) : DeS)) hg
    show (bif spDHas v 2 3 (spDn .i32 4 b ((0, 0) : DeS)).2.1 then _ else _) = _
    cases h1 : spDHas v 2 3 (spDn .i32 4 b ((0, 0) : DeS)).2.1
    · have e1 : spDHasN .i8 1 v 2 3 b (spDn .i32 4 b ((0, 0) : DeS)).2 = (0, (spDn .i32 4 b ((0, 0) : DeS)).2) := by unfold spDHasN; rw [if_neg (by rw [h1]; decide)]
      rw [e1]
      refine (bif_true g0 _ _).trans ?_
      have gf2 : spDok b (spoqTsD v b (spDn .i32 4 b ((0, 0) : DeS)).2).2.2 = true := spoqTsD_ok (s := (spDn .i32 4 b ((0, 0) : DeS)).2) g0
      show _ = some (Out.ret (((if spDEnd b (spoqTsD v b (spDn .i32 4 b ((0, 0) : DeS)).2).2 = 0 then _ else _ : toqMsg.den × Int).1, _), ()))
      by_cases hE : spDEnd b (spoqTsD v b (spDn .i32 4 b ((0, 0) : DeS)).2).2 = 0
      · rw [if_pos hE]
        exact bif_false (show (spDEnd b (spoqTsD v b (spDn .i32 4 b ((0, 0) : DeS)).2).2 != 0) = false by simpa using hE) _ _
      · rw [if_neg hE]
        exact bif_true (show (spDEnd b (spoqTsD v b (spDn .i32 4 b ((0, 0) : DeS)).2).2 != 0) = true by simpa using hE) _ _
    · have e1 : spDHasN .i8 1 v 2 3 b (spDn .i32 4 b ((0, 0) : DeS)).2 = spDn .i8 1 b (spDn .i32 4 b ((0, 0) : DeS)).2 := by unfold spDHasN; rw [if_pos h1]
      rw [e1]
      refine (bif_true g0 _ _).trans ?_
      have g1 : spDok b (spDn .i8 1 b (spDn .i32 4 b ((0, 0) : DeS)).2).2.2 = true := spDn_ok .i8 1 (s := (spDn .i32 4 b ((0, 0) : DeS)).2) g0
      refine (bif_true g1 _ _).trans ?_
      have gt2 : spDok b (spoqTsD v b (spDn .i8 1 b (spDn .i32 4 b ((0, 0) : DeS)).2).2).2.2 = true := spoqTsD_ok (s := (spDn .i8 1 b (spDn .i32 4 b ((0, 0) : DeS)).2).2) g1
      show _ = some (Out.ret (((if spDEnd b (spoqTsD v b (spDn .i8 1 b (spDn .i32 4 b ((0, 0) : DeS)).2).2).2 = 0 then _ else _ : toqMsg.den × Int).1, _), ()))
      by_cases hE : spDEnd b (spoqTsD v b (spDn .i8 1 b (spDn .i32 4 b ((0, 0) : DeS)).2).2).2 = 0
      · rw [if_pos hE]
        exact bif_false (show (spDEnd b (spoqTsD v b (spDn .i8 1 b (spDn .i32 4 b ((0, 0) : DeS)).2).2).2 != 0) = false by simpa using hE) _ _
      · rw [if_neg hE]
        exact bif_true (show (spDEnd b (spoqTsD v b (spDn .i8 1 b (spDn .i32 4 b ((0, 0) : DeS)).2).2).2 != 0) = true by simpa using hE) _ _
  · have hc : (decide (0 ≤ v) && (decide (v ≤ 3) && decide ((b.length : Int) ≤ 130048))) = false := by
      rw [Bool.eq_false_iff]
      intro h'
      simp only [Bool.and_eq_true, decide_eq_true_eq] at h'
      exact h h'
    have hn : spNewD v ≠ 0 := by unfold spNewD; split <;> decide
    unfold spoqD
    rw [if_neg h]
    refine (bif_true (by rw [hc]; rfl) _ _).trans ?_
    refine (bif_false hc _ _).trans ?_
    repeat refine (bif_true (decide_eq_true hn) _ _).trans ?_
    exact bif_true (by simpa using hn) _ _
end
end Go.Proofs.YtjpeefegeobgfaaGreat.Sym
