/- leatref10.value, parts. -/
import Derived.Test.YtmlgepgcofmpeaaGreatQ5

namespace Go.Proofs.YtmlgepgcofmpeaaGreat.Sym
open Go
set_option linter.unusedSimpArgs false
set_option linter.unusedVariables false
noncomputable section
mutual
def spVal (f : Fd) (v : Int) : Nd → List Int × Int
  | .mk a ks =>
    if spShN f.lab.2.1 (.mk a ks) = false then ([], 101)
    else if f.lab.2.1 ≤ 4 then (if spFits a.2.1 (spWid f.lab.2.1) = true then (spBE a.2.1 (spWid f.lab.2.1).toNat, 0) else ([], 102))
    else if f.lab.2.1 = 9 then (if 16 < ks.length then ([], 9) else if (spVItems (f.kids.headD f) v ks).2 ≠ 0 then ([], (spVItems (f.kids.headD f) v ks).2) else (spBE ks.length 4 ++ (spVItems (f.kids.headD f) v ks).1, 0))
    else if f.lab.2.1 = 10 then spVParts f.kids v (.mk a ks)
    else if a.2.2.1 = true then (if a.2.2.2.1.length = 0 then (spBE (-1) (spWid f.lab.2.1).toNat, 0) else ([], 70))
    else if f.lab.2.1 ≤ 6 ∧ (spUtf a.2.2.2.1).2 = false then ([], 6)
    else if f.lab.2.1 ≤ 6 ∧ 255 < a.2.2.2.1.length then ([], 4)
    else (spBE a.2.2.2.1.length (spWid f.lab.2.1).toNat ++ a.2.2.2.1, 0)
termination_by n => (SizeOf.sizeOf n, 1)
def spVParts (fs : List Fd) (v : Int) : Nd → List Int × Int
  | .mk a ks => if ks.length ≠ (spHere fs v).length then ([], 101) else spVZip v (spHere fs v) ks
termination_by n => (SizeOf.sizeOf n, 0)
def spVItems (f : Fd) (v : Int) : List Nd → List Int × Int
  | [] => ([], 0)
  | k :: ks => if (spVal f v k).2 ≠ 0 then ([], (spVal f v k).2) else if (spVItems f v ks).2 ≠ 0 then ([], (spVItems f v ks).2) else ((spVal f v k).1 ++ (spVItems f v ks).1, 0)
termination_by l => (SizeOf.sizeOf l, 0)
def spVZip (v : Int) : List Fd → List Nd → List Int × Int
  | f :: fs, k :: ks => if (spVal f v k).2 ≠ 0 then ([], (spVal f v k).2) else if (spVZip v fs ks).2 ≠ 0 then ([], (spVZip v fs ks).2) else ((spVal f v k).1 ++ (spVZip v fs ks).1, 0)
  | _, _ => ([], 0)
termination_by fs l => (SizeOf.sizeOf l, 0)
end
mutual
def Tre.arr : Fd → Bool
  | .mk a ks => ((decide (a.2.1 ≠ 9) || decide (ks.length ≠ 0)) && decide (ks.length ≤ 16)) && Tre.arrs ks
def Tre.arrs : List Fd → Bool
  | [] => true
  | k :: ks => k.arr && Tre.arrs ks
end
@[irreducible] noncomputable def spArr (f : Fd) : Bool := f.arr
@[irreducible] noncomputable def spArrs (f : List Fd) : Bool := Tre.arrs f
theorem spArr_eq (f : Fd) : spArr f = (((decide (f.lab.2.1 ≠ 9) || decide (f.kids.length ≠ 0)) && decide (f.kids.length ≤ 16)) && spArrs f.kids) := by
  cases f; unfold spArr spArrs; rfl
theorem spArrs_mem {k : Fd} : ∀ {l : List Fd}, spArrs l = true → k ∈ l → spArr k = true
  | [], _, h => by cases h
  | x :: l, h, hk => by
    unfold spArrs at h
    simp only [Tre.arrs, Bool.and_eq_true] at h
    rcases List.mem_cons.1 hk with rfl | hk
    · unfold spArr; exact h.1
    · exact spArrs_mem (l := l) (by unfold spArrs; exact h.2) hk
theorem spArrs_here {l : List Fd} {v : Int} (h : spArrs l = true) : spArrs (spHere l v) = true := by
  have key : ∀ l : List Fd, (∀ k ∈ l, spArr k = true) → spArrs l = true := by
    intro l
    induction l with
    | nil => intro _; unfold spArrs; rfl
    | cons x l ih =>
      intro h
      have h1 := ih fun k hk => h k (List.mem_cons_of_mem _ hk)
      have h2 := h x (by simp)
      unfold spArrs spArr at *
      simp only [Tre.arrs, h1, h2, Bool.and_self]
  refine key _ fun k hk => spArrs_mem h (List.mem_filter.1 hk).1
theorem spWts_cons (k : Nd) (ks : List Nd) : spWts (k :: ks) = spWt k + spWts ks := by unfold spWts spWt; rfl
theorem spWid_le (k : Int) : 1 ≤ spWid k ∧ spWid k ≤ 8 := by unfold spWid; split; omega; split; omega; split <;> omega
theorem spVItems_len {f : Fd} {v : Int} : ∀ {ks : List Nd}, (∀ k ∈ ks, (spVal f v k).1.length ≤ 8 * spWt k) → (spVItems f v ks).1.length ≤ 8 * spWts ks
  | [], _ => by rw [spVItems]; simp
  | k :: ks, h => by
    have h1 := h k (by simp)
    have h2 := spVItems_len (f := f) (v := v) (ks := ks) fun k hk => h k (List.mem_cons_of_mem _ hk)
    rw [spVItems, spWts_cons]
    split
    · simp
    · split
      · simp
      · rw [List.length_append]; omega
theorem spVZip_len {v : Int} : ∀ {fs : List Fd} {ks : List Nd}, (∀ f, ∀ k ∈ ks, (spVal f v k).1.length ≤ 8 * spWt k) → (spVZip v fs ks).1.length ≤ 8 * spWts ks
  | f :: fs, k :: ks, h => by
    have h1 := h f k (by simp)
    have h2 := spVZip_len (v := v) (fs := fs) (ks := ks) fun f k hk => h f k (List.mem_cons_of_mem _ hk)
    rw [spVZip, spWts_cons]
    split
    · simp
    · split
      · simp
      · rw [List.length_append]; omega
  | [], ks, h => by rw [spVZip]; simp; simp
  | _ :: _, [], h => by rw [spVZip]; simp; simp
theorem spVZip_nil {v : Int} : ∀ {fs : List Fd} {ks : List Nd}, (spVZip v fs ks).2 ≠ 0 → (spVZip v fs ks).1 = []
  | [], ks, h => by rw [spVZip]; simp
  | _ :: _, [], h => by rw [spVZip]; simp
  | f :: fs, k :: ks, h => by
    rw [spVZip] at h ⊢
    split
    · rfl
    · rename_i h1
      rw [if_neg h1] at h
      split
      · rfl
      · rename_i h2
        rw [if_neg h2] at h
        exact absurd rfl h
theorem spVal_lenN (v : Int) : ∀ (N : Nat), (∀ f n, spWt n ≤ N → (spVal f v n).1.length ≤ 8 * spWt n) ∧ (∀ fs n, spWt n ≤ N → (spVParts fs v n).1.length + 8 ≤ 8 * spWt n) := by
  intro N
  induction N with
  | zero => exact ⟨fun f n h => by have := spWt_pos n; omega, fun f n h => by have := spWt_pos n; omega⟩
  | succ N ih =>
    have hp : ∀ fs n, spWt n ≤ N + 1 → (spVParts fs v n).1.length + 8 ≤ 8 * spWt n := by
      rintro fs ⟨a, ks⟩ h
      rw [spWt_eq] at h ⊢
      rw [spVParts]
      simp only at h ⊢
      split
      · simp; omega
      · have := spVZip_len (v := v) (fs := spHere fs v) (ks := ks) fun f k hk => ih.1 f k (by have := spWt_mem hk; omega)
        omega
    refine ⟨?_, hp⟩
    rintro f ⟨a, ks⟩ h
    have hpp := hp f.kids (.mk a ks) h
    have hw := spWid_le f.lab.2.1
    rw [spWt_eq] at h hpp ⊢
    rw [spVal]
    simp only at h hpp ⊢
    have hi := spVItems_len (f := f.kids.headD f) (v := v) (ks := ks) fun k hk => ih.1 _ k (by have := spWt_mem hk; omega)
    split
    · simp
    split
    · split
      · simp [spBE_len]; omega
      · simp
    split
    · split
      · simp
      · split
        · simp
        · rw [List.length_append, spBE_len]; omega
    split
    · omega
    split
    · split
      · simp [spBE_len]; omega
      · simp
    split
    · simp
    split
    · simp
    · rw [List.length_append, spBE_len]; omega
theorem spVal_len (f : Fd) (v : Int) (n : Nd) : (spVal f v n).1.length ≤ 8 * spWt n := (spVal_lenN v _).1 f n (Nat.le_refl _)
abbrev iovValue : Io := ⟨[dFld, dI, dNode], [], [], [dL, dI], none⟩
def FvValueN (n : Nat) (d : iovValue.In) : Tr iovValue.Res := .ite (decide (2 * spWt d.1.2.2.1 + 1 ≤ n) && (spArr d.1.1 && decide (8 * spWt d.1.2.2.1 ≤ 4294967296))) (.ret (.ret (((spVal d.1.1 d.1.2.1 d.1.2.2.1).1, ((spVal d.1.1 d.1.2.1 d.1.2.2.1).2, ())), ()))) .no
abbrev iovParts : Io := ⟨[dFlds, dI, dNode], [], [], [dL, dI], none⟩
def FvPartsN (n : Nat) (d : iovParts.In) : Tr iovParts.Res := .ite (decide (2 * spWt d.1.2.2.1 ≤ n) && (spArrs d.1.1 && (decide (8 * spWt d.1.2.2.1 ≤ 4294967296) && decide (d.1.1.length ≤ 4294967296)))) (.ret (.ret (((spVParts d.1.1 d.1.2.1 d.1.2.2.1).1, ((spVParts d.1.1 d.1.2.1 d.1.2.2.1).2, ())), ()))) .no
def FvParts (d : iovParts.In) : Tr iovParts.Res := .ite (spArrs d.1.1 && (decide (8 * spWt d.1.2.2.1 ≤ 4294967296) && decide (d.1.1.length ≤ 4294967296))) (.ret (.ret (((spVParts d.1.1 d.1.2.1 d.1.2.2.1).1, ((spVParts d.1.1 d.1.2.1 d.1.2.2.1).2, ())), ()))) .no
section
variable [Inhabited FuT]
abbrev csvValue : List (Nat × Hc) := [(130, ioHd iotShape FtShape), (154, ioHd iotWidth FtWidth), (155, ioHd ionFits FnFits), (156, ioHd ionDigits FnDigits), (145, ioHd iovValue (FvValueN spFuel)), (131, ioHd iovParts (FvPartsN spFuel)), (157, ioHd iorUtf FrUtf), (146, ioHd ioCat FCat)]
def hdvValue : Hd := hdT csvValue
abbrev lovValue_14 : Lo := ⟨⟨[.any, .one (.hol (.int IntKind.i64)), .any, .one (.ptr 3 0), .any, .one (.ptr 5 0), .any, .any, .any, .one (.onl 5 (Ty.int IntKind.u8) 19), .one (.hol (.int IntKind.i64)), .any, .any, .any, .any, .any, .any, .any, .any, .any, .any, .any, .any, .any, .any, .any, .any, .any, .any, .any, .any, .any, .any, .any, .any, .any, .any, .any, .any, .any, .any, .any, .any, .any, .any, .any, .any, .any, .any, .any, .any, .any, .any, .any, .any, .any, .any, .any, .any, .any, .any, .any, .any, .any, .any, .any, .any, .any, .any, .any, .any, .any, .any, .any, .any, .any, .any, .any, .any, .any, .any, .any, .any, .any, .any, .any, .any, .any, .any, .any, .any, .any, .any, .any, .any, .any, .any, .any, .any, .any, .any, .any, .any, .any, .any, .any, .any, .any, .any, .any, .any, .any, .any, .any, .any, .any, .any, .any], [none, none, none, some [.hol .str, .hol (.int IntKind.i64), .hol (.int IntKind.i64), .hol (.int IntKind.i64), .hol (.sl 159 tFld)], none, some [.hol (.int IntKind.i64), .hol (.int IntKind.i64), .hol .bool, .hol (.sl 5 (Ty.int IntKind.u8)), .hol (.sl 68 (((Ty.int IntKind.i64).prod ((Ty.int IntKind.i64).prod (Ty.bool.prod ((Ty.sl 5 (Ty.int IntKind.u8)).prod Ty.unit)))).tree 68))]]⟩, [(.ret, ⟨[.any, .any, .any, .any, .any, .any, .one (.onl 5 (Ty.int IntKind.u8) 13), .one (.hol (.int IntKind.i64)), .any, .any, .any, .any, .any, .any, .any, .any, .any, .any, .any, .any, .any, .any, .any, .any, .any, .any, .any, .any, .any, .any, .any, .any, .any, .any, .any, .any, .any, .any, .any, .any, .any, .any, .any, .any, .any, .any, .any, .any, .any, .any, .any, .any, .any, .any, .any, .any, .any, .any, .any, .any, .any, .any, .any, .any, .any, .any, .any, .any, .any, .any, .any, .any, .any, .any, .any, .any, .any, .any, .any, .any, .any, .any, .any, .any, .any, .any, .any, .any, .any, .any, .any, .any, .any, .any, .any, .any, .any, .any, .any, .any, .any, .any, .any, .any, .any, .any, .any, .any, .any, .any, .any, .any, .any, .any, .any, .any, .any, .any], []⟩), (.exit 0, ⟨[.any, .any, .any, .any, .any, .any, .any, .any, .any, .one (.onl 5 (Ty.int IntKind.u8) 19), .any, .any, .any, .any, .any, .any, .any, .any, .any, .any, .any, .any, .any, .any, .any, .any, .any, .any, .any, .any, .any, .any, .any, .any, .any, .any, .any, .any, .any, .any, .any, .any, .any, .any, .any, .any, .any, .any, .any, .any, .any, .any, .any, .any, .any, .any, .any, .any, .any, .any, .any, .any, .any, .any, .any, .any, .any, .any, .any, .any, .any, .any, .any, .any, .any, .any, .any, .any, .any, .any, .any, .any, .any, .any, .any, .any, .any, .any, .any, .any, .any, .any, .any, .any, .any, .any, .any, .any, .any, .any, .any, .any, .any, .any, .any, .any, .any, .any, .any, .any, .any, .any, .any, .any, .any, .any, .any, .any], []⟩)]⟩
-- FvValue_14 : lovValue_14.st.den → Tr (DenX lovValue_14.xs) | ((h3, (h4, (h5, ()))), ((h6, (h7, (h8, (h9, (h10, ()))))), ((h11, (h12, (h13, (h14, (h15, ()))))), ())))
def FvValue_14 (d : lovValue_14.st.den) : Tr (DenX lovValue_14.xs) :=
  .ite (decide (d.1.2.2.1 = 0) && (decide (d.1.2.1.length = 4) && ((decide (d.2.1.2.2.2.2.1.length ≠ 0) && spArrs d.2.1.2.2.2.2.1) && (decide (2 * spWts d.2.2.1.2.2.2.2.1 + 1 ≤ spFuel) && decide (8 + 8 * spWts d.2.2.1.2.2.2.2.1 ≤ 4294967296)))))
    (.ite (decide ((spVItems (d.2.1.2.2.2.2.1.headD (.mk ([], (0, (0, (0, ())))) [])) d.1.1 d.2.2.1.2.2.2.2.1).2 = 0))
      (.ret (.pan (.ret ((), ((d.1.2.1 ++ (spVItems (d.2.1.2.2.2.2.1.headD (.mk ([], (0, (0, (0, ())))) [])) d.1.1 d.2.2.1.2.2.2.2.1).1, ()), ())))))
      (.ret (.ret ((), (([], ((spVItems (d.2.1.2.2.2.2.1.headD (.mk ([], (0, (0, (0, ())))) [])) d.1.1 d.2.2.1.2.2.2.2.1).2, ())), ()))))) .no
def lpvValue : Lp := lpT [(14, loHd lovValue_14 FvValue_14)]
def stepvValue_14 {R : Type} (h3 : Int) (h4 : List Int) (h5 : Int) (h6 : List Int) (h7 : Int) (h8 : Int) (h9 : Int) (h10 : List (Fd)) (h11 : Int) (h12 : Int) (h13 : Bool) (h14 : List Int) (h15 : List (Nd)) (next : Int → List Int → Int → List Int → Int → Int → Int → List (Fd) → Int → Int → Bool → List Int → List (Nd) → Option R) (out : DenX lovValue_14.xs → Option R) : Option R := bif decide (h5 < (↑h15.length : Int)) then bif decide (0 ≤ 0) && decide (0 < (↑h10.length : Int)) then bif decide (0 ≤ h5) && decide (h5 < (↑h15.length : Int)) then bif decide (2 * spWt (Tre.mk (h15.getD h5.toNat (Tre.mk (0, 0, false, [], ()) [])).1 (h15.getD h5.toNat (Tre.mk (0, 0, false, [], ()) [])).2) + 1 ≤ spFuel) && (spArr (Tre.mk (h10.getD (Int.toNat 0) (Tre.mk ([], 0, 0, 0, ()) [])).1 (h10.getD (Int.toNat 0) (Tre.mk ([], 0, 0, 0, ()) [])).2) && decide (8 * spWt (Tre.mk (h15.getD h5.toNat (Tre.mk (0, 0, false, [], ()) [])).1 (h15.getD h5.toNat (Tre.mk (0, 0, false, [], ()) [])).2) ≤ 4294967296)) then bif (spVal (Tre.mk (h10.getD (Int.toNat 0) (Tre.mk ([], 0, 0, 0, ()) [])).1 (h10.getD (Int.toNat 0) (Tre.mk ([], 0, 0, 0, ()) [])).2) h3 (Tre.mk (h15.getD h5.toNat (Tre.mk (0, 0, false, [], ()) [])).1 (h15.getD h5.toNat (Tre.mk (0, 0, false, [], ()) [])).2)).snd != 0 then out (.ret ((), (([], ((spVal (Tre.mk (h10.getD (Int.toNat 0) (Tre.mk ([], 0, 0, 0, ()) [])).1 (h10.getD (Int.toNat 0) (Tre.mk ([], 0, 0, 0, ()) [])).2) h3 (Tre.mk (h15.getD h5.toNat (Tre.mk (0, 0, false, [], ()) [])).1 (h15.getD h5.toNat (Tre.mk (0, 0, false, [], ()) [])).2)).snd, ())), ()))) else bif decide (h4.length + (spVal (Tre.mk (h10.getD (Int.toNat 0) (Tre.mk ([], 0, 0, 0, ()) [])).1 (h10.getD (Int.toNat 0) (Tre.mk ([], 0, 0, 0, ()) [])).2) h3 (Tre.mk (h15.getD h5.toNat (Tre.mk (0, 0, false, [], ()) [])).1 (h15.getD h5.toNat (Tre.mk (0, 0, false, [], ()) [])).2)).fst.length ≤ 4294967296) then next (h3) (h4 ++ (spVal (Tre.mk (h10.getD (Int.toNat 0) (Tre.mk ([], 0, 0, 0, ()) [])).1 (h10.getD (Int.toNat 0) (Tre.mk ([], 0, 0, 0, ()) [])).2) h3 (Tre.mk (h15.getD h5.toNat (Tre.mk (0, 0, false, [], ()) [])).1 (h15.getD h5.toNat (Tre.mk (0, 0, false, [], ()) [])).2)).fst) (IntKind.i64.wrap (h5 + 1)) (h6) (h7) (h8) (h9) (h10) (h11) (h12) (h13) (h14) (h15) else none else none else none else none else out (.pan (.ret ((), ((h4, ()), ()))))
def itvValue_14 (n : Nat) (h3 : Int) (h4 : List Int) (h5 : Int) (h6 : List Int) (h7 : Int) (h8 : Int) (h9 : Int) (h10 : List (Fd)) (h11 : Int) (h12 : Int) (h13 : Bool) (h14 : List Int) (h15 : List (Nd)) : Option (DenX lovValue_14.xs) := lpN tt hdvValue dr lpvValue 0 Go.Proofs.Tryz.f145 (topL Go.Proofs.Tryz.f145 0) n (lovValue_14.st.mk' ((h3, (h4, (h5, ()))), ((h6, (h7, (h8, (h9, (h10, ()))))), ((h11, (h12, (h13, (h14, (h15, ()))))), ())))) (decX lovValue_14.xs)
theorem slvValue_14 (n : Nat) (h3 : Int) (h4 : List Int) (h5 : Int) (h6 : List Int) (h7 : Int) (h8 : Int) (h9 : Int) (h10 : List (Fd)) (h11 : Int) (h12 : Int) (h13 : Bool) (h14 : List Int) (h15 : List (Nd)) : itvValue_14 (n + 1) h3 h4 h5 h6 h7 h8 h9 h10 h11 h12 h13 h14 h15 = stepvValue_14 h3 h4 h5 h6 h7 h8 h9 h10 h11 h12 h13 h14 h15 (itvValue_14 n) some := by kernel_rfl
theorem loopvValue {f0 : Fd} {fs : List Fd} {ks : List Nd} {v : Int} (hl : ks.length ≤ maxLen) (ha : spArr f0 = true) (hf : 2 * spWts ks + 1 ≤ spFuel) (hb : 8 * spWts ks ≤ 4294967296) (nm : List Int) (k' lo hi a b : Int) (z : Bool) (x : List Int) : ∀ (k j : Nat) (o : List Int), ks.length < j + k → j ≤ ks.length → o.length + 8 * spWts (ks.drop j) ≤ 4294967296 →
    itvValue_14 k v o j nm k' lo hi (f0 :: fs) a b z x ks = if (spVItems f0 v (ks.drop j)).2 = 0 then some (.pan (.ret ((), ((o ++ (spVItems f0 v (ks.drop j)).1, ()), ())))) else some (.ret ((), (([], ((spVItems f0 v (ks.drop j)).2, ())), ()))) := by
  intro k
  induction k with
  | zero => intro j o h1 h2; omega
  | succ k ih =>
    intro j o h1 h2 h3
    rw [slvValue_14]
    unfold stepvValue_14
    by_cases hj : j < ks.length
    · refine (bif_true (decide_eq_true (show (j : Int) < (ks.length : Int) by omega)) _ _).trans ?_
      refine (bif_true (by simp) _ _).trans ?_
      refine (bif_true (by simp; omega) _ _).trans ?_
      have hmem := spWt_mem (List.getElem_mem hj)
      have hd : ks.drop j = ks[j] :: ks.drop (j + 1) := List.drop_eq_getElem_cons hj
      have hvl := spVal_len f0 v ks[j]
      have ih' := ih (j + 1) (o ++ (spVal f0 v ks[j]).1) (by omega) (by omega)
      rw [hd, spWts_cons] at h3
      rw [hd, spVItems]
      rw [wrap_succ hj hl]
      simp only [Int.toNat_natCast, getD_lt hj]
      generalize ks[j] = u at hmem hvl ih' h3 ⊢
      obtain ⟨ul, uk⟩ := u
      obtain ⟨fl, fk⟩ := f0
      refine (bif_true (show (decide (2 * spWt (Tre.mk ul uk) + 1 ≤ spFuel) && (spArr (Tre.mk fl fk) && decide (8 * spWt (Tre.mk ul uk) ≤ 4294967296))) = true by rw [ha]; simp; omega) _ _).trans ?_
      by_cases he : (spVal (Tre.mk fl fk) v (Tre.mk ul uk)).2 = 0
      · refine (bif_false (show ((spVal (Tre.mk fl fk) v (Tre.mk ul uk)).2 != 0) = false by rw [he]; rfl) _ _).trans ?_
        refine (bif_true (decide_eq_true (show o.length + (spVal (Tre.mk fl fk) v (Tre.mk ul uk)).1.length ≤ 4294967296 by omega)) _ _).trans ?_
        refine (ih' (by rw [List.length_append]; omega)).trans ?_
        by_cases h2 : (spVItems (Tre.mk fl fk) v (ks.drop (j + 1))).2 = 0
        · simp [he, h2]
        · simp [he, h2]
      · refine (bif_true (show ((spVal (Tre.mk fl fk) v (Tre.mk ul uk)).2 != 0) = true by simpa using he) _ _).trans ?_
        simp [he]
    · refine (bif_false (decide_eq_false (show ¬ (j : Int) < (ks.length : Int) by omega)) _ _).trans ?_
      rw [List.drop_of_length_le (by omega), spVItems, if_pos rfl, List.append_nil]
def bodyvValue (a0 : Fd) (a1 : Int) (a2 : Nd) : Option iovValue.Res := bif !spShN a0.1.snd.fst (Tre.mk a2.1 a2.2) then some (Out.ret (([], 101, ()), ())) else bif decide (a0.1.snd.fst ≤ 4) then bif decide (1 ≤ spWid a0.1.snd.fst) then bif !spFits a2.1.snd.fst (spWid a0.1.snd.fst) then some (Out.ret (([], 102, ()), ())) else bif decide (0 ≤ spWid a0.1.snd.fst) && decide (spWid a0.1.snd.fst ≤ 8) then some (Out.ret ((spBE a2.1.snd.fst (spWid a0.1.snd.fst).toNat, 0, ()), ())) else none else none else bif a0.1.snd.fst == 9 then bif decide (16 < (↑a2.2.length : Int)) then some (Out.ret (([], 9, ()), ())) else (FvValue_14 ((a1, (spBE (↑a2.2.length : Int) (Int.toNat 4), (0, ()))), ((a0.1.fst, (a0.1.snd.fst, (a0.1.snd.snd.fst, (a0.1.snd.snd.snd.fst, (a0.2, ()))))), ((a2.1.fst, (a2.1.snd.fst, (a2.1.snd.snd.fst, (a2.1.snd.snd.snd.fst, (a2.2, ()))))), ())))).run fun y => match y with | .ret ((), ((x32, x33, ()), ())) => (some (Out.ret ((x32, x33, ()), ()))) | .pan (.ret ((), ((x34, ()), ()))) => (some (Out.ret ((x34, 0, ()), ()))) else bif a0.1.snd.fst == 10 then bif decide (2 * spWt (Tre.mk a2.1 a2.2) ≤ spFuel) && (spArrs a0.2 && (decide (8 * spWt (Tre.mk a2.1 a2.2) ≤ 4294967296) && decide (a0.2.length ≤ 4294967296))) then some (Out.ret (((spVParts a0.2 a1 (Tre.mk a2.1 a2.2)).fst, (spVParts a0.2 a1 (Tre.mk a2.1 a2.2)).snd, ()), ())) else none else bif a2.1.snd.snd.fst then bif decide (0 < (↑(List.length a2.1.snd.snd.snd.fst) : Int)) then some (Out.ret (([], 70, ()), ())) else bif a2.1.snd.snd.fst then bif decide (0 ≤ spWid a0.1.snd.fst) && decide (spWid a0.1.snd.fst ≤ 8) then some (Out.ret ((spBE (-1) (spWid a0.1.snd.fst).toNat, 0, ()), ())) else none else bif decide (a0.1.snd.fst ≤ 6) then bif !(spUtf a2.1.snd.snd.snd.fst).snd then some (Out.ret (([], 6, ()), ())) else bif decide (255 < (↑(List.length a2.1.snd.snd.snd.fst) : Int)) then some (Out.ret (([], 4, ()), ())) else bif decide (0 ≤ spWid a0.1.snd.fst) && decide (spWid a0.1.snd.fst ≤ 8) then bif decide ((spBE (↑(List.length a2.1.snd.snd.snd.fst) : Int) (spWid a0.1.snd.fst).toNat).length + List.length a2.1.snd.snd.snd.fst ≤ 4294967296) then some (Out.ret ((spBE (↑(List.length a2.1.snd.snd.snd.fst) : Int) (spWid a0.1.snd.fst).toNat ++ a2.1.snd.snd.snd.fst, 0, ()), ())) else none else none else bif decide (0 ≤ spWid a0.1.snd.fst) && decide (spWid a0.1.snd.fst ≤ 8) then bif decide ((spBE (↑(List.length a2.1.snd.snd.snd.fst) : Int) (spWid a0.1.snd.fst).toNat).length + List.length a2.1.snd.snd.snd.fst ≤ 4294967296) then some (Out.ret ((spBE (↑(List.length a2.1.snd.snd.snd.fst) : Int) (spWid a0.1.snd.fst).toNat ++ a2.1.snd.snd.snd.fst, 0, ()), ())) else none else none else bif a2.1.snd.snd.fst then bif decide (0 ≤ spWid a0.1.snd.fst) && decide (spWid a0.1.snd.fst ≤ 8) then some (Out.ret ((spBE (-1) (spWid a0.1.snd.fst).toNat, 0, ()), ())) else none else bif decide (a0.1.snd.fst ≤ 6) then bif !(spUtf a2.1.snd.snd.snd.fst).snd then some (Out.ret (([], 6, ()), ())) else bif decide (255 < (↑(List.length a2.1.snd.snd.snd.fst) : Int)) then some (Out.ret (([], 4, ()), ())) else bif decide (0 ≤ spWid a0.1.snd.fst) && decide (spWid a0.1.snd.fst ≤ 8) then bif decide ((spBE (↑(List.length a2.1.snd.snd.snd.fst) : Int) (spWid a0.1.snd.fst).toNat).length + List.length a2.1.snd.snd.snd.fst ≤ 4294967296) then some (Out.ret ((spBE (↑(List.length a2.1.snd.snd.snd.fst) : Int) (spWid a0.1.snd.fst).toNat ++ a2.1.snd.snd.snd.fst, 0, ()), ())) else none else none else bif decide (0 ≤ spWid a0.1.snd.fst) && decide (spWid a0.1.snd.fst ≤ 8) then bif decide ((spBE (↑(List.length a2.1.snd.snd.snd.fst) : Int) (spWid a0.1.snd.fst).toNat).length + List.length a2.1.snd.snd.snd.fst ≤ 4294967296) then some (Out.ret ((spBE (↑(List.length a2.1.snd.snd.snd.fst) : Int) (spWid a0.1.snd.fst).toNat ++ a2.1.snd.snd.snd.fst, 0, ()), ())) else none else none
theorem runvValue (a0 : Fd) (a1 : Int) (a2 : Nd) : Io.run tt hdvValue dr lpvValue iovValue Go.Proofs.Tryz.f145 ((a0, a1, a2, ()), ()) = bodyvValue a0 a1 a2 := by kernel_rfl
theorem okvValueS (rvValue : HcOk prog 145 (ioHd iovValue (FvValueN spFuel))) (rvParts : HcOk prog 131 (ioHd iovParts (FvPartsN spFuel))) : HcOk prog 145 (ioHd iovValue (FvValueN (spFuel + 1))) := by
  refine fn_sound (n := 400) hm (cs := csvValue) (.cons oktShape (.cons oktWidth (.cons oknFits (.cons oknDigits (.cons rvValue (.cons rvParts (.cons okrUtf (.cons okCat .nil)))))))) (lp := lpvValue) (fn := Go.Proofs.Tryz.f145) (by kernel_rfl) (by kernel_rfl) (by kernel_rfl) iovValue (.step (h0 := loHd lovValue_14 FvValue_14) (by kernel_rfl) (loop_sound (n := 400) hm (cs := csvValue) (.cons oktShape (.cons oktWidth (.cons oknFits (.cons oknDigits (.cons rvValue (.cons rvParts (.cons okrUtf (.cons okCat .nil)))))))) (lp := lpvValue) (fn := Go.Proofs.Tryz.f145) (.done (by kernel_rfl)) lovValue_14 FvValue_14 ?_) (.done (by kernel_rfl))) (FvValueN (spFuel + 1)) ?_
  · rintro ⟨⟨(v : Int), (o : List Int), (i : Int), ⟨⟩⟩, ⟨⟨(nm : List Int), (k' : Int), (lo : Int), (hi : Int), (fs : List Fd), ⟨⟩⟩, ⟨(a : Int), (b : Int), (z : Bool), (x : List Int), (ks : List Nd), ⟨⟩⟩, ⟨⟩⟩⟩ y hw hy
    obtain ⟨hg, hy⟩ := Tr.guard hy
    simp only [Bool.and_eq_true, decide_eq_true_eq] at hg
    obtain ⟨h1, h2, ⟨h3, h4⟩, h5, h6⟩ := hg
    have h1 : i = 0 := h1
    have h2 : o.length = 4 := h2
    have h3 : fs.length ≠ 0 := h3
    have h4 : spArrs fs = true := h4
    have h5 : 2 * spWts ks + 1 ≤ spFuel := h5
    have h6 : 8 + 8 * spWts ks ≤ 4294967296 := h6
    subst h1
    obtain ⟨f0, fs, rfl⟩ : ∃ f0 fs', fs = f0 :: fs' := by cases fs with | nil => exact absurd rfl h3 | cons a b => exact ⟨a, b, rfl⟩
    refine ⟨ks.length + 1, (loopvValue (by have := hw.2.2.1.2.2.2.2.1.1; exact this) (spArrs_mem h4 (by simp)) h5 (by omega) nm k' lo hi a b z x (ks.length + 1) 0 o (by omega) (by omega) (by rw [List.drop_zero]; omega)).trans ?_⟩
    rw [← hy, List.drop_zero]
    by_cases h : (spVItems f0 v ks).2 = 0
    · rw [if_pos h]; exact (bif_true (decide_eq_true h) _ _).symm
    · rw [if_neg h]; exact (bif_false (decide_eq_false h) _ _).symm
  · rintro ⟨⟨(f : Fd), (v : Int), (n : Nd), ⟨⟩⟩, ⟨⟩⟩ out hw ho
    obtain ⟨hg, ho⟩ := Tr.guard ho
    simp only [Bool.and_eq_true, decide_eq_true_eq] at hg
    obtain ⟨hk, ha, hb⟩ := hg
    have hk : 2 * spWt n + 1 ≤ spFuel + 1 := hk
    have ha : spArr f = true := ha
    have hb : 8 * spWt n ≤ 4294967296 := hb
    cases ho
    refine (runvValue f v n).trans ?_
    unfold bodyvValue
    show _ = some (Out.ret (((spVal f v n).1, ((spVal f v n).2, ())), ()))
    obtain ⟨⟨nm, k', lo, hi, ⟨⟩⟩, fs⟩ := f
    obtain ⟨⟨a, b, z, x, ⟨⟩⟩, ks⟩ := n
    have hw8 := spWid_le k'
    have hwf := spWt_eq (Tre.mk (a, (b, (z, (x, ())))) ks)
    have hwf : spWt (Tre.mk (a, (b, (z, (x, ())))) ks) = 1 + x.length + spWts ks := hwf
    have hk : 2 * (1 + x.length + spWts ks) + 1 ≤ spFuel + 1 := by rw [← hwf]; exact hk
    have hb : 8 * (1 + x.length + spWts ks) ≤ 4294967296 := by rw [← hwf]; exact hb
    rw [spArr_eq] at ha
    simp only [Bool.and_eq_true] at ha
    obtain ⟨⟨ha1, ha3⟩, ha2⟩ := ha
    have ha2 : spArrs fs = true := ha2
    have ha3 : fs.length ≤ 16 := of_decide_eq_true ha3
    rw [spVal]
    simp only
    have cW : (decide (0 ≤ spWid k') && decide (spWid k' ≤ 8)) = true := by simp; omega
    have tail : (bif decide (0 ≤ spWid k') && decide (spWid k' ≤ 8) then bif decide ((spBE ((x.length : Nat) : Int) (spWid k').toNat).length + x.length ≤ 4294967296) then (some (Out.ret ((spBE ((x.length : Nat) : Int) (spWid k').toNat ++ x, ((0 : Int), ())), ())) : Option iovValue.Res) else none else none) = some (Out.ret ((spBE ((x.length : Nat) : Int) (spWid k').toNat ++ x, ((0 : Int), ())), ())) := by
      refine (bif_true cW _ _).trans ?_
      exact bif_true (decide_eq_true (by rw [spBE_len]; omega)) _ _
    by_cases h1 : spShN k' (Tre.mk (a, (b, (z, (x, ())))) ks) = false
    · rw [if_pos h1]
      exact bif_true (by rw [show spShN k' (Tre.mk (a, (b, (z, (x, ())))) ks) = false from h1]; rfl) _ _
    rw [if_neg h1]
    refine (bif_false (by simpa using h1) _ _).trans ?_
    by_cases h2 : k' ≤ 4
    · rw [if_pos h2]
      refine (bif_true (by simpa using h2) _ _).trans ?_
      refine (bif_true (decide_eq_true (show 1 ≤ spWid k' by omega)) _ _).trans ?_
      by_cases h3 : spFits b (spWid k') = true
      · rw [if_pos h3]
        refine (bif_false (show (!spFits b (spWid k')) = false by rw [h3]; rfl) _ _).trans ?_
        exact bif_true cW _ _
      · rw [if_neg h3]
        exact bif_true (show (!spFits b (spWid k')) = true by simpa using h3) _ _
    rw [if_neg h2]
    refine (bif_false (by simpa using h2) _ _).trans ?_
    by_cases h3 : k' = 9
    · rw [if_pos h3]
      refine (bif_true (by simpa using h3) _ _).trans ?_
      by_cases h4 : 16 < ks.length
      · rw [if_pos h4]
        exact bif_true (decide_eq_true (show (16 : Int) < (ks.length : Int) by omega)) _ _
      · rw [if_neg h4]
        refine (bif_false (decide_eq_false (show ¬ (16 : Int) < (ks.length : Int) by omega)) _ _).trans ?_
        have h0 : fs.length ≠ 0 := by
          rcases Bool.or_eq_true _ _ ▸ ha1 with h | h
          · exact absurd h3 (of_decide_eq_true h)
          · exact of_decide_eq_true h
        have c1 : (decide ((0 : Int) = 0) && (decide ((spBE ((ks.length : Nat) : Int) (Int.toNat 4)).length = 4) && ((decide (fs.length ≠ 0) && spArrs fs) && (decide (2 * spWts ks + 1 ≤ spFuel) && decide (8 + 8 * spWts ks ≤ 4294967296))))) = true := by
          have h0' : fs ≠ [] := fun e => h0 (by rw [e]; rfl)
          rw [ha2, spBE_len]; simp [h0']; omega
        obtain ⟨f0, fs, rfl⟩ : ∃ f0 fs', fs = f0 :: fs' := by cases fs with | nil => exact absurd rfl h0 | cons a b => exact ⟨a, b, rfl⟩
        refine (bif_true c1 _ _).trans ?_
        show (Tr.ite (decide ((spVItems f0 v ks).2 = 0)) _ _).run _ = some (Out.ret (((if (spVItems f0 v ks).2 ≠ 0 then _ else _ : List Int × Int).1, ((if (spVItems f0 v ks).2 ≠ 0 then _ else _ : List Int × Int).2, ())), ()))
        by_cases h5 : (spVItems f0 v ks).2 = 0
        · rw [if_neg (by simpa using h5)]
          exact bif_true (decide_eq_true h5) _ _
        · rw [if_pos h5]
          exact bif_false (decide_eq_false h5) _ _
    rw [if_neg h3]
    refine (bif_false (by simpa using h3) _ _).trans ?_
    by_cases h4 : k' = 10
    · rw [if_pos h4]
      refine (bif_true (by simpa using h4) _ _).trans ?_
      exact bif_true (show (decide (2 * spWt (Tre.mk (a, (b, (z, (x, ())))) ks) ≤ spFuel) && (spArrs fs && (decide (8 * spWt (Tre.mk (a, (b, (z, (x, ())))) ks) ≤ 4294967296) && decide (fs.length ≤ 4294967296)))) = true by rw [ha2, hwf]; simp; omega) _ _
    rw [if_neg h4]
    refine (bif_false (by simpa using h4) _ _).trans ?_
    have rest : (bif decide (k' ≤ 6) then bif !(spUtf x).2 then (some (Out.ret (([], ((6 : Int), ())), ())) : Option iovValue.Res) else bif decide ((255 : Int) < ((x.length : Nat) : Int)) then some (Out.ret (([], ((4 : Int), ())), ())) else bif decide (0 ≤ spWid k') && decide (spWid k' ≤ 8) then bif decide ((spBE ((x.length : Nat) : Int) (spWid k').toNat).length + x.length ≤ 4294967296) then (some (Out.ret ((spBE ((x.length : Nat) : Int) (spWid k').toNat ++ x, ((0 : Int), ())), ())) : Option iovValue.Res) else none else none
        else bif decide (0 ≤ spWid k') && decide (spWid k' ≤ 8) then bif decide ((spBE ((x.length : Nat) : Int) (spWid k').toNat).length + x.length ≤ 4294967296) then (some (Out.ret ((spBE ((x.length : Nat) : Int) (spWid k').toNat ++ x, ((0 : Int), ())), ())) : Option iovValue.Res) else none else none) =
        some (Out.ret (((if k' ≤ 6 ∧ (spUtf x).2 = false then ([], 6) else if k' ≤ 6 ∧ 255 < x.length then ([], 4) else (spBE ((x.length : Nat) : Int) (spWid k').toNat ++ x, 0) : List Int × Int).1, ((if k' ≤ 6 ∧ (spUtf x).2 = false then ([], 6) else if k' ≤ 6 ∧ 255 < x.length then ([], 4) else (spBE ((x.length : Nat) : Int) (spWid k').toNat ++ x, 0) : List Int × Int).2, ())), ())) := by
      rw [tail]
      by_cases h6 : k' ≤ 6
      · refine (bif_true (decide_eq_true h6) _ _).trans ?_
        by_cases h7 : (spUtf x).2 = false
        · rw [if_pos ⟨h6, h7⟩]
          exact bif_true (by rw [h7]; rfl) _ _
        · rw [if_neg (fun h => h7 h.2)]
          refine (bif_false (by simpa using h7) _ _).trans ?_
          by_cases h8 : 255 < x.length
          · rw [if_pos ⟨h6, h8⟩]
            exact bif_true (decide_eq_true (by omega)) _ _
          · rw [if_neg (fun h => h8 h.2)]
            exact bif_false (decide_eq_false (by omega)) _ _
      · rw [if_neg (fun h => h6 h.1), if_neg (fun h => h6 h.1)]
        exact bif_false (decide_eq_false h6) _ _
    by_cases h5 : z = true
    · subst h5
      rw [if_pos rfl]
      refine (bif_true rfl _ _).trans ?_
      by_cases h6 : x.length = 0
      · rw [if_pos h6]
        refine (bif_false (decide_eq_false (show ¬ (0 : Int) < ((x.length : Nat) : Int) by omega)) _ _).trans ?_
        refine (bif_true rfl _ _).trans ?_
        exact bif_true cW _ _
      · rw [if_neg h6]
        exact bif_true (decide_eq_true (show (0 : Int) < ((x.length : Nat) : Int) by omega)) _ _
    · have h5 : z = false := by simpa using h5
      subst h5
      rw [if_neg (by decide)]
      refine (bif_false rfl _ _).trans ?_
      refine (bif_false rfl _ _).trans ?_
      exact rest
end
section
variable [Inhabited FuT]
abbrev csvParts : List (Nat × Hc) := [(144, ioHd iotHere FtHere), (145, ioHd iovValue (FvValueN spFuel)), (146, ioHd ioCat FCat)]
def hdvParts : Hd := hdT csvParts
abbrev lovParts_7 : Lo := ⟨⟨[.any, .one (.hol (.int IntKind.i64)), .any, .any, .any, .one (.ptr 5 0), .any, .any, .one (.onl 159 tFld 17), .one (.onl 5 (Ty.int IntKind.u8) 19), .one (.hol (.int IntKind.i64)), .any, .any, .any, .any, .any, .any, .any, .any, .any, .any, .any, .any, .any, .any, .any, .any, .any, .any, .any, .any, .any, .any, .any, .any, .any, .any, .any, .any, .any, .any, .any, .any, .any, .any, .any, .any, .any, .any, .any], [none, none, none, none, none, some [.hol (.int IntKind.i64), .hol (.int IntKind.i64), .hol .bool, .hol (.sl 5 (Ty.int IntKind.u8)), .hol (.sl 68 (((Ty.int IntKind.i64).prod ((Ty.int IntKind.i64).prod (Ty.bool.prod ((Ty.sl 5 (Ty.int IntKind.u8)).prod Ty.unit)))).tree 68))]]⟩, [(.ret, ⟨[.any, .any, .any, .any, .any, .any, .one (.onl 5 (Ty.int IntKind.u8) 13), .one (.hol (.int IntKind.i64)), .any, .any, .any, .any, .any, .any, .any, .any, .any, .any, .any, .any, .any, .any, .any, .any, .any, .any, .any, .any, .any, .any, .any, .any, .any, .any, .any, .any, .any, .any, .any, .any, .any, .any, .any, .any, .any, .any, .any, .any, .any, .any], []⟩), (.exit 0, ⟨[.any, .any, .any, .any, .any, .any, .any, .any, .any, .one (.onl 5 (Ty.int IntKind.u8) 19), .any, .any, .any, .any, .any, .any, .any, .any, .any, .any, .any, .any, .any, .any, .any, .any, .any, .any, .any, .any, .any, .any, .any, .any, .any, .any, .any, .any, .any, .any, .any, .any, .any, .any, .any, .any, .any, .any, .any, .any], []⟩)]⟩
-- FvParts_7 : lovParts_7.st.den → Tr (DenX lovParts_7.xs) | ((h3, (h4, (h5, (h6, ())))), ((h7, (h8, (h9, (h10, (h11, ()))))), ()))
def FvParts_7 (d : lovParts_7.st.den) : Tr (DenX lovParts_7.xs) :=
  .ite (decide (d.1.2.2.2.1 = 0) && (decide (d.1.2.2.1.length = 0) && ((decide (d.1.2.1.length = d.2.1.2.2.2.2.1.length) && spArrs d.1.2.1) && (decide (2 * spWts d.2.1.2.2.2.2.1 + 1 ≤ spFuel) && decide (8 + 8 * spWts d.2.1.2.2.2.2.1 ≤ 4294967296)))))
    (.ite (decide ((spVZip d.1.1 d.1.2.1 d.2.1.2.2.2.2.1).2 = 0))
      (.ret (.pan (.ret ((), (((spVZip d.1.1 d.1.2.1 d.2.1.2.2.2.2.1).1, ()), ())))))
      (.ret (.ret ((), (([], ((spVZip d.1.1 d.1.2.1 d.2.1.2.2.2.2.1).2, ())), ()))))) .no
def lpvParts : Lp := lpT [(7, loHd lovParts_7 FvParts_7)]
def stepvParts_7 {R : Type} (h3 : Int) (h4 : List tFld.den) (h5 : List Int) (h6 : Int) (h7 : Int) (h8 : Int) (h9 : Bool) (h10 : List Int) (h11 : List (Nd)) (next : Int → List tFld.den → List Int → Int → Int → Int → Bool → List Int → List (Nd) → Option R) (out : DenX lovParts_7.xs → Option R) : Option R := bif decide (h6 < (↑h4.length : Int)) then bif decide (0 ≤ h6) && decide (h6 < (↑h4.length : Int)) then bif decide (0 ≤ h6) && decide (h6 < (↑h11.length : Int)) then bif decide (2 * spWt (Tre.mk (h11.getD h6.toNat (Tre.mk (0, 0, false, [], ()) [])).1 (h11.getD h6.toNat (Tre.mk (0, 0, false, [], ()) [])).2) + 1 ≤ spFuel) && (spArr (Tre.mk (h4.getD h6.toNat (Tre.mk ([], 0, 0, 0, ()) [])).1 (h4.getD h6.toNat (Tre.mk ([], 0, 0, 0, ()) [])).2) && decide (8 * spWt (Tre.mk (h11.getD h6.toNat (Tre.mk (0, 0, false, [], ()) [])).1 (h11.getD h6.toNat (Tre.mk (0, 0, false, [], ()) [])).2) ≤ 4294967296)) then bif (spVal (Tre.mk (h4.getD h6.toNat (Tre.mk ([], 0, 0, 0, ()) [])).1 (h4.getD h6.toNat (Tre.mk ([], 0, 0, 0, ()) [])).2) h3 (Tre.mk (h11.getD h6.toNat (Tre.mk (0, 0, false, [], ()) [])).1 (h11.getD h6.toNat (Tre.mk (0, 0, false, [], ()) [])).2)).snd != 0 then out (.ret ((), (([], ((spVal (Tre.mk (h4.getD h6.toNat (Tre.mk ([], 0, 0, 0, ()) [])).1 (h4.getD h6.toNat (Tre.mk ([], 0, 0, 0, ()) [])).2) h3 (Tre.mk (h11.getD h6.toNat (Tre.mk (0, 0, false, [], ()) [])).1 (h11.getD h6.toNat (Tre.mk (0, 0, false, [], ()) [])).2)).snd, ())), ()))) else bif decide (h5.length + (spVal (Tre.mk (h4.getD h6.toNat (Tre.mk ([], 0, 0, 0, ()) [])).1 (h4.getD h6.toNat (Tre.mk ([], 0, 0, 0, ()) [])).2) h3 (Tre.mk (h11.getD h6.toNat (Tre.mk (0, 0, false, [], ()) [])).1 (h11.getD h6.toNat (Tre.mk (0, 0, false, [], ()) [])).2)).fst.length ≤ 4294967296) then next (h3) (h4) (h5 ++ (spVal (Tre.mk (h4.getD h6.toNat (Tre.mk ([], 0, 0, 0, ()) [])).1 (h4.getD h6.toNat (Tre.mk ([], 0, 0, 0, ()) [])).2) h3 (Tre.mk (h11.getD h6.toNat (Tre.mk (0, 0, false, [], ()) [])).1 (h11.getD h6.toNat (Tre.mk (0, 0, false, [], ()) [])).2)).fst) (IntKind.i64.wrap (h6 + 1)) (h7) (h8) (h9) (h10) (h11) else none else none else none else none else out (.pan (.ret ((), ((h5, ()), ()))))
def itvParts_7 (n : Nat) (h3 : Int) (h4 : List tFld.den) (h5 : List Int) (h6 : Int) (h7 : Int) (h8 : Int) (h9 : Bool) (h10 : List Int) (h11 : List (Nd)) : Option (DenX lovParts_7.xs) := lpN tt hdvParts dr lpvParts 0 Go.Proofs.Tryz.f131 (topL Go.Proofs.Tryz.f131 0) n (lovParts_7.st.mk' ((h3, (h4, (h5, (h6, ())))), ((h7, (h8, (h9, (h10, (h11, ()))))), ()))) (decX lovParts_7.xs)
theorem slvParts_7 (n : Nat) (h3 : Int) (h4 : List tFld.den) (h5 : List Int) (h6 : Int) (h7 : Int) (h8 : Int) (h9 : Bool) (h10 : List Int) (h11 : List (Nd)) : itvParts_7 (n + 1) h3 h4 h5 h6 h7 h8 h9 h10 h11 = stepvParts_7 h3 h4 h5 h6 h7 h8 h9 h10 h11 (itvParts_7 n) some := by kernel_rfl
theorem loopvParts {fs : List Fd} {ks : List Nd} {v : Int} (hl : ks.length ≤ maxLen) (hfk : fs.length = ks.length) (ha : spArrs fs = true) (hf : 2 * spWts ks + 1 ≤ spFuel) (hb : 8 * spWts ks ≤ 4294967296) (a b : Int) (z : Bool) (x : List Int) : ∀ (k j : Nat) (o : List Int), ks.length < j + k → j ≤ ks.length → o.length + 8 * spWts (ks.drop j) ≤ 4294967296 →
    itvParts_7 k v fs o j a b z x ks = if (spVZip v (fs.drop j) (ks.drop j)).2 = 0 then some (.pan (.ret ((), ((o ++ (spVZip v (fs.drop j) (ks.drop j)).1, ()), ())))) else some (.ret ((), (([], ((spVZip v (fs.drop j) (ks.drop j)).2, ())), ()))) := by
  intro k
  induction k with
  | zero => intro j o h1 h2; omega
  | succ k ih =>
    intro j o h1 h2 h3
    rw [slvParts_7]
    unfold stepvParts_7
    by_cases hj : j < ks.length
    · have hj' : j < fs.length := by omega
      refine (bif_true (decide_eq_true (show (j : Int) < (fs.length : Int) by omega)) _ _).trans ?_
      refine (bif_true (by simp; omega) _ _).trans ?_
      refine (bif_true (by simp; omega) _ _).trans ?_
      have hmem := spWt_mem (List.getElem_mem hj)
      have har := spArrs_mem ha (List.getElem_mem hj')
      have hd : ks.drop j = ks[j] :: ks.drop (j + 1) := List.drop_eq_getElem_cons hj
      have hd' : fs.drop j = fs[j] :: fs.drop (j + 1) := List.drop_eq_getElem_cons hj'
      have hvl := spVal_len fs[j] v ks[j]
      have ih' := ih (j + 1) (o ++ (spVal fs[j] v ks[j]).1) (by omega) (by omega)
      rw [hd, spWts_cons] at h3
      rw [hd, hd', spVZip]
      rw [wrap_succ hj hl]
      simp only [Int.toNat_natCast, getD_lt hj, getD_lt hj']
      generalize ks[j] = u at hmem hvl ih' h3 ⊢
      generalize fs[j] = f0 at har hvl ih' ⊢
      obtain ⟨ul, uk⟩ := u
      obtain ⟨fl, fk⟩ := f0
      refine (bif_true (show (decide (2 * spWt (Tre.mk ul uk) + 1 ≤ spFuel) && (spArr (Tre.mk fl fk) && decide (8 * spWt (Tre.mk ul uk) ≤ 4294967296))) = true by rw [har]; simp; omega) _ _).trans ?_
      by_cases he : (spVal (Tre.mk fl fk) v (Tre.mk ul uk)).2 = 0
      · refine (bif_false (show ((spVal (Tre.mk fl fk) v (Tre.mk ul uk)).2 != 0) = false by rw [he]; rfl) _ _).trans ?_
        refine (bif_true (decide_eq_true (show o.length + (spVal (Tre.mk fl fk) v (Tre.mk ul uk)).1.length ≤ 4294967296 by omega)) _ _).trans ?_
        refine (ih' (by rw [List.length_append]; omega)).trans ?_
        by_cases h2 : (spVZip v (fs.drop (j + 1)) (ks.drop (j + 1))).2 = 0
        · simp [he, h2]
        · simp [he, h2]
      · refine (bif_true (show ((spVal (Tre.mk fl fk) v (Tre.mk ul uk)).2 != 0) = true by simpa using he) _ _).trans ?_
        simp [he]
    · refine (bif_false (decide_eq_false (show ¬ (j : Int) < (fs.length : Int) by omega)) _ _).trans ?_
      rw [List.drop_of_length_le (by omega), List.drop_of_length_le (by omega), spVZip, if_pos rfl, List.append_nil]
      simp
def bodyvParts (a0 : List tFld.den) (a1 : Int) (a2 : Nd) : Option iovParts.Res := bif decide (a0.length ≤ 4294967296) then bif (↑a2.2.length : Int) != (↑(spHere a0 a1).length : Int) then some (Out.ret (([], 101, ()), ())) else (FvParts_7 ((a1, (spHere a0 a1, ([], (0, ())))), ((a2.1.fst, (a2.1.snd.fst, (a2.1.snd.snd.fst, (a2.1.snd.snd.snd.fst, (a2.2, ()))))), ()))).run fun y => match y with | .ret ((), ((x24, x25, ()), ())) => (some (Out.ret ((x24, x25, ()), ()))) | .pan (.ret ((), ((x26, ()), ()))) => (some (Out.ret ((x26, 0, ()), ()))) else none
theorem runvParts (a0 : List tFld.den) (a1 : Int) (a2 : Nd) : Io.run tt hdvParts dr lpvParts iovParts Go.Proofs.Tryz.f131 ((a0, a1, a2, ()), ()) = bodyvParts a0 a1 a2 := by kernel_rfl
theorem okvPartsS (rvValue : HcOk prog 145 (ioHd iovValue (FvValueN spFuel))) : HcOk prog 131 (ioHd iovParts (FvPartsN (spFuel + 1))) := by
  refine fn_sound (n := 400) hm (cs := csvParts) (.cons oktHere (.cons rvValue (.cons okCat .nil))) (lp := lpvParts) (fn := Go.Proofs.Tryz.f131) (by kernel_rfl) (by kernel_rfl) (by kernel_rfl) iovParts (.step (h0 := loHd lovParts_7 FvParts_7) (by kernel_rfl) (loop_sound (n := 400) hm (cs := csvParts) (.cons oktHere (.cons rvValue (.cons okCat .nil))) (lp := lpvParts) (fn := Go.Proofs.Tryz.f131) (.done (by kernel_rfl)) lovParts_7 FvParts_7 ?_) (.done (by kernel_rfl))) (FvPartsN (spFuel + 1)) ?_
  · rintro ⟨⟨(v : Int), (fs : List Fd), (o : List Int), (i : Int), ⟨⟩⟩, ⟨⟨(a : Int), (b : Int), (z : Bool), (x : List Int), (ks : List Nd), ⟨⟩⟩, ⟨⟩⟩⟩ y hw hy
    obtain ⟨hg, hy⟩ := Tr.guard hy
    simp only [Bool.and_eq_true, decide_eq_true_eq] at hg
    obtain ⟨h1, h2, ⟨h3, h4⟩, h5, h6⟩ := hg
    have h1 : i = 0 := h1
    have h2 : o = [] := List.eq_nil_of_length_eq_zero h2
    have h3 : fs.length = ks.length := h3
    have h4 : spArrs fs = true := h4
    have h5 : 2 * spWts ks + 1 ≤ spFuel := h5
    have h6 : 8 + 8 * spWts ks ≤ 4294967296 := h6
    subst h1
    subst h2
    refine ⟨ks.length + 1, (loopvParts (by have := hw.2.1.2.2.2.2.1.1; exact this) h3 h4 h5 (by omega) a b z x (ks.length + 1) 0 [] (by omega) (by omega) (by rw [List.drop_zero]; simp; omega)).trans ?_⟩
    rw [← hy, List.drop_zero, List.drop_zero]
    by_cases h : (spVZip v fs ks).2 = 0
    · rw [if_pos h]; exact (bif_true (decide_eq_true h) _ _).symm
    · rw [if_neg h]; exact (bif_false (decide_eq_false h) _ _).symm
  · rintro ⟨⟨(fs : List Fd), (v : Int), (n : Nd), ⟨⟩⟩, ⟨⟩⟩ out hw ho
    obtain ⟨hg, ho⟩ := Tr.guard ho
    simp only [Bool.and_eq_true, decide_eq_true_eq] at hg
    obtain ⟨hk, ha, hb, hl⟩ := hg
    have hk : 2 * spWt n ≤ spFuel + 1 := hk
    have ha : spArrs fs = true := ha
    have hb : 8 * spWt n ≤ 4294967296 := hb
    have hl : fs.length ≤ 4294967296 := hl
    cases ho
    refine (runvParts fs v n).trans ?_
    unfold bodyvParts
    show _ = some (Out.ret (((spVParts fs v n).1, ((spVParts fs v n).2, ())), ()))
    obtain ⟨⟨a, b, z, x, ⟨⟩⟩, ks⟩ := n
    have hwf := spWt_eq (Tre.mk (a, (b, (z, (x, ())))) ks)
    have hwf : spWt (Tre.mk (a, (b, (z, (x, ())))) ks) = 1 + x.length + spWts ks := hwf
    have hk : 2 * (1 + x.length + spWts ks) ≤ spFuel + 1 := by rw [← hwf]; exact hk
    have hb : 8 * (1 + x.length + spWts ks) ≤ 4294967296 := by rw [← hwf]; exact hb
    rw [spVParts]
    refine (bif_true (decide_eq_true hl) _ _).trans ?_
    by_cases h1 : ks.length = (spHere fs v).length
    · rw [if_neg (by simpa using h1)]
      refine (bif_false (by simp [h1]) _ _).trans ?_
      have c1 : (decide ((0 : Int) = 0) && (decide (([] : List Int).length = 0) && ((decide ((spHere fs v).length = ks.length) && spArrs (spHere fs v)) && (decide (2 * spWts ks + 1 ≤ spFuel) && decide (8 + 8 * spWts ks ≤ 4294967296))))) = true := by
        rw [spArrs_here ha]; simp; omega
      refine (bif_true c1 _ _).trans ?_
      by_cases h5 : (spVZip v (spHere fs v) ks).2 = 0
      · refine (bif_true (decide_eq_true h5) _ _).trans ?_
        rw [h5]; rfl
      · refine (bif_false (decide_eq_false h5) _ _).trans ?_
        rw [spVZip_nil h5]; rfl
    · rw [if_pos h1]
      exact bif_true (bne_iff_ne.2 (fun e => h1 (Int.ofNat.inj e))) _ _
end
theorem okvBoth (n : Nat) : HcOk prog 145 (ioHd iovValue (FvValueN n)) ∧ HcOk prog 131 (ioHd iovParts (FvPartsN n)) := by
  induction n with
  | zero => 
    refine ⟨HcOk.none (fn := Go.Proofs.Tryz.f145) (by kernel_rfl) (by kernel_rfl) (by kernel_rfl) _ _ fun d out h => ?_, HcOk.none (fn := Go.Proofs.Tryz.f131) (by kernel_rfl) (by kernel_rfl) (by kernel_rfl) _ _ fun d out h => ?_⟩
    · cases h
    · obtain ⟨hg, h⟩ := Tr.guard h
      simp only [Bool.and_eq_true, decide_eq_true_eq] at hg
      have := spWt_pos d.1.2.2.1
      omega
  | succ n ih =>
    have h1 := @okvValueS ⟨⟨n⟩⟩ (by rw [FuT.val]; exact ih.1) (by rw [FuT.val]; exact ih.2)
    have h2 := @okvPartsS ⟨⟨n⟩⟩ (by rw [FuT.val]; exact ih.1)
    rw [FuT.val] at h1 h2
    exact ⟨h1, h2⟩
theorem okvParts : HcOk prog 131 (ioHd iovParts FvParts) := by
  refine HcOk.lim (fun n => (okvBoth n).2) fun d => ⟨2 * spWt d.1.2.2.1, fun out h => ?_⟩
  obtain ⟨hg, h⟩ := Tr.guard h
  exact (bif_true (by rw [hg]; simp) _ _).trans h
end
end Go.Proofs.YtmlgepgcofmpeaaGreat.Sym
namespace Go.Proofs.YtmlgepgcofmpeaaGreat.Sym
open Go
set_option linter.unusedSimpArgs false
set_option linter.unusedVariables false
noncomputable section
@[irreducible] noncomputable def spFw (f : Fd) : Nat := f.wt fun _ => 0
@[irreducible] noncomputable def spFws (l : List Fd) : Nat := Tre.wts (fun _ => 0) l
theorem spFw_eq (f : Fd) : spFw f = 1 + spFws f.kids := by unfold spFw spFws; exact Tre.wt_eq _ f
theorem spFw_mem {k : Fd} {l : List Fd} (h : k ∈ l) : spFw k ≤ spFws l := by unfold spFw spFws; exact Tre.wts_mem h
def spVers (ks : List Fd) : Nat → Int → Int → Bool
  | 0, _, _ => true
  | k + 1, v, hi => if v ≤ hi then (if (spHere ks v).length = 0 then false else spVers ks k (v + 1) hi) else true
def spNew (ks : List Fd) (s : List Int) : Bool := ks.all fun k => !decide (k.lab.1 = s)
def spDist (ks : List Fd) : Nat → List Fd → Bool
  | _, [] => true
  | j, f :: fs => spNew (ks.take j) f.lab.1 && spDist ks (j + 1) fs
mutual
def spFieldOk (d : Int) : Fd → Bool
  | .mk a ks => if a.1.length = 0 then false else if a.2.2.1 < 0 then false else if 3 < a.2.2.2.1 then false else if a.2.2.2.1 < a.2.2.1 then false else if a.2.1 < 1 then false else if 10 < a.2.1 then false
      else if a.2.1 < 9 then (if ks.length = 0 then true else false) else if spListOk (d + 1) ks = false then false else if spVers ks 5 a.2.2.1 a.2.2.2.1 = false then false else if a.2.1 = 10 then true else if ks.length = 1 then true else false
termination_by f => (SizeOf.sizeOf f, 0)
def spListOk (d : Int) (ks : List Fd) : Bool := if ks.length < 1 then false else if 16 < ks.length then false else if 8 < d then false else spDist ks 0 ks && spFieldsOk d ks
termination_by (SizeOf.sizeOf ks, 1)
def spFieldsOk (d : Int) : List Fd → Bool
  | [] => true
  | k :: ks => spFieldOk d k && spFieldsOk d ks
termination_by l => (SizeOf.sizeOf l, 0)
end
abbrev iovList : Io := ⟨[dFlds, dI], [], [], [dB], none⟩
def FvListN (n : Nat) (d : iovList.In) : Tr iovList.Res := .ite (decide (2 * spFws d.1.1 + 2 ≤ n) && (decide ((0 : Int) ≤ d.1.2.1) && decide (d.1.2.1 ≤ 1000))) (.ret (.ret ((spListOk d.1.2.1 d.1.1, ()), ()))) .no
def FvList (d : iovList.In) : Tr iovList.Res := .ite ((decide ((0 : Int) ≤ d.1.2.1) && decide (d.1.2.1 ≤ 1000))) (.ret (.ret ((spListOk d.1.2.1 d.1.1, ()), ()))) .no
abbrev iovField : Io := ⟨[dFld, dI], [], [], [dB], none⟩
def FvFieldN (n : Nat) (d : iovField.In) : Tr iovField.Res := .ite (decide (2 * spFw d.1.1 + 1 ≤ n) && (decide ((0 : Int) ≤ d.1.2.1) && decide (d.1.2.1 ≤ 999))) (.ret (.ret ((spFieldOk d.1.2.1 d.1.1, ()), ()))) .no
section
variable [Inhabited FuT]
abbrev csvList : List (Nat × Hc) := [(160, ioHd iovField (FvFieldN spFuel))]
def hdvList : Hd := hdT csvList
abbrev lovList_8 : Lo := ⟨⟨[.one (.hol (.sl 159 tFld)), .one (.hol (.int IntKind.i64)), .any, .any, .any, .one (.hol (.int IntKind.i64)), .one (.hol (.int IntKind.i64)), .any, .any, .any, .any, .any, .any, .any, .any, .any, .any, .any, .any, .any, .any, .any, .any, .any, .any, .any, .any, .any, .any, .any, .any, .any, .any, .any, .any, .any, .any, .any, .any, .any, .any, .any, .any, .any, .any, .any, .any, .any], []⟩, [(.ret, ⟨[.any, .any, .any, .any, .one (.hol .bool), .any, .any, .any, .any, .any, .any, .any, .any, .any, .any, .any, .any, .any, .any, .any, .any, .any, .any, .any, .any, .any, .any, .any, .any, .any, .any, .any, .any, .any, .any, .any, .any, .any, .any, .any, .any, .any, .any, .any, .any, .any, .any, .any], []⟩), (.exit 2, ⟨[.one (.hol (.sl 159 tFld)), .one (.hol (.int IntKind.i64)), .any, .any, .any, .one (.hol (.int IntKind.i64)), .any, .any, .any, .any, .any, .any, .any, .any, .any, .any, .any, .any, .any, .any, .any, .any, .any, .any, .any, .any, .any, .any, .any, .any, .any, .any, .any, .any, .any, .any, .any, .any, .any, .any, .any, .any, .any, .any, .any, .any, .any, .any], []⟩)]⟩
-- FvList_8 : lovList_8.st.den → Tr (DenX lovList_8.xs) | ((h5, (h6, (h7, (h8, ())))), ())
abbrev lovList_5 : Lo := ⟨⟨[.one (.hol (.sl 159 tFld)), .one (.hol (.int IntKind.i64)), .any, .any, .any, .one (.hol (.int IntKind.i64)), .any, .any, .any, .any, .any, .any, .any, .any, .any, .any, .any, .any, .any, .any, .any, .any, .any, .any, .any, .any, .any, .any, .any, .any, .any, .any, .any, .any, .any, .any, .any, .any, .any, .any, .any, .any, .any, .any, .any, .any, .any, .any], []⟩, [(.ret, ⟨[.any, .any, .any, .any, .one (.hol .bool), .any, .any, .any, .any, .any, .any, .any, .any, .any, .any, .any, .any, .any, .any, .any, .any, .any, .any, .any, .any, .any, .any, .any, .any, .any, .any, .any, .any, .any, .any, .any, .any, .any, .any, .any, .any, .any, .any, .any, .any, .any, .any, .any], []⟩), (.exit 0, ⟨[.any, .any, .any, .any, .any, .any, .any, .any, .any, .any, .any, .any, .any, .any, .any, .any, .any, .any, .any, .any, .any, .any, .any, .any, .any, .any, .any, .any, .any, .any, .any, .any, .any, .any, .any, .any, .any, .any, .any, .any, .any, .any, .any, .any, .any, .any, .any, .any], []⟩)]⟩
-- FvList_5 : lovList_5.st.den → Tr (DenX lovList_5.xs) | ((h2, (h3, (h4, ()))), ())
def FvList_8 (d : lovList_8.st.den) : Tr (DenX lovList_8.xs) :=
  .ite (decide (d.1.2.2.2.1 = 0) && (decide ((0 : Int) ≤ d.1.2.2.1) && decide (d.1.2.2.1 < (d.1.1.length : Int))))
    (.ite (spNew (d.1.1.take d.1.2.2.1.toNat) (d.1.1.getD d.1.2.2.1.toNat (Tre.mk ([], (0, (0, (0, ())))) [])).lab.1) (.ret (.pan (.ret ((), ((d.1.1, (d.1.2.1, (d.1.2.2.1, ()))), ()))))) (.ret (.ret ((), ((false, ()), ()))))) .no
def FvList_5 (d : lovList_5.st.den) : Tr (DenX lovList_5.xs) :=
  .ite (decide (d.1.2.2.1 = 0) && ((decide ((0 : Int) ≤ d.1.2.1) && decide (d.1.2.1 ≤ 999)) && (decide (2 * spFws d.1.1 + 1 ≤ spFuel) && decide (d.1.1.length ≤ 16))))
    (.ite (spDist d.1.1 0 d.1.1 && spFieldsOk d.1.2.1 d.1.1) (.ret (.pan (.ret ((), ((), ()))))) (.ret (.ret ((), ((false, ()), ()))))) .no
def lpvList : Lp := lpT [(5, loHd lovList_5 FvList_5), (8, loHd lovList_8 FvList_8)]
def stepvList_8 {R : Type} (h5 : List tFld.den) (h6 : Int) (h7 : Int) (h8 : Int) (next : List tFld.den → Int → Int → Int → Option R) (out : DenX lovList_8.xs → Option R) : Option R := bif decide (h8 < h7) then bif decide (0 ≤ h8) && decide (h8 < (↑h5.length : Int)) then bif decide (0 ≤ h7) && decide (h7 < (↑h5.length : Int)) then bif decide ((h5.getD h8.toNat (Tre.mk ([], 0, 0, 0, ()) [])).1.fst = (h5.getD h7.toNat (Tre.mk ([], 0, 0, 0, ()) [])).1.fst) then out (.ret ((), ((false, ()), ()))) else next (h5) (h6) (h7) (IntKind.i64.wrap (h8 + 1)) else none else none else out (.pan (.ret ((), ((h5, (h6, (h7, ()))), ()))))
def itvList_8 (n : Nat) (h5 : List tFld.den) (h6 : Int) (h7 : Int) (h8 : Int) : Option (DenX lovList_8.xs) := lpN tt hdvList dr lpvList 0 Go.Proofs.Tryz.f153 (subL Go.Proofs.Tryz.f153 (topL Go.Proofs.Tryz.f153 0) 0) n (lovList_8.st.mk' ((h5, (h6, (h7, (h8, ())))), ())) (decX lovList_8.xs)
theorem slvList_8 (n : Nat) (h5 : List tFld.den) (h6 : Int) (h7 : Int) (h8 : Int) : itvList_8 (n + 1) h5 h6 h7 h8 = stepvList_8 h5 h6 h7 h8 (itvList_8 n) some := by kernel_rfl
def stepvList_5 {R : Type} (h2 : List tFld.den) (h3 : Int) (h4 : Int) (next : List tFld.den → Int → Int → Option R) (out : DenX lovList_5.xs → Option R) : Option R := bif decide (h4 < (↑h2.length : Int)) then (FvList_8 ((h2, (h3, (h4, (0, ())))), ())).run fun y => match y with | .ret ((), ((x17, ()), ())) => (out (.ret ((), ((x17, ()), ())))) | .pan (.ret ((), ((x19, x20, x21, ()), ()))) => (bif decide (0 ≤ x21) && decide (x21 < (↑x19.length : Int)) then bif decide (2 * spFw (Tre.mk (x19.getD x21.toNat (Tre.mk ([], 0, 0, 0, ()) [])).1 (x19.getD x21.toNat (Tre.mk ([], 0, 0, 0, ()) [])).2) + 1 ≤ spFuel) && (decide (0 ≤ x20) && decide (x20 ≤ 999)) then bif !spFieldOk x20 (Tre.mk (x19.getD x21.toNat (Tre.mk ([], 0, 0, 0, ()) [])).1 (x19.getD x21.toNat (Tre.mk ([], 0, 0, 0, ()) [])).2) then out (.ret ((), ((false, ()), ()))) else next (x19) (x20) (IntKind.i64.wrap (x21 + 1)) else none else none) else out (.pan (.ret ((), ((), ()))))
def itvList_5 (n : Nat) (h2 : List tFld.den) (h3 : Int) (h4 : Int) : Option (DenX lovList_5.xs) := lpN tt hdvList dr lpvList 0 Go.Proofs.Tryz.f153 (topL Go.Proofs.Tryz.f153 0) n (lovList_5.st.mk' ((h2, (h3, (h4, ()))), ())) (decX lovList_5.xs)
theorem slvList_5 (n : Nat) (h2 : List tFld.den) (h3 : Int) (h4 : Int) : itvList_5 (n + 1) h2 h3 h4 = stepvList_5 h2 h3 h4 (itvList_5 n) some := by kernel_rfl
theorem loopvList_8 {fs : List Fd} (d : Int) {i : Nat} (hi : i < fs.length) (hl : fs.length ≤ maxLen) : ∀ (k j : Nat), i < j + k → j ≤ i → spNew (fs.take j) (fs[i]).lab.1 = true →
    itvList_8 k fs d i j = if spNew (fs.take i) (fs[i]).lab.1 = true then some (.pan (.ret ((), ((fs, (d, ((i : Int), ()))), ())))) else some (.ret ((), ((false, ()), ()))) := by
  intro k
  induction k with
  | zero => intro j h1 h2; omega
  | succ k ih =>
    intro j h1 h2 h3
    rw [slvList_8]
    unfold stepvList_8
    by_cases hj : j < i
    · have hjl : j < fs.length := by omega
      refine (bif_true (decide_eq_true (show (j : Int) < (i : Int) by omega)) _ _).trans ?_
      refine (bif_true (by simp; omega) _ _).trans ?_
      refine (bif_true (by simp; omega) _ _).trans ?_
      rw [wrap_succ hjl hl]
      simp only [Int.toNat_natCast, getD_lt hi, getD_lt hjl]
      by_cases he : (fs[j]).lab.1 = (fs[i]).lab.1
      · refine (bif_true (decide_eq_true he) _ _).trans ?_
        rw [if_neg]
        intro h
        have hm : fs[j] ∈ fs.take i := by rw [List.mem_take_iff_getElem]; exact ⟨j, by omega, rfl⟩
        have := List.all_eq_true.1 h fs[j] hm
        simp [he] at this
      · refine (bif_false (decide_eq_false he) _ _).trans ?_
        refine ih (j + 1) (by omega) (by omega) ?_
        rw [List.take_succ_eq_append_getElem hjl]
        unfold spNew at h3 ⊢
        rw [List.all_append, h3]
        simp [he]
    · refine (bif_false (decide_eq_false (show ¬ (j : Int) < (i : Int) by omega)) _ _).trans ?_
      have : j = i := by omega
      rw [if_pos (this ▸ h3)]
theorem loopvList_5 {fs : List Fd} {d : Int} (hd : 0 ≤ d ∧ d ≤ 999) (hf : 2 * spFws fs + 1 ≤ spFuel) (hl : fs.length ≤ 16) : ∀ (k j : Nat), fs.length < j + k → j ≤ fs.length →
    itvList_5 k fs d j = if (spDist fs j (fs.drop j) && spFieldsOk d (fs.drop j)) = true then some (.pan (.ret ((), ((), ())))) else some (.ret ((), ((false, ()), ()))) := by
  intro k
  induction k with
  | zero => intro j h1 h2; omega
  | succ k ih =>
    intro j h1 h2
    rw [slvList_5]
    unfold stepvList_5
    by_cases hj : j < fs.length
    · refine (bif_true (decide_eq_true (show (j : Int) < (fs.length : Int) by omega)) _ _).trans ?_
      have hdr : fs.drop j = fs[j] :: fs.drop (j + 1) := List.drop_eq_getElem_cons hj
      have hmem := spFw_mem (List.getElem_mem hj)
      have ih' := ih (j + 1) (by omega) (by omega)
      rw [hdr, spDist, spFieldsOk]
      have hgd : fs.getD ((j : Int)).toNat (Tre.mk (([] : List Int), ((0 : Int), ((0 : Int), ((0 : Int), ())))) ([] : List Fd)) = fs[j] := by simp only [Int.toNat_natCast]; exact getD_lt hj
      have c8 : (decide ((0 : Int) = 0) && (decide ((0 : Int) ≤ (j : Int)) && decide ((j : Int) < (fs.length : Int)))) = true := by simp; omega
      have e8 : FvList_8 ((fs, (d, ((j : Int), ((0 : Int), ())))), ()) = .ite true (.ite (spNew (fs.take j) (fs[j]).lab.1) (.ret (.pan (.ret ((), ((fs, (d, ((j : Int), ()))), ()))))) (.ret (.ret ((), ((false, ()), ()))))) .no := by
        unfold FvList_8
        rw [← c8]
        show Tr.ite _ (Tr.ite (spNew (fs.take ((j : Int)).toNat) (fs.getD ((j : Int)).toNat _).lab.1) _ _) _ = _
        rw [hgd]; simp only [Int.toNat_natCast]
      rw [e8]
      by_cases hn : spNew (fs.take j) (fs[j]).lab.1 = true
      · rw [hn]
        show (bif decide (0 ≤ (j : Int)) && decide ((j : Int) < (fs.length : Int)) then _ else none) = _
        refine (bif_true (by simp; omega) _ _).trans ?_
        rw [wrap_i64 (n := (j : Int) + 1) (by omega) (by omega)]
        simp only [Int.toNat_natCast, getD_lt hj]
        generalize fs[j] = f0 at hmem ⊢
        obtain ⟨fl, fk⟩ := f0
        refine (bif_true (show (decide (2 * spFw (Tre.mk fl fk) + 1 ≤ spFuel) && (decide ((0 : Int) ≤ d) && decide (d ≤ 999))) = true by simp; omega) _ _).trans ?_
        by_cases hv : spFieldOk d (Tre.mk fl fk) = true
        · refine (bif_false (show (!spFieldOk d (Tre.mk fl fk)) = false by rw [hv]; rfl) _ _).trans ?_
          refine ih'.trans ?_
          rw [hv]; simp
        · refine (bif_true (show (!spFieldOk d (Tre.mk fl fk)) = true by simpa using hv) _ _).trans ?_
          simp [hv]
      · have hn : spNew (fs.take j) (fs[j]).lab.1 = false := by simpa using hn
        rw [hn]
        rfl
    · refine (bif_false (decide_eq_false (show ¬ (j : Int) < (fs.length : Int) by omega)) _ _).trans ?_
      rw [List.drop_of_length_le (by omega), spDist, spFieldsOk]
      rfl
def bodyvList (a0 : List tFld.den) (a1 : Int) : Option iovList.Res := bif decide ((↑a0.length : Int) < 1) then some (Out.ret ((false, ()), ())) else bif decide (16 < (↑a0.length : Int)) then some (Out.ret ((false, ()), ())) else bif decide (8 < a1) then some (Out.ret ((false, ()), ())) else (FvList_5 ((a0, (a1, (0, ()))), ())).run fun y => match y with | .ret ((), ((x26, ()), ())) => (some (Out.ret ((x26, ()), ()))) | .pan (.ret ((), ((), ()))) => (some (Out.ret ((true, ()), ())))
theorem runvList (a0 : List tFld.den) (a1 : Int) : Io.run tt hdvList dr lpvList iovList Go.Proofs.Tryz.f153 ((a0, a1, ()), ()) = bodyvList a0 a1 := by kernel_rfl
theorem okvListS (rvField : HcOk prog 160 (ioHd iovField (FvFieldN spFuel))) : HcOk prog 153 (ioHd iovList (FvListN (spFuel + 1))) := by
  refine fn_sound (n := 400) hm (cs := csvList) (.cons rvField .nil) (lp := lpvList) (fn := Go.Proofs.Tryz.f153) (by kernel_rfl) (by kernel_rfl) (by kernel_rfl) iovList (.step (h0 := loHd lovList_5 FvList_5) (by kernel_rfl) (loop_sound (n := 400) hm (cs := csvList) (.cons rvField .nil) (lp := lpvList) (fn := Go.Proofs.Tryz.f153) (.step (h0 := loHd lovList_8 FvList_8) (by kernel_rfl) (loop_sound (n := 400) hm (cs := csvList) (.cons rvField .nil) (lp := lpvList) (fn := Go.Proofs.Tryz.f153) (.done (by kernel_rfl)) lovList_8 FvList_8 ?_) (.done (by kernel_rfl))) lovList_5 FvList_5 ?_) (.done (by kernel_rfl))) (FvListN (spFuel + 1)) ?_
  · rintro ⟨⟨(fs : List Fd), (d : Int), (i : Int), (j : Int), ⟨⟩⟩, ⟨⟩⟩ y hw hy
    obtain ⟨hg, hy⟩ := Tr.guard hy
    simp only [Bool.and_eq_true, decide_eq_true_eq] at hg
    obtain ⟨h1, h2, h3⟩ := hg
    have h1 : j = 0 := h1
    have h2 : 0 ≤ i := h2
    have h3 : i < (fs.length : Int) := h3
    subst h1
    obtain ⟨i, rfl⟩ := toNat_of h2
    have hi : i < fs.length := by omega
    refine ⟨i + 1, (loopvList_8 d hi hw.1.1.1 (i + 1) 0 (by omega) (by omega) (by simp [spNew])).trans ?_⟩
    rw [← hy]
    have hgd : fs.getD ((i : Int)).toNat (Tre.mk (([] : List Int), ((0 : Int), ((0 : Int), ((0 : Int), ())))) ([] : List Fd)) = fs[i] := by simp only [Int.toNat_natCast]; exact getD_lt hi
    show _ = (Tr.ite (spNew (fs.take ((i : Int)).toNat) (fs.getD ((i : Int)).toNat _).lab.1) _ _).val
    rw [hgd]
    simp only [Int.toNat_natCast]
    by_cases h : spNew (fs.take i) (fs[i]).lab.1 = true
    · rw [if_pos h]; exact (bif_true h _ _).symm
    · rw [if_neg h]; exact (bif_false (by simpa using h) _ _).symm
  · rintro ⟨⟨(fs : List Fd), (d : Int), (i : Int), ⟨⟩⟩, ⟨⟩⟩ y hw hy
    obtain ⟨hg, hy⟩ := Tr.guard hy
    simp only [Bool.and_eq_true, decide_eq_true_eq] at hg
    obtain ⟨h1, ⟨h2, h3⟩, h4, h5⟩ := hg
    have h1 : i = 0 := h1
    have h2 : 0 ≤ d := h2
    have h3 : d ≤ 999 := h3
    have h4 : 2 * spFws fs + 1 ≤ spFuel := h4
    have h5 : fs.length ≤ 16 := h5
    subst h1
    refine ⟨fs.length + 1, (loopvList_5 ⟨h2, h3⟩ h4 h5 (fs.length + 1) 0 (by omega) (by omega)).trans ?_⟩
    rw [← hy, List.drop_zero]
    by_cases h : (spDist fs 0 fs && spFieldsOk d fs) = true
    · rw [if_pos h]; exact (bif_true h _ _).symm
    · rw [if_neg h]; exact (bif_false (by simpa using h) _ _).symm
  · rintro ⟨⟨(fs : List Fd), (d : Int), ⟨⟩⟩, ⟨⟩⟩ out hw ho
    obtain ⟨hg, ho⟩ := Tr.guard ho
    simp only [Bool.and_eq_true, decide_eq_true_eq] at hg
    obtain ⟨hk, hd1, hd2⟩ := hg
    have hk : 2 * spFws fs + 2 ≤ spFuel + 1 := hk
    have hd1 : 0 ≤ d := hd1
    have hd2 : d ≤ 1000 := hd2
    cases ho
    refine (runvList fs d).trans ?_
    unfold bodyvList
    show _ = some (Out.ret ((spListOk d fs, ()), ()))
    rw [spListOk]
    by_cases h1 : fs.length < 1
    · rw [if_pos h1]
      exact bif_true (decide_eq_true (by omega)) _ _
    rw [if_neg h1]
    refine (bif_false (decide_eq_false (by omega)) _ _).trans ?_
    by_cases h2 : 16 < fs.length
    · rw [if_pos h2]
      exact bif_true (decide_eq_true (by omega)) _ _
    rw [if_neg h2]
    refine (bif_false (decide_eq_false (by omega)) _ _).trans ?_
    by_cases h3 : 8 < d
    · rw [if_pos h3]
      exact bif_true (decide_eq_true h3) _ _
    rw [if_neg h3]
    refine (bif_false (decide_eq_false h3) _ _).trans ?_
    have c1 : (decide ((0 : Int) = 0) && ((decide ((0 : Int) ≤ d) && decide (d ≤ 999)) && (decide (2 * spFws fs + 1 ≤ spFuel) && decide (fs.length ≤ 16)))) = true := by simp; omega
    refine (bif_true c1 _ _).trans ?_
    by_cases h : (spDist fs 0 fs && spFieldsOk d fs) = true
    · rw [h]; rfl
    · have h : (spDist fs 0 fs && spFieldsOk d fs) = false := by simpa using h
      rw [h]; rfl
end
section
variable [Inhabited FuT]
abbrev csvField : List (Nat × Hc) := [(153, ioHd iovList (FvListN spFuel)), (144, ioHd iotHere FtHere)]
def hdvField : Hd := hdT csvField
abbrev lovField_9 : Lo := ⟨⟨[.any, .any, .one (.ptr 2 0), .any, .any, .one (.hol (.int IntKind.i64)), .any, .any, .any, .any, .any, .any, .any, .any, .any, .any, .any, .any, .any, .any, .any, .any, .any, .any, .any, .any, .any, .any, .any, .any, .any, .any, .any, .any, .any, .any, .any, .any, .any, .any, .any, .any, .any, .any, .any, .any, .any, .any, .any, .any, .any, .any, .any, .any, .any, .any, .any, .any, .any, .any, .any, .any, .any, .any, .any, .any, .any, .any, .any, .any, .any, .any, .any], [none, none, some [.hol .str, .hol (.int IntKind.i64), .hol (.int IntKind.i64), .hol (.int IntKind.i64), .hol (.sl 159 tFld)]]⟩, [(.ret, ⟨[.any, .any, .any, .any, .one (.hol .bool), .any, .any, .any, .any, .any, .any, .any, .any, .any, .any, .any, .any, .any, .any, .any, .any, .any, .any, .any, .any, .any, .any, .any, .any, .any, .any, .any, .any, .any, .any, .any, .any, .any, .any, .any, .any, .any, .any, .any, .any, .any, .any, .any, .any, .any, .any, .any, .any, .any, .any, .any, .any, .any, .any, .any, .any, .any, .any, .any, .any, .any, .any, .any, .any, .any, .any, .any, .any], []⟩), (.exit 0, ⟨[.any, .any, .one (.ptr 2 0), .any, .any, .any, .any, .any, .any, .any, .any, .any, .any, .any, .any, .any, .any, .any, .any, .any, .any, .any, .any, .any, .any, .any, .any, .any, .any, .any, .any, .any, .any, .any, .any, .any, .any, .any, .any, .any, .any, .any, .any, .any, .any, .any, .any, .any, .any, .any, .any, .any, .any, .any, .any, .any, .any, .any, .any, .any, .any, .any, .any, .any, .any, .any, .any, .any, .any, .any, .any, .any, .any], [none, none, some [.hol .str, .hol (.int IntKind.i64), .hol (.int IntKind.i64), .hol (.int IntKind.i64), .hol (.sl 159 tFld)]]⟩)]⟩
-- FvField_9 : lovField_9.st.den → Tr (DenX lovField_9.xs) | ((h2, ()), ((h3, (h4, (h5, (h6, (h7, ()))))), ()))
def FvField_9 (d : lovField_9.st.den) : Tr (DenX lovField_9.xs) :=
  .ite (((decide ((0 : Int) ≤ d.1.1) && decide (d.1.1 ≤ 4)) && decide (d.2.1.2.2.2.1 ≤ 3)) && decide (d.2.1.2.2.2.2.1.length ≤ 16))
    (.ite (spVers d.2.1.2.2.2.2.1 5 d.1.1 d.2.1.2.2.2.1) (.ret (.pan (.ret ((), ((), (d.2.1, ())))))) (.ret (.ret ((), ((false, ()), ()))))) .no
def lpvField : Lp := lpT [(9, loHd lovField_9 FvField_9)]
def stepvField_9 {R : Type} (h2 : Int) (h3 : List Int) (h4 : Int) (h5 : Int) (h6 : Int) (h7 : List (Fd)) (next : Int → List Int → Int → Int → Int → List (Fd) → Option R) (out : DenX lovField_9.xs → Option R) : Option R := bif decide (h2 ≤ h6) then bif decide (h7.length ≤ 4294967296) then bif (↑(spHere h7 h2).length : Int) == 0 then out (.ret ((), ((false, ()), ()))) else next (IntKind.i64.wrap (h2 + 1)) (h3) (h4) (h5) (h6) (h7) else none else out (.pan (.ret ((), ((), ((h3, (h4, (h5, (h6, (h7, ()))))), ())))))
def itvField_9 (n : Nat) (h2 : Int) (h3 : List Int) (h4 : Int) (h5 : Int) (h6 : Int) (h7 : List (Fd)) : Option (DenX lovField_9.xs) := lpN tt hdvField dr lpvField 0 Go.Proofs.Tryz.f160 (topL Go.Proofs.Tryz.f160 0) n (lovField_9.st.mk' ((h2, ()), ((h3, (h4, (h5, (h6, (h7, ()))))), ()))) (decX lovField_9.xs)
theorem slvField_9 (n : Nat) (h2 : Int) (h3 : List Int) (h4 : Int) (h5 : Int) (h6 : Int) (h7 : List (Fd)) : itvField_9 (n + 1) h2 h3 h4 h5 h6 h7 = stepvField_9 h2 h3 h4 h5 h6 h7 (itvField_9 n) some := by kernel_rfl
theorem loopvField {ks : List Fd} (hl : ks.length ≤ 16) (nm : List Int) (a b c : Int) (hc : c ≤ 3) : ∀ (k : Nat) (v : Int), 0 ≤ v → v ≤ 4 → 4 < v + k →
    itvField_9 k v nm a b c ks = if spVers ks k v c = true then some (.pan (.ret ((), ((), ((nm, (a, (b, (c, (ks, ()))))), ()))))) else some (.ret ((), ((false, ()), ()))) := by
  intro k
  induction k with
  | zero => intro v h0 h1 h2; omega
  | succ k ih =>
    intro v h0 h1 h2
    rw [slvField_9]
    unfold stepvField_9
    rw [spVers]
    by_cases hv : v ≤ c
    · refine (bif_true (decide_eq_true hv) _ _).trans ?_
      refine (bif_true (decide_eq_true (by omega)) _ _).trans ?_
      rw [if_pos hv, wrap_i64 (n := v + 1) (by omega) (by omega)]
      by_cases h : (spHere ks v).length = 0
      · refine (bif_true (by simp [h]) _ _).trans ?_
        rw [if_pos h]; rfl
      · refine (bif_false (by simpa using h) _ _).trans ?_
        rw [if_neg h]
        exact ih (v + 1) (by omega) (by omega) (by omega)
    · refine (bif_false (decide_eq_false hv) _ _).trans ?_
      rw [if_neg hv]; rfl
def bodyvField (a0 : Fd) (a1 : Int) : Option iovField.Res := bif (↑(List.length a0.1.fst) : Int) == 0 then some (Out.ret ((false, ()), ())) else bif decide (a0.1.snd.snd.fst < 0) then some (Out.ret ((false, ()), ())) else bif decide (3 < a0.1.snd.snd.snd.fst) then some (Out.ret ((false, ()), ())) else bif decide (a0.1.snd.snd.snd.fst < a0.1.snd.snd.fst) then some (Out.ret ((false, ()), ())) else bif decide (a0.1.snd.fst < 1) then some (Out.ret ((false, ()), ())) else bif decide (10 < a0.1.snd.fst) then some (Out.ret ((false, ()), ())) else bif decide (a0.1.snd.fst < 9) then some (Out.ret (((↑a0.2.length : Int) == 0, ()), ())) else bif decide (2 * spFws a0.2 + 2 ≤ spFuel) && (decide (0 ≤ IntKind.i64.wrap (a1 + 1)) && decide (IntKind.i64.wrap (a1 + 1) ≤ 1000)) then bif !spListOk (IntKind.i64.wrap (a1 + 1)) a0.2 then some (Out.ret ((false, ()), ())) else (FvField_9 ((a0.1.snd.snd.fst, ()), ((a0.1.fst, (a0.1.snd.fst, (a0.1.snd.snd.fst, (a0.1.snd.snd.snd.fst, (a0.2, ()))))), ()))).run fun y => match y with | .ret ((), ((x20, ()), ())) => (some (Out.ret ((x20, ()), ()))) | .pan (.ret ((), ((), (x21, x22, x23, x24, x25, ()), ()))) => (bif x22 == 10 then some (Out.ret ((true, ()), ())) else some (Out.ret (((↑x25.length : Int) == 1, ()), ()))) else none
theorem runvField (a0 : Fd) (a1 : Int) : Io.run tt hdvField dr lpvField iovField Go.Proofs.Tryz.f160 ((a0, a1, ()), ()) = bodyvField a0 a1 := by kernel_rfl
theorem okvFieldS (rvList : HcOk prog 153 (ioHd iovList (FvListN spFuel))) : HcOk prog 160 (ioHd iovField (FvFieldN (spFuel + 1))) := by
  refine fn_sound (n := 400) hm (cs := csvField) (.cons rvList (.cons oktHere .nil)) (lp := lpvField) (fn := Go.Proofs.Tryz.f160) (by kernel_rfl) (by kernel_rfl) (by kernel_rfl) iovField (.step (h0 := loHd lovField_9 FvField_9) (by kernel_rfl) (loop_sound (n := 400) hm (cs := csvField) (.cons rvList (.cons oktHere .nil)) (lp := lpvField) (fn := Go.Proofs.Tryz.f160) (.done (by kernel_rfl)) lovField_9 FvField_9 ?_) (.done (by kernel_rfl))) (FvFieldN (spFuel + 1)) ?_
  · rintro ⟨⟨(v : Int), ⟨⟩⟩, ⟨⟨(nm : List Int), (a : Int), (b : Int), (c : Int), (ks : List Fd), ⟨⟩⟩, ⟨⟩⟩⟩ y hw hy
    obtain ⟨hg, hy⟩ := Tr.guard hy
    simp only [Bool.and_eq_true, decide_eq_true_eq] at hg
    obtain ⟨⟨⟨h1, h4⟩, h2⟩, h3⟩ := hg
    have h1 : 0 ≤ v := h1
    have h4 : v ≤ 4 := h4
    have h2 : c ≤ 3 := h2
    have h3 : ks.length ≤ 16 := h3
    refine ⟨5, (loopvField h3 nm a b c h2 5 v h1 h4 (by omega)).trans ?_⟩
    rw [← hy]
    by_cases h : spVers ks 5 v c = true
    · rw [if_pos h]; exact (bif_true h _ _).symm
    · rw [if_neg h]; exact (bif_false (by simpa using h) _ _).symm
  · rintro ⟨⟨(f : Fd), (d : Int), ⟨⟩⟩, ⟨⟩⟩ out hw ho
    obtain ⟨hg, ho⟩ := Tr.guard ho
    simp only [Bool.and_eq_true, decide_eq_true_eq] at hg
    obtain ⟨hk, hd1, hd2⟩ := hg
    have hk : 2 * spFw f + 1 ≤ spFuel + 1 := hk
    have hd1 : 0 ≤ d := hd1
    have hd2 : d ≤ 999 := hd2
    cases ho
    refine (runvField f d).trans ?_
    unfold bodyvField
    show _ = some (Out.ret ((spFieldOk d f, ()), ()))
    obtain ⟨⟨(nm : List Int), (k' : Int), (lo : Int), (hi : Int), ⟨⟩⟩, (ks : List Fd)⟩ := f
    have hwf := spFw_eq (Tre.mk (nm, (k', (lo, (hi, ())))) ks)
    have hwf : spFw (Tre.mk (nm, (k', (lo, (hi, ())))) ks) = 1 + spFws ks := hwf
    have hk : 2 * (1 + spFws ks) + 1 ≤ spFuel + 1 := by rw [← hwf]; exact hk
    rw [spFieldOk, wrap_i64 (n := d + 1) (by omega) (by omega)]
    simp only
    by_cases h1 : List.length nm = 0
    · rw [if_pos h1]
      exact bif_true (by simp [h1]) _ _
    rw [if_neg h1]
    refine (bif_false (by simpa using h1) _ _).trans ?_
    by_cases h2 : lo < (0 : Int)
    · rw [if_pos h2]
      exact bif_true (decide_eq_true h2) _ _
    rw [if_neg h2]
    refine (bif_false (decide_eq_false h2) _ _).trans ?_
    by_cases h3 : (3 : Int) < hi
    · rw [if_pos h3]
      exact bif_true (decide_eq_true h3) _ _
    rw [if_neg h3]
    refine (bif_false (decide_eq_false h3) _ _).trans ?_
    by_cases h4 : (hi : Int) < lo
    · rw [if_pos h4]
      exact bif_true (decide_eq_true h4) _ _
    rw [if_neg h4]
    refine (bif_false (decide_eq_false h4) _ _).trans ?_
    by_cases h5 : k' < (1 : Int)
    · rw [if_pos h5]
      exact bif_true (decide_eq_true h5) _ _
    rw [if_neg h5]
    refine (bif_false (decide_eq_false h5) _ _).trans ?_
    by_cases h6 : (10 : Int) < k'
    · rw [if_pos h6]
      exact bif_true (decide_eq_true h6) _ _
    rw [if_neg h6]
    refine (bif_false (decide_eq_false h6) _ _).trans ?_
    by_cases h7 : k' < (9 : Int)
    · rw [if_pos h7]
      refine (bif_true (decide_eq_true h7) _ _).trans ?_
      by_cases h8 : ks.length = 0
      · rw [if_pos h8, h8]; rfl
      · rw [if_neg h8]
        exact congrArg (fun b : Bool => some (Out.ret ((b, ()), ()))) (by simpa using h8)
    rw [if_neg h7]
    refine (bif_false (decide_eq_false h7) _ _).trans ?_
    refine (bif_true (show (decide (2 * spFws ks + 2 ≤ spFuel) && (decide ((0 : Int) ≤ d + 1) && decide (d + 1 ≤ 1000))) = true by simp; omega) _ _).trans ?_
    by_cases h8 : spListOk (d + 1) ks = false
    · rw [if_pos h8]
      exact bif_true (by rw [h8]; rfl) _ _
    rw [if_neg h8]
    refine (bif_false (by simpa using h8) _ _).trans ?_
    have h8 : spListOk (d + 1) ks = true := by simpa using h8
    have hl : ks.length ≤ 16 := by
      rw [spListOk] at h8
      split at h8
      · cases h8
      · split at h8
        · cases h8
        · omega
    have c1 : (((decide ((0 : Int) ≤ lo) && decide (lo ≤ 4)) && decide (hi ≤ (3 : Int))) && decide (ks.length ≤ 16)) = true := by simp [hl]; omega
    refine (bif_true c1 _ _).trans ?_
    by_cases h9 : spVers ks 5 lo hi = true
    · refine (bif_true h9 _ _).trans ?_
      rw [if_neg (by rw [h9]; decide)]
      show (bif k' == 10 then _ else _) = _
      by_cases h10 : k' = 10
      · rw [if_pos h10]
        exact bif_true (by simpa using h10) _ _
      · rw [if_neg h10]
        refine (bif_false (by simpa using h10) _ _).trans ?_
        by_cases h11 : ks.length = 1
        · rw [if_pos h11]
          exact congrArg (fun b : Bool => some (Out.ret ((b, ()), ()))) (show ((ks.length : Int) == 1) = true by rw [h11]; rfl)
        · rw [if_neg h11]
          exact congrArg (fun b : Bool => some (Out.ret ((b, ()), ()))) (show ((ks.length : Int) == 1) = false by simp; omega)
    · have h9 : spVers ks 5 lo hi = false := by simpa using h9
      refine (bif_false h9 _ _).trans ?_
      rw [if_pos h9]
      rfl
end
theorem okvLBoth (n : Nat) : HcOk prog 153 (ioHd iovList (FvListN n)) ∧ HcOk prog 160 (ioHd iovField (FvFieldN n)) := by
  induction n with
  | zero => 
    refine ⟨HcOk.none (fn := Go.Proofs.Tryz.f153) (by kernel_rfl) (by kernel_rfl) (by kernel_rfl) _ _ fun d out h => ?_, HcOk.none (fn := Go.Proofs.Tryz.f160) (by kernel_rfl) (by kernel_rfl) (by kernel_rfl) _ _ fun d out h => ?_⟩
    · cases h
    · cases h
  | succ n ih =>
    have h1 := @okvListS ⟨⟨n⟩⟩ (by rw [FuT.val]; exact ih.2)
    have h2 := @okvFieldS ⟨⟨n⟩⟩ (by rw [FuT.val]; exact ih.1)
    rw [FuT.val] at h1 h2
    exact ⟨h1, h2⟩
theorem okvList : HcOk prog 153 (ioHd iovList FvList) := by
  refine HcOk.lim (fun n => (okvLBoth n).1) fun d => ⟨2 * spFws d.1.1 + 2, fun out h => ?_⟩
  obtain ⟨hg, h⟩ := Tr.guard h
  exact (bif_true (by rw [hg]; simp) _ _).trans h
abbrev iovCheck : Io := ⟨[dFlds], [], [], [dI], none⟩
def spChk (l : List Fd) : Int := if spListOk 1 l = true then 0 else 100
def FvCheck (d : iovCheck.In) : Tr iovCheck.Res := .ret (.ret ((spChk d.1.1, ()), ()))
abbrev csvCheck : List (Nat × Hc) := [(153, ioHd iovList FvList)]
def hdvCheck : Hd := hdT csvCheck
def lpvCheck : Lp := lpT []
def bodyvCheck (a0 : List tFld.den) : Option iovCheck.Res := bif !spListOk 1 a0 then some (Out.ret ((100, ()), ())) else some (Out.ret ((0, ()), ()))
theorem runvCheck (a0 : List tFld.den) : Io.run tt hdvCheck dr lpvCheck iovCheck Go.Proofs.Tryz.f143 ((a0, ()), ()) = bodyvCheck a0 := by kernel_rfl
theorem okvCheck : HcOk prog 143 (ioHd iovCheck FvCheck) := by
  refine fn_sound (n := 400) hm (cs := csvCheck) (.cons okvList .nil) (lp := lpvCheck) (fn := Go.Proofs.Tryz.f143) (by kernel_rfl) (by kernel_rfl) (by kernel_rfl) iovCheck (.done (by kernel_rfl)) FvCheck ?_
  rintro ⟨⟨(fs : List Fd), ⟨⟩⟩, ⟨⟩⟩ out hw ho
  cases ho
  refine (runvCheck fs).trans ?_
  unfold bodyvCheck
  show _ = some (Out.ret ((spChk fs, ()), ()))
  unfold spChk
  by_cases h : spListOk 1 fs = true
  · rw [if_pos h]
    exact bif_false (by rw [h]; rfl) _ _
  · rw [if_neg h]
    exact bif_true (by simpa using h) _ _
abbrev iovBegin : Io := ⟨[dFlds, dI], [], [], [dI], none⟩
def spBeg (l : List Fd) (v : Int) : Int := if v < 0 ∨ 3 < v then 8 else spChk l
def FvBegin (d : iovBegin.In) : Tr iovBegin.Res := .ret (.ret ((spBeg d.1.1 d.1.2.1, ()), ()))
abbrev csvBegin : List (Nat × Hc) := [(143, ioHd iovCheck FvCheck)]
def hdvBegin : Hd := hdT csvBegin
def lpvBegin : Lp := lpT []
def bodyvBegin (a0 : List tFld.den) (a1 : Int) : Option iovBegin.Res := bif decide (a1 < 0) then some (Out.ret ((8, ()), ())) else bif decide (3 < a1) then some (Out.ret ((8, ()), ())) else some (Out.ret ((spChk a0, ()), ()))
theorem runvBegin (a0 : List tFld.den) (a1 : Int) : Io.run tt hdvBegin dr lpvBegin iovBegin Go.Proofs.Tryz.f129 ((a0, a1, ()), ()) = bodyvBegin a0 a1 := by kernel_rfl
theorem okvBegin : HcOk prog 129 (ioHd iovBegin FvBegin) := by
  refine fn_sound (n := 400) hm (cs := csvBegin) (.cons okvCheck .nil) (lp := lpvBegin) (fn := Go.Proofs.Tryz.f129) (by kernel_rfl) (by kernel_rfl) (by kernel_rfl) iovBegin (.done (by kernel_rfl)) FvBegin ?_
  rintro ⟨⟨(fs : List Fd), (v : Int), ⟨⟩⟩, ⟨⟩⟩ out hw ho
  cases ho
  refine (runvBegin fs v).trans ?_
  unfold bodyvBegin
  show _ = some (Out.ret ((spBeg fs v, ()), ()))
  unfold spBeg
  by_cases h : v < 0
  · rw [if_pos (.inl h)]
    exact bif_true (decide_eq_true h) _ _
  · refine (bif_false (decide_eq_false h) _ _).trans ?_
    by_cases h2 : 3 < v
    · rw [if_pos (.inr h2)]
      exact bif_true (decide_eq_true h2) _ _
    · rw [if_neg (by omega)]
      exact bif_false (decide_eq_false h2) _ _
theorem spArrs_cons (k : Fd) (ks : List Fd) : spArrs (k :: ks) = (spArr k && spArrs ks) := by unfold spArrs spArr; rfl
theorem spField_arr : ∀ (N : Nat), (∀ (d : Int) (f : Fd), spFw f ≤ N → spFieldOk d f = true → spArr f = true) ∧ (∀ (d : Int) (ks : List Fd), spFws ks < N → spListOk d ks = true → spArrs ks = true ∧ 1 ≤ ks.length ∧ ks.length ≤ 16) := by
  intro N
  induction N with
  | zero => exact ⟨fun d f h => by have := spFw_eq f; omega, fun d ks h => by omega⟩
  | succ N ih =>
    have hl : ∀ (d : Int) (ks : List Fd), spFws ks < N + 1 → spListOk d ks = true → spArrs ks = true ∧ 1 ≤ ks.length ∧ ks.length ≤ 16 := by
      intro d ks hN h
      rw [spListOk] at h
      split at h
      · cases h
      split at h
      · cases h
      split at h
      · cases h
      refine ⟨?_, by omega, by omega⟩
      simp only [Bool.and_eq_true] at h
      have key : ∀ l : List Fd, (∀ k ∈ l, spFw k ≤ N) → spFieldsOk d l = true → spArrs l = true := by
        intro l
        induction l with
        | nil => intro _ _; unfold spArrs; rfl
        | cons k l ihl =>
          intro h1 h2
          rw [spFieldsOk] at h2
          simp only [Bool.and_eq_true] at h2
          rw [spArrs_cons, ih.1 d k (h1 k (by simp)) h2.1, ihl (fun k hk => h1 k (List.mem_cons_of_mem _ hk)) h2.2]; rfl
      exact key ks (fun k hk => by have := spFw_mem hk; omega) h.2
    refine ⟨?_, hl⟩
    rintro d ⟨⟨(nm : List Int), (k' : Int), (lo : Int), (hi : Int), ⟨⟩⟩, (ks : List Fd)⟩ hN h
    rw [spArr_eq]
    have hwf := spFw_eq (Tre.mk (nm, (k', (lo, (hi, ())))) ks)
    have hwf : spFw (Tre.mk (nm, (k', (lo, (hi, ())))) ks) = 1 + spFws ks := hwf
    have hN : 1 + spFws ks ≤ N + 1 := by rw [← hwf]; exact hN
    show ((((decide (k' ≠ 9) || decide (ks.length ≠ 0)) && decide (ks.length ≤ 16)) && spArrs ks)) = true
    rw [spFieldOk] at h
    by_cases c0 : List.length nm = 0
    · rw [if_pos c0] at h; cases h
    rw [if_neg c0] at h
    by_cases c1 : lo < 0
    · rw [if_pos c1] at h; cases h
    rw [if_neg c1] at h
    by_cases c2 : 3 < hi
    · rw [if_pos c2] at h; cases h
    rw [if_neg c2] at h
    by_cases c3 : hi < lo
    · rw [if_pos c3] at h; cases h
    rw [if_neg c3] at h
    by_cases c4 : k' < 1
    · rw [if_pos c4] at h; cases h
    rw [if_neg c4] at h
    by_cases c5 : 10 < k'
    · rw [if_pos c5] at h; cases h
    rw [if_neg c5] at h
    by_cases hk9 : k' < 9
    · rw [if_pos hk9] at h
      by_cases h0 : ks.length = 0
      · have : ks = [] := List.eq_nil_of_length_eq_zero h0
        subst this
        have e : decide (k' ≠ 9) = true := decide_eq_true (by omega)
        have : spArrs [] = true := by unfold spArrs; rfl
        rw [e, this]; rfl
      · rw [if_neg h0] at h; cases h
    rw [if_neg hk9] at h
    by_cases hlk : spListOk (d + 1) ks = false
    · rw [if_pos hlk] at h; cases h
    obtain ⟨h1, h2, h3⟩ := hl (d + 1) ks (by omega) (by simpa using hlk)
    have e : decide (ks.length ≠ 0) = true := decide_eq_true (by omega)
    have e2 : decide (ks.length ≤ 16) = true := decide_eq_true h3
    rw [h1, e, e2, Bool.or_true]; rfl
theorem spBeg_arr {l : List Fd} {v : Int} (h : spBeg l v = 0) : spArrs l = true ∧ l.length ≤ 16 := by
  unfold spBeg at h
  split at h
  · omega
  · unfold spChk at h
    split at h
    · rename_i hl
      have := (spField_arr (spFws l + 1)).2 1 l (by omega) hl
      exact ⟨this.1, this.2.2⟩
    · omega
abbrev iovEncode : Io := ⟨[dFlds, dI, dNode], [], [], [dL, dI], none⟩
def spEnc (l : List Fd) (v : Int) (n : Nd) : List Int × Int := if spBeg l v ≠ 0 then ([], spBeg l v) else if spShN 10 n = false then ([], 101) else if (spVParts l v n).2 ≠ 0 then ([], (spVParts l v n).2) else if 130048 < (spVParts l v n).1.length then ([], 4) else ((spVParts l v n).1, 0)
def FvEncode (d : iovEncode.In) : Tr iovEncode.Res := .ite (decide (8 * spWt d.1.2.2.1 ≤ 4294967296)) (.ret (.ret (((spEnc d.1.1 d.1.2.1 d.1.2.2.1).1, ((spEnc d.1.1 d.1.2.1 d.1.2.2.1).2, ())), ()))) .no
abbrev csvEncode : List (Nat × Hc) := [(129, ioHd iovBegin FvBegin), (130, ioHd iotShape FtShape), (131, ioHd iovParts FvParts)]
def hdvEncode : Hd := hdT csvEncode
def lpvEncode : Lp := lpT []
def bodyvEncode (a0 : List tFld.den) (a1 : Int) (a2 : Nd) : Option iovEncode.Res := bif spBeg a0 a1 != 0 then some (Out.ret (([], spBeg a0 a1, ()), ())) else bif !spShN 10 (Tre.mk a2.1 a2.2) then some (Out.ret (([], 101, ()), ())) else bif spArrs a0 && (decide (8 * spWt (Tre.mk a2.1 a2.2) ≤ 4294967296) && decide (a0.length ≤ 4294967296)) then bif (spVParts a0 a1 (Tre.mk a2.1 a2.2)).snd != 0 then some (Out.ret (([], (spVParts a0 a1 (Tre.mk a2.1 a2.2)).snd, ()), ())) else bif decide (130048 < (↑(spVParts a0 a1 (Tre.mk a2.1 a2.2)).fst.length : Int)) then some (Out.ret (([], 4, ()), ())) else some (Out.ret (((spVParts a0 a1 (Tre.mk a2.1 a2.2)).fst, 0, ()), ())) else none
theorem runvEncode (a0 : List tFld.den) (a1 : Int) (a2 : Nd) : Io.run tt hdvEncode dr lpvEncode iovEncode Go.Proofs.Tryz.f99 ((a0, a1, a2, ()), ()) = bodyvEncode a0 a1 a2 := by kernel_rfl
theorem okvEncode : HcOk prog 99 (ioHd iovEncode FvEncode) := by
  refine fn_sound (n := 400) hm (cs := csvEncode) (.cons okvBegin (.cons oktShape (.cons okvParts .nil))) (lp := lpvEncode) (fn := Go.Proofs.Tryz.f99) (by kernel_rfl) (by kernel_rfl) (by kernel_rfl) iovEncode (.done (by kernel_rfl)) FvEncode ?_
  rintro ⟨⟨(fs : List Fd), (v : Int), (n : Nd), ⟨⟩⟩, ⟨⟩⟩ out hw ho
  obtain ⟨hg, ho⟩ := Tr.guard ho
  have hb : 8 * spWt n ≤ 4294967296 := of_decide_eq_true hg
  cases ho
  refine (runvEncode fs v n).trans ?_
  unfold bodyvEncode
  show _ = some (Out.ret (((spEnc fs v n).1, ((spEnc fs v n).2, ())), ()))
  unfold spEnc
  by_cases h1 : spBeg fs v = 0
  · rw [if_neg (by simpa using h1)]
    refine (bif_false (by rw [h1]; rfl) _ _).trans ?_
    obtain ⟨ha, hl⟩ := spBeg_arr h1
    obtain ⟨nl, nk⟩ := n
    by_cases h2 : spShN 10 (Tre.mk nl nk) = false
    · rw [if_pos h2]
      exact bif_true (show (!spShN 10 (Tre.mk nl nk)) = true by rw [h2]; rfl) _ _
    rw [if_neg h2]
    refine (bif_false (show (!spShN 10 (Tre.mk nl nk)) = false by simpa using h2) _ _).trans ?_
    refine (bif_true (show (spArrs fs && (decide (8 * spWt (Tre.mk nl nk) ≤ 4294967296) && decide (fs.length ≤ 4294967296))) = true by rw [ha]; simp; omega) _ _).trans ?_
    by_cases h3 : (spVParts fs v (Tre.mk nl nk)).2 = 0
    · rw [if_neg (by simpa using h3)]
      refine (bif_false (show ((spVParts fs v (Tre.mk nl nk)).2 != 0) = false by rw [h3]; rfl) _ _).trans ?_
      by_cases h4 : 130048 < (spVParts fs v (Tre.mk nl nk)).1.length
      · rw [if_pos h4]
        exact bif_true (decide_eq_true (show (130048 : Int) < ((spVParts fs v (Tre.mk nl nk)).1.length : Int) by omega)) _ _
      · rw [if_neg h4]
        exact bif_false (decide_eq_false (show ¬ (130048 : Int) < ((spVParts fs v (Tre.mk nl nk)).1.length : Int) by omega)) _ _
    · rw [if_pos h3]
      exact bif_true (by simpa using h3) _ _
  · rw [if_pos h1]
    exact bif_true (by simpa using h1) _ _
end
end Go.Proofs.YtmlgepgcofmpeaaGreat.Sym
namespace Go.Proofs.YtmlgepgcofmpeaaGreat.Sym
open Go
set_option linter.unusedSimpArgs false
set_option linter.unusedVariables false
noncomputable section
mutual
def spCut (f : Fd) (v : Int) : Nd → Nd × Bool
  | .mk a ks => if f.lab.2.1 = 9 then (.mk (9, (0, (false, (([] : List Int), ())))) (spCItems (f.kids.headD f) v ks).1, (spCItems (f.kids.headD f) v ks).2)
    else if f.lab.2.1 = 10 then (.mk (10, (0, (false, (([] : List Int), ())))) (spCZip v f.kids ks).1, (spCZip v f.kids ks).2) else (.mk a ks, true)
termination_by n => (SizeOf.sizeOf n, 0)
def spCItems (f : Fd) (v : Int) : List Nd → List Nd × Bool
  | [] => ([], true)
  | k :: ks => ((spCut f v k).1 :: (spCItems f v ks).1, (spCut f v k).2 && (spCItems f v ks).2)
termination_by l => (SizeOf.sizeOf l, 0)
def spCZip (v : Int) : List Fd → List Nd → List Nd × Bool
  | f :: fs, k :: ks => if spHas f v = true then ((spCut f v k).1 :: (spCZip v fs ks).1, (spCut f v k).2 && (spCZip v fs ks).2) else ((spCZip v fs ks).1, spZeroN k && (spCZip v fs ks).2)
  | _, _ => ([], true)
termination_by fs l => (SizeOf.sizeOf l, 0)
end
mutual
def spFill (f : Fd) (v : Int) : Nd → Nd
  | .mk a ks => if f.lab.2.1 = 9 then .mk (9, (0, (false, (([] : List Int), ())))) (spFItems (f.kids.headD f) v ks)
    else if f.lab.2.1 = 10 then .mk (10, (0, (false, (([] : List Int), ())))) (spFZip v f.kids ks) else .mk a ks
termination_by n => (SizeOf.sizeOf n, 0, 0)
def spFItems (f : Fd) (v : Int) : List Nd → List Nd
  | [] => []
  | k :: ks => spFill f v k :: spFItems f v ks
termination_by l => (SizeOf.sizeOf l, 0, 0)
def spFZip (v : Int) : List Fd → List Nd → List Nd
  | [], _ => []
  | f :: fs, [] => .mk (f.lab.2.1, (0, (false, (([] : List Int), ())))) [] :: spFZip v fs []
  | f :: fs, k :: ks => if spHas f v = true then spFill f v k :: spFZip v fs ks else .mk (f.lab.2.1, (0, (false, (([] : List Int), ())))) [] :: spFZip v fs (k :: ks)
termination_by fs l => (SizeOf.sizeOf l, 0, fs.length)
end
abbrev iovCut : Io := ⟨[dFld, dI, dNode], [], [], [dNode, dB], none⟩
def FvCutN (n : Nat) (d : iovCut.In) : Tr iovCut.Res := .ite (decide (spWt d.1.2.2.1 < n) && (spArr d.1.1 && decide (spWt d.1.2.2.1 ≤ 4294967296))) (.ret (.ret (((spCut d.1.1 d.1.2.1 d.1.2.2.1).1, ((spCut d.1.1 d.1.2.1 d.1.2.2.1).2, ())), ()))) .no
def FvCut (d : iovCut.In) : Tr iovCut.Res := .ite (spArr d.1.1 && decide (spWt d.1.2.2.1 ≤ 4294967296)) (.ret (.ret (((spCut d.1.1 d.1.2.1 d.1.2.2.1).1, ((spCut d.1.1 d.1.2.1 d.1.2.2.1).2, ())), ()))) .no
section
variable [Inhabited FuT]
abbrev csvCut : List (Nat × Hc) := [(98, ioHd iovCut (FvCutN spFuel)), (127, ioHd iotHere1 FtHere1), (128, ioHd iotZero FtZero)]
def hdvCut : Hd := hdT csvCut
abbrev lovCut_6 : Lo := ⟨⟨[.any, .one (.hol (.int IntKind.i64)), .any, .one (.ptr 3 0), .any, .one (.ptr 5 0), .one (.ptr 6 0), .any, .one (.onl 68 (((Ty.int IntKind.i64).prod ((Ty.int IntKind.i64).prod (Ty.bool.prod ((Ty.sl 5 (Ty.int IntKind.u8)).prod Ty.unit)))).tree 68) 17), .one (.hol .bool), .one (.hol (.int IntKind.i64)), .any, .any, .any, .any, .any, .any, .any, .any, .any, .any, .any, .any, .any, .any, .any, .any, .any, .any, .any, .any, .any, .any, .any, .any, .any, .any, .any, .any, .any, .any, .any, .any, .any, .any, .any, .any, .any, .any, .any, .any, .any, .any, .any, .any, .any, .any, .any, .any, .any, .any, .any, .any, .any, .any, .any, .any, .any, .any, .any, .any, .any, .any, .any, .any, .any, .any, .any, .any, .any, .any, .any, .any, .any, .any, .any, .any, .any, .any, .any, .any, .any, .any, .any, .any, .any, .any, .any, .any, .any, .any, .any, .any, .any, .any, .any, .any, .any, .any, .any, .any, .any], [none, none, none, some [.hol .str, .hol (.int IntKind.i64), .hol (.int IntKind.i64), .hol (.int IntKind.i64), .hol (.sl 159 tFld)], none, some [.hol (.int IntKind.i64), .hol (.int IntKind.i64), .hol .bool, .hol (.sl 5 (Ty.int IntKind.u8)), .hol (.sl 68 (((Ty.int IntKind.i64).prod ((Ty.int IntKind.i64).prod (Ty.bool.prod ((Ty.sl 5 (Ty.int IntKind.u8)).prod Ty.unit)))).tree 68))], some [.hol (.int IntKind.i64), .hol (.int IntKind.i64), .hol .bool, .onl 5 (Ty.int IntKind.u8) 3080, .onl 68 (((Ty.int IntKind.i64).prod ((Ty.int IntKind.i64).prod (Ty.bool.prod ((Ty.sl 5 (Ty.int IntKind.u8)).prod Ty.unit)))).tree 68) 3082]]⟩, [(.exit 0, ⟨[.any, .any, .any, .any, .any, .any, .one (.ptr 6 0), .any, .one (.onl 68 (((Ty.int IntKind.i64).prod ((Ty.int IntKind.i64).prod (Ty.bool.prod ((Ty.sl 5 (Ty.int IntKind.u8)).prod Ty.unit)))).tree 68) 17), .one (.hol .bool), .any, .any, .any, .any, .any, .any, .any, .any, .any, .any, .any, .any, .any, .any, .any, .any, .any, .any, .any, .any, .any, .any, .any, .any, .any, .any, .any, .any, .any, .any, .any, .any, .any, .any, .any, .any, .any, .any, .any, .any, .any, .any, .any, .any, .any, .any, .any, .any, .any, .any, .any, .any, .any, .any, .any, .any, .any, .any, .any, .any, .any, .any, .any, .any, .any, .any, .any, .any, .any, .any, .any, .any, .any, .any, .any, .any, .any, .any, .any, .any, .any, .any, .any, .any, .any, .any, .any, .any, .any, .any, .any, .any, .any, .any, .any, .any, .any, .any, .any, .any, .any, .any], [none, none, none, none, none, none, some [.hol (.int IntKind.i64), .hol (.int IntKind.i64), .hol .bool, .onl 5 (Ty.int IntKind.u8) 3080, .onl 68 (((Ty.int IntKind.i64).prod ((Ty.int IntKind.i64).prod (Ty.bool.prod ((Ty.sl 5 (Ty.int IntKind.u8)).prod Ty.unit)))).tree 68) 3082]]⟩)]⟩
-- FvCut_6 : lovCut_6.st.den → Tr (DenX lovCut_6.xs) | ((h3, (h4, (h5, (h6, ())))), ((h7, (h8, (h9, (h10, (h11, ()))))), ((h12, (h13, (h14, (h15, (h16, ()))))), ((h17, (h18, (h19, (h20, (h21, ()))))), ()))))
abbrev lovCut_15 : Lo := ⟨⟨[.any, .one (.hol (.int IntKind.i64)), .any, .one (.ptr 3 0), .any, .one (.ptr 5 0), .one (.ptr 6 0), .any, .one (.onl 68 (((Ty.int IntKind.i64).prod ((Ty.int IntKind.i64).prod (Ty.bool.prod ((Ty.sl 5 (Ty.int IntKind.u8)).prod Ty.unit)))).tree 68) 17), .one (.hol .bool), .any, .any, .any, .one (.hol (.int IntKind.i64)), .any, .any, .any, .any, .any, .any, .any, .any, .any, .any, .any, .any, .any, .any, .any, .any, .any, .any, .any, .any, .any, .any, .any, .any, .any, .any, .any, .any, .any, .any, .any, .any, .any, .any, .any, .any, .any, .any, .any, .any, .any, .any, .any, .any, .any, .any, .any, .any, .any, .any, .any, .any, .any, .any, .any, .any, .any, .any, .any, .any, .any, .any, .any, .any, .any, .any, .any, .any, .any, .any, .any, .any, .any, .any, .any, .any, .any, .any, .any, .any, .any, .any, .any, .any, .any, .any, .any, .any, .any, .any, .any, .any, .any, .any, .any, .any, .any, .any], [none, none, none, some [.hol .str, .hol (.int IntKind.i64), .hol (.int IntKind.i64), .hol (.int IntKind.i64), .hol (.sl 159 tFld)], none, some [.hol (.int IntKind.i64), .hol (.int IntKind.i64), .hol .bool, .hol (.sl 5 (Ty.int IntKind.u8)), .hol (.sl 68 (((Ty.int IntKind.i64).prod ((Ty.int IntKind.i64).prod (Ty.bool.prod ((Ty.sl 5 (Ty.int IntKind.u8)).prod Ty.unit)))).tree 68))], some [.hol (.int IntKind.i64), .hol (.int IntKind.i64), .hol .bool, .onl 5 (Ty.int IntKind.u8) 3080, .onl 68 (((Ty.int IntKind.i64).prod ((Ty.int IntKind.i64).prod (Ty.bool.prod ((Ty.sl 5 (Ty.int IntKind.u8)).prod Ty.unit)))).tree 68) 3082]]⟩, [(.exit 2, ⟨[.any, .any, .any, .any, .any, .any, .one (.ptr 6 0), .any, .one (.onl 68 (((Ty.int IntKind.i64).prod ((Ty.int IntKind.i64).prod (Ty.bool.prod ((Ty.sl 5 (Ty.int IntKind.u8)).prod Ty.unit)))).tree 68) 17), .one (.hol .bool), .any, .any, .any, .any, .any, .any, .any, .any, .any, .any, .any, .any, .any, .any, .any, .any, .any, .any, .any, .any, .any, .any, .any, .any, .any, .any, .any, .any, .any, .any, .any, .any, .any, .any, .any, .any, .any, .any, .any, .any, .any, .any, .any, .any, .any, .any, .any, .any, .any, .any, .any, .any, .any, .any, .any, .any, .any, .any, .any, .any, .any, .any, .any, .any, .any, .any, .any, .any, .any, .any, .any, .any, .any, .any, .any, .any, .any, .any, .any, .any, .any, .any, .any, .any, .any, .any, .any, .any, .any, .any, .any, .any, .any, .any, .any, .any, .any, .any, .any, .any, .any, .any], [none, none, none, none, none, none, some [.hol (.int IntKind.i64), .hol (.int IntKind.i64), .hol .bool, .onl 5 (Ty.int IntKind.u8) 3080, .onl 68 (((Ty.int IntKind.i64).prod ((Ty.int IntKind.i64).prod (Ty.bool.prod ((Ty.sl 5 (Ty.int IntKind.u8)).prod Ty.unit)))).tree 68) 3082]]⟩)]⟩
-- FvCut_15 : lovCut_15.st.den → Tr (DenX lovCut_15.xs) | ((h74, (h75, (h76, (h77, ())))), ((h78, (h79, (h80, (h81, (h82, ()))))), ((h83, (h84, (h85, (h86, (h87, ()))))), ((h88, (h89, (h90, (h91, (h92, ()))))), ()))))
def FvCut_6 (d : lovCut_6.st.den) : Tr (DenX lovCut_6.xs) :=
  .ite (decide (d.1.2.2.2.1 = 0) && ((decide (d.1.2.1.length = 0) && d.1.2.2.1) && ((decide (d.2.1.2.2.2.2.1.length ≠ 0) && spArrs d.2.1.2.2.2.2.1) && (decide (spWts d.2.2.1.2.2.2.2.1 < spFuel) && decide (spWts d.2.2.1.2.2.2.2.1 ≤ 4294967296)))))
    (.ret (.ret ((), (((spCItems (d.2.1.2.2.2.2.1.headD (.mk ([], (0, (0, (0, ())))) [])) d.1.1 d.2.2.1.2.2.2.2.1).1, ((spCItems (d.2.1.2.2.2.2.1.headD (.mk ([], (0, (0, (0, ())))) [])) d.1.1 d.2.2.1.2.2.2.2.1).2, ())), (d.2.2.2.1, ()))))) .no
def FvCut_15 (d : lovCut_15.st.den) : Tr (DenX lovCut_15.xs) :=
  .ite (decide (d.1.2.2.2.1 = 0) && ((decide (d.1.2.1.length = 0) && d.1.2.2.1) && (spArrs d.2.1.2.2.2.2.1 && (decide (spWts d.2.2.1.2.2.2.2.1 < spFuel) && decide (spWts d.2.2.1.2.2.2.2.1 ≤ 4294967296)))))
    (.ret (.ret ((), (((spCZip d.1.1 d.2.1.2.2.2.2.1 d.2.2.1.2.2.2.2.1).1, ((spCZip d.1.1 d.2.1.2.2.2.2.1 d.2.2.1.2.2.2.2.1).2, ())), (d.2.2.2.1, ()))))) .no
def lpvCut : Lp := lpT [(6, loHd lovCut_6 FvCut_6), (15, loHd lovCut_15 FvCut_15)]
def stepvCut_6 {R : Type} (h3 : Int) (h4 : List (((Ty.int IntKind.i64).prod ((Ty.int IntKind.i64).prod (Ty.bool.prod ((Ty.sl 5 (Ty.int IntKind.u8)).prod Ty.unit)))).tree 68).den) (h5 : Bool) (h6 : Int) (h7 : List Int) (h8 : Int) (h9 : Int) (h10 : Int) (h11 : List (Fd)) (h12 : Int) (h13 : Int) (h14 : Bool) (h15 : List Int) (h16 : List (Nd)) (h17 : Int) (h18 : Int) (h19 : Bool) (h20 : List Int) (h21 : List (((Ty.int IntKind.i64).prod ((Ty.int IntKind.i64).prod (Ty.bool.prod ((Ty.sl 5 (Ty.int IntKind.u8)).prod Ty.unit)))).tree 68).den) (next : Int → List (((Ty.int IntKind.i64).prod ((Ty.int IntKind.i64).prod (Ty.bool.prod ((Ty.sl 5 (Ty.int IntKind.u8)).prod Ty.unit)))).tree 68).den → Bool → Int → List Int → Int → Int → Int → List (Fd) → Int → Int → Bool → List Int → List (Nd) → Int → Int → Bool → List Int → List (((Ty.int IntKind.i64).prod ((Ty.int IntKind.i64).prod (Ty.bool.prod ((Ty.sl 5 (Ty.int IntKind.u8)).prod Ty.unit)))).tree 68).den → Option R) (out : DenX lovCut_6.xs → Option R) : Option R := bif decide (h6 < (↑h16.length : Int)) then bif decide (0 ≤ 0) && decide (0 < (↑h11.length : Int)) then bif decide (0 ≤ h6) && decide (h6 < (↑h16.length : Int)) then bif decide (spWt (Tre.mk (h16.getD h6.toNat (Tre.mk (0, 0, false, [], ()) [])).1 (h16.getD h6.toNat (Tre.mk (0, 0, false, [], ()) [])).2) < spFuel) && (spArr (Tre.mk (h11.getD (Int.toNat 0) (Tre.mk ([], 0, 0, 0, ()) [])).1 (h11.getD (Int.toNat 0) (Tre.mk ([], 0, 0, 0, ()) [])).2) && decide (spWt (Tre.mk (h16.getD h6.toNat (Tre.mk (0, 0, false, [], ()) [])).1 (h16.getD h6.toNat (Tre.mk (0, 0, false, [], ()) [])).2) ≤ 4294967296)) then bif decide (h4.length + 1 ≤ 4294967296) then bif h5 then next (h3) (h4 ++ [Tre.mk (spCut (Tre.mk (h11.getD (Int.toNat 0) (Tre.mk ([], 0, 0, 0, ()) [])).1 (h11.getD (Int.toNat 0) (Tre.mk ([], 0, 0, 0, ()) [])).2) h3 (Tre.mk (h16.getD h6.toNat (Tre.mk (0, 0, false, [], ()) [])).1 (h16.getD h6.toNat (Tre.mk (0, 0, false, [], ()) [])).2)).fst.1 (spCut (Tre.mk (h11.getD (Int.toNat 0) (Tre.mk ([], 0, 0, 0, ()) [])).1 (h11.getD (Int.toNat 0) (Tre.mk ([], 0, 0, 0, ()) [])).2) h3 (Tre.mk (h16.getD h6.toNat (Tre.mk (0, 0, false, [], ()) [])).1 (h16.getD h6.toNat (Tre.mk (0, 0, false, [], ()) [])).2)).fst.2]) ((spCut (Tre.mk (h11.getD (Int.toNat 0) (Tre.mk ([], 0, 0, 0, ()) [])).1 (h11.getD (Int.toNat 0) (Tre.mk ([], 0, 0, 0, ()) [])).2) h3 (Tre.mk (h16.getD h6.toNat (Tre.mk (0, 0, false, [], ()) [])).1 (h16.getD h6.toNat (Tre.mk (0, 0, false, [], ()) [])).2)).snd) (IntKind.i64.wrap (h6 + 1)) (h7) (h8) (h9) (h10) (h11) (h12) (h13) (h14) (h15) (h16) (h17) (h18) (h19) (h20) (h21) else next (h3) (h4 ++ [Tre.mk (spCut (Tre.mk (h11.getD (Int.toNat 0) (Tre.mk ([], 0, 0, 0, ()) [])).1 (h11.getD (Int.toNat 0) (Tre.mk ([], 0, 0, 0, ()) [])).2) h3 (Tre.mk (h16.getD h6.toNat (Tre.mk (0, 0, false, [], ()) [])).1 (h16.getD h6.toNat (Tre.mk (0, 0, false, [], ()) [])).2)).fst.1 (spCut (Tre.mk (h11.getD (Int.toNat 0) (Tre.mk ([], 0, 0, 0, ()) [])).1 (h11.getD (Int.toNat 0) (Tre.mk ([], 0, 0, 0, ()) [])).2) h3 (Tre.mk (h16.getD h6.toNat (Tre.mk (0, 0, false, [], ()) [])).1 (h16.getD h6.toNat (Tre.mk (0, 0, false, [], ()) [])).2)).fst.2]) (false) (IntKind.i64.wrap (h6 + 1)) (h7) (h8) (h9) (h10) (h11) (h12) (h13) (h14) (h15) (h16) (h17) (h18) (h19) (h20) (h21) else none else none else none else none else out (.ret ((), ((h4, (h5, ())), ((h17, (h18, (h19, (h20, (h21, ()))))), ()))))
def itvCut_6 (n : Nat) (h3 : Int) (h4 : List (((Ty.int IntKind.i64).prod ((Ty.int IntKind.i64).prod (Ty.bool.prod ((Ty.sl 5 (Ty.int IntKind.u8)).prod Ty.unit)))).tree 68).den) (h5 : Bool) (h6 : Int) (h7 : List Int) (h8 : Int) (h9 : Int) (h10 : Int) (h11 : List (Fd)) (h12 : Int) (h13 : Int) (h14 : Bool) (h15 : List Int) (h16 : List (Nd)) (h17 : Int) (h18 : Int) (h19 : Bool) (h20 : List Int) (h21 : List (((Ty.int IntKind.i64).prod ((Ty.int IntKind.i64).prod (Ty.bool.prod ((Ty.sl 5 (Ty.int IntKind.u8)).prod Ty.unit)))).tree 68).den) : Option (DenX lovCut_6.xs) := lpN tt hdvCut dr lpvCut 0 Go.Proofs.Tryz.f98 (topL Go.Proofs.Tryz.f98 0) n (lovCut_6.st.mk' ((h3, (h4, (h5, (h6, ())))), ((h7, (h8, (h9, (h10, (h11, ()))))), ((h12, (h13, (h14, (h15, (h16, ()))))), ((h17, (h18, (h19, (h20, (h21, ()))))), ()))))) (decX lovCut_6.xs)
theorem slvCut_6 (n : Nat) (h3 : Int) (h4 : List (((Ty.int IntKind.i64).prod ((Ty.int IntKind.i64).prod (Ty.bool.prod ((Ty.sl 5 (Ty.int IntKind.u8)).prod Ty.unit)))).tree 68).den) (h5 : Bool) (h6 : Int) (h7 : List Int) (h8 : Int) (h9 : Int) (h10 : Int) (h11 : List (Fd)) (h12 : Int) (h13 : Int) (h14 : Bool) (h15 : List Int) (h16 : List (Nd)) (h17 : Int) (h18 : Int) (h19 : Bool) (h20 : List Int) (h21 : List (((Ty.int IntKind.i64).prod ((Ty.int IntKind.i64).prod (Ty.bool.prod ((Ty.sl 5 (Ty.int IntKind.u8)).prod Ty.unit)))).tree 68).den) : itvCut_6 (n + 1) h3 h4 h5 h6 h7 h8 h9 h10 h11 h12 h13 h14 h15 h16 h17 h18 h19 h20 h21 = stepvCut_6 h3 h4 h5 h6 h7 h8 h9 h10 h11 h12 h13 h14 h15 h16 h17 h18 h19 h20 h21 (itvCut_6 n) some := by kernel_rfl
def stepvCut_15 {R : Type} (h74 : Int) (h75 : List (((Ty.int IntKind.i64).prod ((Ty.int IntKind.i64).prod (Ty.bool.prod ((Ty.sl 5 (Ty.int IntKind.u8)).prod Ty.unit)))).tree 68).den) (h76 : Bool) (h77 : Int) (h78 : List Int) (h79 : Int) (h80 : Int) (h81 : Int) (h82 : List (Fd)) (h83 : Int) (h84 : Int) (h85 : Bool) (h86 : List Int) (h87 : List (Nd)) (h88 : Int) (h89 : Int) (h90 : Bool) (h91 : List Int) (h92 : List (((Ty.int IntKind.i64).prod ((Ty.int IntKind.i64).prod (Ty.bool.prod ((Ty.sl 5 (Ty.int IntKind.u8)).prod Ty.unit)))).tree 68).den) (next : Int → List (((Ty.int IntKind.i64).prod ((Ty.int IntKind.i64).prod (Ty.bool.prod ((Ty.sl 5 (Ty.int IntKind.u8)).prod Ty.unit)))).tree 68).den → Bool → Int → List Int → Int → Int → Int → List (Fd) → Int → Int → Bool → List Int → List (Nd) → Int → Int → Bool → List Int → List (((Ty.int IntKind.i64).prod ((Ty.int IntKind.i64).prod (Ty.bool.prod ((Ty.sl 5 (Ty.int IntKind.u8)).prod Ty.unit)))).tree 68).den → Option R) (out : DenX lovCut_15.xs → Option R) : Option R := bif decide (h77 < (↑h82.length : Int)) then bif decide (h77 < (↑h87.length : Int)) then bif decide (0 ≤ h77) && decide (h77 < (↑h82.length : Int)) then bif spHas (Tre.mk (h82.getD h77.toNat (Tre.mk ([], 0, 0, 0, ()) [])).1 (h82.getD h77.toNat (Tre.mk ([], 0, 0, 0, ()) [])).2) h74 then bif decide (0 ≤ h77) && decide (h77 < (↑h82.length : Int)) then bif decide (0 ≤ h77) && decide (h77 < (↑h87.length : Int)) then bif decide (spWt (Tre.mk (h87.getD h77.toNat (Tre.mk (0, 0, false, [], ()) [])).1 (h87.getD h77.toNat (Tre.mk (0, 0, false, [], ()) [])).2) < spFuel) && (spArr (Tre.mk (h82.getD h77.toNat (Tre.mk ([], 0, 0, 0, ()) [])).1 (h82.getD h77.toNat (Tre.mk ([], 0, 0, 0, ()) [])).2) && decide (spWt (Tre.mk (h87.getD h77.toNat (Tre.mk (0, 0, false, [], ()) [])).1 (h87.getD h77.toNat (Tre.mk (0, 0, false, [], ()) [])).2) ≤ 4294967296)) then bif decide (h75.length + 1 ≤ 4294967296) then bif h76 then next (h74) (h75 ++ [Tre.mk (spCut (Tre.mk (h82.getD h77.toNat (Tre.mk ([], 0, 0, 0, ()) [])).1 (h82.getD h77.toNat (Tre.mk ([], 0, 0, 0, ()) [])).2) h74 (Tre.mk (h87.getD h77.toNat (Tre.mk (0, 0, false, [], ()) [])).1 (h87.getD h77.toNat (Tre.mk (0, 0, false, [], ()) [])).2)).fst.1 (spCut (Tre.mk (h82.getD h77.toNat (Tre.mk ([], 0, 0, 0, ()) [])).1 (h82.getD h77.toNat (Tre.mk ([], 0, 0, 0, ()) [])).2) h74 (Tre.mk (h87.getD h77.toNat (Tre.mk (0, 0, false, [], ()) [])).1 (h87.getD h77.toNat (Tre.mk (0, 0, false, [], ()) [])).2)).fst.2]) ((spCut (Tre.mk (h82.getD h77.toNat (Tre.mk ([], 0, 0, 0, ()) [])).1 (h82.getD h77.toNat (Tre.mk ([], 0, 0, 0, ()) [])).2) h74 (Tre.mk (h87.getD h77.toNat (Tre.mk (0, 0, false, [], ()) [])).1 (h87.getD h77.toNat (Tre.mk (0, 0, false, [], ()) [])).2)).snd) (IntKind.i64.wrap (h77 + 1)) (h78) (h79) (h80) (h81) (h82) (h83) (h84) (h85) (h86) (h87) (h88) (h89) (h90) (h91) (h92) else next (h74) (h75 ++ [Tre.mk (spCut (Tre.mk (h82.getD h77.toNat (Tre.mk ([], 0, 0, 0, ()) [])).1 (h82.getD h77.toNat (Tre.mk ([], 0, 0, 0, ()) [])).2) h74 (Tre.mk (h87.getD h77.toNat (Tre.mk (0, 0, false, [], ()) [])).1 (h87.getD h77.toNat (Tre.mk (0, 0, false, [], ()) [])).2)).fst.1 (spCut (Tre.mk (h82.getD h77.toNat (Tre.mk ([], 0, 0, 0, ()) [])).1 (h82.getD h77.toNat (Tre.mk ([], 0, 0, 0, ()) [])).2) h74 (Tre.mk (h87.getD h77.toNat (Tre.mk (0, 0, false, [], ()) [])).1 (h87.getD h77.toNat (Tre.mk (0, 0, false, [], ()) [])).2)).fst.2]) (false) (IntKind.i64.wrap (h77 + 1)) (h78) (h79) (h80) (h81) (h82) (h83) (h84) (h85) (h86) (h87) (h88) (h89) (h90) (h91) (h92) else none else none else none else none else bif h76 then bif decide (0 ≤ h77) && decide (h77 < (↑h87.length : Int)) then next (h74) (h75) (spZeroN (Tre.mk (h87.getD h77.toNat (Tre.mk (0, 0, false, [], ()) [])).1 (h87.getD h77.toNat (Tre.mk (0, 0, false, [], ()) [])).2)) (IntKind.i64.wrap (h77 + 1)) (h78) (h79) (h80) (h81) (h82) (h83) (h84) (h85) (h86) (h87) (h88) (h89) (h90) (h91) (h92) else none else next (h74) (h75) (false) (IntKind.i64.wrap (h77 + 1)) (h78) (h79) (h80) (h81) (h82) (h83) (h84) (h85) (h86) (h87) (h88) (h89) (h90) (h91) (h92) else none else out (.ret ((), ((h75, (h76, ())), ((h88, (h89, (h90, (h91, (h92, ()))))), ())))) else out (.ret ((), ((h75, (h76, ())), ((h88, (h89, (h90, (h91, (h92, ()))))), ()))))
def itvCut_15 (n : Nat) (h74 : Int) (h75 : List (((Ty.int IntKind.i64).prod ((Ty.int IntKind.i64).prod (Ty.bool.prod ((Ty.sl 5 (Ty.int IntKind.u8)).prod Ty.unit)))).tree 68).den) (h76 : Bool) (h77 : Int) (h78 : List Int) (h79 : Int) (h80 : Int) (h81 : Int) (h82 : List (Fd)) (h83 : Int) (h84 : Int) (h85 : Bool) (h86 : List Int) (h87 : List (Nd)) (h88 : Int) (h89 : Int) (h90 : Bool) (h91 : List Int) (h92 : List (((Ty.int IntKind.i64).prod ((Ty.int IntKind.i64).prod (Ty.bool.prod ((Ty.sl 5 (Ty.int IntKind.u8)).prod Ty.unit)))).tree 68).den) : Option (DenX lovCut_15.xs) := lpN tt hdvCut dr lpvCut 0 Go.Proofs.Tryz.f98 (topL Go.Proofs.Tryz.f98 1) n (lovCut_15.st.mk' ((h74, (h75, (h76, (h77, ())))), ((h78, (h79, (h80, (h81, (h82, ()))))), ((h83, (h84, (h85, (h86, (h87, ()))))), ((h88, (h89, (h90, (h91, (h92, ()))))), ()))))) (decX lovCut_15.xs)
theorem slvCut_15 (n : Nat) (h74 : Int) (h75 : List (((Ty.int IntKind.i64).prod ((Ty.int IntKind.i64).prod (Ty.bool.prod ((Ty.sl 5 (Ty.int IntKind.u8)).prod Ty.unit)))).tree 68).den) (h76 : Bool) (h77 : Int) (h78 : List Int) (h79 : Int) (h80 : Int) (h81 : Int) (h82 : List (Fd)) (h83 : Int) (h84 : Int) (h85 : Bool) (h86 : List Int) (h87 : List (Nd)) (h88 : Int) (h89 : Int) (h90 : Bool) (h91 : List Int) (h92 : List (((Ty.int IntKind.i64).prod ((Ty.int IntKind.i64).prod (Ty.bool.prod ((Ty.sl 5 (Ty.int IntKind.u8)).prod Ty.unit)))).tree 68).den) : itvCut_15 (n + 1) h74 h75 h76 h77 h78 h79 h80 h81 h82 h83 h84 h85 h86 h87 h88 h89 h90 h91 h92 = stepvCut_15 h74 h75 h76 h77 h78 h79 h80 h81 h82 h83 h84 h85 h86 h87 h88 h89 h90 h91 h92 (itvCut_15 n) some := by kernel_rfl
theorem loopvCut_6 {f0 : Fd} {fs : List Fd} {ks : List Nd} {v : Int} (ha : spArr f0 = true) (hf : spWts ks < spFuel) (hb : spWts ks ≤ 4294967296) (nm : List Int) (k' lo hi a b : Int) (z : Bool) (x : List Int) (a' b' : Int) (z' : Bool) (x' : List Int) (l' : List Nd) : ∀ (k j : Nat) (o : List Nd) (t : Bool), ks.length < j + k → j ≤ ks.length → o.length ≤ j →
    itvCut_6 k v o t j nm k' lo hi (f0 :: fs) a b z x ks a' b' z' x' l' = some (.ret ((), (((o ++ (spCItems f0 v (ks.drop j)).1), ((t && (spCItems f0 v (ks.drop j)).2), ())), ((a', (b', (z', (x', (l', ()))))), ())))) := by
  intro k
  induction k with
  | zero => intro j o t h1 h2; omega
  | succ k ih =>
    intro j o t h1 h2 h3
    rw [slvCut_6]
    unfold stepvCut_6
    have hlen := spWts_len ks
    by_cases hj : j < ks.length
    · refine (bif_true (decide_eq_true (show (j : Int) < (ks.length : Int) by omega)) _ _).trans ?_
      refine (bif_true (by simp) _ _).trans ?_
      refine (bif_true (by simp; omega) _ _).trans ?_
      have hmem := spWt_mem (List.getElem_mem hj)
      have hd : ks.drop j = ks[j] :: ks.drop (j + 1) := List.drop_eq_getElem_cons hj
      have ih' := fun t' => ih (j + 1) (o ++ [(spCut f0 v ks[j]).1]) t' (by omega) (by omega) (by simp; omega)
      rw [hd, spCItems]
      rw [wrap_i64 (n := (j : Int) + 1) (by omega) (by omega)]
      simp only [Int.toNat_natCast, getD_lt hj]
      generalize ks[j] = u at hmem ih' ⊢
      obtain ⟨ul, uk⟩ := u
      obtain ⟨fl, fk⟩ := f0
      refine (bif_true (show (decide (spWt (Tre.mk ul uk) < spFuel) && (spArr (Tre.mk fl fk) && decide (spWt (Tre.mk ul uk) ≤ 4294967296))) = true by rw [ha]; simp; omega) _ _).trans ?_
      refine (bif_true (decide_eq_true (show o.length + 1 ≤ 4294967296 by omega)) _ _).trans ?_
      have e1 : o ++ [Tre.mk (spCut (Tre.mk fl fk) v (Tre.mk ul uk)).1.1 (spCut (Tre.mk fl fk) v (Tre.mk ul uk)).1.2] = o ++ [(spCut (Tre.mk fl fk) v (Tre.mk ul uk)).1] := by rw [nd_eta]
      cases t with
      | true =>
        show itvCut_6 k v (o ++ [Tre.mk (spCut (Tre.mk fl fk) v (Tre.mk ul uk)).1.1 (spCut (Tre.mk fl fk) v (Tre.mk ul uk)).1.2]) (spCut (Tre.mk fl fk) v (Tre.mk ul uk)).2 _ _ _ _ _ _ _ _ _ _ _ _ _ _ _ _ = _
        rw [e1]
        refine (ih' _).trans ?_; simp
      | false =>
        show itvCut_6 k v (o ++ [Tre.mk (spCut (Tre.mk fl fk) v (Tre.mk ul uk)).1.1 (spCut (Tre.mk fl fk) v (Tre.mk ul uk)).1.2]) false _ _ _ _ _ _ _ _ _ _ _ _ _ _ _ _ = _
        rw [e1]
        refine (ih' false).trans ?_; simp
    · refine (bif_false (decide_eq_false (show ¬ (j : Int) < (ks.length : Int) by omega)) _ _).trans ?_
      rw [List.drop_of_length_le (by omega), spCItems, List.append_nil, Bool.and_true]
theorem loopvCut_15 {fs : List Fd} {ks : List Nd} {v : Int} (ha : spArrs fs = true) (hf : spWts ks < spFuel) (hb : spWts ks ≤ 4294967296) (nm : List Int) (k' lo hi a b : Int) (z : Bool) (x : List Int) (a' b' : Int) (z' : Bool) (x' : List Int) (l' : List Nd) : ∀ (k j : Nat) (o : List Nd) (t : Bool), ks.length < j + k → j ≤ ks.length → o.length ≤ j →
    itvCut_15 k v o t j nm k' lo hi fs a b z x ks a' b' z' x' l' = some (.ret ((), (((o ++ (spCZip v (fs.drop j) (ks.drop j)).1), ((t && (spCZip v (fs.drop j) (ks.drop j)).2), ())), ((a', (b', (z', (x', (l', ()))))), ())))) := by
  intro k
  induction k with
  | zero => intro j o t h1 h2; omega
  | succ k ih =>
    intro j o t h1 h2 h3
    rw [slvCut_15]
    unfold stepvCut_15
    have hlen := spWts_len ks
    by_cases hj' : j < fs.length
    · refine (bif_true (decide_eq_true (show (j : Int) < (fs.length : Int) by omega)) _ _).trans ?_
      by_cases hj : j < ks.length
      · refine (bif_true (decide_eq_true (show (j : Int) < (ks.length : Int) by omega)) _ _).trans ?_
        refine (bif_true (by simp; omega) _ _).trans ?_
        have hmem := spWt_mem (List.getElem_mem hj)
        have har := spArrs_mem ha (List.getElem_mem hj')
        have hd : ks.drop j = ks[j] :: ks.drop (j + 1) := List.drop_eq_getElem_cons hj
        have hd' : fs.drop j = fs[j] :: fs.drop (j + 1) := List.drop_eq_getElem_cons hj'
        have ih1 := fun t' => ih (j + 1) (o ++ [(spCut fs[j] v ks[j]).1]) t' (by omega) (by omega) (by simp; omega)
        have ih2 := fun t' => ih (j + 1) o t' (by omega) (by omega) (by omega)
        rw [hd, hd', spCZip]
        rw [wrap_i64 (n := (j : Int) + 1) (by omega) (by omega)]
        simp only [Int.toNat_natCast, getD_lt hj, getD_lt hj']
        generalize ks[j] = u at hmem ih1 ⊢
        generalize fs[j] = f0 at har ih1 ⊢
        obtain ⟨ul, uk⟩ := u
        obtain ⟨fl, fk⟩ := f0
        by_cases hh : spHas (Tre.mk fl fk) v = true
        · refine (bif_true (show spHas (Tre.mk fl fk) v = true from hh) _ _).trans ?_
          refine (bif_true (by simp; omega) _ _).trans ?_
          refine (bif_true (by simp; omega) _ _).trans ?_
          refine (bif_true (show (decide (spWt (Tre.mk ul uk) < spFuel) && (spArr (Tre.mk fl fk) && decide (spWt (Tre.mk ul uk) ≤ 4294967296))) = true by rw [har]; simp; omega) _ _).trans ?_
          refine (bif_true (decide_eq_true (show o.length + 1 ≤ 4294967296 by omega)) _ _).trans ?_
          rw [if_pos hh]
          show (bif t then itvCut_15 k v (o ++ [Tre.mk (spCut (Tre.mk fl fk) v (Tre.mk ul uk)).1.1 (spCut (Tre.mk fl fk) v (Tre.mk ul uk)).1.2]) (spCut (Tre.mk fl fk) v (Tre.mk ul uk)).2 _ _ _ _ _ _ _ _ _ _ _ _ _ _ _ _ else _) = _
          generalize spCut (Tre.mk fl fk) v (Tre.mk ul uk) = r at ih1 ⊢
          obtain ⟨⟨rl, rk⟩, rb⟩ := r
          cases t with
          | true => refine (ih1 rb).trans ?_; simp
          | false => refine (ih1 false).trans ?_; simp
        · refine (bif_false (show spHas (Tre.mk fl fk) v = false by simpa using hh) _ _).trans ?_
          rw [if_neg hh]
          cases t with
          | true =>
            show (bif decide (0 ≤ (j : Int)) && decide ((j : Int) < (ks.length : Int)) then _ else none) = _
            refine (bif_true (by simp; omega) _ _).trans ?_
            refine (ih2 _).trans ?_
            simp
          | false =>
            refine (ih2 false).trans ?_
            simp
      · refine (bif_false (decide_eq_false (show ¬ (j : Int) < (ks.length : Int) by omega)) _ _).trans ?_
        rw [List.drop_of_length_le (show ks.length ≤ j by omega), List.drop_eq_getElem_cons hj', spCZip, List.append_nil, Bool.and_true]
        simp
    · refine (bif_false (decide_eq_false (show ¬ (j : Int) < (fs.length : Int) by omega)) _ _).trans ?_
      rw [List.drop_of_length_le (show fs.length ≤ j by omega), spCZip, List.append_nil, Bool.and_true]
      simp
def bodyvCut (a0 : Fd) (a1 : Int) (a2 : Nd) : Option iovCut.Res := bif a0.1.snd.fst == 9 then (FvCut_6 ((a1, ([], (true, (0, ())))), ((a0.1.fst, (a0.1.snd.fst, (a0.1.snd.snd.fst, (a0.1.snd.snd.snd.fst, (a0.2, ()))))), ((a2.1.fst, (a2.1.snd.fst, (a2.1.snd.snd.fst, (a2.1.snd.snd.snd.fst, (a2.2, ()))))), ((0, (0, (false, ([], ([], ()))))), ()))))).run fun y => match y with | .ret ((), ((x67, x68, ()), (x69, x70, x71, x72, x73, ()), ())) => (some (Out.ret ((Tre.mk (9, 0, false, [], ()) x67, x68, ()), ()))) else bif a0.1.snd.fst != 10 then some (Out.ret ((Tre.mk a2.1 a2.2, true, ()), ())) else (FvCut_15 ((a1, ([], (true, (0, ())))), ((a0.1.fst, (a0.1.snd.fst, (a0.1.snd.snd.fst, (a0.1.snd.snd.snd.fst, (a0.2, ()))))), ((a2.1.fst, (a2.1.snd.fst, (a2.1.snd.snd.fst, (a2.1.snd.snd.snd.fst, (a2.2, ()))))), ((0, (0, (false, ([], ([], ()))))), ()))))).run fun y => match y with | .ret ((), ((x183, x184, ()), (x185, x186, x187, x188, x189, ()), ())) => (some (Out.ret ((Tre.mk (10, 0, false, [], ()) x183, x184, ()), ())))
theorem runvCut (a0 : Fd) (a1 : Int) (a2 : Nd) : Io.run tt hdvCut dr lpvCut iovCut Go.Proofs.Tryz.f98 ((a0, a1, a2, ()), ()) = bodyvCut a0 a1 a2 := by kernel_rfl
theorem okvCutS (rvCut : HcOk prog 98 (ioHd iovCut (FvCutN spFuel))) : HcOk prog 98 (ioHd iovCut (FvCutN (spFuel + 1))) := by
  refine fn_sound (n := 400) hm (cs := csvCut) (.cons rvCut (.cons oktHere1 (.cons oktZero .nil))) (lp := lpvCut) (fn := Go.Proofs.Tryz.f98) (by kernel_rfl) (by kernel_rfl) (by kernel_rfl) iovCut (.step (h0 := loHd lovCut_6 FvCut_6) (by kernel_rfl) (loop_sound (n := 400) hm (cs := csvCut) (.cons rvCut (.cons oktHere1 (.cons oktZero .nil))) (lp := lpvCut) (fn := Go.Proofs.Tryz.f98) (.done (by kernel_rfl)) lovCut_6 FvCut_6 ?_) (.step (h0 := loHd lovCut_15 FvCut_15) (by kernel_rfl) (loop_sound (n := 400) hm (cs := csvCut) (.cons rvCut (.cons oktHere1 (.cons oktZero .nil))) (lp := lpvCut) (fn := Go.Proofs.Tryz.f98) (.done (by kernel_rfl)) lovCut_15 FvCut_15 ?_) (.done (by kernel_rfl)))) (FvCutN (spFuel + 1)) ?_
  · rintro ⟨⟨(v : Int), (o : List Nd), (t : Bool), (i : Int), ⟨⟩⟩, ⟨⟨(nm : List Int), (k' : Int), (lo : Int), (hi : Int), (fs : List Fd), ⟨⟩⟩, ⟨(a : Int), (b : Int), (z : Bool), (x : List Int), (ks : List Nd), ⟨⟩⟩, ⟨(a' : Int), (b' : Int), (z' : Bool), (x' : List Int), (l' : List Nd), ⟨⟩⟩, ⟨⟩⟩⟩ y hw hy
    obtain ⟨hg, hy⟩ := Tr.guard hy
    simp only [Bool.and_eq_true, decide_eq_true_eq] at hg
    obtain ⟨h1, ⟨h2, h7⟩, ⟨h3, h4⟩, h5, h6⟩ := hg
    have h1 : i = 0 := h1
    have h2 : o = [] := List.eq_nil_of_length_eq_zero h2
    have h7 : t = true := h7
    have h3 : fs.length ≠ 0 := h3
    have h4 : spArrs fs = true := h4
    have h5 : spWts ks < spFuel := h5
    have h6 : spWts ks ≤ 4294967296 := h6
    subst h1
    subst h2
    subst h7
    obtain ⟨f0, fs, rfl⟩ : ∃ f0 fs', fs = f0 :: fs' := by cases fs with | nil => exact absurd rfl h3 | cons a b => exact ⟨a, b, rfl⟩
    refine ⟨ks.length + 1, (loopvCut_6 (spArrs_mem h4 (by simp)) h5 h6 nm k' lo hi a b z x a' b' z' x' l' (ks.length + 1) 0 [] true (by omega) (by omega) (by simp)).trans ?_⟩
    rw [← hy, List.drop_zero]
    rfl
  · rintro ⟨⟨(v : Int), (o : List Nd), (t : Bool), (i : Int), ⟨⟩⟩, ⟨⟨(nm : List Int), (k' : Int), (lo : Int), (hi : Int), (fs : List Fd), ⟨⟩⟩, ⟨(a : Int), (b : Int), (z : Bool), (x : List Int), (ks : List Nd), ⟨⟩⟩, ⟨(a' : Int), (b' : Int), (z' : Bool), (x' : List Int), (l' : List Nd), ⟨⟩⟩, ⟨⟩⟩⟩ y hw hy
    obtain ⟨hg, hy⟩ := Tr.guard hy
    simp only [Bool.and_eq_true, decide_eq_true_eq] at hg
    obtain ⟨h1, ⟨h2, h7⟩, h4, h5, h6⟩ := hg
    have h1 : i = 0 := h1
    have h2 : o = [] := List.eq_nil_of_length_eq_zero h2
    have h7 : t = true := h7
    have h4 : spArrs fs = true := h4
    have h5 : spWts ks < spFuel := h5
    have h6 : spWts ks ≤ 4294967296 := h6
    subst h1
    subst h2
    subst h7
    refine ⟨ks.length + 1, (loopvCut_15 h4 h5 h6 nm k' lo hi a b z x a' b' z' x' l' (ks.length + 1) 0 [] true (by omega) (by omega) (by simp)).trans ?_⟩
    rw [← hy, List.drop_zero, List.drop_zero]
    rfl
  · rintro ⟨⟨(f : Fd), (v : Int), (n : Nd), ⟨⟩⟩, ⟨⟩⟩ out hw ho
    obtain ⟨hg, ho⟩ := Tr.guard ho
    simp only [Bool.and_eq_true, decide_eq_true_eq] at hg
    obtain ⟨hk, ha, hb⟩ := hg
    have hk : spWt n < spFuel + 1 := hk
    have ha : spArr f = true := ha
    have hb : spWt n ≤ 4294967296 := hb
    cases ho
    refine (runvCut f v n).trans ?_
    unfold bodyvCut
    show _ = some (Out.ret (((spCut f v n).1, ((spCut f v n).2, ())), ()))
    obtain ⟨⟨(nm : List Int), (k' : Int), (lo : Int), (hi : Int), ⟨⟩⟩, (fs : List Fd)⟩ := f
    obtain ⟨⟨(a : Int), (b : Int), (z : Bool), (x : List Int), ⟨⟩⟩, (ks : List Nd)⟩ := n
    have hwf := spWt_eq (Tre.mk (a, (b, (z, (x, ())))) ks)
    have hwf : spWt (Tre.mk (a, (b, (z, (x, ())))) ks) = 1 + x.length + spWts ks := hwf
    have hk : 1 + x.length + spWts ks < spFuel + 1 := by rw [← hwf]; exact hk
    have hb : 1 + x.length + spWts ks ≤ 4294967296 := by rw [← hwf]; exact hb
    rw [spArr_eq] at ha
    simp only [Bool.and_eq_true] at ha
    obtain ⟨⟨ha1, ha3⟩, ha2⟩ := ha
    have ha2 : spArrs fs = true := ha2
    rw [spCut]
    by_cases h9 : k' = 9
    · rw [if_pos h9]
      refine (bif_true (by simpa using h9) _ _).trans ?_
      have h0 : fs.length ≠ 0 := by
        rcases Bool.or_eq_true _ _ ▸ ha1 with h | h
        · exact absurd h9 (of_decide_eq_true h)
        · exact of_decide_eq_true h
      obtain ⟨f0, fs, rfl⟩ : ∃ f0 fs', fs = f0 :: fs' := by cases fs with | nil => exact absurd rfl h0 | cons a b => exact ⟨a, b, rfl⟩
      have c1 : (decide ((0 : Int) = 0) && ((decide (([] : List Nd).length = 0) && true) && ((decide ((f0 :: fs).length ≠ 0) && spArrs (f0 :: fs)) && (decide (spWts ks < spFuel) && decide (spWts ks ≤ 4294967296))))) = true := by
        rw [ha2]; simp; omega
      exact bif_true c1 _ _
    rw [if_neg h9]
    refine (bif_false (by simpa using h9) _ _).trans ?_
    by_cases h10 : k' = 10
    · rw [if_pos h10]
      refine (bif_false (by simpa using h10) _ _).trans ?_
      have c1 : (decide ((0 : Int) = 0) && ((decide (([] : List Nd).length = 0) && true) && (spArrs fs && (decide (spWts ks < spFuel) && decide (spWts ks ≤ 4294967296))))) = true := by
        rw [ha2]; simp; omega
      exact bif_true c1 _ _
    · rw [if_neg h10]
      exact bif_true (by simpa using h10) _ _
end
theorem okvCutN (n : Nat) : HcOk prog 98 (ioHd iovCut (FvCutN n)) := by
  induction n with
  | zero => exact HcOk.none (fn := Go.Proofs.Tryz.f98) (by kernel_rfl) (by kernel_rfl) (by kernel_rfl) _ _ fun d out h => by cases h
  | succ n ih =>
    have := @okvCutS ⟨⟨n⟩⟩ (by rw [FuT.val]; exact ih)
    rw [FuT.val] at this
    exact this
theorem okvCut : HcOk prog 98 (ioHd iovCut FvCut) := by
  refine HcOk.lim okvCutN fun d => ⟨spWt d.1.2.2.1 + 1, fun out h => ?_⟩
  obtain ⟨hg, h⟩ := Tr.guard h
  exact (bif_true (by rw [hg]; simp) _ _).trans h
section
variable [Inhabited FuT]
abbrev lovFill_5 : Lo := ⟨⟨[.any, .one (.hol (.int IntKind.i64)), .any, .one (.ptr 3 0), .any, .one (.ptr 5 0), .one (.ptr 6 0), .one (.onl 68 (((Ty.int IntKind.i64).prod ((Ty.int IntKind.i64).prod (Ty.bool.prod ((Ty.sl 5 (Ty.int IntKind.u8)).prod Ty.unit)))).tree 68) 15), .one (.hol (.int IntKind.i64)), .any, .any, .any, .any, .any, .any, .any, .any, .any, .any, .any, .any, .any, .any, .any, .any, .any, .any, .any, .any, .any, .any, .any, .any, .any, .any, .any, .any, .any, .any, .any, .any, .any, .any, .any, .any, .any, .any, .any, .any, .any, .any, .any, .any, .any, .any, .any, .any, .any, .any, .any, .any, .any, .any, .any, .any, .any, .any, .any, .any, .any, .any, .any, .any, .any, .any, .any, .any, .any, .any, .any, .any, .any, .any, .any, .any, .any, .any, .any, .any, .any, .any, .any], [none, none, none, some [.hol .str, .hol (.int IntKind.i64), .hol (.int IntKind.i64), .hol (.int IntKind.i64), .hol (.sl 159 tFld)], none, some [.hol (.int IntKind.i64), .hol (.int IntKind.i64), .hol .bool, .hol (.sl 5 (Ty.int IntKind.u8)), .hol (.sl 68 (((Ty.int IntKind.i64).prod ((Ty.int IntKind.i64).prod (Ty.bool.prod ((Ty.sl 5 (Ty.int IntKind.u8)).prod Ty.unit)))).tree 68))], some [.hol (.int IntKind.i64), .hol (.int IntKind.i64), .hol .bool, .onl 5 (Ty.int IntKind.u8) 3080, .onl 68 (((Ty.int IntKind.i64).prod ((Ty.int IntKind.i64).prod (Ty.bool.prod ((Ty.sl 5 (Ty.int IntKind.u8)).prod Ty.unit)))).tree 68) 3082]]⟩, [(.exit 0, ⟨[.any, .any, .any, .any, .any, .any, .one (.ptr 6 0), .one (.onl 68 (((Ty.int IntKind.i64).prod ((Ty.int IntKind.i64).prod (Ty.bool.prod ((Ty.sl 5 (Ty.int IntKind.u8)).prod Ty.unit)))).tree 68) 15), .any, .any, .any, .any, .any, .any, .any, .any, .any, .any, .any, .any, .any, .any, .any, .any, .any, .any, .any, .any, .any, .any, .any, .any, .any, .any, .any, .any, .any, .any, .any, .any, .any, .any, .any, .any, .any, .any, .any, .any, .any, .any, .any, .any, .any, .any, .any, .any, .any, .any, .any, .any, .any, .any, .any, .any, .any, .any, .any, .any, .any, .any, .any, .any, .any, .any, .any, .any, .any, .any, .any, .any, .any, .any, .any, .any, .any, .any, .any, .any, .any, .any, .any, .any], [none, none, none, none, none, none, some [.hol (.int IntKind.i64), .hol (.int IntKind.i64), .hol .bool, .onl 5 (Ty.int IntKind.u8) 3080, .onl 68 (((Ty.int IntKind.i64).prod ((Ty.int IntKind.i64).prod (Ty.bool.prod ((Ty.sl 5 (Ty.int IntKind.u8)).prod Ty.unit)))).tree 68) 3082]]⟩)]⟩
-- FvFill_5 : lovFill_5.st.den → Tr (DenX lovFill_5.xs) | ((h3, (h4, (h5, ()))), ((h6, (h7, (h8, (h9, (h10, ()))))), ((h11, (h12, (h13, (h14, (h15, ()))))), ((h16, (h17, (h18, (h19, (h20, ()))))), ()))))
abbrev lovFill_13 : Lo := ⟨⟨[.any, .one (.hol (.int IntKind.i64)), .any, .one (.ptr 3 0), .any, .one (.ptr 5 0), .one (.ptr 6 0), .one (.onl 68 (((Ty.int IntKind.i64).prod ((Ty.int IntKind.i64).prod (Ty.bool.prod ((Ty.sl 5 (Ty.int IntKind.u8)).prod Ty.unit)))).tree 68) 15), .any, .one (.hol (.int IntKind.i64)), .one (.hol (.int IntKind.i64)), .any, .any, .any, .any, .any, .any, .any, .any, .any, .any, .any, .any, .any, .any, .any, .any, .any, .any, .any, .any, .any, .any, .any, .any, .any, .any, .any, .any, .any, .any, .any, .any, .any, .any, .any, .any, .any, .any, .any, .any, .any, .any, .any, .any, .any, .any, .any, .any, .any, .any, .any, .any, .any, .any, .any, .any, .any, .any, .any, .any, .any, .any, .any, .any, .any, .any, .any, .any, .any, .any, .any, .any, .any, .any, .any, .any, .any, .any, .any, .any, .any], [none, none, none, some [.hol .str, .hol (.int IntKind.i64), .hol (.int IntKind.i64), .hol (.int IntKind.i64), .hol (.sl 159 tFld)], none, some [.hol (.int IntKind.i64), .hol (.int IntKind.i64), .hol .bool, .hol (.sl 5 (Ty.int IntKind.u8)), .hol (.sl 68 (((Ty.int IntKind.i64).prod ((Ty.int IntKind.i64).prod (Ty.bool.prod ((Ty.sl 5 (Ty.int IntKind.u8)).prod Ty.unit)))).tree 68))], some [.hol (.int IntKind.i64), .hol (.int IntKind.i64), .hol .bool, .onl 5 (Ty.int IntKind.u8) 3080, .onl 68 (((Ty.int IntKind.i64).prod ((Ty.int IntKind.i64).prod (Ty.bool.prod ((Ty.sl 5 (Ty.int IntKind.u8)).prod Ty.unit)))).tree 68) 3082]]⟩, [(.exit 2, ⟨[.any, .any, .any, .any, .any, .any, .one (.ptr 6 0), .one (.onl 68 (((Ty.int IntKind.i64).prod ((Ty.int IntKind.i64).prod (Ty.bool.prod ((Ty.sl 5 (Ty.int IntKind.u8)).prod Ty.unit)))).tree 68) 15), .any, .any, .any, .any, .any, .any, .any, .any, .any, .any, .any, .any, .any, .any, .any, .any, .any, .any, .any, .any, .any, .any, .any, .any, .any, .any, .any, .any, .any, .any, .any, .any, .any, .any, .any, .any, .any, .any, .any, .any, .any, .any, .any, .any, .any, .any, .any, .any, .any, .any, .any, .any, .any, .any, .any, .any, .any, .any, .any, .any, .any, .any, .any, .any, .any, .any, .any, .any, .any, .any, .any, .any, .any, .any, .any, .any, .any, .any, .any, .any, .any, .any, .any, .any], [none, none, none, none, none, none, some [.hol (.int IntKind.i64), .hol (.int IntKind.i64), .hol .bool, .onl 5 (Ty.int IntKind.u8) 3080, .onl 68 (((Ty.int IntKind.i64).prod ((Ty.int IntKind.i64).prod (Ty.bool.prod ((Ty.sl 5 (Ty.int IntKind.u8)).prod Ty.unit)))).tree 68) 3082]]⟩)]⟩
-- FvFill_13 : lovFill_13.st.den → Tr (DenX lovFill_13.xs) | ((h51, (h52, (h53, (h54, ())))), ((h55, (h56, (h57, (h58, (h59, ()))))), ((h60, (h61, (h62, (h63, (h64, ()))))), ((h65, (h66, (h67, (h68, (h69, ()))))), ()))))
def FvFill_5 (d : lovFill_5.st.den) : Tr (DenX lovFill_5.xs) :=
  .ite (decide (d.1.2.2.1 = 0) && (decide (d.1.2.1.length = 0) && ((decide (d.2.1.2.2.2.2.1.length ≠ 0) && spArrs d.2.1.2.2.2.2.1) && (decide (spWts d.2.2.1.2.2.2.2.1 < spFuel) && decide (spWts d.2.2.1.2.2.2.2.1 ≤ 4294967296)))))
    (.ret (.ret ((), ((spFItems (d.2.1.2.2.2.2.1.headD (.mk ([], (0, (0, (0, ())))) [])) d.1.1 d.2.2.1.2.2.2.2.1, ()), (d.2.2.2.1, ()))))) .no
def FvFill_13 (d : lovFill_13.st.den) : Tr (DenX lovFill_13.xs) :=
  .ite ((decide (d.1.2.2.1 = 0) && decide (d.1.2.2.2.1 = 0)) && (decide (d.1.2.1.length = 0) && ((decide (d.2.1.2.2.2.2.1.length ≤ 16) && spArrs d.2.1.2.2.2.2.1) && (decide (spWts d.2.2.1.2.2.2.2.1 < spFuel) && decide (spWts d.2.2.1.2.2.2.2.1 ≤ 4294967296)))))
    (.ret (.ret ((), ((spFZip d.1.1 d.2.1.2.2.2.2.1 d.2.2.1.2.2.2.2.1, ()), (d.2.2.2.1, ()))))) .no
end
end
end Go.Proofs.YtmlgepgcofmpeaaGreat.Sym
namespace Go.Proofs.YtmlgepgcofmpeaaGreat.Sym
open Go
set_option linter.unusedSimpArgs false
set_option linter.unusedVariables false
noncomputable section
abbrev iotbOne : Io := ⟨[dS, dI, dI, dI], [], [], [dFld], none⟩
def FtbOne (d : iotbOne.In) : Tr iotbOne.Res := .ret (.ret ((.mk (d.1.1, (d.1.2.1, (d.1.2.2.1, (d.1.2.2.2.1, ())))) [], ()), ()))
abbrev cstbOne : List (Nat × Hc) := []
def hdtbOne : Hd := hdT cstbOne
def lptbOne : Lp := lpT []
def bodytbOne (a0 : List Int) (a1 : Int) (a2 : Int) (a3 : Int) : Option iotbOne.Res := some (Out.ret ((Tre.mk (a0, a1, a2, a3, ()) [], ()), ()))
theorem runtbOne (a0 : List Int) (a1 : Int) (a2 : Int) (a3 : Int) : Io.run tt hdtbOne dr lptbOne iotbOne Go.Proofs.Tryz.f125 ((a0, a1, a2, a3, ()), ()) = bodytbOne a0 a1 a2 a3 := by kernel_rfl
theorem oktbOne : HcOk prog 125 (ioHd iotbOne FtbOne) := by
  refine fn_sound (n := 400) hm (cs := cstbOne) HcsOk.nil (lp := lptbOne) (fn := Go.Proofs.Tryz.f125) (by kernel_rfl) (by kernel_rfl) (by kernel_rfl) iotbOne (.done (by kernel_rfl)) FtbOne ?_
  rintro ⟨⟨(a : List Int), (b : Int), (c : Int), (e : Int), ⟨⟩⟩, ⟨⟩⟩ out hw ho
  cases ho
  exact runtbOne a b c e
abbrev iotbTopics : Io := ⟨[dFlds], [], [], [dFld], none⟩
abbrev fld (s : List Int) (k lo hi : Int) (e : List Fd) : Fd := Tre.mk (s, (k, (lo, (hi, ())))) e
def spTopics (part : List Fd) : Fd := fld [116, 111, 112, 105, 99, 115] 9 0 3 [fld [116, 111, 112, 105, 99] 10 0 3 [fld [110, 97, 109, 101] 5 0 3 [], fld [112, 97, 114, 116, 115] 9 0 3 [fld [112, 97, 114, 116] 10 0 3 part]]]
def FtbTopics (d : iotbTopics.In) : Tr iotbTopics.Res := .ret (.ret ((spTopics d.1.1, ()), ()))
abbrev cstbTopics : List (Nat × Hc) := [(125, ioHd iotbOne FtbOne)]
def hdtbTopics : Hd := hdT cstbTopics
def lptbTopics : Lp := lpT []
def bodytbTopics (a0 : List tFld.den) : Option iotbTopics.Res := some (Out.ret ((Tre.mk ([116, 111, 112, 105, 99, 115], 9, 0, 3, ()) [Tre.mk ([116, 111, 112, 105, 99], 10, 0, 3, ()) [Tre.mk ([110, 97, 109, 101], 5, 0, 3, ()) [], Tre.mk ([112, 97, 114, 116, 115], 9, 0, 3, ()) [Tre.mk ([112, 97, 114, 116], 10, 0, 3, ()) a0]]], ()), ()))
theorem runtbTopics (a0 : List tFld.den) : Io.run tt hdtbTopics dr lptbTopics iotbTopics Go.Proofs.Tryz.f126 ((a0, ()), ()) = bodytbTopics a0 := by kernel_rfl
theorem oktbTopics : HcOk prog 126 (ioHd iotbTopics FtbTopics) := by
  refine fn_sound (n := 400) hm (cs := cstbTopics) (.cons oktbOne .nil) (lp := lptbTopics) (fn := Go.Proofs.Tryz.f126) (by kernel_rfl) (by kernel_rfl) (by kernel_rfl) iotbTopics (.done (by kernel_rfl)) FtbTopics ?_
  rintro ⟨⟨(a : List Fd), ⟨⟩⟩, ⟨⟩⟩ out hw ho
  cases ho
  exact runtbTopics a
abbrev iotbTable : Io := ⟨[d16, dB], [], [], [dFlds, dI], none⟩
def spT0q : List Fd := [fld [116, 120, 110] 6 3 3 [], fld [97, 99, 107, 115] 2 0 3 [], fld [119, 97, 105, 116] 3 0 3 [], spTopics [fld [105, 110, 100, 101, 120] 3 0 3 [], fld [114, 101, 99, 115] 8 0 3 []]]
def spT0p : List Fd := [spTopics [fld [105, 110, 100, 101, 120] 3 0 3 [], fld [99, 111, 100, 101] 2 0 3 [], fld [98, 97, 115, 101] 4 0 3 [], fld [116, 105, 109, 101] 4 2 3 [], fld [115, 116, 97, 114, 116] 4 3 3 []], fld [116, 104, 114, 111, 116, 116, 108, 101] 3 1 3 []]
def spT1q : List Fd := [fld [114, 101, 112, 108, 105, 99, 97] 3 0 3 [], fld [119, 97, 105, 116] 3 0 3 [], fld [109, 105, 110] 3 0 3 [], fld [109, 97, 120] 3 1 3 [], fld [108, 101, 118, 101, 108] 1 2 3 [], spTopics [fld [105, 110, 100, 101, 120] 3 0 3 [], fld [101, 112, 111, 99, 104] 3 3 3 [], fld [111, 102, 102, 115, 101, 116] 4 0 3 [], fld [109, 97, 120] 3 0 3 []]]
def spT1p : List Fd := [fld [116, 104, 114, 111, 116, 116, 108, 101] 3 1 3 [], spTopics [fld [105, 110, 100, 101, 120] 3 0 3 [], fld [99, 111, 100, 101] 2 0 3 [], fld [104, 105, 103, 104] 4 0 3 [], fld [115, 116, 97, 98, 108, 101] 4 2 3 [], fld [115, 116, 97, 114, 116] 4 3 3 [], fld [114, 101, 99, 115] 8 0 3 []]]
def spT2q : List Fd := [fld [114, 101, 112, 108, 105, 99, 97] 3 0 3 [], fld [108, 101, 118, 101, 108] 1 2 3 [], spTopics [fld [105, 110, 100, 101, 120] 3 0 3 [], fld [101, 112, 111, 99, 104] 3 3 3 [], fld [116, 105, 109, 101] 4 0 3 [], fld [109, 111, 115, 116] 3 0 0 []]]
def spT2p : List Fd := [fld [116, 104, 114, 111, 116, 116, 108, 101] 3 2 3 [], spTopics [fld [105, 110, 100, 101, 120] 3 0 3 [], fld [99, 111, 100, 101] 2 0 3 [], fld [111, 102, 102, 115, 101, 116, 115] 9 0 0 [fld [111, 102, 102, 115, 101, 116] 4 0 0 []], fld [116, 105, 109, 101] 4 1 3 [], fld [111, 102, 102, 115, 101, 116] 4 1 3 [], fld [101, 112, 111, 99, 104] 3 3 3 []]]
def spTab (k : Int) (r : Bool) : List Fd × Int :=
  if k = 0 then (if r = false then (spT0q, 0) else (spT0p, 0)) else if k = 1 then (if r = false then (spT1q, 0) else (spT1p, 0)) else if k = 2 then (if r = false then (spT2q, 0) else (spT2p, 0)) else ([], 160)
def FtbTable (d : iotbTable.In) : Tr iotbTable.Res := .ret (.ret (((spTab d.1.1 d.1.2.1).1, ((spTab d.1.1 d.1.2.1).2, ())), ()))
abbrev cstbTable : List (Nat × Hc) := [(125, ioHd iotbOne FtbOne), (126, ioHd iotbTopics FtbTopics)]
def hdtbTable : Hd := hdT cstbTable
def lptbTable : Lp := lpT []
def bodytbTable (a0 : Int) (a1 : Bool) : Option iotbTable.Res := bif a0 == 0 then bif !a1 then some (Out.ret (([Tre.mk ([116, 120, 110], 6, 3, 3, ()) [], Tre.mk ([97, 99, 107, 115], 2, 0, 3, ()) [], Tre.mk ([119, 97, 105, 116], 3, 0, 3, ()) [], Tre.mk ([116, 111, 112, 105, 99, 115], 9, 0, 3, ()) [Tre.mk ([116, 111, 112, 105, 99], 10, 0, 3, ()) [Tre.mk ([110, 97, 109, 101], 5, 0, 3, ()) [], Tre.mk ([112, 97, 114, 116, 115], 9, 0, 3, ()) [Tre.mk ([112, 97, 114, 116], 10, 0, 3, ()) [Tre.mk ([105, 110, 100, 101, 120], 3, 0, 3, ()) [], Tre.mk ([114, 101, 99, 115], 8, 0, 3, ()) []]]]]], 0, ()), ())) else bif a0 == 0 then some (Out.ret (([Tre.mk ([116, 111, 112, 105, 99, 115], 9, 0, 3, ()) [Tre.mk ([116, 111, 112, 105, 99], 10, 0, 3, ()) [Tre.mk ([110, 97, 109, 101], 5, 0, 3, ()) [], Tre.mk ([112, 97, 114, 116, 115], 9, 0, 3, ()) [Tre.mk ([112, 97, 114, 116], 10, 0, 3, ()) [Tre.mk ([105, 110, 100, 101, 120], 3, 0, 3, ()) [], Tre.mk ([99, 111, 100, 101], 2, 0, 3, ()) [], Tre.mk ([98, 97, 115, 101], 4, 0, 3, ()) [], Tre.mk ([116, 105, 109, 101], 4, 2, 3, ()) [], Tre.mk ([115, 116, 97, 114, 116], 4, 3, 3, ()) []]]]], Tre.mk ([116, 104, 114, 111, 116, 116, 108, 101], 3, 1, 3, ()) []], 0, ()), ())) else bif a0 == 1 then bif !a1 then some (Out.ret (([Tre.mk ([114, 101, 112, 108, 105, 99, 97], 3, 0, 3, ()) [], Tre.mk ([119, 97, 105, 116], 3, 0, 3, ()) [], Tre.mk ([109, 105, 110], 3, 0, 3, ()) [], Tre.mk ([109, 97, 120], 3, 1, 3, ()) [], Tre.mk ([108, 101, 118, 101, 108], 1, 2, 3, ()) [], Tre.mk ([116, 111, 112, 105, 99, 115], 9, 0, 3, ()) [Tre.mk ([116, 111, 112, 105, 99], 10, 0, 3, ()) [Tre.mk ([110, 97, 109, 101], 5, 0, 3, ()) [], Tre.mk ([112, 97, 114, 116, 115], 9, 0, 3, ()) [Tre.mk ([112, 97, 114, 116], 10, 0, 3, ()) [Tre.mk ([105, 110, 100, 101, 120], 3, 0, 3, ()) [], Tre.mk ([101, 112, 111, 99, 104], 3, 3, 3, ()) [], Tre.mk ([111, 102, 102, 115, 101, 116], 4, 0, 3, ()) [], Tre.mk ([109, 97, 120], 3, 0, 3, ()) []]]]]], 0, ()), ())) else bif a0 == 1 then some (Out.ret (([Tre.mk ([116, 104, 114, 111, 116, 116, 108, 101], 3, 1, 3, ()) [], Tre.mk ([116, 111, 112, 105, 99, 115], 9, 0, 3, ()) [Tre.mk ([116, 111, 112, 105, 99], 10, 0, 3, ()) [Tre.mk ([110, 97, 109, 101], 5, 0, 3, ()) [], Tre.mk ([112, 97, 114, 116, 115], 9, 0, 3, ()) [Tre.mk ([112, 97, 114, 116], 10, 0, 3, ()) [Tre.mk ([105, 110, 100, 101, 120], 3, 0, 3, ()) [], Tre.mk ([99, 111, 100, 101], 2, 0, 3, ()) [], Tre.mk ([104, 105, 103, 104], 4, 0, 3, ()) [], Tre.mk ([115, 116, 97, 98, 108, 101], 4, 2, 3, ()) [], Tre.mk ([115, 116, 97, 114, 116], 4, 3, 3, ()) [], Tre.mk ([114, 101, 99, 115], 8, 0, 3, ()) []]]]]], 0, ()), ())) else bif a0 == 2 then bif !a1 then some (Out.ret (([Tre.mk ([114, 101, 112, 108, 105, 99, 97], 3, 0, 3, ()) [], Tre.mk ([108, 101, 118, 101, 108], 1, 2, 3, ()) [], Tre.mk ([116, 111, 112, 105, 99, 115], 9, 0, 3, ()) [Tre.mk ([116, 111, 112, 105, 99], 10, 0, 3, ()) [Tre.mk ([110, 97, 109, 101], 5, 0, 3, ()) [], Tre.mk ([112, 97, 114, 116, 115], 9, 0, 3, ()) [Tre.mk ([112, 97, 114, 116], 10, 0, 3, ()) [Tre.mk ([105, 110, 100, 101, 120], 3, 0, 3, ()) [], Tre.mk ([101, 112, 111, 99, 104], 3, 3, 3, ()) [], Tre.mk ([116, 105, 109, 101], 4, 0, 3, ()) [], Tre.mk ([109, 111, 115, 116], 3, 0, 0, ()) []]]]]], 0, ()), ())) else bif a0 == 2 then some (Out.ret (([Tre.mk ([116, 104, 114, 111, 116, 116, 108, 101], 3, 2, 3, ()) [], Tre.mk ([116, 111, 112, 105, 99, 115], 9, 0, 3, ()) [Tre.mk ([116, 111, 112, 105, 99], 10, 0, 3, ()) [Tre.mk ([110, 97, 109, 101], 5, 0, 3, ()) [], Tre.mk ([112, 97, 114, 116, 115], 9, 0, 3, ()) [Tre.mk ([112, 97, 114, 116], 10, 0, 3, ()) [Tre.mk ([105, 110, 100, 101, 120], 3, 0, 3, ()) [], Tre.mk ([99, 111, 100, 101], 2, 0, 3, ()) [], Tre.mk ([111, 102, 102, 115, 101, 116, 115], 9, 0, 0, ()) [Tre.mk ([111, 102, 102, 115, 101, 116], 4, 0, 0, ()) []], Tre.mk ([116, 105, 109, 101], 4, 1, 3, ()) [], Tre.mk ([111, 102, 102, 115, 101, 116], 4, 1, 3, ()) [], Tre.mk ([101, 112, 111, 99, 104], 3, 3, 3, ()) []]]]]], 0, ()), ())) else some (Out.ret (([], 160, ()), ())) else bif a0 == 2 then some (Out.ret (([Tre.mk ([116, 104, 114, 111, 116, 116, 108, 101], 3, 2, 3, ()) [], Tre.mk ([116, 111, 112, 105, 99, 115], 9, 0, 3, ()) [Tre.mk ([116, 111, 112, 105, 99], 10, 0, 3, ()) [Tre.mk ([110, 97, 109, 101], 5, 0, 3, ()) [], Tre.mk ([112, 97, 114, 116, 115], 9, 0, 3, ()) [Tre.mk ([112, 97, 114, 116], 10, 0, 3, ()) [Tre.mk ([105, 110, 100, 101, 120], 3, 0, 3, ()) [], Tre.mk ([99, 111, 100, 101], 2, 0, 3, ()) [], Tre.mk ([111, 102, 102, 115, 101, 116, 115], 9, 0, 0, ()) [Tre.mk ([111, 102, 102, 115, 101, 116], 4, 0, 0, ()) []], Tre.mk ([116, 105, 109, 101], 4, 1, 3, ()) [], Tre.mk ([111, 102, 102, 115, 101, 116], 4, 1, 3, ()) [], Tre.mk ([101, 112, 111, 99, 104], 3, 3, 3, ()) []]]]]], 0, ()), ())) else some (Out.ret (([], 160, ()), ())) else bif a0 == 1 then some (Out.ret (([Tre.mk ([116, 104, 114, 111, 116, 116, 108, 101], 3, 1, 3, ()) [], Tre.mk ([116, 111, 112, 105, 99, 115], 9, 0, 3, ()) [Tre.mk ([116, 111, 112, 105, 99], 10, 0, 3, ()) [Tre.mk ([110, 97, 109, 101], 5, 0, 3, ()) [], Tre.mk ([112, 97, 114, 116, 115], 9, 0, 3, ()) [Tre.mk ([112, 97, 114, 116], 10, 0, 3, ()) [Tre.mk ([105, 110, 100, 101, 120], 3, 0, 3, ()) [], Tre.mk ([99, 111, 100, 101], 2, 0, 3, ()) [], Tre.mk ([104, 105, 103, 104], 4, 0, 3, ()) [], Tre.mk ([115, 116, 97, 98, 108, 101], 4, 2, 3, ()) [], Tre.mk ([115, 116, 97, 114, 116], 4, 3, 3, ()) [], Tre.mk ([114, 101, 99, 115], 8, 0, 3, ()) []]]]]], 0, ()), ())) else bif a0 == 2 then bif !a1 then some (Out.ret (([Tre.mk ([114, 101, 112, 108, 105, 99, 97], 3, 0, 3, ()) [], Tre.mk ([108, 101, 118, 101, 108], 1, 2, 3, ()) [], Tre.mk ([116, 111, 112, 105, 99, 115], 9, 0, 3, ()) [Tre.mk ([116, 111, 112, 105, 99], 10, 0, 3, ()) [Tre.mk ([110, 97, 109, 101], 5, 0, 3, ()) [], Tre.mk ([112, 97, 114, 116, 115], 9, 0, 3, ()) [Tre.mk ([112, 97, 114, 116], 10, 0, 3, ()) [Tre.mk ([105, 110, 100, 101, 120], 3, 0, 3, ()) [], Tre.mk ([101, 112, 111, 99, 104], 3, 3, 3, ()) [], Tre.mk ([116, 105, 109, 101], 4, 0, 3, ()) [], Tre.mk ([109, 111, 115, 116], 3, 0, 0, ()) []]]]]], 0, ()), ())) else bif a0 == 2 then some (Out.ret (([Tre.mk ([116, 104, 114, 111, 116, 116, 108, 101], 3, 2, 3, ()) [], Tre.mk ([116, 111, 112, 105, 99, 115], 9, 0, 3, ()) [Tre.mk ([116, 111, 112, 105, 99], 10, 0, 3, ()) [Tre.mk ([110, 97, 109, 101], 5, 0, 3, ()) [], Tre.mk ([112, 97, 114, 116, 115], 9, 0, 3, ()) [Tre.mk ([112, 97, 114, 116], 10, 0, 3, ()) [Tre.mk ([105, 110, 100, 101, 120], 3, 0, 3, ()) [], Tre.mk ([99, 111, 100, 101], 2, 0, 3, ()) [], Tre.mk ([111, 102, 102, 115, 101, 116, 115], 9, 0, 0, ()) [Tre.mk ([111, 102, 102, 115, 101, 116], 4, 0, 0, ()) []], Tre.mk ([116, 105, 109, 101], 4, 1, 3, ()) [], Tre.mk ([111, 102, 102, 115, 101, 116], 4, 1, 3, ()) [], Tre.mk ([101, 112, 111, 99, 104], 3, 3, 3, ()) []]]]]], 0, ()), ())) else some (Out.ret (([], 160, ()), ())) else bif a0 == 2 then some (Out.ret (([Tre.mk ([116, 104, 114, 111, 116, 116, 108, 101], 3, 2, 3, ()) [], Tre.mk ([116, 111, 112, 105, 99, 115], 9, 0, 3, ()) [Tre.mk ([116, 111, 112, 105, 99], 10, 0, 3, ()) [Tre.mk ([110, 97, 109, 101], 5, 0, 3, ()) [], Tre.mk ([112, 97, 114, 116, 115], 9, 0, 3, ()) [Tre.mk ([112, 97, 114, 116], 10, 0, 3, ()) [Tre.mk ([105, 110, 100, 101, 120], 3, 0, 3, ()) [], Tre.mk ([99, 111, 100, 101], 2, 0, 3, ()) [], Tre.mk ([111, 102, 102, 115, 101, 116, 115], 9, 0, 0, ()) [Tre.mk ([111, 102, 102, 115, 101, 116], 4, 0, 0, ()) []], Tre.mk ([116, 105, 109, 101], 4, 1, 3, ()) [], Tre.mk ([111, 102, 102, 115, 101, 116], 4, 1, 3, ()) [], Tre.mk ([101, 112, 111, 99, 104], 3, 3, 3, ()) []]]]]], 0, ()), ())) else some (Out.ret (([], 160, ()), ())) else bif a0 == 0 then some (Out.ret (([Tre.mk ([116, 111, 112, 105, 99, 115], 9, 0, 3, ()) [Tre.mk ([116, 111, 112, 105, 99], 10, 0, 3, ()) [Tre.mk ([110, 97, 109, 101], 5, 0, 3, ()) [], Tre.mk ([112, 97, 114, 116, 115], 9, 0, 3, ()) [Tre.mk ([112, 97, 114, 116], 10, 0, 3, ()) [Tre.mk ([105, 110, 100, 101, 120], 3, 0, 3, ()) [], Tre.mk ([99, 111, 100, 101], 2, 0, 3, ()) [], Tre.mk ([98, 97, 115, 101], 4, 0, 3, ()) [], Tre.mk ([116, 105, 109, 101], 4, 2, 3, ()) [], Tre.mk ([115, 116, 97, 114, 116], 4, 3, 3, ()) []]]]], Tre.mk ([116, 104, 114, 111, 116, 116, 108, 101], 3, 1, 3, ()) []], 0, ()), ())) else bif a0 == 1 then bif !a1 then some (Out.ret (([Tre.mk ([114, 101, 112, 108, 105, 99, 97], 3, 0, 3, ()) [], Tre.mk ([119, 97, 105, 116], 3, 0, 3, ()) [], Tre.mk ([109, 105, 110], 3, 0, 3, ()) [], Tre.mk ([109, 97, 120], 3, 1, 3, ()) [], Tre.mk ([108, 101, 118, 101, 108], 1, 2, 3, ()) [], Tre.mk ([116, 111, 112, 105, 99, 115], 9, 0, 3, ()) [Tre.mk ([116, 111, 112, 105, 99], 10, 0, 3, ()) [Tre.mk ([110, 97, 109, 101], 5, 0, 3, ()) [], Tre.mk ([112, 97, 114, 116, 115], 9, 0, 3, ()) [Tre.mk ([112, 97, 114, 116], 10, 0, 3, ()) [Tre.mk ([105, 110, 100, 101, 120], 3, 0, 3, ()) [], Tre.mk ([101, 112, 111, 99, 104], 3, 3, 3, ()) [], Tre.mk ([111, 102, 102, 115, 101, 116], 4, 0, 3, ()) [], Tre.mk ([109, 97, 120], 3, 0, 3, ()) []]]]]], 0, ()), ())) else bif a0 == 1 then some (Out.ret (([Tre.mk ([116, 104, 114, 111, 116, 116, 108, 101], 3, 1, 3, ()) [], Tre.mk ([116, 111, 112, 105, 99, 115], 9, 0, 3, ()) [Tre.mk ([116, 111, 112, 105, 99], 10, 0, 3, ()) [Tre.mk ([110, 97, 109, 101], 5, 0, 3, ()) [], Tre.mk ([112, 97, 114, 116, 115], 9, 0, 3, ()) [Tre.mk ([112, 97, 114, 116], 10, 0, 3, ()) [Tre.mk ([105, 110, 100, 101, 120], 3, 0, 3, ()) [], Tre.mk ([99, 111, 100, 101], 2, 0, 3, ()) [], Tre.mk ([104, 105, 103, 104], 4, 0, 3, ()) [], Tre.mk ([115, 116, 97, 98, 108, 101], 4, 2, 3, ()) [], Tre.mk ([115, 116, 97, 114, 116], 4, 3, 3, ()) [], Tre.mk ([114, 101, 99, 115], 8, 0, 3, ()) []]]]]], 0, ()), ())) else bif a0 == 2 then bif !a1 then some (Out.ret (([Tre.mk ([114, 101, 112, 108, 105, 99, 97], 3, 0, 3, ()) [], Tre.mk ([108, 101, 118, 101, 108], 1, 2, 3, ()) [], Tre.mk ([116, 111, 112, 105, 99, 115], 9, 0, 3, ()) [Tre.mk ([116, 111, 112, 105, 99], 10, 0, 3, ()) [Tre.mk ([110, 97, 109, 101], 5, 0, 3, ()) [], Tre.mk ([112, 97, 114, 116, 115], 9, 0, 3, ()) [Tre.mk ([112, 97, 114, 116], 10, 0, 3, ()) [Tre.mk ([105, 110, 100, 101, 120], 3, 0, 3, ()) [], Tre.mk ([101, 112, 111, 99, 104], 3, 3, 3, ()) [], Tre.mk ([116, 105, 109, 101], 4, 0, 3, ()) [], Tre.mk ([109, 111, 115, 116], 3, 0, 0, ()) []]]]]], 0, ()), ())) else bif a0 == 2 then some (Out.ret (([Tre.mk ([116, 104, 114, 111, 116, 116, 108, 101], 3, 2, 3, ()) [], Tre.mk ([116, 111, 112, 105, 99, 115], 9, 0, 3, ()) [Tre.mk ([116, 111, 112, 105, 99], 10, 0, 3, ()) [Tre.mk ([110, 97, 109, 101], 5, 0, 3, ()) [], Tre.mk ([112, 97, 114, 116, 115], 9, 0, 3, ()) [Tre.mk ([112, 97, 114, 116], 10, 0, 3, ()) [Tre.mk ([105, 110, 100, 101, 120], 3, 0, 3, ()) [], Tre.mk ([99, 111, 100, 101], 2, 0, 3, ()) [], Tre.mk ([111, 102, 102, 115, 101, 116, 115], 9, 0, 0, ()) [Tre.mk ([111, 102, 102, 115, 101, 116], 4, 0, 0, ()) []], Tre.mk ([116, 105, 109, 101], 4, 1, 3, ()) [], Tre.mk ([111, 102, 102, 115, 101, 116], 4, 1, 3, ()) [], Tre.mk ([101, 112, 111, 99, 104], 3, 3, 3, ()) []]]]]], 0, ()), ())) else some (Out.ret (([], 160, ()), ())) else bif a0 == 2 then some (Out.ret (([Tre.mk ([116, 104, 114, 111, 116, 116, 108, 101], 3, 2, 3, ()) [], Tre.mk ([116, 111, 112, 105, 99, 115], 9, 0, 3, ()) [Tre.mk ([116, 111, 112, 105, 99], 10, 0, 3, ()) [Tre.mk ([110, 97, 109, 101], 5, 0, 3, ()) [], Tre.mk ([112, 97, 114, 116, 115], 9, 0, 3, ()) [Tre.mk ([112, 97, 114, 116], 10, 0, 3, ()) [Tre.mk ([105, 110, 100, 101, 120], 3, 0, 3, ()) [], Tre.mk ([99, 111, 100, 101], 2, 0, 3, ()) [], Tre.mk ([111, 102, 102, 115, 101, 116, 115], 9, 0, 0, ()) [Tre.mk ([111, 102, 102, 115, 101, 116], 4, 0, 0, ()) []], Tre.mk ([116, 105, 109, 101], 4, 1, 3, ()) [], Tre.mk ([111, 102, 102, 115, 101, 116], 4, 1, 3, ()) [], Tre.mk ([101, 112, 111, 99, 104], 3, 3, 3, ()) []]]]]], 0, ()), ())) else some (Out.ret (([], 160, ()), ())) else bif a0 == 1 then some (Out.ret (([Tre.mk ([116, 104, 114, 111, 116, 116, 108, 101], 3, 1, 3, ()) [], Tre.mk ([116, 111, 112, 105, 99, 115], 9, 0, 3, ()) [Tre.mk ([116, 111, 112, 105, 99], 10, 0, 3, ()) [Tre.mk ([110, 97, 109, 101], 5, 0, 3, ()) [], Tre.mk ([112, 97, 114, 116, 115], 9, 0, 3, ()) [Tre.mk ([112, 97, 114, 116], 10, 0, 3, ()) [Tre.mk ([105, 110, 100, 101, 120], 3, 0, 3, ()) [], Tre.mk ([99, 111, 100, 101], 2, 0, 3, ()) [], Tre.mk ([104, 105, 103, 104], 4, 0, 3, ()) [], Tre.mk ([115, 116, 97, 98, 108, 101], 4, 2, 3, ()) [], Tre.mk ([115, 116, 97, 114, 116], 4, 3, 3, ()) [], Tre.mk ([114, 101, 99, 115], 8, 0, 3, ()) []]]]]], 0, ()), ())) else bif a0 == 2 then bif !a1 then some (Out.ret (([Tre.mk ([114, 101, 112, 108, 105, 99, 97], 3, 0, 3, ()) [], Tre.mk ([108, 101, 118, 101, 108], 1, 2, 3, ()) [], Tre.mk ([116, 111, 112, 105, 99, 115], 9, 0, 3, ()) [Tre.mk ([116, 111, 112, 105, 99], 10, 0, 3, ()) [Tre.mk ([110, 97, 109, 101], 5, 0, 3, ()) [], Tre.mk ([112, 97, 114, 116, 115], 9, 0, 3, ()) [Tre.mk ([112, 97, 114, 116], 10, 0, 3, ()) [Tre.mk ([105, 110, 100, 101, 120], 3, 0, 3, ()) [], Tre.mk ([101, 112, 111, 99, 104], 3, 3, 3, ()) [], Tre.mk ([116, 105, 109, 101], 4, 0, 3, ()) [], Tre.mk ([109, 111, 115, 116], 3, 0, 0, ()) []]]]]], 0, ()), ())) else bif a0 == 2 then some (Out.ret (([Tre.mk ([116, 104, 114, 111, 116, 116, 108, 101], 3, 2, 3, ()) [], Tre.mk ([116, 111, 112, 105, 99, 115], 9, 0, 3, ()) [Tre.mk ([116, 111, 112, 105, 99], 10, 0, 3, ()) [Tre.mk ([110, 97, 109, 101], 5, 0, 3, ()) [], Tre.mk ([112, 97, 114, 116, 115], 9, 0, 3, ()) [Tre.mk ([112, 97, 114, 116], 10, 0, 3, ()) [Tre.mk ([105, 110, 100, 101, 120], 3, 0, 3, ()) [], Tre.mk ([99, 111, 100, 101], 2, 0, 3, ()) [], Tre.mk ([111, 102, 102, 115, 101, 116, 115], 9, 0, 0, ()) [Tre.mk ([111, 102, 102, 115, 101, 116], 4, 0, 0, ()) []], Tre.mk ([116, 105, 109, 101], 4, 1, 3, ()) [], Tre.mk ([111, 102, 102, 115, 101, 116], 4, 1, 3, ()) [], Tre.mk ([101, 112, 111, 99, 104], 3, 3, 3, ()) []]]]]], 0, ()), ())) else some (Out.ret (([], 160, ()), ())) else bif a0 == 2 then some (Out.ret (([Tre.mk ([116, 104, 114, 111, 116, 116, 108, 101], 3, 2, 3, ()) [], Tre.mk ([116, 111, 112, 105, 99, 115], 9, 0, 3, ()) [Tre.mk ([116, 111, 112, 105, 99], 10, 0, 3, ()) [Tre.mk ([110, 97, 109, 101], 5, 0, 3, ()) [], Tre.mk ([112, 97, 114, 116, 115], 9, 0, 3, ()) [Tre.mk ([112, 97, 114, 116], 10, 0, 3, ()) [Tre.mk ([105, 110, 100, 101, 120], 3, 0, 3, ()) [], Tre.mk ([99, 111, 100, 101], 2, 0, 3, ()) [], Tre.mk ([111, 102, 102, 115, 101, 116, 115], 9, 0, 0, ()) [Tre.mk ([111, 102, 102, 115, 101, 116], 4, 0, 0, ()) []], Tre.mk ([116, 105, 109, 101], 4, 1, 3, ()) [], Tre.mk ([111, 102, 102, 115, 101, 116], 4, 1, 3, ()) [], Tre.mk ([101, 112, 111, 99, 104], 3, 3, 3, ()) []]]]]], 0, ()), ())) else some (Out.ret (([], 160, ()), ()))
theorem runtbTable (a0 : Int) (a1 : Bool) : Io.run tt hdtbTable dr lptbTable iotbTable Go.Proofs.Tryz.f97 ((a0, a1, ()), ()) = bodytbTable a0 a1 := by kernel_rfl
theorem oktbTable : HcOk prog 97 (ioHd iotbTable FtbTable) := by
  refine fn_sound (n := 400) hm (cs := cstbTable) (.cons oktbOne (.cons oktbTopics .nil)) (lp := lptbTable) (fn := Go.Proofs.Tryz.f97) (by kernel_rfl) (by kernel_rfl) (by kernel_rfl) iotbTable (.done (by kernel_rfl)) FtbTable ?_
  rintro ⟨⟨(k : Int), (r : Bool), ⟨⟩⟩, ⟨⟩⟩ out hw ho
  cases ho
  refine (runtbTable k r).trans ?_
  unfold bodytbTable
  show _ = some (Out.ret (((spTab k r).1, ((spTab k r).2, ())), ()))
  unfold spTab
  by_cases h0 : k = 0
  · subst h0
    cases r <;> rfl
  by_cases h1 : k = 1
  · subst h1
    cases r <;> rfl
  by_cases h2 : k = 2
  · subst h2
    cases r <;> rfl
  rw [if_neg h0, if_neg h1, if_neg h2]
  simp only [beq_eq_false_iff_ne.2 h0, beq_eq_false_iff_ne.2 h1, beq_eq_false_iff_ne.2 h2]
  cases r <;> rfl
theorem spTab_ok (k : Int) (r : Bool) : (spTab k r).2 = 0 → spArr (Tre.mk (([] : List Int), ((10 : Int), ((0 : Int), ((0 : Int), ())))) (spTab k r).1) = true := by
  unfold spTab
  intro h
  by_cases h0 : k = 0
  · subst h0
    cases r <;> (unfold spArr; rfl)
  by_cases h1 : k = 1
  · subst h1
    cases r <;> (unfold spArr; rfl)
  by_cases h2 : k = 2
  · subst h2
    cases r <;> (unfold spArr; rfl)
  rw [if_neg h0, if_neg h1, if_neg h2] at h
  cases h
theorem spWts_nil : spWts [] = 0 := by unfold spWts; rfl
theorem spCZip_nl (v : Int) (l : List Nd) : spCZip v [] l = ([], true) := by rw [spCZip]; simp
theorem spCZip_nr (v : Int) (fs : List Fd) : spCZip v fs [] = ([], true) := by rw [spCZip]; simp
theorem spCut_wt (v : Int) : ∀ (N : Nat) (f : Fd) (n : Nd), spWt n ≤ N → spWt (spCut f v n).1 ≤ spWt n := by
  intro N
  induction N with
  | zero => intro f n h; have := spWt_pos n; omega
  | succ N ih =>
    rintro f ⟨a, ks⟩ h
    rw [spWt_eq] at h
    rw [spCut]
    have hi : ∀ (f : Fd) (l : List Nd), (∀ k ∈ l, spWt k ≤ N) → spWts (spCItems f v l).1 ≤ spWts l := by
      intro f l
      induction l with
      | nil => intro _; rw [spCItems]; exact Nat.le_refl _
      | cons k l ihl =>
        intro hk
        rw [spCItems, spWts_cons, spWts_cons]
        have := ih f k (hk k (by simp))
        have := ihl fun k' hk' => hk k' (List.mem_cons_of_mem _ hk')
        omega
    have hz : ∀ (l : List Nd) (fs : List Fd), (∀ k ∈ l, spWt k ≤ N) → spWts (spCZip v fs l).1 ≤ spWts l := by
      intro l
      induction l with
      | nil => intro fs _; rw [spCZip_nr]; exact Nat.le_refl _
      | cons k l ihl =>
        intro fs hk
        cases fs with
        | nil => rw [spCZip_nl]; show spWts [] ≤ _; rw [spWts_nil]; exact Nat.zero_le _
        | cons f fs =>
          rw [spCZip, spWts_cons]
          have h1 := ih f k (hk k (by simp))
          have h2 := ihl fs fun k' hk' => hk k' (List.mem_cons_of_mem _ hk')
          split
          · rw [spWts_cons]; omega
          · show spWts (spCZip v fs l).1 ≤ _; omega
    have hks : ∀ k ∈ ks, spWt k ≤ N := fun k hk => by have := spWt_mem hk; simp only at h; omega
    split
    · rw [spWt_eq, spWt_eq]
      have := hi (f.kids.headD f) ks hks
      simp only [List.length_nil]; omega
    split
    · rw [spWt_eq, spWt_eq]
      have := hz ks f.kids hks
      simp only [List.length_nil]; omega
    · exact Nat.le_refl _
abbrev iotbEW : Io := ⟨[d16, dB, dI, dNode], [], [], [dL, dI], none⟩
def spEW (k : Int) (r : Bool) (v : Int) (n : Nd) : List Int × Int := if (spTab k r).2 ≠ 0 then ([], (spTab k r).2) else if v < 0 ∨ 3 < v then ([], 8) else
  if (spCut (Tre.mk (([] : List Int), ((10 : Int), ((0 : Int), ((0 : Int), ())))) (spTab k r).1) v n).2 = false then ([], 7) else spEnc (spTab k r).1 v (spCut (Tre.mk (([] : List Int), ((10 : Int), ((0 : Int), ((0 : Int), ())))) (spTab k r).1) v n).1
def FtbEW (d : iotbEW.In) : Tr iotbEW.Res := .ite (decide (8 * spWt d.1.2.2.2.1 ≤ 4294967296)) (.ret (.ret (((spEW d.1.1 d.1.2.1 d.1.2.2.1 d.1.2.2.2.1).1, ((spEW d.1.1 d.1.2.1 d.1.2.2.1 d.1.2.2.2.1).2, ())), ()))) .no
abbrev cstbEW : List (Nat × Hc) := [(97, ioHd iotbTable FtbTable), (98, ioHd iovCut FvCut), (99, ioHd iovEncode FvEncode)]
def hdtbEW : Hd := hdT cstbEW
def lptbEW : Lp := lpT []
def bodytbEW (a0 : Int) (a1 : Bool) (a2 : Int) (a3 : Nd) : Option iotbEW.Res := bif (spTab a0 a1).snd != 0 then some (Out.ret (([], (spTab a0 a1).snd, ()), ())) else bif decide (a2 < 0) then some (Out.ret (([], 8, ()), ())) else bif decide (3 < a2) then some (Out.ret (([], 8, ()), ())) else bif spArr (Tre.mk ([], 10, 0, 0, ()) (spTab a0 a1).fst) && decide (spWt (Tre.mk a3.1 a3.2) ≤ 4294967296) then bif !(spCut (Tre.mk ([], 10, 0, 0, ()) (spTab a0 a1).fst) a2 (Tre.mk a3.1 a3.2)).snd then some (Out.ret (([], 7, ()), ())) else bif decide (8 * spWt (Tre.mk (spCut (Tre.mk ([], 10, 0, 0, ()) (spTab a0 a1).fst) a2 (Tre.mk a3.1 a3.2)).fst.1 (spCut (Tre.mk ([], 10, 0, 0, ()) (spTab a0 a1).fst) a2 (Tre.mk a3.1 a3.2)).fst.2) ≤ 4294967296) then some (Out.ret (((spEnc (spTab a0 a1).fst a2 (Tre.mk (spCut (Tre.mk ([], 10, 0, 0, ()) (spTab a0 a1).fst) a2 (Tre.mk a3.1 a3.2)).fst.1 (spCut (Tre.mk ([], 10, 0, 0, ()) (spTab a0 a1).fst) a2 (Tre.mk a3.1 a3.2)).fst.2)).fst, (spEnc (spTab a0 a1).fst a2 (Tre.mk (spCut (Tre.mk ([], 10, 0, 0, ()) (spTab a0 a1).fst) a2 (Tre.mk a3.1 a3.2)).fst.1 (spCut (Tre.mk ([], 10, 0, 0, ()) (spTab a0 a1).fst) a2 (Tre.mk a3.1 a3.2)).fst.2)).snd, ()), ())) else none else none
theorem runtbEW (a0 : Int) (a1 : Bool) (a2 : Int) (a3 : Nd) : Io.run tt hdtbEW dr lptbEW iotbEW Go.Proofs.Tryz.f35 ((a0, a1, a2, a3, ()), ()) = bodytbEW a0 a1 a2 a3 := by kernel_rfl
theorem oktbEW : HcOk prog 35 (ioHd iotbEW FtbEW) := by
  refine fn_sound (n := 400) hm (cs := cstbEW) (.cons oktbTable (.cons okvCut (.cons okvEncode .nil))) (lp := lptbEW) (fn := Go.Proofs.Tryz.f35) (by kernel_rfl) (by kernel_rfl) (by kernel_rfl) iotbEW (.done (by kernel_rfl)) FtbEW ?_
  rintro ⟨⟨(k : Int), (r : Bool), (v : Int), (n : Nd), ⟨⟩⟩, ⟨⟩⟩ out hw ho
  obtain ⟨hg, ho⟩ := Tr.guard ho
  have hb : 8 * spWt n ≤ 4294967296 := of_decide_eq_true hg
  cases ho
  refine (runtbEW k r v n).trans ?_
  unfold bodytbEW
  show _ = some (Out.ret (((spEW k r v n).1, ((spEW k r v n).2, ())), ()))
  unfold spEW
  have hok := spTab_ok k r
  generalize spTab k r = t at hok ⊢
  obtain ⟨tb, te⟩ := t
  have hok : te = 0 → spArr (Tre.mk (([] : List Int), ((10 : Int), ((0 : Int), ((0 : Int), ())))) tb) = true := hok
  by_cases h1 : te = 0
  · rw [if_neg (by simpa using h1)]
    refine (bif_false (by simpa using h1) _ _).trans ?_
    by_cases h2 : v < 0
    · rw [if_pos (.inl h2)]
      exact bif_true (decide_eq_true h2) _ _
    refine (bif_false (decide_eq_false h2) _ _).trans ?_
    by_cases h3 : 3 < v
    · rw [if_pos (.inr h3)]
      exact bif_true (decide_eq_true h3) _ _
    refine (bif_false (decide_eq_false h3) _ _).trans ?_
    rw [if_neg (by omega)]
    obtain ⟨nl, nk⟩ := n
    refine (bif_true (show (spArr (Tre.mk (([] : List Int), ((10 : Int), ((0 : Int), ((0 : Int), ())))) tb) && decide (spWt (Tre.mk nl nk) ≤ 4294967296)) = true by rw [hok h1]; simp; omega) _ _).trans ?_
    have hcw := spCut_wt v _ (Tre.mk (([] : List Int), ((10 : Int), ((0 : Int), ((0 : Int), ())))) tb) (Tre.mk nl nk) (Nat.le_refl _)
    show (bif !(spCut (Tre.mk (([] : List Int), ((10 : Int), ((0 : Int), ((0 : Int), ())))) tb) v (Tre.mk nl nk)).2 then _ else _) = _
    by_cases h4 : (spCut (Tre.mk (([] : List Int), ((10 : Int), ((0 : Int), ((0 : Int), ())))) tb) v (Tre.mk nl nk)).2 = false
    · rw [if_pos h4]
      exact bif_true (by rw [h4]; rfl) _ _
    · rw [if_neg h4]
      refine (bif_false (by simpa using h4) _ _).trans ?_
      generalize (spCut (Tre.mk (([] : List Int), ((10 : Int), ((0 : Int), ((0 : Int), ())))) tb) v (Tre.mk nl nk)).1 = c at hcw ⊢
      obtain ⟨cl, ck⟩ := c
      exact bif_true (decide_eq_true (show 8 * spWt (Tre.mk cl ck) ≤ 4294967296 by omega)) _ _
  · rw [if_pos h1]
    exact bif_true (by simpa using h1) _ _
end
end Go.Proofs.YtmlgepgcofmpeaaGreat.Sym
