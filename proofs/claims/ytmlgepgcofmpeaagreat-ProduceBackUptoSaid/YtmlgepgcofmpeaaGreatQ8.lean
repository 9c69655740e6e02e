/- Leaves, arrays, structs of the messages' tables; the tables are tables. -/
import Derived.Test.YtmlgepgcofmpeaaGreatQ7

namespace Go.Proofs.YtmlgepgcofmpeaaGreat.Sym
open Go
set_option linter.unusedSimpArgs false
set_option linter.unusedVariables false
noncomputable section
theorem spFits_i16 {n : Int} (h : inR .i16 n) : spFits n 2 = true := by
  simp only [inR, IntKind.min, IntKind.max, IntKind.signed, IntKind.bits] at h
  simp at h
  unfold spFits
  rw [if_neg (by decide), if_pos]
  simp; omega
theorem spFits_i32 {n : Int} (h : inR .i32 n) : spFits n 4 = true := by
  simp only [inR, IntKind.min, IntKind.max, IntKind.signed, IntKind.bits] at h
  simp at h
  unfold spFits
  rw [if_neg (by decide), if_pos]
  simp; omega
theorem spFits_i64 (n : Int) : spFits n 8 = true := by unfold spFits; rw [if_pos (by decide)]
theorem spW_leaf {nm : List Int} {k lo hi : Int} {e : List Fd} {v : Int} {n : Nd} (h9 : k ≠ 9) (h10 : k ≠ 10) : spW (fld nm k lo hi e) v n = spVal (fld nm k lo hi e) v n := by
  obtain ⟨a, ks⟩ := n
  rw [spW]
  exact (if_neg h9).trans (if_neg h10)
theorem spCut_leaf {nm : List Int} {k lo hi : Int} {e : List Fd} {v : Int} {n : Nd} (h9 : k ≠ 9) (h10 : k ≠ 10) : (spCut (fld nm k lo hi e) v n).2 = true := by
  obtain ⟨a, ks⟩ := n
  rw [spCut]
  exact congrArg Prod.snd ((if_neg h9).trans (if_neg h10))
theorem spWhole_leaf {nm : List Int} {k lo hi : Int} {e : List Fd} {n : Nd} (h9 : k ≠ 9) (h10 : k ≠ 10) : spWhole (fld nm k lo hi e) n := by
  obtain ⟨a, ks⟩ := n
  rw [spWhole]
  exact ⟨fun h => absurd h h9, fun h => absurd h h10⟩
theorem spSh_num {k n : Int} (h : k < 5) : spShN k (ndNum k n) = true := by
  unfold spShN
  simp; omega
theorem spW_num {nm : List Int} {k lo hi n w : Int} {e : List Fd} {v : Int} (hk : k ≤ 4) (hw : spWid k = w) (hf : spFits n w = true) : spW (fld nm k lo hi e) v (ndNum k n) = (spBE n w.toNat, 0) := by
  rw [spW_leaf (by omega) (by omega), spVal]
  refine (if_neg ?_).trans ((if_pos hk).trans ?_)
  · show ¬ spShN k (ndNum k n) = false
    rw [spSh_num (by omega)]; decide
  · show (if spFits n (spWid k) = true then _ else _) = _
    rw [hw, if_pos hf]
theorem spW_text {nm : List Int} {lo hi : Int} {e : List Fd} {v : Int} (s : List Int) : spW (fld nm 5 lo hi e) v (ndText s) = spTxt s := by
  rw [spW_leaf (by decide) (by decide), spVal]
  refine (if_neg ?_).trans ((if_neg (show ¬ (5 : Int) ≤ 4 by decide)).trans ((if_neg (show ¬ (5 : Int) = 9 by decide)).trans ((if_neg (show ¬ (5 : Int) = 10 by decide)).trans ((if_neg (show ¬ (false = true) by decide)).trans ?_))))
  · show ¬ spShN 5 (ndText s) = false
    unfold spShN; simp
  · unfold spTxt
    by_cases h1 : (spUtf s).2 = false
    · rw [if_pos h1]; exact if_pos ⟨(show (5 : Int) ≤ 6 by decide), h1⟩
    · rw [if_neg h1]
      refine (if_neg (fun h => h1 h.2)).trans ?_
      by_cases h2 : 255 < s.length
      · rw [if_pos h2]; exact if_pos ⟨(show (5 : Int) ≤ 6 by decide), h2⟩
      · rw [if_neg h2]; exact if_neg (fun h => h2 h.2)
theorem spW_ntext {nm : List Int} {lo hi : Int} {e : List Fd} {v : Int} (n : tNameT.den) : spW (fld nm 6 lo hi e) v (ndNText n) = spNam n := by
  obtain ⟨z, s, ⟨⟩⟩ := n
  rw [spW_leaf (by decide) (by decide), spVal]
  refine (if_neg ?_).trans ((if_neg (show ¬ (6 : Int) ≤ 4 by decide)).trans ((if_neg (show ¬ (6 : Int) = 9 by decide)).trans ((if_neg (show ¬ (6 : Int) = 10 by decide)).trans ?_)))
  · show ¬ spShN 6 (ndNText (z, (s, ()))) = false
    unfold spShN; simp
  · unfold spNam
    by_cases hz : z = true
    · refine (if_pos hz).trans ?_
      rw [if_pos hz]; rfl
    · refine (if_neg hz).trans ?_
      rw [if_neg hz]
      unfold spTxt
      by_cases h1 : (spUtf s).2 = false
      · rw [if_pos h1]; exact if_pos ⟨(show (6 : Int) ≤ 6 by decide), h1⟩
      · rw [if_neg h1]
        refine (if_neg (fun h => h1 h.2)).trans ?_
        by_cases h2 : 255 < List.length s
        · rw [if_pos h2]; exact if_pos ⟨(show (6 : Int) ≤ 6 by decide), h2⟩
        · rw [if_neg h2]; exact if_neg (fun h => h2 h.2)
theorem spW_nbytes {nm : List Int} {lo hi : Int} {e : List Fd} {v : Int} (n : tBlobT.den) : spW (fld nm 8 lo hi e) v (ndNBytes n) = spBlo n := by
  obtain ⟨z, s, ⟨⟩⟩ := n
  rw [spW_leaf (by decide) (by decide), spVal]
  refine (if_neg ?_).trans ((if_neg (show ¬ (8 : Int) ≤ 4 by decide)).trans ((if_neg (show ¬ (8 : Int) = 9 by decide)).trans ((if_neg (show ¬ (8 : Int) = 10 by decide)).trans ?_)))
  · show ¬ spShN 8 (ndNBytes (z, (s, ()))) = false
    unfold spShN; simp
  · unfold spBlo
    by_cases hz : z = true
    · refine (if_pos hz).trans ?_
      rw [if_pos hz]; rfl
    · refine (if_neg hz).trans ?_
      rw [if_neg hz]
      exact (if_neg (fun h => absurd (show (8 : Int) ≤ 6 from h.1) (by decide))).trans (if_neg (fun h => absurd (show (8 : Int) ≤ 6 from h.1) (by decide)))
theorem spW_rows {α : Type} {nm : List Int} {lo hi : Int} {g : Fd} {v : Int} (F : α → Nd) (l : List α) : spW (fld nm 9 lo hi [g]) v (ndRows (l.map F)) = spArrW (fun x => spW g v (F x)) l := by
  rw [spW]
  refine (if_pos rfl).trans ?_
  unfold spArrW
  have : ∀ l : List α, spWItems g v (l.map F) = spAll (fun x => spW g v (F x)) l := by
    intro l
    induction l with
    | nil => rw [List.map_nil, spWItems]; rfl
    | cons x l ih => rw [List.map_cons, spWItems, ih]; rfl
  rw [List.length_map]
  show (if 16 < l.length then _ else spSeq _ (spWItems g v (l.map F))) = _
  rw [this]
theorem spW_row {nm : List Int} {lo hi : Int} {fs : List Fd} {v : Int} (ks : List Nd) : spW (fld nm 10 lo hi fs) v (ndRow ks) = spWZip v fs ks := by
  rw [spW]; exact (if_neg (show ¬ ((10 : Int) = 9) by decide)).trans (if_pos rfl)
theorem spCut_rows {α : Type} {nm : List Int} {lo hi : Int} {g : Fd} {v : Int} (F : α → Nd) (l : List α) : (spCut (fld nm 9 lo hi [g]) v (ndRows (l.map F))).2 = l.all fun x => (spCut g v (F x)).2 := by
  rw [spCut]
  refine (congrArg Prod.snd (if_pos rfl)).trans ?_
  show (spCItems g v (l.map F)).2 = _
  induction l with
  | nil => rw [List.map_nil, spCItems]; rfl
  | cons x l ih => rw [List.map_cons, spCItems, List.all_cons, ih]
theorem spCut_row {nm : List Int} {lo hi : Int} {fs : List Fd} {v : Int} (ks : List Nd) : (spCut (fld nm 10 lo hi fs) v (ndRow ks)).2 = (spCZip v fs ks).2 := by
  rw [spCut]; exact congrArg Prod.snd ((if_neg (show ¬ ((10 : Int) = 9) by decide)).trans (if_pos rfl))
theorem spWhole_rows {α : Type} {nm : List Int} {lo hi : Int} {g : Fd} (F : α → Nd) (l : List α) (h : ∀ x, spWhole g (F x)) : spWhole (fld nm 9 lo hi [g]) (ndRows (l.map F)) := by
  rw [spWhole]
  refine ⟨fun _ => ?_, fun h => absurd (show (9 : Int) = 10 from h) (by decide)⟩
  show spWholes g (l.map F)
  induction l with
  | nil => rw [List.map_nil, spWholes]; trivial
  | cons x l ih => rw [List.map_cons, spWholes]; exact ⟨h x, ih⟩
theorem spWhole_row {nm : List Int} {lo hi : Int} {fs : List Fd} {ks : List Nd} (hl : ks.length = fs.length) (h : spWholeZ fs ks) : spWhole (fld nm 10 lo hi fs) (ndRow ks) := by
  rw [spWhole]
  exact ⟨fun h => absurd (show (10 : Int) = 9 from h) (by decide), fun _ => ⟨hl, h⟩⟩
theorem spWhole_nil : spWholeZ [] [] := by rw [spWholeZ]; trivial; simp
theorem spWhole_cons {f : Fd} {fs : List Fd} {k : Nd} {ks : List Nd} (h1 : spWhole f k) (h2 : spWholeZ fs ks) : spWholeZ (f :: fs) (k :: ks) := by rw [spWholeZ]; exact ⟨h1, h2⟩
theorem spWZ_has {f : Fd} {fs : List Fd} {k : Nd} {ks : List Nd} {v : Int} (h : spHas f v = true) : spWZip v (f :: fs) (k :: ks) = spSeq (spW f v k) (spWZip v fs ks) := by rw [spWZip, if_pos h]
theorem spWZ_not {f : Fd} {fs : List Fd} {k : Nd} {ks : List Nd} {v : Int} (h : spHas f v = false) : spWZip v (f :: fs) (k :: ks) = spWZip v fs ks := by rw [spWZip, if_neg (by rw [h]; decide)]
theorem spCZ_has {f : Fd} {fs : List Fd} {k : Nd} {ks : List Nd} {v : Int} (h : spHas f v = true) : (spCZip v (f :: fs) (k :: ks)).2 = ((spCut f v k).2 && (spCZip v fs ks).2) := by rw [spCZip, if_pos h]
theorem spCZ_not {f : Fd} {fs : List Fd} {k : Nd} {ks : List Nd} {v : Int} (h : spHas f v = false) : (spCZip v (f :: fs) (k :: ks)).2 = (spZeroN k && (spCZip v fs ks).2) := by rw [spCZip, if_neg (by rw [h]; decide)]
theorem spHas_in {nm : List Int} {k lo hi v : Int} {e : List Fd} (h1 : lo ≤ v) (h2 : v ≤ hi) : spHas (fld nm k lo hi e) v = true := if_pos ⟨h1, h2⟩
theorem spHas_out {nm : List Int} {k lo hi v : Int} {e : List Fd} (h : v < lo ∨ hi < v) : spHas (fld nm k lo hi e) v = false := if_neg (by show ¬ (lo ≤ v ∧ v ≤ hi); omega)
theorem spWZ_opt {nm : List Int} {k lo hi : Int} {e fs : List Fd} {n : Nd} {ks : List Nd} {v : Int} : spWZip v (fld nm k lo hi e :: fs) (n :: ks) = if lo ≤ v ∧ v ≤ hi then spSeq (spW (fld nm k lo hi e) v n) (spWZip v fs ks) else spWZip v fs ks := by
  by_cases h : lo ≤ v ∧ v ≤ hi
  · rw [if_pos h, spWZ_has (spHas_in h.1 h.2)]
  · rw [if_neg h, spWZ_not (spHas_out (by omega))]
theorem spCZ_opt {nm : List Int} {k lo hi : Int} {e fs : List Fd} {n : Nd} {ks : List Nd} {v : Int} : (spCZip v (fld nm k lo hi e :: fs) (n :: ks)).2 = ((if lo ≤ v ∧ v ≤ hi then (spCut (fld nm k lo hi e) v n).2 else spZeroN n) && (spCZip v fs ks).2) := by
  by_cases h : lo ≤ v ∧ v ≤ hi
  · rw [if_pos h, spCZ_has (spHas_in h.1 h.2)]
  · rw [if_neg h, spCZ_not (spHas_out (by omega))]
theorem spCZ_nil {v : Int} : (spCZip v [] []).2 = true := by rw [spCZip_nl]
theorem spZero_num {k n : Int} : spZeroN (ndNum k n) = (n == 0) := by unfold spZeroN; by_cases h : n = 0 <;> simp [h]
theorem spZero_ntext {n : tNameT.den} : spZeroN (ndNText n) = (n.1 == false && decide (n.2.1 = [])) := by
  obtain ⟨z, s, ⟨⟩⟩ := n
  unfold spZeroN
  cases z <;> simp
def okF : Nat → Int → Fd → Bool
  | 0, _, _ => false
  | n + 1, d, .mk a ks => !(decide (a.1.length = 0)) && (!(decide (a.2.2.1 < 0)) && (!(decide (3 < a.2.2.2.1)) && (!(decide (a.2.2.2.1 < a.2.2.1)) && (!(decide (a.2.1 < 1)) && (!(decide (10 < a.2.1)) &&
      (if a.2.1 < 9 then decide (ks.length = 0) else
        (!(decide (ks.length < 1)) && (!(decide (16 < ks.length)) && (!(decide (8 < d + 1)) && (spDist ks 0 ks && ks.all fun k => okF n (d + 1) k)))) && (spVers ks 5 a.2.2.1 a.2.2.2.1 && (decide (a.2.1 = 10) || decide (ks.length = 1)))))))))
theorem spFieldsOk_all {d : Int} : ∀ {l : List Fd}, (∀ k ∈ l, spFieldOk d k = true) → spFieldsOk d l = true
  | [], _ => by rw [spFieldsOk]
  | k :: l, h => by rw [spFieldsOk, h k (by simp), spFieldsOk_all (l := l) fun k' hk' => h k' (List.mem_cons_of_mem _ hk')]; rfl
theorem okF_sound : ∀ (n : Nat) (d : Int) (f : Fd), okF n d f = true → spFieldOk d f = true
  | 0, _, _, h => by cases h
  | n + 1, d, .mk a ks, h => by
    rw [okF] at h
    simp only [Bool.and_eq_true, Bool.not_eq_true', decide_eq_false_iff_not] at h
    obtain ⟨h1, h2, h3, h4, h5, h6, h7⟩ := h
    rw [spFieldOk, if_neg h1, if_neg h2, if_neg h3, if_neg h4, if_neg h5, if_neg h6]
    by_cases h9 : a.2.1 < 9
    · rw [if_pos h9] at h7 ⊢
      rw [if_pos (of_decide_eq_true h7)]
    · rw [if_neg h9] at h7 ⊢
      simp only [Bool.and_eq_true, Bool.not_eq_true', decide_eq_false_iff_not, Bool.or_eq_true, decide_eq_true_eq, List.all_eq_true] at h7
      obtain ⟨⟨g1, g2, g3, g4, g5⟩, g6, g7⟩ := h7
      have hl : spListOk (d + 1) ks = true := by
        rw [spListOk, if_neg g1, if_neg g2, if_neg g3, g4, spFieldsOk_all fun k hk => okF_sound n _ k (g5 k hk)]; rfl
      rw [hl, if_neg (by decide), g6, if_neg (by decide)]
      split
      · rfl
      · rename_i h10
        rw [if_pos (g7.resolve_left h10)]
theorem spChk_of {t : List Fd} (h : (!(decide (t.length < 1)) && (!(decide (16 < t.length)) && (spDist t 0 t && t.all fun k => okF 9 1 k))) = true) : spChk t = 0 := by
  simp only [Bool.and_eq_true, Bool.not_eq_true', decide_eq_false_iff_not, List.all_eq_true] at h
  obtain ⟨g1, g2, g4, g5⟩ := h
  unfold spChk
  rw [if_pos]
  rw [spListOk, if_neg g1, if_neg g2, if_neg (by decide), g4, spFieldsOk_all fun k hk => okF_sound 9 _ k (g5 k hk)]; rfl
theorem spChk_0q : spChk spT0q = 0 := spChk_of rfl
theorem spChk_0p : spChk spT0p = 0 := spChk_of rfl
end
end Go.Proofs.YtmlgepgcofmpeaaGreat.Sym
namespace Go.Proofs.YtmlgepgcofmpeaaGreat.Sym
open Go
set_option linter.unusedSimpArgs false
set_option linter.unusedVariables false
noncomputable section
theorem spEW_len (k : Int) (r : Bool) (v : Int) (n : Nd) : (spEW k r v n).1.length ≤ 130048 := by
  unfold spEW spEnc
  repeat' split
  all_goals first | (simp; done) | (dsimp only; omega)
theorem spLacks_first {e v lo hi : Int} {z : Bool} : spLacks v z lo hi (e, (false, ([] : List Int))) = ((if e ≠ 0 then e else if z = false ∧ (v < lo ∨ hi < v) then 7 else 0), (false, [])) := by
  unfold spLacks spFail
  by_cases h : z = false ∧ (v < lo ∨ hi < v)
  · rw [if_pos h]
    by_cases he : e = 0
    · simp [he, h]
    · simp [he]
  · rw [if_neg h]
    by_cases he : e = 0
    · simp [he, h]
    · simp [he]
def wPart (p : tPart.den) : List Int × Int := spSeq (spBE p.1 4, 0) (spSeq (spBlo p.2.1) ([], 0))
def wTopic (t : tTopic.den) : List Int × Int := spSeq (spTxt t.1) (spSeq (spArrW wPart t.2.1) ([], 0))
theorem Wri.part (p : tPart.den) (h : partOk p = true) : Wri (wPart p) (spPartE p) := (Wri.put _ _).seq ((Wri.blob _ (of_decide_eq_true h)).seq Wri.nop)
theorem Wri.topic (t : tTopic.den) (h : topicOk t = true) : Wri (wTopic t) (spTopicE t) := (Wri.str _).seq ((Wri.items fun p hp => Wri.part p (List.all_eq_true.1 h p hp)).seq Wri.nop)
theorem spW_part {v : Int} {p : tPart.den} (hv : 0 ≤ v ∧ v ≤ 3) (h : tPart.wf p) : spW (fld [112, 97, 114, 116] 10 0 3 [fld [105, 110, 100, 101, 120] 3 0 3 [], fld [114, 101, 99, 115] 8 0 3 []]) v (spFPart p) = wPart p := by
  unfold spFPart wPart
  rw [spW_row, spWZ_has (spHas_in hv.1 hv.2), spWZ_has (spHas_in hv.1 hv.2), spWZip_nl, spW_num (by decide) (w := 4) rfl (spFits_i32 h.1), spW_nbytes]
  rfl
theorem spArrW_congr {α : Type} {f g : α → List Int × Int} {l : List α} (h : ∀ x ∈ l, f x = g x) : spArrW f l = spArrW g l := by
  have : spAll f l = spAll g l := by
    induction l with
    | nil => rfl
    | cons x l ih =>
      rw [spAll, spAll, h x (by simp), ih fun y hy => h y (List.mem_cons_of_mem _ hy)]
  unfold spArrW
  rw [this]
theorem spW_topic {v : Int} {t : tTopic.den} (hv : 0 ≤ v ∧ v ≤ 3) (h : tTopic.wf t) : spW (fld [116, 111, 112, 105, 99] 10 0 3 [fld [110, 97, 109, 101] 5 0 3 [], fld [112, 97, 114, 116, 115] 9 0 3 [fld [112, 97, 114, 116] 10 0 3 [fld [105, 110, 100, 101, 120] 3 0 3 [], fld [114, 101, 99, 115] 8 0 3 []]]]) v (spFTopic t) = wTopic t := by
  unfold spFTopic wTopic
  rw [spW_row, spWZ_has (spHas_in hv.1 hv.2), spWZ_has (spHas_in hv.1 hv.2), spWZip_nl, spW_text, spW_rows, spArrW_congr fun p hp => spW_part hv (h.2.1.2 p hp)]
theorem spCut_part {v : Int} {p : tPart.den} (hv : 0 ≤ v ∧ v ≤ 3) : (spCut (fld [112, 97, 114, 116] 10 0 3 [fld [105, 110, 100, 101, 120] 3 0 3 [], fld [114, 101, 99, 115] 8 0 3 []]) v (spFPart p)).2 = true := by
  unfold spFPart
  rw [spCut_row, spCZ_has (spHas_in hv.1 hv.2), spCZ_has (spHas_in hv.1 hv.2), spCZ_nil, spCut_leaf (by decide) (by decide), spCut_leaf (by decide) (by decide)]; rfl
theorem spCut_topic {v : Int} {t : tTopic.den} (hv : 0 ≤ v ∧ v ≤ 3) : (spCut (fld [116, 111, 112, 105, 99] 10 0 3 [fld [110, 97, 109, 101] 5 0 3 [], fld [112, 97, 114, 116, 115] 9 0 3 [fld [112, 97, 114, 116] 10 0 3 [fld [105, 110, 100, 101, 120] 3 0 3 [], fld [114, 101, 99, 115] 8 0 3 []]]]) v (spFTopic t)).2 = true := by
  unfold spFTopic
  rw [spCut_row, spCZ_has (spHas_in hv.1 hv.2), spCZ_has (spHas_in hv.1 hv.2), spCZ_nil, spCut_leaf (by decide) (by decide), spCut_rows]
  rw [List.all_eq_true.2 fun p _ => spCut_part hv]; rfl
theorem spWhole_req (m : tReq.den) : spWholeZ spT0q [ndNText m.1, ndNum 2 m.2.1, ndNum 3 m.2.2.1, ndRows (m.2.2.2.1.map spFTopic)] := by
  unfold spT0q spTopics
  refine spWhole_cons (spWhole_leaf (by decide) (by decide)) (spWhole_cons (spWhole_leaf (by decide) (by decide)) (spWhole_cons (spWhole_leaf (by decide) (by decide)) (spWhole_cons ?_ spWhole_nil)))
  refine spWhole_rows _ _ fun t => spWhole_row rfl (spWhole_cons (spWhole_leaf (by decide) (by decide)) (spWhole_cons ?_ spWhole_nil))
  exact spWhole_rows _ _ fun p => spWhole_row rfl (spWhole_cons (spWhole_leaf (by decide) (by decide)) (spWhole_cons (spWhole_leaf (by decide) (by decide)) spWhole_nil))
theorem req_law {v : Int} {m : tReq.den} (hm : tReq.wf m) (hok : spTopicsOk m.2.2.2.1 = true) : (spDoneO (spReqE v m), spDoneE (spReqE v m)) = spEReq v m := by
  unfold spEReq spFullReq
  rw [spEW_eq (t := spT0q) rfl spChk_0q rfl (spWhole_req m)]
  unfold spReqE
  rw [spLacks_first]
  have hitems : Wri (spArrW wTopic m.2.2.2.1) (spItems spTopicE m.2.2.2.1) := Wri.items fun t ht => Wri.topic t (List.all_eq_true.1 hok t ht)
  unfold spNewE
  by_cases hv : v < 0 ∨ 3 < v
  · rw [if_pos hv, if_pos hv]
    have hr := (Wri.put m.2.1 2).seq ((Wri.put m.2.2.1 4).seq hitems)
    have ht : ∀ s, spTxnE v m.1 s = s := fun s => by unfold spTxnE; rw [if_neg (by omega)]
    rw [ht]
    exact (hr.done _).trans (if_pos (by simp))
  rw [if_neg hv, if_neg hv]
  have hv' : 0 ≤ v ∧ v ≤ 3 := by omega
  have hcz : (spCZip v spT0q [ndNText m.1, ndNum 2 m.2.1, ndNum 3 m.2.2.1, ndRows (m.2.2.2.1.map spFTopic)]).2 = (if 3 ≤ v ∧ v ≤ 3 then true else (m.1.1 == false && decide (m.1.2.1 = []))) := by
    unfold spT0q spTopics
    rw [spCZ_opt, spCZ_has (spHas_in hv'.1 hv'.2), spCZ_has (spHas_in hv'.1 hv'.2), spCZ_has (spHas_in hv'.1 hv'.2), spCZ_nil, spCut_leaf (by decide) (by decide), spCut_leaf (by decide) (by decide), spCut_leaf (by decide) (by decide), spCut_rows, spZero_ntext]
    rw [List.all_eq_true.2 fun p _ => spCut_topic hv']
    simp
  have hwz : spWZip v spT0q [ndNText m.1, ndNum 2 m.2.1, ndNum 3 m.2.2.1, ndRows (m.2.2.2.1.map spFTopic)] = if 3 ≤ v ∧ v ≤ 3 then spSeq (spNam m.1) (spSeq (spBE m.2.1 2, 0) (spSeq (spBE m.2.2.1 4, 0) (spSeq (spArrW wTopic m.2.2.2.1) ([], 0)))) else spSeq (spBE m.2.1 2, 0) (spSeq (spBE m.2.2.1 4, 0) (spSeq (spArrW wTopic m.2.2.2.1) ([], 0))) := by
    unfold spT0q spTopics
    rw [spWZ_opt, spWZ_has (spHas_in hv'.1 hv'.2), spWZ_has (spHas_in hv'.1 hv'.2), spWZ_has (spHas_in hv'.1 hv'.2), spWZip_nl, spW_ntext, spW_num (by decide) (w := 2) rfl (spFits_i16 hm.2.1), spW_num (by decide) (w := 4) rfl (spFits_i32 hm.2.2.1), spW_rows, spArrW_congr fun t ht => spW_topic hv' (hm.2.2.2.1.2 t ht)]
    rfl
  rw [hcz, hwz]
  by_cases h3 : v = 3
  · have e : 3 ≤ v ∧ v ≤ 3 := by omega
    rw [if_pos e, if_pos e]
    have hr := (Wri.name m.1).seq ((Wri.put m.2.1 2).seq ((Wri.put m.2.2.1 4).seq (hitems.seq Wri.nop)))
    have ht : ∀ s, spTxnE v m.1 s = spNameE m.1 s := fun s => by unfold spTxnE; rw [if_pos h3]
    rw [ht]
    refine (hr.done _).trans ?_
    have e0 : (if (0 : Int) ≠ 0 then (0 : Int) else if (m.1.1 == false && decide (m.1.2.1 = [])) = false ∧ (v < 3 ∨ 3 < v) then 7 else 0) = 0 := by
      rw [if_neg (by simp), if_neg (by omega)]
    rw [e0]
    exact (if_neg (by decide)).trans (if_neg (by decide)).symm
  · have e : ¬ (3 ≤ v ∧ v ≤ 3) := by omega
    rw [if_neg e, if_neg e]
    have hr := (Wri.put m.2.1 2).seq ((Wri.put m.2.2.1 4).seq (hitems.seq Wri.nop))
    have ht : ∀ s, spTxnE v m.1 s = s := fun s => by unfold spTxnE; rw [if_neg h3]
    rw [ht]
    refine (hr.done _).trans ?_
    by_cases hz : (m.1.1 == false && decide (m.1.2.1 = [])) = false
    · have e0 : (if (0 : Int) ≠ 0 then (0 : Int) else if (m.1.1 == false && decide (m.1.2.1 = [])) = false ∧ (v < 3 ∨ 3 < v) then 7 else 0) = 7 := by
        rw [if_neg (by simp), if_pos ⟨hz, by omega⟩]
      rw [e0, if_pos (by simp), if_pos hz]
    · have e0 : (if (0 : Int) ≠ 0 then (0 : Int) else if (m.1.1 == false && decide (m.1.2.1 = [])) = false ∧ (v < 3 ∨ 3 < v) then 7 else 0) = 0 := by
        rw [if_neg (by simp), if_neg (fun h => hz h.1)]
      rw [e0, if_neg (by simp), if_neg hz]
theorem Wri.opt {r : List Int × Int} {g : EnS → EnS} (v lo hi x : Int) (n : Nat) (hg : Wri r g) : Wri (if lo ≤ v ∧ v ≤ hi then spSeq (spBE x n, 0) r else r) (fun s => g (spHasE v lo hi x n s)) := by
  by_cases h : lo ≤ v ∧ v ≤ hi
  · rw [if_pos h]
    have : (fun s => g (spHasE v lo hi x n s)) = fun s => g (spPutE x n s) := funext fun s => by unfold spHasE; rw [if_pos h]
    rw [this]; exact (Wri.put x n).seq hg
  · rw [if_neg h]
    have : (fun s => g (spHasE v lo hi x n s)) = g := funext fun s => by unfold spHasE; rw [if_neg h]
    rw [this]; exact hg
def wDone (v : Int) (p : tDone.den) : List Int × Int := spSeq (spBE p.1 4, 0) (spSeq (spBE p.2.1 2, 0) (spSeq (spBE p.2.2.1 8, 0)
  (if 2 ≤ v ∧ v ≤ 3 then spSeq (spBE p.2.2.2.1 8, 0) (if 3 ≤ v ∧ v ≤ 3 then spSeq (spBE p.2.2.2.2.1 8, 0) ([], 0) else ([], 0)) else (if 3 ≤ v ∧ v ≤ 3 then spSeq (spBE p.2.2.2.2.1 8, 0) ([], 0) else ([], 0)))))
def wGone (v : Int) (t : tGone.den) : List Int × Int := spSeq (spTxt t.1) (spSeq (spArrW (wDone v) t.2.1) ([], 0))
theorem Wri.donep (v : Int) (p : tDone.den) : Wri (wDone v p) (spDoneRowE v p) := (Wri.put _ _).seq ((Wri.put _ _).seq ((Wri.put _ _).seq (Wri.opt v 2 3 p.2.2.2.1 8 (Wri.opt v 3 3 p.2.2.2.2.1 8 Wri.nop))))
theorem Wri.gone (v : Int) (t : tGone.den) : Wri (wGone v t) (spGoneE v t) := (Wri.str _).seq ((Wri.items fun p _ => Wri.donep v p).seq Wri.nop)
abbrev fDone : Fd := fld [112, 97, 114, 116] 10 0 3 [fld [105, 110, 100, 101, 120] 3 0 3 [], fld [99, 111, 100, 101] 2 0 3 [], fld [98, 97, 115, 101] 4 0 3 [], fld [116, 105, 109, 101] 4 2 3 [], fld [115, 116, 97, 114, 116] 4 3 3 []]
abbrev fGone : Fd := fld [116, 111, 112, 105, 99] 10 0 3 [fld [110, 97, 109, 101] 5 0 3 [], fld [112, 97, 114, 116, 115] 9 0 3 [fDone]]
theorem spW_done {v : Int} {p : tDone.den} (hv : 0 ≤ v ∧ v ≤ 3) (h : tDone.wf p) : spW fDone v (spFDone p) = wDone v p := by
  unfold spFDone wDone
  rw [spW_row, spWZ_has (spHas_in hv.1 hv.2), spWZ_has (spHas_in hv.1 hv.2), spWZ_has (spHas_in hv.1 hv.2), spWZ_opt, spWZ_opt, spWZip_nl, spW_num (by decide) (w := 4) rfl (spFits_i32 h.1), spW_num (by decide) (w := 2) rfl (spFits_i16 h.2.1),
    spW_num (by decide) (w := 8) rfl (spFits_i64 _), spW_num (by decide) (w := 8) rfl (spFits_i64 _), spW_num (by decide) (w := 8) rfl (spFits_i64 _)]
  rfl
theorem spW_gone {v : Int} {t : tGone.den} (hv : 0 ≤ v ∧ v ≤ 3) (h : tGone.wf t) : spW fGone v (spFGone t) = wGone v t := by
  unfold spFGone wGone
  rw [spW_row, spWZ_has (spHas_in hv.1 hv.2), spWZ_has (spHas_in hv.1 hv.2), spWZip_nl, spW_text, spW_rows, spArrW_congr fun p hp => spW_done hv (h.2.1.2 p hp)]
def okDone (v : Int) (p : tDone.den) : Bool := (if 2 ≤ v ∧ v ≤ 3 then true else (p.2.2.2.1 == 0)) && (if 3 ≤ v ∧ v ≤ 3 then true else (p.2.2.2.2.1 == 0))
theorem spCut_done {v : Int} {p : tDone.den} (hv : 0 ≤ v ∧ v ≤ 3) : (spCut fDone v (spFDone p)).2 = okDone v p := by
  unfold spFDone okDone
  rw [spCut_row, spCZ_has (spHas_in hv.1 hv.2), spCZ_has (spHas_in hv.1 hv.2), spCZ_has (spHas_in hv.1 hv.2), spCZ_opt, spCZ_opt, spCZ_nil, spCut_leaf (by decide) (by decide), spCut_leaf (by decide) (by decide), spCut_leaf (by decide) (by decide), spCut_leaf (by decide) (by decide), spCut_leaf (by decide) (by decide), spZero_num, spZero_num]
  simp
theorem spCut_gone {v : Int} {t : tGone.den} (hv : 0 ≤ v ∧ v ≤ 3) : (spCut fGone v (spFGone t)).2 = t.2.1.all (okDone v) := by
  unfold spFGone
  rw [spCut_row, spCZ_has (spHas_in hv.1 hv.2), spCZ_has (spHas_in hv.1 hv.2), spCZ_nil, spCut_leaf (by decide) (by decide), spCut_rows]
  simp only [spCut_done hv, Bool.true_and, Bool.and_true]
theorem spWhole_rep (m : tRep.den) : spWholeZ spT0p [ndRows (m.1.map spFGone), ndNum 3 m.2.1] := by
  unfold spT0p spTopics
  refine spWhole_cons ?_ (spWhole_cons (spWhole_leaf (by decide) (by decide)) spWhole_nil)
  refine spWhole_rows _ _ fun t => spWhole_row rfl (spWhole_cons (spWhole_leaf (by decide) (by decide)) (spWhole_cons ?_ spWhole_nil))
  exact spWhole_rows _ _ fun p => spWhole_row rfl (spWhole_cons (spWhole_leaf (by decide) (by decide)) (spWhole_cons (spWhole_leaf (by decide) (by decide)) (spWhole_cons (spWhole_leaf (by decide) (by decide)) (spWhole_cons (spWhole_leaf (by decide) (by decide)) (spWhole_cons (spWhole_leaf (by decide) (by decide)) spWhole_nil)))))
def spLk (e : Int) (ok : Bool) : Int := if e ≠ 0 then e else if ok = false then 7 else 0
theorem spLk_and (e : Int) (a b : Bool) : spLk (spLk e a) b = spLk e (a && b) := by
  unfold spLk
  by_cases he : e = 0
  · subst he; cases a <;> cases b <;> simp
  · simp [he]
theorem spLk_true (e : Int) : spLk e true = e := by unfold spLk; by_cases h : e = 0 <;> simp [h]
theorem spLacks_lk {e v lo hi : Int} {z : Bool} : spLacks v z lo hi (e, (false, ([] : List Int))) = (spLk e (if lo ≤ v ∧ v ≤ hi then true else z), (false, [])) := by
  rw [spLacks_first]
  unfold spLk
  by_cases he : e = 0
  · subst he
    by_cases h : lo ≤ v ∧ v ≤ hi
    · rw [if_pos h]
      have : ¬ (z = false ∧ (v < lo ∨ hi < v)) := by rintro ⟨_, h'⟩; omega
      simp [this]
    · rw [if_neg h]
      have : v < lo ∨ hi < v := by omega
      simp [this]
  · simp [he]
theorem spLackP_lk {e v : Int} {p : tDone.den} : spLackP v p (e, (false, ([] : List Int))) = (spLk e (okDone v p), (false, [])) := by
  unfold spLackP okDone
  rw [spLacks_lk, spLacks_lk, spLk_and]
theorem spLackPs_lk {v : Int} : ∀ {ps : List tDone.den} {e : Int}, spLackPs v ps (e, (false, ([] : List Int))) = (spLk e (ps.all (okDone v)), (false, []))
  | [], e => by rw [List.all_nil, spLk_true]; rfl
  | p :: ps, e => by
    show spLackPs v ps (spLackP v p (e, (false, []))) = _
    rw [spLackP_lk, spLackPs_lk, spLk_and, List.all_cons]
theorem spLackR_lk {v : Int} : ∀ {ts : List tGone.den} {e : Int}, spLackR v ts (e, (false, ([] : List Int))) = (spLk e (ts.all fun t => t.2.1.all (okDone v)), (false, []))
  | [], e => by rw [List.all_nil, spLk_true]; rfl
  | t :: ts, e => by
    show spLackR v ts (spLackPs v t.2.1 (e, (false, []))) = _
    rw [spLackPs_lk, spLackR_lk, spLk_and, List.all_cons]
theorem rep_law {v : Int} {m : tRep.den} (hm : tRep.wf m) : (spDoneO (spRepE v m), spDoneE (spRepE v m)) = spERep v m := by
  unfold spERep spFullRep
  rw [spEW_eq (t := spT0p) rfl spChk_0p rfl (spWhole_rep m)]
  unfold spRepE
  rw [spLacks_lk, spLackR_lk, spLk_and]
  have hitems : Wri (spArrW (wGone v) m.1) (spGonesE v m.1) := Wri.items fun t _ => Wri.gone v t
  have hr := hitems.seq (Wri.opt v 1 3 m.2.1 4 Wri.nop)
  refine (hr.done _).trans ?_
  unfold spNewE
  by_cases hv : v < 0 ∨ 3 < v
  · rw [if_pos hv, if_pos hv]
    exact if_pos (by simp [spLk])
  rw [if_neg hv, if_neg hv]
  have hv' : 0 ≤ v ∧ v ≤ 3 := by omega
  have hcz : (spCZip v spT0p [ndRows (m.1.map spFGone), ndNum 3 m.2.1]).2 = ((m.1.all fun t => t.2.1.all (okDone v)) && (if 1 ≤ v ∧ v ≤ 3 then true else (m.2.1 == 0))) := by
    unfold spT0p spTopics
    rw [spCZ_has (spHas_in hv'.1 hv'.2), spCZ_opt, spCZ_nil, spCut_rows, spCut_leaf (by decide) (by decide), spZero_num, Bool.and_true]
    simp only [spCut_gone hv']
  have hwz : spWZip v spT0p [ndRows (m.1.map spFGone), ndNum 3 m.2.1] = spSeq (spArrW (wGone v) m.1) (if 1 ≤ v ∧ v ≤ 3 then spSeq (spBE m.2.1 4, 0) ([], 0) else ([], 0)) := by
    unfold spT0p spTopics
    rw [spWZ_has (spHas_in hv'.1 hv'.2), spWZ_opt, spWZip_nl, spW_num (by decide) (w := 4) rfl (spFits_i32 hm.2.1), spW_rows, spArrW_congr fun t ht => spW_gone hv' (hm.1.2 t ht)]
    rfl
  rw [hcz, hwz]
  rw [Bool.and_comm]
  by_cases hz : ((m.1.all fun t => t.2.1.all (okDone v)) && (if 1 ≤ v ∧ v ≤ 3 then true else (m.2.1 == 0))) = false
  · rw [hz]
    exact (if_pos (by decide)).trans (by rfl)
  · have hz : ((m.1.all fun t => t.2.1.all (okDone v)) && (if 1 ≤ v ∧ v ≤ 3 then true else (m.2.1 == 0))) = true := by
      cases hx : ((m.1.all fun t => t.2.1.all (okDone v)) && (if 1 ≤ v ∧ v ≤ 3 then true else (m.2.1 == 0))) with
      | true => rfl
      | false => exact absurd hx hz
    rw [hz]
    exact (if_neg (by decide)).trans (if_neg (by decide)).symm
theorem HcOk.weakW {f : Nat} {io : Io} {Fn Fn' : io.In → Tr io.Res} (h : HcOk prog f (ioHd io Fn)) (hF : ∀ d y, io.wf d → (Fn' d).val = some y → (Fn d).val = some y) : HcOk prog f (ioHd io Fn') := by
  intro R args id A K r F G ts cst w vals hid hc Rl hv
  unfold ioHd at hc
  cases h1 : mVs io.args args (List.replicate io.obs.length Option.none) with
  | none => rw [h1] at hc; cases hc
  | some p =>
    obtain ⟨a, β1⟩ := p
    rw [h1] at hc
    simp only at hc
    cases h2 : mOb A.ob io.obs 0 β1 with
    | none => rw [h2] at hc; cases hc
    | some q =>
      obtain ⟨o, β⟩ := q
      rw [h2] at hc
      simp only at hc
      have hn := fun y => hF (a, o) y ⟨mVs_wf h1 hv, mOb_wf Rl.ob h2⟩
      refine h R args id A K r F G ts cst w vals hid ?_ Rl hv
      unfold ioHd
      rw [h1]
      simp only [h2]
      revert hc
      cases nodupB ((owVs (idTmp 0) io.args args 0 ++ owOb A.ob β (bnId io.obs.length 0) io.obs 0).map (·.2)) && (nodupB ((owVs (idTmp 0) io.args args 0 ++ owOb A.ob β (bnId io.obs.length 0) io.obs 0).map (·.1)) && io.ok) with
      | false => intro hc; cases hc
      | true =>
        intro hc
        obtain ⟨out, ho, hk⟩ := Tr.run_val hc
        exact (Tr.val_run (hn out ho)).trans hk
--@alias qReqR leat/produce.EncodeReq
abbrev ioqReqR : Io := ioqReq
def FqReqR (d : ioqReqR.In) : Tr ioqReqR.Res := .ite (spTopicsOk d.1.2.1.2.2.2.1) (.ret (.ret (((spEReq d.1.1 d.1.2.1).1, ((spEReq d.1.1 d.1.2.1).2, ())), ()))) .no
theorem okqReqR : HcOk prog 11 (ioHd ioqReqR FqReqR) := by
  refine HcOk.weakW okqReq ?_
  rintro ⟨⟨(v : Int), m, ⟨⟩⟩, ⟨⟩⟩ y hw hy
  obtain ⟨hg, hy⟩ := Tr.guard hy
  refine (bif_true hg _ _).trans ?_
  rw [← hy]
  have h := req_law (v := v) (m := m) hw.1.2.1 hg
  show some (Out.ret ((spDoneO (spReqE v m), (spDoneE (spReqE v m), ())), ())) = some (Out.ret (((spEReq v m).1, ((spEReq v m).2, ())), ()))
  rw [← h]
--@alias rRepR leat/produce.EncodeRep
abbrev iorRepR : Io := iorRep
def FrRepR (d : iorRepR.In) : Tr iorRepR.Res := .ret (.ret (((spERep d.1.1 d.1.2.1).1, ((spERep d.1.1 d.1.2.1).2, ())), ()))
theorem okrRepR : HcOk prog 16 (ioHd iorRepR FrRepR) := by
  refine HcOk.weakW okrRep ?_
  rintro ⟨⟨(v : Int), m, ⟨⟩⟩, ⟨⟩⟩ y hw hy
  rw [← hy]
  have h := rep_law (v := v) (m := m) hw.1.2.1
  show some (Out.ret ((spDoneO (spRepE v m), (spDoneE (spRepE v m), ())), ())) = some (Out.ret (((spERep v m).1, ((spERep v m).2, ())), ()))
  rw [← h]
end
end Go.Proofs.YtmlgepgcofmpeaaGreat.Sym
namespace Go.Proofs.YtmlgepgcofmpeaaGreat.Sym
open Go
set_option linter.unusedSimpArgs false
set_option linter.unusedVariables false
noncomputable section
abbrev iopalive : Io := ⟨[], [], [], [dB], none⟩
def Fpalive (d : iopalive.In) : Tr iopalive.Res := .ret (.ret ((true, ()), ()))
abbrev cspalive : List (Nat × Hc) := [(11, ioHd ioqReq FqReq), (16, ioHd iorRep FrRep), (20, ioHd iouReq FuReq), (24, ioHd iowRep FwRep), (31, ioHd ioSame FSame)]
def hdpalive : Hd := hdT cspalive
def lppalive : Lp := lpT []
def bodypalive : Option iopalive.Res := bif (spDecReq 0 [0, 1, 0, 0, 0, 10, 0, 0, 0, 0]).snd != 0 then some (Out.ret ((false, ()), ())) else bif (spDecRep 1 [0, 0, 0, 0, 0, 0, 0, 5]).snd != 0 then some (Out.ret ((false, ()), ())) else bif (spDecReq 0 [0, 1, 0, 0, 0, 10, 0, 0, 0, 0]).fst.snd.fst != 1 then some (Out.ret ((false, ()), ())) else bif (spDecReq 0 [0, 1, 0, 0, 0, 10, 0, 0, 0, 0]).fst.snd.snd.fst != 10 then some (Out.ret ((false, ()), ())) else bif (spDecRep 1 [0, 0, 0, 0, 0, 0, 0, 5]).fst.snd.fst != 5 then some (Out.ret ((false, ()), ())) else some (Out.ret ((decide ([0, 0, 0, 0, 0, 0, 0, 5] = [0, 0, 0, 0, 0, 0, 0, 5]), ()), ()))
theorem runpalive : Io.run tt hdpalive dr lppalive iopalive Go.Proofs.Tryz.f8 ((), ()) = bodypalive  := by kernel_rfl
theorem okpalive : HcOk prog 8 (ioHd iopalive Fpalive) := by
  refine fn_sound (n := 400) hm (cs := cspalive) (.cons okqReq (.cons okrRep (.cons okuReq (.cons okwRep (.cons okSame .nil))))) (lp := lppalive) (fn := Go.Proofs.Tryz.f8) (by kernel_rfl) (by kernel_rfl) (by kernel_rfl) iopalive (.done (by kernel_rfl)) Fpalive ?_
  rintro ⟨⟨⟩, ⟨⟩⟩ out hw ho
  cases ho
  refine runpalive.trans ?_
  kernel_rfl
end
end Go.Proofs.YtmlgepgcofmpeaaGreat.Sym
namespace Go.Proofs.YtmlgepgcofmpeaaGreat.Sym
open Go
set_option linter.unusedSimpArgs false
set_option linter.unusedVariables false
noncomputable section
def spSmReq (m : tReq.den) : Bool := spTopicsOk m.2.2.2.1 && (spLensReq m.2.2.2.1 && decide (8 * spWt (spFullReq m) ≤ 4294967296))
def spSmRep (m : tRep.den) : Bool := spLensRep m.1 && decide (8 * spWt (spFullRep m) ≤ 4294967296)
end
end Go.Proofs.YtmlgepgcofmpeaaGreat.Sym
namespace Go.Proofs.YtmlgepgcofmpeaaGreat.Sym
open Go
set_option linter.unusedSimpArgs false
set_option linter.unusedVariables false
noncomputable section
theorem sum_ones {k : IntKind} : ∀ b : List Int, (List.map (dsz (.int k)) b).sum = b.length
  | [] => rfl
  | c :: b => by
    have := sum_ones (k := k) b
    rw [List.map_cons, List.sum_cons, this, List.length_cons]
    show 1 + _ = _
    omega
theorem dsz_bs (b : List Int) : dsz bs b = b.length + 1 := by
  show (List.map (dsz (.int .u8)) b).sum + 1 = _
  rw [sum_ones]
theorem wts_map {T : Ty} {F : T.den → Nd} {c : Nat} : ∀ {l : List T.den}, (∀ x ∈ l, spWt (F x) ≤ c * dsz T x) → spWts (l.map F) ≤ c * (l.map (dsz T)).sum
  | [], _ => by rw [List.map_nil, spWts_nil]; exact Nat.zero_le _
  | x :: l, h => by
    have h1 := h x (by simp)
    have h2 := wts_map (l := l) fun y hy => h y (List.mem_cons_of_mem _ hy)
    rw [List.map_cons, spWts_cons, List.map_cons, List.sum_cons, Nat.mul_add]
    omega
theorem sum_mem {T : Ty} {x : T.den} : ∀ {l : List T.den}, x ∈ l → dsz T x ≤ (l.map (dsz T)).sum
  | y :: l, h => by
    rw [List.map_cons, List.sum_cons]
    rcases List.mem_cons.1 h with rfl | h
    · omega
    · have := sum_mem (l := l) h; omega
theorem sum_len {T : Ty} (hT : ∀ x : T.den, 1 ≤ dsz T x) : ∀ l : List T.den, l.length ≤ (l.map (dsz T)).sum
  | [] => Nat.zero_le _
  | x :: l => by
    have := sum_len hT l
    have := hT x
    rw [List.map_cons, List.sum_cons, List.length_cons]; omega
theorem dsz_part (p : tPart.den) : dsz tPart p = p.2.1.2.1.length + 3 := by
  show 1 + ((1 + (dsz bs p.2.1.2.1 + 0)) + 0) = _
  rw [dsz_bs]; omega
theorem dsz_topic (t : tTopic.den) : dsz tTopic t = (t.1.length + 1) + (((t.2.1.map (dsz tPart)).sum + 1) + 0) := rfl
theorem dsz_req (m : tReq.den) : dsz tReq m = (1 + ((m.1.2.1.length + 1) + 0)) + (1 + (1 + (((m.2.2.2.1.map (dsz tTopic)).sum + 1) + 0))) := rfl
theorem spWt_num (k n : Int) : spWt (ndNum k n) = 1 := by rw [spWt_eq]; show 1 + 0 + spWts [] = 1; rw [spWts_nil]
theorem spWt_text (x : List Int) : spWt (ndText x) = 1 + x.length := by rw [spWt_eq]; show 1 + x.length + spWts [] = _; rw [spWts_nil]; rfl
theorem spWt_ntext (x : tNameT.den) : spWt (ndNText x) = 1 + x.2.1.length := by rw [spWt_eq]; show 1 + x.2.1.length + spWts [] = _; rw [spWts_nil]; rfl
theorem spWt_nbytes (x : tBlobT.den) : spWt (ndNBytes x) = 1 + x.2.1.length := by rw [spWt_eq]; show 1 + x.2.1.length + spWts [] = _; rw [spWts_nil]; rfl
theorem spWt_row (l : List Nd) : spWt (ndRow l) = 1 + spWts l := by rw [spWt_eq]; show 1 + 0 + spWts l = _; omega
theorem spWt_rows (l : List Nd) : spWt (ndRows l) = 1 + spWts l := by rw [spWt_eq]; show 1 + 0 + spWts l = _; omega
theorem wt_part (p : tPart.den) : spWt (spFPart p) ≤ 3 * dsz tPart p := by
  rw [dsz_part]
  show spWt (ndRow [ndNum 3 p.1, ndNBytes p.2.1]) ≤ _
  rw [spWt_row, spWts_cons, spWts_cons, spWts_nil, spWt_num, spWt_nbytes]
  omega
theorem wt_topic (t : tTopic.den) : spWt (spFTopic t) ≤ 3 * dsz tTopic t := by
  have h := wts_map (T := tPart) (F := spFPart) (c := 3) (l := t.2.1) fun p _ => wt_part p
  rw [dsz_topic]
  show spWt (ndRow [ndText t.1, ndRows (t.2.1.map spFPart)]) ≤ _
  rw [spWt_row, spWts_cons, spWts_cons, spWts_nil, spWt_text, spWt_rows]
  omega
theorem req_bulk {m : tReq.den} (h : dsz tReq m ≤ 1048576) : spSmReq m = true := by
  have h1 := wts_map (T := tTopic) (F := spFTopic) (c := 3) (l := m.2.2.2.1) fun t _ => wt_topic t
  have h2 := sum_len (T := tTopic) (fun t => by rw [dsz_topic]; omega) m.2.2.2.1
  rw [dsz_req] at h
  have ht : ∀ t ∈ m.2.2.2.1, dsz tTopic t ≤ 1048576 := fun t ht => by have := sum_mem (T := tTopic) ht; omega
  have hp : ∀ t ∈ m.2.2.2.1, t.2.1.length ≤ 1048576 ∧ ∀ p ∈ t.2.1, p.2.1.2.1.length ≤ 1048576 := fun t htm => by
    have a1 := ht t htm
    rw [dsz_topic] at a1
    have a2 := sum_len (T := tPart) (fun p => by rw [dsz_part]; omega) t.2.1
    refine ⟨by omega, fun p hp => ?_⟩
    have a3 := sum_mem (T := tPart) hp
    rw [dsz_part] at a3
    omega
  unfold spSmReq
  simp only [Bool.and_eq_true, decide_eq_true_eq]
  refine ⟨?_, ?_, ?_⟩
  · refine List.all_eq_true.2 fun t htm => List.all_eq_true.2 fun p hpm => decide_eq_true ?_
    have := (hp t htm).2 p hpm
    omega
  · unfold spLensReq
    simp only [Bool.and_eq_true, decide_eq_true_eq]
    refine ⟨by omega, List.all_eq_true.2 fun t htm => decide_eq_true ?_⟩
    have := (hp t htm).1
    omega
  · unfold spFullReq
    show 8 * spWt (ndRow [ndNText m.1, ndNum 2 m.2.1, ndNum 3 m.2.2.1, ndRows (m.2.2.2.1.map spFTopic)]) ≤ _
    rw [spWt_row, spWts_cons, spWts_cons, spWts_cons, spWts_cons, spWts_nil, spWt_ntext, spWt_num, spWt_num, spWt_rows]
    omega
theorem dsz_done (p : tDone.den) : dsz tDone p = 5 := rfl
theorem dsz_gone (t : tGone.den) : dsz tGone t = (t.1.length + 1) + (((t.2.1.map (dsz tDone)).sum + 1) + 0) := rfl
theorem dsz_rep (m : tRep.den) : dsz tRep m = ((m.1.map (dsz tGone)).sum + 1) + (1 + 0) := rfl
theorem wt_done (p : tDone.den) : spWt (spFDone p) ≤ 3 * dsz tDone p := by
  rw [dsz_done]
  show spWt (ndRow [ndNum 3 p.1, ndNum 2 p.2.1, ndNum 4 p.2.2.1, ndNum 4 p.2.2.2.1, ndNum 4 p.2.2.2.2.1]) ≤ _
  rw [spWt_row, spWts_cons, spWts_cons, spWts_cons, spWts_cons, spWts_cons, spWts_nil, spWt_num, spWt_num, spWt_num, spWt_num, spWt_num]
  omega
theorem wt_gone (t : tGone.den) : spWt (spFGone t) ≤ 3 * dsz tGone t := by
  have h := wts_map (T := tDone) (F := spFDone) (c := 3) (l := t.2.1) fun p _ => wt_done p
  rw [dsz_gone]
  show spWt (ndRow [ndText t.1, ndRows (t.2.1.map spFDone)]) ≤ _
  rw [spWt_row, spWts_cons, spWts_cons, spWts_nil, spWt_text, spWt_rows]
  omega
theorem rep_bulk {m : tRep.den} (h : dsz tRep m ≤ 1048576) : spSmRep m = true := by
  have h1 := wts_map (T := tGone) (F := spFGone) (c := 3) (l := m.1) fun t _ => wt_gone t
  have h2 := sum_len (T := tGone) (fun t => by rw [dsz_gone]; omega) m.1
  rw [dsz_rep] at h
  have hp : ∀ t ∈ m.1, t.2.1.length ≤ 1048576 := fun t htm => by
    have a1 := sum_mem (T := tGone) htm
    rw [dsz_gone] at a1
    have a2 := sum_len (T := tDone) (fun p => by rw [dsz_done]; omega) t.2.1
    omega
  unfold spSmRep
  simp only [Bool.and_eq_true, decide_eq_true_eq]
  refine ⟨?_, ?_⟩
  · unfold spLensRep
    simp only [Bool.and_eq_true, decide_eq_true_eq]
    refine ⟨by omega, List.all_eq_true.2 fun t htm => decide_eq_true ?_⟩
    have := hp t htm
    omega
  · unfold spFullRep
    show 8 * spWt (ndRow [ndRows (m.1.map spFGone), ndNum 3 m.2.1]) ≤ _
    rw [spWt_row, spWts_cons, spWts_cons, spWts_nil, spWt_num, spWt_rows]
    omega
end
end Go.Proofs.YtmlgepgcofmpeaaGreat.Sym
namespace Go.Proofs.YtmlgepgcofmpeaaGreat.Sym
open Go
set_option linter.unusedSimpArgs false
set_option linter.unusedVariables false
noncomputable section
theorem foldl_BE (x : Int) : ∀ (n : Nat) (v : Int), (spBE x n).foldl (fun v c => v * 256 + c) v = v * 256 ^ n + x % 256 ^ n
  | 0, v => by simp [spBE]
  | n + 1, v => by
    rw [spBE, List.foldl_cons, foldl_BE x n]
    have h1 : x % 256 ^ (n + 1) = x % 256 ^ n + 256 ^ n * ((x / 256 ^ n) % 256) := by
      have hq : (0 : Int) < 256 ^ n := Int.pow_pos (by decide)
      rw [Int.pow_succ]
      have hx := Int.emod_add_mul_ediv x (256 ^ n)
      have hy := Int.emod_add_mul_ediv (x / 256 ^ n) 256
      have h1 := Int.emod_nonneg x (Int.ne_of_gt hq)
      have h2 := Int.emod_lt_of_pos x hq
      have h3 : 0 ≤ (x / 256 ^ n) % 256 := Int.emod_nonneg _ (by decide)
      have h4 : (x / 256 ^ n) % 256 < 256 := Int.emod_lt_of_pos _ (by decide)
      generalize x % 256 ^ n = r at hx h1 h2 ⊢
      generalize hd : x / 256 ^ n = d at hx hy h3 h4 ⊢
      generalize d % 256 = c at hy h3 h4 ⊢
      generalize d / 256 = e at hy
      generalize (256 : Int) ^ n = q at hq hx h2 ⊢
      refine ((Int.ediv_emod_unique (q := e) (by omega)).2 ⟨?_, ?_, ?_⟩).2
      · rw [← hx, ← hy, Int.mul_add, Int.mul_assoc]; omega
      · have := Int.mul_nonneg (Int.le_of_lt hq) h3; omega
      · have : q * c ≤ q * 255 := Int.mul_le_mul_of_nonneg_left (by omega) (Int.le_of_lt hq); omega
    rw [h1, Int.pow_succ, Int.add_mul, Int.mul_assoc, Int.mul_comm 256 (256 ^ n), Int.mul_comm ((x / 256 ^ n) % 256)]
    omega
theorem spBEv_BE (x : Int) (n : Nat) : spBEv (spBE x n) = x % 256 ^ n := by
  unfold spBEv
  rw [foldl_BE]; omega
theorem wrapBE_i16 {x : Int} (h : inR .i16 x) : IntKind.i16.wrap (spBEv (spBE x 2)) = x := by
  rw [spBEv_BE]
  simp only [inR, IntKind.min, IntKind.max, IntKind.signed, IntKind.bits] at h
  simp at h
  simp [IntKind.wrap, IntKind.min, IntKind.max, IntKind.signed, IntKind.bits]
  omega
theorem wrapBE_i32 {x : Int} (h : inR .i32 x) : IntKind.i32.wrap (spBEv (spBE x 4)) = x := by
  rw [spBEv_BE]
  simp only [inR, IntKind.min, IntKind.max, IntKind.signed, IntKind.bits] at h
  simp at h
  simp [IntKind.wrap, IntKind.min, IntKind.max, IntKind.signed, IntKind.bits]
  omega
theorem wrapBE_i64 {x : Int} (h : inR .i64 x) : IntKind.i64.wrap (spBEv (spBE x 8)) = x := by
  rw [spBEv_BE]
  simp only [inR, IntKind.min, IntKind.max, IntKind.signed, IntKind.bits] at h
  simp at h
  simp [IntKind.wrap, IntKind.min, IntKind.max, IntKind.signed, IntKind.bits]
  omega
structure Rea {α : Type} (b : List Int) (x : α) (r : List Int) (f : DeS → α × DeS) : Prop where
  full : ∀ (p : Nat) (rest : List Int), p ≤ b.length → b.drop p = r ++ rest → f (0, (p : Int)) = (x, (0, ((p + r.length : Nat) : Int)))
  short : ∀ (p : Nat) (t : List Int), p ≤ b.length → t ≠ [] → b.drop p ++ t = r → (f (0, (p : Int))).2.1 = 1
  dead : ∀ s, s.1 ≠ 0 → (f s).2.1 = s.1
theorem drop_len {b r rest : List Int} {p : Nat} (hp : p ≤ b.length) (h : b.drop p = r ++ rest) : p + r.length ≤ b.length ∧ b.drop (p + r.length) = rest := by
  have h1 := congrArg List.length h
  simp only [List.length_drop, List.length_append] at h1
  refine ⟨by omega, ?_⟩
  rw [← List.drop_drop, h, List.drop_left]
theorem Rea.seq {α β γ : Type} {b r1 r2 : List Int} {x : α} {y : β} {f : DeS → α × DeS} {g : DeS → β × DeS} (c : α → β → γ) (hf : Rea b x r1 f) (hg : Rea b y r2 g) :
    Rea b (c x y) (r1 ++ r2) fun s => (c (f s).1 (g (f s).2).1, (g (f s).2).2) where
  full := fun p rest hp h => by
    rw [List.append_assoc] at h
    obtain ⟨h1, h2⟩ := drop_len hp h
    simp only [hf.full p _ hp h, hg.full _ rest h1 h2, List.length_append, Nat.add_assoc]
  short := fun p t hp ht h => by
    by_cases hl : r1.length ≤ (b.drop p).length
    · have h1 : b.drop p = r1 ++ (b.drop p).drop r1.length := by
        have : (b.drop p).take r1.length = r1 := by
          have := congrArg (List.take r1.length) h
          rwa [List.take_append_of_le_length hl, List.take_left] at this
        conv => lhs; rw [← List.take_append_drop r1.length (b.drop p), this]
      obtain ⟨h3, h4⟩ := drop_len hp h1
      rw [h1, List.append_assoc] at h
      have h5 := List.append_cancel_left h
      simp only [hf.full p _ hp h1]
      exact hg.short _ t h3 ht (by rw [h4]; exact h5)
    · have h1 : r1 = b.drop p ++ r1.drop (b.drop p).length := by
        have : r1.take (b.drop p).length = b.drop p := by
          have := congrArg (List.take (b.drop p).length) h
          rw [List.take_left, List.take_append_of_le_length (by omega)] at this
          exact this.symm
        conv => lhs; rw [← List.take_append_drop (b.drop p).length r1, this]
      have h2 := hf.short p (r1.drop (b.drop p).length) hp (by intro e; have := congrArg List.length e; simp only [List.length_drop, List.length_nil] at this hl; omega) h1.symm
      have h3 := hg.dead (f (0, (p : Int))).2 (by rw [h2]; decide)
      exact h3.trans h2
  dead := fun s hs => by
    have h1 := hf.dead s hs
    exact (hg.dead _ (by rw [h1]; exact hs)).trans h1
theorem Rea.nop {α : Type} (b : List Int) (x : α) {f : DeS → α × DeS} (hf : ∀ p : Nat, f (0, (p : Int)) = (x, (0, (p : Int)))) (hd : ∀ s, s.1 ≠ 0 → (f s).2.1 = s.1) : Rea b x [] f where
  full := fun p rest hp h => by rw [hf]; rfl
  short := fun p t hp ht h => absurd (List.append_eq_nil_iff.1 h).2 ht
  dead := hd
theorem Rea.congr {α : Type} {b r : List Int} {x : α} {f g : DeS → α × DeS} (h : Rea b x r f) (e : ∀ s, g s = f s) : Rea b x r g := by
  have : g = f := funext e
  rw [this]; exact h
theorem spDn_dead (k : IntKind) (n : Nat) (b : List Int) {s : DeS} (h : s.1 ≠ 0) : spDn k n b s = (0, s) := by unfold spDn; rw [if_neg h]
theorem Rea.num {b : List Int} {k : IntKind} {n : Nat} {x : Int} (hx : k.wrap (spBEv (spBE x n)) = x) : Rea b x (spBE x n) (spDn k n b) where
  full := fun p rest hp h => by
    obtain ⟨h1, h2⟩ := drop_len hp h
    rw [spBE_len] at h1 ⊢
    unfold spDn
    rw [if_pos rfl]
    have hr : spRd b (p : Int) n = (spBEv (spBE x n), ((p : Int) + n, 0)) := by
      unfold spRd
      rw [if_neg (by omega)]
      have : ((b.drop ((p : Int)).toNat).take n) = spBE x n := by
        rw [Int.toNat_natCast, h]
        have := List.take_left (l₁ := spBE x n) (l₂ := rest)
        rw [spBE_len] at this
        exact this
      rw [this]
    simp only [hr, hx]
    simp
  short := fun p t hp ht h => by
    have hl := congrArg List.length h
    rw [List.length_append, List.length_drop, spBE_len] at hl
    have : 0 < t.length := List.length_pos_iff.2 ht
    unfold spDn
    rw [if_pos rfl]
    unfold spRd
    rw [if_pos (by omega)]
  dead := fun s hs => by rw [spDn_dead _ _ _ hs]
theorem spDTake_dead (b : List Int) (n : Int) {s : DeS} (h : s.1 ≠ 0) : spDTake b n s = ([], s) := by unfold spDTake; rw [if_neg h]
theorem Rea.take {b : List Int} (t : List Int) : Rea b t t (spDTake b t.length) where
  full := fun p rest hp h => by
    obtain ⟨h1, h2⟩ := drop_len hp h
    unfold spDTake
    rw [if_pos rfl, if_neg (by omega)]
    have hr : spTakeB b (p : Int) (t.length : Int) = (t, ((p : Int) + t.length, 0)) := by
      unfold spTakeB
      rw [if_neg (by omega), if_neg (by omega), Int.toNat_natCast, Int.toNat_natCast, h, List.take_left]
    simp only [hr]
    simp
  short := fun p u hp ht h => by
    have hl := congrArg List.length h
    rw [List.length_append, List.length_drop] at hl
    have : 0 < u.length := List.length_pos_iff.2 ht
    unfold spDTake
    rw [if_pos rfl, if_neg (by omega)]
    unfold spTakeB
    rw [if_neg (by omega), if_pos (by omega)]
  dead := fun s hs => by rw [spDTake_dead _ _ hs]
theorem Rea.bind {α β : Type} {b r1 r2 : List Int} {x : α} {y : β} {f : DeS → α × DeS} {g : α → DeS → β × DeS} (hf : Rea b x r1 f) (hg : Rea b y r2 (g x)) (a0 : α) (hz : ∀ s, (f s).2.1 ≠ 0 → (f s).1 = a0) (hd : ∀ s, s.1 ≠ 0 → (g a0 s).2.1 = s.1) :
    Rea b y (r1 ++ r2) fun s => g (f s).1 (f s).2 where
  full := fun p rest hp h => by
    rw [List.append_assoc] at h
    obtain ⟨h1, h2⟩ := drop_len hp h
    simp only [hf.full p _ hp h, hg.full _ rest h1 h2, List.length_append, Nat.add_assoc]
  short := fun p t hp ht h => by
    by_cases hl : r1.length ≤ (b.drop p).length
    · have h1 : b.drop p = r1 ++ (b.drop p).drop r1.length := by
        have : (b.drop p).take r1.length = r1 := by
          have := congrArg (List.take r1.length) h
          rwa [List.take_append_of_le_length hl, List.take_left] at this
        conv => lhs; rw [← List.take_append_drop r1.length (b.drop p), this]
      obtain ⟨h3, h4⟩ := drop_len hp h1
      rw [h1, List.append_assoc] at h
      have h5 := List.append_cancel_left h
      simp only [hf.full p _ hp h1]
      exact hg.short _ t h3 ht (by rw [h4]; exact h5)
    · have h1 : r1 = b.drop p ++ r1.drop (b.drop p).length := by
        have : r1.take (b.drop p).length = b.drop p := by
          have := congrArg (List.take (b.drop p).length) h
          rw [List.take_left, List.take_append_of_le_length (by omega)] at this
          exact this.symm
        conv => lhs; rw [← List.take_append_drop (b.drop p).length r1, this]
      have h2 := hf.short p (r1.drop (b.drop p).length) hp (by intro e; have := congrArg List.length e; simp only [List.length_drop, List.length_nil] at this hl; omega) h1.symm
      have h3 := hd (f (0, (p : Int))).2 (by rw [h2]; decide)
      rw [← hz (0, (p : Int)) (by rw [h2]; decide)] at h3
      exact h3.trans h2
  dead := fun s hs => by
    have h1 := hf.dead s hs
    have h3 := hd (f s).2 (by rw [h1]; exact hs)
    rw [← hz s (by rw [h1]; exact hs)] at h3
    exact h3.trans h1
theorem spUtf_nil : (spUtf []).2 = true := by rfl
theorem spDText_dead (b : List Int) (n : Int) {s : DeS} (h : s.1 ≠ 0) (hn : n ≤ 255) : spDText b n s = ([], s) := by
  have e : spDLong n s = s := by unfold spDLong; rw [if_neg (by omega)]
  unfold spDText
  rw [e, spDTake_dead b n h, if_pos spUtf_nil]
theorem Rea.text {b : List Int} (t : List Int) (hl : t.length ≤ 255) (hu : (spUtf t).2 = true) : Rea b t t (spDText b t.length) := by
  have e : ∀ s, spDLong (t.length : Int) s = s := fun s => by unfold spDLong; rw [if_neg (by omega)]
  have ht := Rea.take (b := b) t
  refine ⟨fun p rest hp h => ?_, fun p u hp hu' h => ?_, fun s hs => ?_⟩
  · have h1 := ht.full p rest hp h
    unfold spDText
    rw [e, h1, if_pos hu]
  · have h1 := ht.short p u hp hu' h
    unfold spDText
    rw [e]
    have h0 : (spDTake b (t.length : Int) (0, (p : Int))).1 = [] := by
      unfold spDTake at h1 ⊢
      rw [if_pos rfl, if_neg (by omega)] at h1 ⊢
      simp only at h1 ⊢
      unfold spTakeB at h1 ⊢
      split
      · rfl
      · split
        · rfl
        · rename_i h2 h3
          rw [if_neg h2, if_neg h3] at h1
          cases h1
    rw [h0, if_pos spUtf_nil]; exact h1
  · rw [spDText_dead b _ hs (by omega)]
theorem wrap0 (k : IntKind) : k.wrap 0 = 0 := by cases k <;> rfl
theorem spDn_zero (k : IntKind) (n : Nat) (b : List Int) (s : DeS) (h : (spDn k n b s).2.1 ≠ 0) : (spDn k n b s).1 = 0 := by
  unfold spDn at h ⊢
  split
  · rename_i h0
    rw [if_pos h0] at h
    unfold spRd at h ⊢
    split
    · exact wrap0 k
    · rename_i h1
      rw [if_neg h1] at h
      exact absurd rfl h
  · rfl
theorem Rea.str {b : List Int} (t : List Int) (hl : t.length ≤ 255) (hu : (spUtf t).2 = true) : Rea b t (spBE t.length 2 ++ t) (spDStr b) :=
  Rea.bind (g := spDText b) (Rea.num (b := b) (k := .i16) (n := 2) (x := (t.length : Int)) (wrapBE_i16 (by simp [inR, IntKind.min, IntKind.max, IntKind.signed, IntKind.bits]; omega))) (Rea.text t hl hu) 0 (spDn_zero _ _ _) fun s hs => by
    rw [spDText_dead b _ hs (by decide)]
def Rd {α : Type} (b : List Int) (x : α) (w : List Int × Int) (f : DeS → α × DeS) : Prop := w.2 = 0 → Rea b x w.1 f
theorem spSeq_zero {a b : List Int × Int} (h : (spSeq a b).2 = 0) : a.2 = 0 ∧ b.2 = 0 ∧ (spSeq a b).1 = a.1 ++ b.1 := by
  unfold spSeq at h ⊢
  by_cases h1 : a.2 = 0
  · by_cases h2 : b.2 = 0
    · refine ⟨h1, h2, ?_⟩
      simp [h1, h2]
    · simp [h1, h2] at h
  · simp [h1] at h
theorem Rd.seq {α β γ : Type} {b : List Int} {w1 w2 : List Int × Int} {x : α} {y : β} {f : DeS → α × DeS} {g : DeS → β × DeS} (c : α → β → γ) (hf : Rd b x w1 f) (hg : Rd b y w2 g) :
    Rd b (c x y) (spSeq w1 w2) fun s => (c (f s).1 (g (f s).2).1, (g (f s).2).2) := by
  intro h
  obtain ⟨h1, h2, h3⟩ := spSeq_zero h
  rw [h3]
  exact (hf h1).seq c (hg h2)
theorem Rd.num {b : List Int} {k : IntKind} {n : Nat} {x : Int} (hx : k.wrap (spBEv (spBE x n)) = x) : Rd b x (spBE x n, 0) (spDn k n b) := fun _ => Rea.num hx
theorem Rd.nop {α : Type} (b : List Int) (x : α) : Rd b x ([], 0) fun s => (x, s) := fun _ => Rea.nop b x (fun p => rfl) fun s _ => rfl
theorem Rd.txt {b : List Int} (t : List Int) : Rd b t (spTxt t) (spDStr b) := by
  intro h
  unfold spTxt at h ⊢
  split at h
  · cases h
  · rename_i h1
    split at h
    · cases h
    · rename_i h2
      rw [if_neg h1, if_neg h2]
      exact Rea.str t (by omega) (by simpa using h1)
theorem Rea.map {α β : Type} {b r : List Int} {x : α} {f : DeS → α × DeS} (c : α → β) (h : Rea b x r f) : Rea b (c x) r fun s => (c (f s).1, (f s).2) :=
  ⟨fun p rest hp hd => by simp only [h.full p rest hp hd], fun p t hp ht hd => h.short p t hp ht hd, fun s hs => h.dead s hs⟩
def nmG (b : List Int) (a : Int) (s : DeS) : tNameT.den × DeS := if a = -1 then ((true, (([] : List Int), ())), s) else ((false, ((spDText b a s).1, ())), (spDText b a s).2)
theorem Rd.nam {b : List Int} (n : tNameT.den) : Rd b n (spNam n) (spDName b) := by
  have e : ∀ s, spDName b s = nmG b (spDn .i16 2 b s).1 (spDn .i16 2 b s).2 := fun s => rfl
  have hd : ∀ s : DeS, s.1 ≠ 0 → (nmG b 0 s).2.1 = s.1 := fun s hs => by
    unfold nmG
    rw [if_neg (by decide), spDText_dead b _ hs (by decide)]
  obtain ⟨z, t, ⟨⟩⟩ := n
  intro hh
  have h : (if z = true then (if t.length = 0 then (spBE (-1) 2, 0) else ([], 70)) else spTxt t : List Int × Int).2 = 0 := hh
  clear hh
  show Rea b _ (if z = true then (if t.length = 0 then (spBE (-1) 2, 0) else ([], 70)) else spTxt t : List Int × Int).1 _
  by_cases hz : z = true
  · rw [if_pos hz] at h ⊢
    by_cases h0 : List.length t = 0
    · rw [if_pos h0] at h ⊢
      have ht : t = [] := List.eq_nil_of_length_eq_zero h0
      subst ht
      subst hz
      have hg : Rea b (true, (([] : List Int), ())) [] (nmG b (-1)) := Rea.nop b _ (fun p => by unfold nmG; rw [if_pos rfl]) fun s hs => by unfold nmG; rw [if_pos rfl]
      have := (Rea.bind (Rea.num (b := b) (k := .i16) (n := 2) (x := -1) (wrapBE_i16 (by simp [inR, IntKind.min, IntKind.max, IntKind.signed, IntKind.bits]))) hg 0 (spDn_zero _ _ _) hd).congr e
      rw [List.append_nil] at this
      exact this
    · rw [if_neg h0] at h
      cases h
  · rw [if_neg hz] at h ⊢
    have hz : z = false := by simpa using hz
    subst hz
    unfold spTxt at h ⊢
    by_cases h1 : (spUtf t).2 = false
    · rw [if_pos h1] at h; cases h
    rw [if_neg h1] at h ⊢
    by_cases h2 : 255 < t.length
    · rw [if_pos h2] at h; cases h
    rw [if_neg h2] at h ⊢
    have hg : Rea b (false, (t, ())) t (nmG b t.length) := ((Rea.text (b := b) t (by omega) (by simpa using h1)).map fun x => (false, (x, ()))).congr fun s => by unfold nmG; rw [if_neg (by omega)]
    exact (Rea.bind (Rea.num (b := b) (k := .i16) (n := 2) (x := (t.length : Int)) (wrapBE_i16 (by simp [inR, IntKind.min, IntKind.max, IntKind.signed, IntKind.bits]; omega))) hg 0 (spDn_zero _ _ _) hd).congr e
def blG (b : List Int) (a : Int) (s : DeS) : tBlobT.den × DeS := if a = -1 then ((true, (([] : List Int), ())), s) else ((false, ((spDTake b a s).1, ())), (spDTake b a s).2)
theorem Rd.blo {b : List Int} (n : tBlobT.den) (hn : n.2.1.length ≤ 2147483647) : Rd b n (spBlo n) (spDBlob b) := by
  have e : ∀ s, spDBlob b s = blG b (spDn .i32 4 b s).1 (spDn .i32 4 b s).2 := fun s => rfl
  have hd : ∀ s : DeS, s.1 ≠ 0 → (blG b 0 s).2.1 = s.1 := fun s hs => by
    unfold blG
    rw [if_neg (by decide), spDTake_dead b _ hs]
  obtain ⟨z, t, ⟨⟩⟩ := n
  have hn : t.length ≤ 2147483647 := hn
  intro hh
  have h : (if z = true then (if t.length = 0 then (spBE (-1) 4, 0) else ([], 70)) else (spBE t.length 4 ++ t, 0) : List Int × Int).2 = 0 := hh
  clear hh
  show Rea b _ (if z = true then (if t.length = 0 then (spBE (-1) 4, 0) else ([], 70)) else (spBE t.length 4 ++ t, 0) : List Int × Int).1 _
  by_cases hz : z = true
  · rw [if_pos hz] at h ⊢
    by_cases h0 : List.length t = 0
    · rw [if_pos h0] at h ⊢
      have ht : t = [] := List.eq_nil_of_length_eq_zero h0
      subst ht
      subst hz
      have hg : Rea b (true, (([] : List Int), ())) [] (blG b (-1)) := Rea.nop b _ (fun p => by unfold blG; rw [if_pos rfl]) fun s hs => by unfold blG; rw [if_pos rfl]
      have := (Rea.bind (Rea.num (b := b) (k := .i32) (n := 4) (x := -1) (wrapBE_i32 (by simp [inR, IntKind.min, IntKind.max, IntKind.signed, IntKind.bits]))) hg 0 (spDn_zero _ _ _) hd).congr e
      rw [List.append_nil] at this
      exact this
    · rw [if_neg h0] at h
      cases h
  · rw [if_neg hz] at h ⊢
    have hz : z = false := by simpa using hz
    subst hz
    have hg : Rea b (false, (t, ())) t (blG b t.length) := ((Rea.take (b := b) t).map fun x => (false, (x, ()))).congr fun s => by unfold blG; rw [if_neg (by omega)]
    exact (Rea.bind (Rea.num (b := b) (k := .i32) (n := 4) (x := (t.length : Int)) (wrapBE_i32 (by simp [inR, IntKind.min, IntKind.max, IntKind.signed, IntKind.bits]; omega))) hg 0 (spDn_zero _ _ _) hd).congr e
theorem Rd.rep {α : Type} {b : List Int} {w : α → List Int × Int} {one : DeS → α × DeS} : ∀ {xs : List α}, (∀ x ∈ xs, Rd b x (w x) one) → Rd b xs (spAll w xs) (spRep one xs.length)
  | [], _ => fun _ => Rea.nop b _ (fun p => rfl) fun s hs => rfl
  | x :: xs, h => by
    intro hz
    have hs := (Rd.seq List.cons (h x (by simp)) (Rd.rep fun y hy => h y (List.mem_cons_of_mem _ hy))) hz
    refine ⟨fun p rest hp hd => ?_, fun p t hp ht hd => ?_, fun s hs => ?_⟩
    · rw [List.length_cons, spRep, if_pos rfl]
      exact hs.full p rest hp hd
    · rw [List.length_cons, spRep, if_pos rfl]
      exact hs.short p t hp ht hd
    · rw [List.length_cons, spRep, if_neg hs]
theorem Rd.list {α : Type} {b : List Int} {w : α → List Int × Int} {one : DeS → α × DeS} {xs : List α} (h : ∀ x ∈ xs, Rd b x (w x) one) : Rd b xs (spArrW w xs) (spList one b) := by
  intro hz
  unfold spArrW at hz ⊢
  by_cases h1 : 16 < xs.length
  · rw [if_pos h1] at hz; cases hz
  rw [if_neg h1] at hz ⊢
  obtain ⟨_, h2, h3⟩ := spSeq_zero hz
  rw [h3]
  have hr := Rd.rep h h2
  have hg : Rea b xs (spAll w xs).1 (fun s => spRep one ((xs.length : Int)).toNat (spLen xs.length s)) := hr.congr fun s => by
    rw [Int.toNat_natCast]
    have : spLen (xs.length : Int) s = s := by
      unfold spLen
      split
      · rw [if_neg (by omega), if_neg (by omega)]
      · rfl
    rw [this]
  exact Rea.bind (g := fun a s => spRep one a.toNat (spLen a s)) (Rea.num (b := b) (k := .i32) (n := 4) (x := (xs.length : Int)) (wrapBE_i32 (by simp [inR, IntKind.min, IntKind.max, IntKind.signed, IntKind.bits]; omega))) hg 0 (spDn_zero _ _ _) fun s hs => by
    show (spLen 0 s).1 = s.1
    unfold spLen
    rw [if_neg hs]
theorem Rd.congr {α : Type} {b : List Int} {x : α} {w : List Int × Int} {f g : DeS → α × DeS} (h : Rd b x w f) (e : ∀ s, g s = f s) : Rd b x w g := fun hz => (h hz).congr e
theorem spDHas_in {v lo hi : Int} (h : lo ≤ v ∧ v ≤ hi) : spDHas v lo hi 0 = true := if_pos ⟨rfl, h⟩
theorem spDHas_out {v lo hi e : Int} (h : ¬ (lo ≤ v ∧ v ≤ hi)) : spDHas v lo hi e = false := if_neg fun h' => h h'.2
theorem spDHas_err {v lo hi e : Int} (h : e ≠ 0) : spDHas v lo hi e = false := if_neg fun h' => h h'.1
theorem Rd.opt {b : List Int} {k : IntKind} {n : Nat} {x v lo hi : Int} (hx : k.wrap (spBEv (spBE x n)) = x) (h0 : ¬ (lo ≤ v ∧ v ≤ hi) → x = 0) : Rd b x (if lo ≤ v ∧ v ≤ hi then (spBE x n, 0) else ([], 0)) (spDHasN k n v lo hi b) := by
  intro _
  by_cases h : lo ≤ v ∧ v ≤ hi
  · rw [if_pos h]
    have hn := Rea.num (b := b) hx
    refine ⟨fun p rest hp hd => ?_, fun p t hp ht hd => ?_, fun s hs => ?_⟩
    · unfold spDHasN
      rw [if_pos (spDHas_in h)]; exact hn.full p rest hp hd
    · unfold spDHasN
      rw [if_pos (spDHas_in h)]; exact hn.short p t hp ht hd
    · unfold spDHasN
      rw [if_neg (by rw [spDHas_err hs]; decide)]
  · rw [if_neg h]
    have hx0 := h0 h
    subst hx0
    refine Rea.nop b _ (fun p => ?_) fun s hs => ?_
    · unfold spDHasN
      rw [if_neg (by rw [spDHas_out h]; decide)]
    · unfold spDHasN
      rw [if_neg (by rw [spDHas_out h]; decide)]
end
end Go.Proofs.YtmlgepgcofmpeaaGreat.Sym
namespace Go.Proofs.YtmlgepgcofmpeaaGreat.Sym
open Go
set_option linter.unusedSimpArgs false
set_option linter.unusedVariables false
noncomputable section
theorem Rd.part {b : List Int} {p : tPart.den} (h : tPart.wf p) (hb : p.2.1.2.1.length ≤ 2147483647) : Rd b p (wPart p) (spDPart b) :=
  (Rd.seq (fun a r => (a, r)) (Rd.num (wrapBE_i32 h.1)) (Rd.seq (fun a r => (a, r)) (Rd.blo p.2.1 hb) (Rd.nop b ()))).congr fun s => by unfold spDPart; rfl
theorem Rd.topic {b : List Int} {t : tTopic.den} (h : tTopic.wf t) (hb : topicOk t = true) : Rd b t (wTopic t) (spDTopic b) :=
  (Rd.seq (fun a r => (a, r)) (Rd.txt t.1) (Rd.seq (fun a r => (a, r)) (Rd.list fun p hp => Rd.part (h.2.1.2 p hp) (of_decide_eq_true (List.all_eq_true.1 hb p hp))) (Rd.nop b ()))).congr fun s => by unfold spDTopic spDParts; rfl
theorem Rd.txn {b : List Int} {n : tNameT.den} {v : Int} (h0 : ¬ (3 ≤ v ∧ v ≤ 3) → n = (false, ([], ()))) : Rd b n (if 3 ≤ v ∧ v ≤ 3 then spNam n else ([], 0)) (spDTxn v b) := by
  by_cases h : 3 ≤ v ∧ v ≤ 3
  · rw [if_pos h]
    intro hz
    have hn := Rd.nam (b := b) n hz
    refine ⟨fun p rest hp hd => ?_, fun p t hp ht hd => ?_, fun s hs => ?_⟩
    · unfold spDTxn; rw [if_pos ⟨rfl, h⟩]; exact hn.full p rest hp hd
    · unfold spDTxn; rw [if_pos ⟨rfl, h⟩]; exact hn.short p t hp ht hd
    · unfold spDTxn; rw [if_neg fun h' => hs h'.1]
  · rw [if_neg h, h0 h]
    intro _
    refine Rea.nop b _ (fun p => ?_) fun s hs => ?_
    · unfold spDTxn; rw [if_neg fun h' => h h'.2]
    · unfold spDTxn; rw [if_neg fun h' => h h'.2]
def wReq (v : Int) (m : tReq.den) : List Int × Int := spSeq (if 3 ≤ v ∧ v ≤ 3 then spNam m.1 else ([], 0)) (spSeq (spBE m.2.1 2, 0) (spSeq (spBE m.2.2.1 4, 0) (spSeq (spArrW wTopic m.2.2.2.1) ([], 0))))
theorem Rd.req {b : List Int} {m : tReq.den} {v : Int} (h : tReq.wf m) (hb : spTopicsOk m.2.2.2.1 = true) (h0 : ¬ (3 ≤ v ∧ v ≤ 3) → m.1 = (false, ([], ()))) : Rd b m (wReq v m) fun s =>
    (((spDTxn v b s).1, ((spDn .i16 2 b (spDTxn v b s).2).1, ((spDn .i32 4 b (spDn .i16 2 b (spDTxn v b s).2).2).1, ((spDTopics b (spDn .i32 4 b (spDn .i16 2 b (spDTxn v b s).2).2).2).1, ())))), (spDTopics b (spDn .i32 4 b (spDn .i16 2 b (spDTxn v b s).2).2).2).2) :=
  (Rd.seq (fun a r => (a, r)) (Rd.txn h0) (Rd.seq (fun a r => (a, r)) (Rd.num (wrapBE_i16 h.2.1)) (Rd.seq (fun a r => (a, r)) (Rd.num (wrapBE_i32 h.2.2.1)) (Rd.seq (fun a r => (a, r)) (Rd.list fun t ht => Rd.topic (h.2.2.2.1.2 t ht) (List.all_eq_true.1 hb t ht)) (Rd.nop b ()))))).congr fun s => by unfold spDTopics; rfl
theorem spSeq_good {a b : List Int × Int} (h : (spSeq a b).2 ≠ 0) : (spSeq a b).1 = [] := by
  unfold spSeq at h ⊢
  split
  · rfl
  · split
    · rfl
    · rename_i h1 h2
      rw [if_neg h1, if_neg h2] at h
      exact absurd rfl h
theorem spSeq_nil (a b : List Int × Int) : spSeq ([], 0) (spSeq a b) = spSeq a b := by
  by_cases h : (spSeq a b).2 = 0
  · have e : spSeq a b = ((spSeq a b).1, 0) := by rw [← h]
    rw [e]; unfold spSeq; simp
  · have := spSeq_good h
    have e : spSeq a b = ([], (spSeq a b).2) := by rw [← this]
    generalize spSeq a b = c at h e ⊢
    rw [e]
    unfold spSeq
    simp only [List.nil_append]
    rw [if_neg (by simp), if_pos h]
theorem req_wrote {v : Int} {m : tReq.den} (hm : tReq.wf m) (h : (spEReq v m).2 = 0) : 0 ≤ v ∧ v ≤ 3 ∧ (¬ (3 ≤ v ∧ v ≤ 3) → m.1 = (false, ([], ()))) ∧ (wReq v m).2 = 0 ∧ (spEReq v m).1 = (wReq v m).1 ∧ (spEReq v m).1.length ≤ 130048 := by
  have hlen : (spEReq v m).1.length ≤ 130048 := by unfold spEReq; exact spEW_len _ _ _ _
  unfold spEReq spFullReq at h hlen ⊢
  rw [spEW_eq (t := spT0q) rfl spChk_0q rfl (spWhole_req m)] at h hlen ⊢
  by_cases hv : v < 0 ∨ 3 < v
  · rw [if_pos hv] at h; cases h
  rw [if_neg hv] at h hlen ⊢
  have hv' : 0 ≤ v ∧ v ≤ 3 := by omega
  have hcz : (spCZip v spT0q [ndNText m.1, ndNum 2 m.2.1, ndNum 3 m.2.2.1, ndRows (m.2.2.2.1.map spFTopic)]).2 = (if 3 ≤ v ∧ v ≤ 3 then true else (m.1.1 == false && decide (m.1.2.1 = []))) := by
    unfold spT0q spTopics
    rw [spCZ_opt, spCZ_has (spHas_in hv'.1 hv'.2), spCZ_has (spHas_in hv'.1 hv'.2), spCZ_has (spHas_in hv'.1 hv'.2), spCZ_nil, spCut_leaf (by decide) (by decide), spCut_leaf (by decide) (by decide), spCut_leaf (by decide) (by decide), spCut_rows, spZero_ntext]
    rw [List.all_eq_true.2 fun p _ => spCut_topic hv']
    simp
  have hwz : spWZip v spT0q [ndNText m.1, ndNum 2 m.2.1, ndNum 3 m.2.2.1, ndRows (m.2.2.2.1.map spFTopic)] = wReq v m := by
    unfold spT0q spTopics wReq
    rw [spWZ_opt, spWZ_has (spHas_in hv'.1 hv'.2), spWZ_has (spHas_in hv'.1 hv'.2), spWZ_has (spHas_in hv'.1 hv'.2), spWZip_nl, spW_ntext, spW_num (by decide) (w := 2) rfl (spFits_i16 hm.2.1), spW_num (by decide) (w := 4) rfl (spFits_i32 hm.2.2.1), spW_rows, spArrW_congr fun t ht => spW_topic hv' (hm.2.2.2.1.2 t ht)]
    by_cases h3 : 3 ≤ v ∧ v ≤ 3
    · rw [if_pos h3, if_pos h3]; rfl
    · rw [if_neg h3, if_neg h3, spSeq_nil]; rfl
  rw [hcz, hwz] at h hlen ⊢
  generalize hz : (if 3 ≤ v ∧ v ≤ 3 then true else (m.1.1 == false && decide (m.1.2.1 = []))) = z at h hlen ⊢
  cases z with
  | false => rw [if_pos rfl] at h; cases h
  | true =>
    rw [if_neg (by decide)] at h hlen ⊢
    by_cases h1 : (wReq v m).2 = 0
    · rw [if_neg (by simpa using h1)] at h hlen ⊢
      by_cases h2 : 130048 < (wReq v m).1.length
      · rw [if_pos h2] at h; cases h
      · rw [if_neg h2] at h hlen ⊢
        refine ⟨hv'.1, hv'.2, fun h3 => ?_, h1, rfl, hlen⟩
        rw [if_neg h3] at hz
        obtain ⟨⟨a, s, ⟨⟩⟩, r⟩ := m
        simp only [Bool.and_eq_true, beq_iff_eq, decide_eq_true_eq] at hz
        obtain ⟨rfl, rfl⟩ := hz
        rfl
    · rw [if_pos h1] at h
      exact absurd h h1
theorem take_last {r : List Int} (h : r ≠ []) : ∃ t, t ≠ [] ∧ r.take (r.length - 1) ++ t = r := ⟨r.drop (r.length - 1), by
  intro e
  have := congrArg List.length e
  have h1 := List.length_pos_iff.2 h
  simp only [List.length_drop, List.length_nil] at this
  omega, List.take_append_drop _ _⟩
theorem req_back {v : Int} {m : tReq.den} (hm : tReq.wf m) (hb : spTopicsOk m.2.2.2.1 = true) (h : (spEReq v m).2 = 0) :
    spDecReq v (spEReq v m).1 = (m, 0) ∧ (spDecReq v ((spEReq v m).1.take ((spEReq v m).1.length - 1))).2 = 1 := by
  obtain ⟨h1, h2, h3, h4, h5, h6⟩ := req_wrote hm h
  rw [h5] at h6 ⊢
  generalize hr : (wReq v m).1 = r at h6 ⊢
  have hne : r ≠ [] := by
    intro e
    have h7 := spSeq_zero h4
    have h8 := spSeq_zero h7.2.1
    have := h7.2.2
    rw [h8.2.2] at this
    have hl := congrArg List.length this
    have hl' : (wReq v m).1.length = 0 := by rw [hr, e]; rfl
    unfold wReq at hl'
    rw [hl'] at hl
    simp only [List.length_append, spBE_len] at hl
    omega
  refine ⟨?_, ?_⟩
  · have key := (Rd.req (b := r) hm hb h3 h4).full 0 [] (Nat.zero_le _) (by rw [hr]; simp)
    have key : spDReqB v r = (m, (0, ((0 + (wReq v m).1.length : Nat) : Int))) := key
    rw [hr] at key
    unfold spDecReq
    rw [if_pos ⟨h1, h2, by omega⟩, key]
    have he : spDEnd r (0, ((0 + r.length : Nat) : Int)) = 0 := by
      unfold spDEnd spEnd
      rw [if_pos rfl, if_neg (by omega)]
    rw [if_pos he]
  · obtain ⟨t, ht, htr⟩ := take_last hne
    have key := (Rd.req (b := r.take (r.length - 1)) hm hb h3 h4).short 0 t (Nat.zero_le _) ht (by rw [hr]; exact htr)
    have key : (spDReqB v (r.take (r.length - 1))).2.1 = 1 := key
    unfold spDecReq
    rw [if_pos ⟨h1, h2, by rw [List.length_take]; omega⟩]
    have he : spDEnd (r.take (r.length - 1)) (spDReqB v (r.take (r.length - 1))).2 = 1 := by
      unfold spDEnd
      rw [if_neg (by rw [key]; decide)]; exact key
    rw [he, if_neg (by decide)]
theorem Rd.optSeq {β γ : Type} {b : List Int} {k : IntKind} {n : Nat} {x v lo hi : Int} {R : List Int × Int} {y : β} {g : DeS → β × DeS} (c : Int → β → γ) (hx : k.wrap (spBEv (spBE x n)) = x) (h0 : ¬ (lo ≤ v ∧ v ≤ hi) → x = 0) (hg : Rd b y R g) :
    Rd b (c x y) (if lo ≤ v ∧ v ≤ hi then spSeq (spBE x n, 0) R else R) fun s => (c (spDHasN k n v lo hi b s).1 (g (spDHasN k n v lo hi b s).2).1, (g (spDHasN k n v lo hi b s).2).2) := by
  by_cases h : lo ≤ v ∧ v ≤ hi
  · rw [if_pos h]
    have := Rd.seq c (Rd.opt (b := b) (k := k) (n := n) (v := v) (lo := lo) (hi := hi) hx h0) hg
    rw [if_pos h] at this
    exact this
  · rw [if_neg h]
    have hx0 := h0 h
    subst hx0
    intro hz
    have hr := hg hz
    exact (hr.map (c 0)).congr fun s => by
      have : spDHasN k n v lo hi b s = (0, s) := by unfold spDHasN; rw [if_neg (by rw [spDHas_out h]; decide)]
      rw [this]
theorem okDone_iff {v : Int} {p : tDone.den} (h : okDone v p = true) : (¬ (2 ≤ v ∧ v ≤ 3) → p.2.2.2.1 = 0) ∧ (¬ (3 ≤ v ∧ v ≤ 3) → p.2.2.2.2.1 = 0) := by
  unfold okDone at h
  simp only [Bool.and_eq_true] at h
  refine ⟨fun hv => ?_, fun hv => ?_⟩
  · have := h.1; rw [if_neg hv] at this; simpa using this
  · have := h.2; rw [if_neg hv] at this; simpa using this
theorem Rd.done {b : List Int} {p : tDone.den} {v : Int} (h : tDone.wf p) (hk : okDone v p = true) : Rd b p (wDone v p) (spDDone v b) :=
  (Rd.seq (fun a r => (a, r)) (Rd.num (wrapBE_i32 h.1)) (Rd.seq (fun a r => (a, r)) (Rd.num (wrapBE_i16 h.2.1)) (Rd.seq (fun a r => (a, r)) (Rd.num (wrapBE_i64 h.2.2.1))
    (Rd.optSeq (fun a r => (a, r)) (wrapBE_i64 h.2.2.2.1) (okDone_iff hk).1 (Rd.optSeq (fun a r => (a, r)) (wrapBE_i64 h.2.2.2.2.1) (okDone_iff hk).2 (Rd.nop b ())))))).congr fun s => by unfold spDDone spD3; rfl
theorem Rd.gone {b : List Int} {t : tGone.den} {v : Int} (h : tGone.wf t) (hk : t.2.1.all (okDone v) = true) : Rd b t (wGone v t) (spDGone v b) :=
  (Rd.seq (fun a r => (a, r)) (Rd.txt t.1) (Rd.seq (fun a r => (a, r)) (Rd.list fun p hp => Rd.done (h.2.1.2 p hp) (List.all_eq_true.1 hk p hp)) (Rd.nop b ()))).congr fun s => by unfold spDGone spDDones; rfl
def wRep (v : Int) (m : tRep.den) : List Int × Int := spSeq (spArrW (wGone v) m.1) (if 1 ≤ v ∧ v ≤ 3 then spSeq (spBE m.2.1 4, 0) ([], 0) else ([], 0))
theorem Rd.rep2 {b : List Int} {m : tRep.den} {v : Int} (h : tRep.wf m) (hk : (m.1.all fun t => t.2.1.all (okDone v)) = true) (h0 : ¬ (1 ≤ v ∧ v ≤ 3) → m.2.1 = 0) : Rd b m (wRep v m) fun s =>
    (((spDGones v b s).1, ((spDHasN .i32 4 v 1 3 b (spDGones v b s).2).1, ())), (spDHasN .i32 4 v 1 3 b (spDGones v b s).2).2) :=
  (Rd.seq (fun a r => (a, r)) (Rd.list fun t ht => Rd.gone (h.1.2 t ht) (List.all_eq_true.1 hk t ht)) (Rd.optSeq (fun a r => (a, r)) (wrapBE_i32 h.2.1) h0 (Rd.nop b ()))).congr fun s => by unfold spDGones; rfl
theorem rep_wrote {v : Int} {m : tRep.den} (hm : tRep.wf m) (h : (spERep v m).2 = 0) : 0 ≤ v ∧ v ≤ 3 ∧ (m.1.all fun t => t.2.1.all (okDone v)) = true ∧ (¬ (1 ≤ v ∧ v ≤ 3) → m.2.1 = 0) ∧ (wRep v m).2 = 0 ∧ (spERep v m).1 = (wRep v m).1 ∧ (spERep v m).1.length ≤ 130048 := by
  have hlen : (spERep v m).1.length ≤ 130048 := by unfold spERep; exact spEW_len _ _ _ _
  unfold spERep spFullRep at h hlen ⊢
  rw [spEW_eq (t := spT0p) rfl spChk_0p rfl (spWhole_rep m)] at h hlen ⊢
  by_cases hv : v < 0 ∨ 3 < v
  · rw [if_pos hv] at h; cases h
  rw [if_neg hv] at h hlen ⊢
  have hv' : 0 ≤ v ∧ v ≤ 3 := by omega
  have hcz : (spCZip v spT0p [ndRows (m.1.map spFGone), ndNum 3 m.2.1]).2 = ((m.1.all fun t => t.2.1.all (okDone v)) && (if 1 ≤ v ∧ v ≤ 3 then true else (m.2.1 == 0))) := by
    unfold spT0p spTopics
    rw [spCZ_has (spHas_in hv'.1 hv'.2), spCZ_opt, spCZ_nil, spCut_rows, spCut_leaf (by decide) (by decide), spZero_num, Bool.and_true]
    simp only [spCut_gone hv']
  have hwz : spWZip v spT0p [ndRows (m.1.map spFGone), ndNum 3 m.2.1] = wRep v m := by
    unfold spT0p spTopics wRep
    rw [spWZ_has (spHas_in hv'.1 hv'.2), spWZ_opt, spWZip_nl, spW_num (by decide) (w := 4) rfl (spFits_i32 hm.2.1), spW_rows, spArrW_congr fun t ht => spW_gone hv' (hm.1.2 t ht)]
    rfl
  rw [hcz, hwz] at h hlen ⊢
  generalize hz : ((m.1.all fun t => t.2.1.all (okDone v)) && (if 1 ≤ v ∧ v ≤ 3 then true else (m.2.1 == 0))) = z at h hlen ⊢
  cases z with
  | false => rw [if_pos rfl] at h; cases h
  | true =>
    rw [if_neg (by decide)] at h hlen ⊢
    rw [Bool.and_eq_true] at hz
    by_cases h1 : (wRep v m).2 = 0
    · rw [if_neg (by simpa using h1)] at h hlen ⊢
      by_cases h2 : 130048 < (wRep v m).1.length
      · rw [if_pos h2] at h; cases h
      · rw [if_neg h2] at h hlen ⊢
        refine ⟨hv'.1, hv'.2, hz.1, fun h3 => ?_, h1, rfl, hlen⟩
        have := hz.2
        rw [if_neg h3] at this
        simpa using this
    · rw [if_pos h1] at h
      exact absurd h h1
theorem spArrW_len {α : Type} {w : α → List Int × Int} {l : List α} (h : (spArrW w l).2 = 0) : 4 ≤ (spArrW w l).1.length := by
  unfold spArrW at h ⊢
  split at h
  · cases h
  · rename_i h1
    rw [if_neg h1, (spSeq_zero h).2.2, List.length_append, spBE_len]; omega
theorem rep_back {v : Int} {m : tRep.den} (hm : tRep.wf m) (h : (spERep v m).2 = 0) :
    spDecRep v (spERep v m).1 = (m, 0) ∧ (spDecRep v ((spERep v m).1.take ((spERep v m).1.length - 1))).2 = 1 := by
  obtain ⟨h1, h2, hk, h3, h4, h5, h6⟩ := rep_wrote hm h
  rw [h5] at h6 ⊢
  generalize hr : (wRep v m).1 = r at h6 ⊢
  have hne : r ≠ [] := by
    intro e
    have h7 := spSeq_zero h4
    have h8 := spArrW_len h7.1
    have := h7.2.2
    have hl := congrArg List.length this
    have hl' : (wRep v m).1.length = 0 := by rw [hr, e]; rfl
    unfold wRep at hl'
    rw [hl'] at hl
    simp only [List.length_append] at hl
    omega
  refine ⟨?_, ?_⟩
  · have key := (Rd.rep2 (b := r) hm hk h3 h4).full 0 [] (Nat.zero_le _) (by rw [hr]; simp)
    have key : spDRepB v r = (m, (0, ((0 + (wRep v m).1.length : Nat) : Int))) := key
    rw [hr] at key
    unfold spDecRep
    rw [if_pos ⟨h1, h2, by omega⟩, key]
    have he : spDEnd r (0, ((0 + r.length : Nat) : Int)) = 0 := by
      unfold spDEnd spEnd
      rw [if_pos rfl, if_neg (by omega)]
    rw [if_pos he]
  · obtain ⟨t, ht, htr⟩ := take_last hne
    have key := (Rd.rep2 (b := r.take (r.length - 1)) hm hk h3 h4).short 0 t (Nat.zero_le _) ht (by rw [hr]; exact htr)
    have key : (spDRepB v (r.take (r.length - 1))).2.1 = 1 := key
    unfold spDecRep
    rw [if_pos ⟨h1, h2, by rw [List.length_take]; omega⟩]
    have he : spDEnd (r.take (r.length - 1)) (spDRepB v (r.take (r.length - 1))).2 = 1 := by
      unfold spDEnd
      rw [if_neg (by rw [key]; decide)]; exact key
    rw [he, if_neg (by decide)]
end
end Go.Proofs.YtmlgepgcofmpeaaGreat.Sym
namespace Go.Proofs.YtmlgepgcofmpeaaGreat.Sym
open Go
set_option linter.unusedSimpArgs false
set_option linter.unusedVariables false
noncomputable section
theorem spEW_nil {k : Int} {r : Bool} {v : Int} {n : Nd} (h : (spEW k r v n).2 ≠ 0) : (spEW k r v n).1 = [] := by
  unfold spEW spEnc at h ⊢
  repeat' (split; · rfl)
  repeat' split
  all_goals first | rfl | (simp_all; done)
theorem cut_last {b : List Int} (h : b.length ≤ 130048) : List.drop (Int.toNat 0) (List.take (IntKind.i64.wrap ((b.length : Int) - 1)).toNat b) = b.take (b.length - 1) := by
  rw [wrap_i64 (n := (b.length : Int) - 1) (by omega) (by omega)]
  have : ((b.length : Int) - 1).toNat = b.length - 1 := by omega
  rw [this]; rfl
abbrev iopBack : Io := ⟨[dI, .dat tReq true false, .dat tRep true false], [], [], [dB], none⟩
def FpBack (d : iopBack.In) : Tr iopBack.Res := .ite (spSmReq d.1.2.1 && spSmRep d.1.2.2.1) (.ret (.ret ((true, ()), ()))) .no
abbrev cspBack : List (Nat × Hc) := [(8, ioHd iopalive Fpalive), (9, ioHd iozTwinReq FzTwinReq), (10, ioHd iozEncReq FzEncReq), (11, ioHd ioqReqR FqReqR), (20, ioHd iouReq FuReq), (26, ioHd ioPiece FPiece), (12, ioHd iozAlikeReq FzAlikeReq), (14, ioHd iozTwinRep FzTwinRep), (15, ioHd iozEncRep FzEncRep), (16, ioHd iorRepR FrRepR), (24, ioHd iowRep FwRep), (17, ioHd iozAlikeRep FzAlikeRep)]
def hdpBack : Hd := hdT cspBack
def lppBack : Lp := lpT []
def bodypBack (a0 : Int) (a1 : Bool) (a2 : List Int) (a3 : Int) (a4 : Int) (a5 : List tTopic.den) (a6 : List tGone.den) (a7 : Int) : Option iopBack.Res := bif spLensReq a5 && decide (spWt (spFullReq ((a1, a2, ()), a3, a4, a5, ())) ≤ 4294967296) then bif spTopicsOk a5 then bif (spEReq a0 ((a1, a2, ()), a3, a4, a5, ())).snd != 0 then bif spLensReq a5 && decide (8 * spWt (spFullReq ((a1, a2, ()), a3, a4, a5, ())) ≤ 4294967296) then bif (spEReq a0 ((a1, a2, ()), a3, a4, a5, ())).snd == 0 then some (Out.ret ((false, ()), ())) else bif (↑(spEReq a0 ((a1, a2, ()), a3, a4, a5, ())).fst.length : Int) != 0 then some (Out.ret ((false, ()), ())) else bif spLensRep a6 && decide (spWt (spFullRep (a6, a7, ())) ≤ 4294967296) then bif (spERep a0 (a6, a7, ())).snd != 0 then bif spLensRep a6 && decide (8 * spWt (spFullRep (a6, a7, ())) ≤ 4294967296) then bif (spERep a0 (a6, a7, ())).snd != 0 then some (Out.ret (((↑(spERep a0 (a6, a7, ())).fst.length : Int) == 0, ()), ())) else some (Out.ret ((false, ()), ())) else none else bif decide ((spERep a0 (a6, a7, ())).fst.length ≤ 4294967296) then bif (spDecRep a0 (spERep a0 (a6, a7, ())).fst).snd == 0 then bif (spDecRep a0 (List.drop (Int.toNat 0) (List.take (IntKind.i64.wrap ((↑(spERep a0 (a6, a7, ())).fst.length : Int) - 1)).toNat (spERep a0 (a6, a7, ())).fst))).snd == 1 then bif spLensRep (spDecRep a0 (spERep a0 (a6, a7, ())).fst).fst.fst && spLensRep a6 then some (Out.ret ((spEqT (spDecRep a0 (spERep a0 (a6, a7, ())).fst).fst (a6, a7, ()), ()), ())) else none else some (Out.ret ((false, ()), ())) else some (Out.ret ((false, ()), ())) else none else none else none else bif decide ((spEReq a0 ((a1, a2, ()), a3, a4, a5, ())).fst.length ≤ 4294967296) then bif (spDecReq a0 (spEReq a0 ((a1, a2, ()), a3, a4, a5, ())).fst).snd != 0 then some (Out.ret ((false, ()), ())) else bif (spDecReq a0 (List.drop (Int.toNat 0) (List.take (IntKind.i64.wrap ((↑(spEReq a0 ((a1, a2, ()), a3, a4, a5, ())).fst.length : Int) - 1)).toNat (spEReq a0 ((a1, a2, ()), a3, a4, a5, ())).fst))).snd != 1 then some (Out.ret ((false, ()), ())) else bif spLensReq (spDecReq a0 (spEReq a0 ((a1, a2, ()), a3, a4, a5, ())).fst).fst.snd.snd.snd.fst && spLensReq a5 then bif !spEqT (spDecReq a0 (spEReq a0 ((a1, a2, ()), a3, a4, a5, ())).fst).fst ((a1, a2, ()), a3, a4, a5, ()) then some (Out.ret ((false, ()), ())) else bif spLensRep a6 && decide (spWt (spFullRep (a6, a7, ())) ≤ 4294967296) then bif (spERep a0 (a6, a7, ())).snd != 0 then bif spLensRep a6 && decide (8 * spWt (spFullRep (a6, a7, ())) ≤ 4294967296) then bif (spERep a0 (a6, a7, ())).snd != 0 then some (Out.ret (((↑(spERep a0 (a6, a7, ())).fst.length : Int) == 0, ()), ())) else some (Out.ret ((false, ()), ())) else none else bif decide ((spERep a0 (a6, a7, ())).fst.length ≤ 4294967296) then bif (spDecRep a0 (spERep a0 (a6, a7, ())).fst).snd == 0 then bif (spDecRep a0 (List.drop (Int.toNat 0) (List.take (IntKind.i64.wrap ((↑(spERep a0 (a6, a7, ())).fst.length : Int) - 1)).toNat (spERep a0 (a6, a7, ())).fst))).snd == 1 then bif spLensRep (spDecRep a0 (spERep a0 (a6, a7, ())).fst).fst.fst && spLensRep a6 then some (Out.ret ((spEqT (spDecRep a0 (spERep a0 (a6, a7, ())).fst).fst (a6, a7, ()), ()), ())) else none else some (Out.ret ((false, ()), ())) else some (Out.ret ((false, ()), ())) else none else none else none else none else none else none
theorem runpBack (a0 : Int) (a1 : Bool) (a2 : List Int) (a3 : Int) (a4 : Int) (a5 : List tTopic.den) (a6 : List tGone.den) (a7 : Int) : Io.run tt hdpBack dr lppBack iopBack Go.Proofs.Tryz.f6 ((a0, ((a1, a2, ()), a3, a4, a5, ()), (a6, a7, ()), ()), ()) = bodypBack a0 a1 a2 a3 a4 a5 a6 a7 := by kernel_rfl
theorem okpBack : HcOk prog 6 (ioHd iopBack FpBack) := by
  refine fn_sound (n := 400) hm (cs := cspBack) (.cons okpalive (.cons okzTwinReq (.cons okzEncReq (.cons okqReqR (.cons okuReq (.cons okPiece (.cons okzAlikeReq (.cons okzTwinRep (.cons okzEncRep (.cons okrRepR (.cons okwRep (.cons okzAlikeRep .nil)))))))))))) (lp := lppBack) (fn := Go.Proofs.Tryz.f6) (by kernel_rfl) (by kernel_rfl) (by kernel_rfl) iopBack (.done (by kernel_rfl)) FpBack ?_
  rintro ⟨⟨(v : Int), ⟨⟨nz, ns, ⟨⟩⟩, ak, wt, ts, ⟨⟩⟩, ⟨us, th, ⟨⟩⟩, ⟨⟩⟩, ⟨⟩⟩ out hw ho
  obtain ⟨hg, ho⟩ := Tr.guard ho
  unfold spSmReq spSmRep at hg
  simp only [Bool.and_eq_true, decide_eq_true_eq] at hg
  obtain ⟨⟨h1, h2, h3⟩, h4, h5⟩ := hg
  cases ho
  have hmq := hw.1.2.1
  have hmp := hw.1.2.2.1
  refine (runpBack v nz ns ak wt ts us th).trans ?_
  unfold bodypBack
  have h1 : spTopicsOk ts = true := h1
  have h2 : spLensReq ts = true := h2
  have h3 : 8 * spWt (spFullReq ((nz, (ns, ())), (ak, (wt, (ts, ()))))) ≤ 4294967296 := h3
  have h4 : spLensRep us = true := h4
  have h5 : 8 * spWt (spFullRep (us, (th, ()))) ≤ 4294967296 := h5
  have hmq : tReq.wf ((nz, (ns, ())), (ak, (wt, (ts, ())))) := hmq
  have hmp : tRep.wf (us, (th, ())) := hmp
  have e1 : decide (spWt (spFullReq ((nz, (ns, ())), (ak, (wt, (ts, ()))))) ≤ 4294967296) = true := decide_eq_true (by omega)
  have e2 : decide (spWt (spFullRep (us, (th, ()))) ≤ 4294967296) = true := decide_eq_true (by omega)
  have lq : (spEReq v ((nz, (ns, ())), (ak, (wt, (ts, ()))))).1.length ≤ 130048 := by unfold spEReq; exact spEW_len _ _ _ _
  have lp : (spERep v (us, (th, ()))).1.length ≤ 130048 := by unfold spERep; exact spEW_len _ _ _ _
  have nq : (spEReq v ((nz, (ns, ())), (ak, (wt, (ts, ()))))).2 ≠ 0 → (spEReq v ((nz, (ns, ())), (ak, (wt, (ts, ()))))).1 = [] := by unfold spEReq; exact spEW_nil
  have np : (spERep v (us, (th, ()))).2 ≠ 0 → (spERep v (us, (th, ()))).1 = [] := by unfold spERep; exact spEW_nil
  have bq := req_back (v := v) hmq h1
  have bp := rep_back (v := v) hmp
  generalize hQ : ((nz, (ns, ())), (ak, (wt, (ts, ())))) = Q at *
  have hts : ts = Q.2.2.2.1 := by rw [← hQ]
  generalize hP : (us, (th, ())) = R at *
  have hus : us = R.1 := by rw [← hP]
  have tq : spEqT Q Q = true := spEqT_iff.2 rfl
  have tp : spEqT R R = true := spEqT_iff.2 rfl
  rw [cut_last lq, cut_last lp]
  have dq : decide ((spEReq v Q).1.length ≤ 4294967296) = true := decide_eq_true (by omega)
  have dp : decide ((spERep v R).1.length ≤ 4294967296) = true := decide_eq_true (by omega)
  have d3 := decide_eq_true h3
  have d5 := decide_eq_true h5
  by_cases hq : (spEReq v Q).2 = 0
  · obtain ⟨bq1, bq2⟩ := bq hq
    by_cases hp : (spERep v R).2 = 0
    · obtain ⟨bp1, bp2⟩ := bp hp
      rw [hts] at h1 h2 ⊢
      rw [hus] at h4 ⊢
      simp only [h1, h2, h4, e1, e2, d3, d5, dq, dp, hq, hp, bq1, bq2, bp1, bp2, tq, tp, cond_true, cond_false, bne_self_eq_false, Bool.not_true, Bool.and_self, beq_self_eq_true]
    · have hp' : ((spERep v R).2 != 0) = true := by simpa using hp
      rw [hts] at h1 h2 ⊢
      simp only [h1, h2, h4, e1, e2, d3, d5, dq, dp, hq, hp', bq1, bq2, tq, tp, np hp, cond_true, cond_false, bne_self_eq_false, Bool.not_true, Bool.and_self, beq_self_eq_true, List.length_nil]
      rfl
  · have hq' : ((spEReq v Q).2 != 0) = true := by simpa using hq
    have hq2 : ((spEReq v Q).2 == 0) = false := by simpa using hq
    by_cases hp : (spERep v R).2 = 0
    · obtain ⟨bp1, bp2⟩ := bp hp
      rw [hus] at h4 ⊢
      simp only [h1, h2, h4, e1, e2, d3, d5, dq, dp, hq', hq2, hp, bp1, bp2, tq, tp, nq hq, cond_true, cond_false, bne_self_eq_false, Bool.not_true, Bool.and_self, beq_self_eq_true, List.length_nil]
      rfl
    · have hp' : ((spERep v R).2 != 0) = true := by simpa using hp
      simp only [h1, h2, h4, e1, e2, d3, d5, dq, dp, hq', hq2, hp', tq, tp, nq hq, np hp, cond_true, cond_false, bne_self_eq_false, Bool.not_true, Bool.and_self, beq_self_eq_true, List.length_nil]
      rfl
end
end Go.Proofs.YtmlgepgcofmpeaaGreat.Sym
