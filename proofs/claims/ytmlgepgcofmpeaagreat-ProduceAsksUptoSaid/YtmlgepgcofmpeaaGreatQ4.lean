/- Lists that nothing leans on, written over: what a step by hand needs. -/
import Derived.Lib.SliceRun
import Derived.Test.YtmlgepgcofmpeaaGreatQ3

namespace Go.Proofs.YtmlgepgcofmpeaaGreat.Sym
open Go
set_option linter.unusedSimpArgs false
set_option linter.unusedVariables false
noncomputable section

/-- Operations that leave the world alone, in order. -/
def evPs (tt : TT) (kb : Nat) (ops : Array Oper) : List Nat → AS → Option AS
  | [], A => some A
  | i :: is, A => match ops[i]? with
    | none => none
    | some o => match o.guard with
      | some _ => none
      | none => match evP tt (idTmp kb (o.dst.getD 0)) A o.type o.op with
        | some (chk, v) => bif chk then evPs tt kb ops is (A.put o.dst v) else none
        | none => match o.op with
          | .load t x => match opd A x with
            | .one (.eel t' k d i j) => bif t'.size == (tt.at t).size then (match partV tt t (toCs t' d) with
                | some v => evPs tt kb ops is (A.put o.dst v)
                | none => none) else none
            | _ => none
          | _ => none
theorem load_eel_run {P : Program} {tt : TT} (htt : TTok P tt) {G : Gh} {w : World} {a : Act} {x : Operand} {t k i j : Nat} {t' : Ty} {d : t'.den} {v : V} (hz : (t'.size == (tt.at t).size) = true) (hp : partV tt t (toCs t' d) = some v) (hx : Rc G w (.eel t' k d i j) (a.eval x)) :
    ∃ u, Rv G w v u ∧ ∀ o : Oper, o.op = .load t x → (execOp a.eval o).run P w = .ok (.value u) w := by
  obtain ⟨b, cap, eu, _, cur, el, hh, _, _, _, h4⟩ := hx
  obtain ⟨cs, hr, hu⟩ := h4 0 d rfl
  have h2 := toCs_sound t' d cs hr
  obtain ⟨u, hru, hrv⟩ := run_loadVar_at (P := P) (b := b) (o := k * t'.size) htt hp h2 (by rw [h2.length, Rt.len _ _ _ hr]; simpa using hz) (fun j u hj => by
    rw [cell_at hh]
    have := hu j u hj
    simpa using this)
  exact ⟨u, hrv, fun o ho => by simp [execOp, ho, Instr.loadAt, eu, Instr.sureAddr, hru]⟩
theorem evPs_sound {P : Program} {tt : TT} (htt : TTok P tt) {F : Fra} {G : Gh} {cst : List (Array Value)} {w : World} {kb : Nat} {ops : Array Oper} {Q : Exit → Act → World → Prop} :
    ∀ {is rest : List Nat} {A A' : AS} {a : Act}, evPs tt kb ops is A = some A' → Rel F G A a.tmps cst w →
      (∀ a', Rel F G A' a'.tmps cst w → a'.defers = a.defers → wpOps P ops Q rest a' w) → wpOps P ops Q (is ++ rest) a w
  | [], rest, A, A', a, h, R, hK => by
    simp only [evPs, Option.some.injEq] at h
    subst h
    exact hK a R rfl
  | i :: is, rest, A, A', a, h, R, hK => by
    simp only [evPs] at h
    simp only [List.cons_append, wpOps]
    cases ho : ops[i]? with
    | none => rw [ho] at h; cases h
    | some o =>
      rw [ho] at h
      simp only at h ⊢
      cases hg : o.guard with
      | some g => rw [hg] at h; cases h
      | none =>
        rw [hg] at h
        simp only at h
        rw [if_pos (by simp [Region.wanted, hg])]
        refine .inl ?_
        unfold Oper.wp
        have fin : ∀ v u, Rv G w v u → evPs tt kb ops is (A.put o.dst v) = some A' → wpOps P ops Q (is ++ rest) (a.put o.dst u) w := fun v u hv h' =>
          evPs_sound htt h' (R.puts hv o.dst) fun a' R' hd' => hK a' R' (hd'.trans (Act.put_defers' _ _ _))
        split at h
        · rename_i chk v he
          cases chk with
          | false => cases h
          | true =>
            obtain ⟨u, hu, hv⟩ := evP_sound htt (fun x => R.opd x) R.ob o he rfl
            rw [hu, Oper.upon_value]
            exact fin v u hv h
        · split at h
          · rename_i t x hop
            split at h
            · rename_i t' k d i' j e1
              cases hz : t'.size == (tt.at t).size with
              | false => rw [hz] at h; cases h
              | true =>
                rw [hz] at h
                simp only [cond_true] at h
                split at h
                · rename_i v hp
                  have hx := R.opd x
                  rw [e1] at hx
                  obtain ⟨u, hv, hr⟩ := load_eel_run (P := P) htt hz hp hx
                  rw [hr o hop, Oper.upon_value]
                  exact fin v u hv h
                · cases h
            · cases h
          · cases h

/-! ## the first elements written over -/
def spOver (lo : Nat) (zs xs : List Int) : List Int := (zs.drop lo).take xs.length ++ xs.drop (zs.length - lo)
def C.over (i : Nat) (zs : List Int) : C → C
  | .lst e t xs own => .lst e t xs (bif own == i then 0 else own)
  | .ex e t lo xs a b => bif !(a == i) && !(b == i) then .ex e t lo xs a b else
      (if h : t = .int .u8 then (bif (a == i) && (b == i) then .ex e (.int .u8) lo (spOver lo zs (h ▸ xs : List (Ty.int .u8).den)) a b
        else bif Nat.beq lo 0 then .ex e (.int .u8) zs.length (List.drop zs.length (h ▸ xs : List (Ty.int .u8).den)) a b else .top) else .top)
  | .eel t k x a b => bif !(a == i) && !(b == i) then .eel t k x a b else .top
  | c => c
/-- The lists that may lie in that block and must be long enough. -/
def C.longs (i : Nat) : C → List Nat
  | .ex _ _ _ xs a b => bif (!(a == i) && !(b == i)) || ((a == i) && (b == i)) then [] else [xs.length]
  | _ => []
def spT (x : Int) : Int := spXor .u8 x 90
/-- leatref01.Spoil. -/
def spoilHd : Hc := fun _ args _ A K => match args with
  | [.one (.ex _ t lo xs i j)] => bif Nat.beq i j && Nat.beq lo 0 then (if h : t = .int .u8 then
      (bif allGe xs.length (A.coll (C.longs i)) then (A.map (C.over i (List.map spT (h ▸ xs : List (Ty.int .u8).den)))).force fun A => K (.ret (.tup []) (some [])) A else none) else none) else none
  | _ => none

theorem spOver_length (lo : Nat) (zs xs : List Int) : (spOver lo zs xs).length = xs.length := by simp [spOver]; omega
theorem spOver_get (lo : Nat) (zs xs : List Int) (k : Nat) (x : Int) (h : (spOver lo zs xs)[k]? = some x) : (lo + k < zs.length ∧ zs[lo + k]? = some x) ∨ (zs.length ≤ lo + k ∧ xs[k]? = some x) := by
  have hk : k < xs.length := by rw [← spOver_length lo zs xs]; exact (List.getElem?_eq_some_iff.1 h).1
  unfold spOver at h
  rw [List.getElem?_append] at h
  split at h
  · rename_i hlt
    simp at hlt
    rw [List.getElem?_take, if_pos hk, List.getElem?_drop] at h
    exact .inl ⟨by omega, h⟩
  · rename_i hlt
    simp at hlt
    rw [List.getElem?_drop] at h
    refine .inr ⟨by omega, ?_⟩
    rw [← h]
    congr 1
    simp
    omega
theorem spOver_self {zs xs : List Int} (h : zs.length = xs.length) : spOver 0 zs xs = zs := by
  simp [spOver, h]
  rw [← h]; simp

/-- The bytes at the head of the block of i are zs now. -/
theorem Rel.over {F : Fra} {G : Gh} {A : AS} {ts : Array Value} {cst : List (Array Value)} {w w' : World} (R : Rel F G A ts cst w) {b i : Nat} {zs : List Int} {cur cur' : Array Value} {el : TypeId}
    (ho : G.ow i = some (b, 0)) (hwr : Wrote w w' b) (hh : w.heap[b]? = some (.cells cur el (0, 0))) (hh' : w'.heap[b]? = some (.cells cur' el (0, 0))) (hsz : cur'.size = cur.size)
    (hlow : ∀ (k : Nat) (z : Int), zs[k]? = some z → cur'[k]? = some (Value.int .u8 z) ∧ inR .u8 z) (hhigh : ∀ q : Nat, zs.length ≤ q → cur'[q]? = cur[q]?) (hg : allGe zs.length (A.coll (C.longs i)) = true) : Rel F G (A.map (C.over i zs)) ts cst w' := by
  have R0 := R
  rw [← AS.upto_eq (allGe_splits _) hg] at R0
  have e : (A.map (C.upto (C.longs i) (allGe zs.length))).map (C.over i zs) = A.map (C.over i zs) := by rw [AS.upto_eq (allGe_splits _) hg]
  -- by cells
  have hk := (Goes.exWrote R.gh ho hwr).kept
  have key : ∀ c v, Rc G w c v → allGe zs.length (c.longs i) = true → Rc G w' (c.over i zs) v := by
    intro c v hc hl
    have hcell := hc.cell
    have go := Goes.exWrote R.gh ho hwr
    cases c with
    | lst e t xs own =>
      have h0 := hc.beyond R.gh ho hwr hh hh' hsz (fun t2 lo2 xs2 i2 j2 cap2 hform _ => by rcases hform with ⟨h, _⟩ | ⟨_, h⟩ <;> cases h)
      simp only [C.over]
      obtain ⟨A', cap, e0, h1, h2, h3, h4⟩ := h0
      refine ⟨A', cap, e0, h1, h2, h3, ?_⟩
      cases hb : own == i with
      | true => exact .inl rfl
      | false => exact h4
    | ex e t lo xs a b' =>
      simp only [C.over]
      cases hn : !(a == i) && !(b' == i) with
      | true =>
        simp only [cond_true]
        simp only [Bool.and_eq_true, Bool.not_eq_true', beq_eq_false_iff_ne] at hn
        exact hc.goes go (fun _ e => by cases e) (fun j e => by cases e; simp [C.hasOwn, hn.1, hn.2])
      | false =>
        simp only [cond_false]
        split
        · rename_i ht
          subst ht
          simp only
          cases hy : (a == i) && (b' == i) with
          | true =>
            simp only [cond_true]
            simp only [Bool.and_eq_true, beq_iff_eq] at hy
            obtain ⟨rfl, rfl⟩ := hy
            have hlen := spOver_length lo zs xs
            rcases hc with ⟨rfl, rfl, e0⟩ | ⟨bl, cap, e0, ⟨n1, n2, ho2⟩, cu, el2, hb2, h1, h2, h3, h4⟩
            · exact .inl ⟨rfl, List.eq_nil_of_length_eq_zero hlen, e0⟩
            · have hbb : bl = b := by rcases ho2 with h | h <;> (rw [ho] at h; cases h; rfl)
              subst hbb
              rw [hh] at hb2; cases hb2
              have hlen' : List.length (α := (Ty.int .u8).den) (spOver lo zs xs) = xs.length := hlen
              refine .inr ⟨bl, cap, by rw [hlen']; exact e0, ⟨n1, n2, ho2⟩, cur', el, hh', hsz.trans h1, by rw [hlen']; exact h2, h3, fun k x hx => ?_⟩
              rcases spOver_get lo zs xs k x hx with ⟨hlt, hz⟩ | ⟨hge, hxk⟩
              · obtain ⟨g1, g2⟩ := hlow _ _ hz
                refine ⟨[.int .u8 x], ⟨rfl, g2⟩, fun q u hq => ?_⟩
                cases q with
                | succ q => simp at hq
                | zero =>
                  simp only [List.getElem?_cons_zero, Option.some.injEq] at hq
                  subst hq
                  simpa [Ty.size] using g1
              · obtain ⟨c, hcr, hu⟩ := h4 k x hxk
                refine ⟨c, Rt.kept hk _ _ _ hcr, fun q u hq => ?_⟩
                have hqs : q < 1 := by have := Rt.len _ _ _ hcr; rw [show (Ty.int .u8).size = 1 from rfl] at this; rw [← this]; exact (List.getElem?_eq_some_iff.1 hq).1
                have := hu q u hq
                rw [hhigh _ (by simp only [Ty.size]; omega)]
                exact this
          | false =>
            simp only [cond_false]
            simp only [C.longs, hn, hy, Bool.or_self, cond_false, allGe, Bool.and_true, decide_eq_true_eq] at hl
            cases hlo : Nat.beq lo 0 with
            | false => exact hcell
            | true =>
              simp only [cond_true]
              have hlo := Nat.eq_of_beq_eq_true hlo
              subst hlo
              rcases hc with ⟨_, rfl, e0⟩ | ⟨bl, cap, e0, ⟨n1, n2, ho2⟩, cu, el2, hb2, h1, h2, h3, h4⟩
              · have : zs = [] := List.eq_nil_of_length_eq_zero (by simpa using hl)
                subst this
                exact .inl ⟨rfl, rfl, e0⟩
              · have hdl : zs.length + (List.drop zs.length xs).length = 0 + xs.length := by simp; omega
                by_cases hbb : bl = b
                · subst hbb
                  rw [hh] at hb2; cases hb2
                  refine .inr ⟨bl, cap, by rw [hdl]; exact e0, ⟨n1, n2, ho2⟩, cur', el, hh', hsz.trans h1, by rw [hdl]; exact h2, h3, fun k x hx => ?_⟩
                  rw [List.getElem?_drop] at hx
                  obtain ⟨c, hcr, hu⟩ := h4 _ x hx
                  refine ⟨c, Rt.kept hk _ _ _ hcr, fun q u hq => ?_⟩
                  have := hu q u hq
                  rw [hhigh _ (by simp only [Ty.size]; omega)]
                  rw [Nat.zero_add] at this
                  exact this
                · refine .inr ⟨bl, cap, by rw [hdl]; exact e0, ⟨n1, n2, ho2⟩, cu, el2, (hwr.other bl hbb).trans hb2, h1, by rw [hdl]; exact h2, h3, fun k x hx => ?_⟩
                  rw [List.getElem?_drop] at hx
                  obtain ⟨c, hcr, hu⟩ := h4 _ x hx
                  refine ⟨c, Rt.kept hk _ _ _ hcr, fun q u hq => ?_⟩
                  have := hu q u hq
                  rw [Nat.zero_add] at this
                  exact this
        · exact hcell
    | eel t' k' x a b' =>
      simp only [C.over]
      cases hn : !(a == i) && !(b' == i) with
      | true =>
        simp only [cond_true]
        simp only [Bool.and_eq_true, Bool.not_eq_true', beq_eq_false_iff_ne] at hn
        exact hc.goes go (fun _ e => by cases e) (fun j e => by cases e; simp [C.hasOwn, hn.1, hn.2])
      | false => exact hcell
    | ro t x => exact hc.goes go (fun _ e => by cases e) (fun _ _ => rfl)
    | fn f m caps => exact hc.goes go (fun _ e => by cases e) (fun _ _ => rfl)
    | ifc T t x => exact hc.goes go (fun _ e => by cases e) (fun _ _ => rfl)
    | pin v0 t x => exact hc.goes go (fun _ e => by cases e) (fun _ _ => rfl)
    | _ => exact hc
  have R1 := R.exWrote ho hwr (f := fun c => if allGe zs.length (c.longs i) = true then c.over i zs else .top) (fun c v hc => by
    split
    · rename_i h; exact key c v hc h
    · exact hc.cell) (fun x => rfl)
  have e2 : A.map (fun c => if allGe zs.length (c.longs i) = true then c.over i zs else .top) = A.map (C.over i zs) := by
    rw [← e]
    conv => lhs; rw [← AS.upto_eq (allGe_splits _) hg]
    obtain ⟨tm, stk, ob⟩ := A
    have hf : ∀ c : C, (if allGe zs.length ((c.upto (C.longs i) (allGe zs.length)).longs i) = true then (c.upto (C.longs i) (allGe zs.length)).over i zs else .top) = (c.upto (C.longs i) (allGe zs.length)).over i zs := by
      intro c
      unfold C.upto
      cases h : allGe zs.length (c.longs i) with
      | true => simp [h]
      | false => simp [C.longs, allGe, C.over]
    have hcs : ∀ cs : List C, (cs.map (C.upto (C.longs i) (allGe zs.length))).map (fun c => if allGe zs.length (c.longs i) = true then c.over i zs else .top) = (cs.map (C.upto (C.longs i) (allGe zs.length))).map (C.over i zs) := by
      intro cs
      rw [List.map_map, List.map_map]
      exact List.map_congr_left fun c _ => hf c
    have hv : ∀ v : V, (v.map (C.upto (C.longs i) (allGe zs.length))).map (fun c => if allGe zs.length (c.longs i) = true then c.over i zs else .top) = (v.map (C.upto (C.longs i) (allGe zs.length))).map (C.over i zs) := by
      intro v
      cases v with
      | one c => simp only [V.map]; rw [hf c]
      | agg cs => simp only [V.map]; rw [hcs cs]
      | tup ps =>
        simp only [V.map, List.map_map]
        congr 1
        refine List.map_congr_left fun p _ => ?_
        simp only [Function.comp_apply]
        rw [hcs p.2]
      | any => rfl
    simp only [AS.map, List.map_map, AS.mk.injEq]
    refine ⟨List.map_congr_left fun v _ => hv v, List.map_congr_left fun l _ => ?_, List.map_congr_left fun o _ => ?_⟩
    · simp only [Function.comp_apply, List.map_map]
      exact List.map_congr_left fun v _ => hv v
    · cases o with
      | none => rfl
      | some cs => simp only [Function.comp_apply, Option.map_some]; rw [hcs cs]
  rw [e2] at R1
  exact R1

/-! ## a function that is given lists that nothing else leans on, and answers yes or no -/
abbrev ioB : Io := ⟨[], [], [], [.dat .bool false false], none⟩
def Io.runX (tt : TT) (hd : Hd) (okDraw : Dr) (lp : Lp) (io : Io) (fn : Func) (A0 : AS) : Option io.Res :=
  match fn.body with
  | some c => ev tt hd okDraw lp 0 (lrOf fn) c (lrOf fn) [] A0 (io.fin tt fn)
  | none => none
theorem exFn_sound {P : Program} {tt : TT} (htt : TTok P tt) (hm : P.follows .mixedOrders = true) {hd : Hd} (hh : HdOk P hd) {okDraw : Dr} (hdr : DrawOk P tt okDraw) {f : Nat} {fn : Func} (hf : P.funcs[f]? = some fn) {lp : Lp}
    (hlp : LpsOk P 0 lp (tops fn) 0) {r : Bool} {F : Fra} {G : Gh} {A : AS} {ts : Array Value} {cst : List (Array Value)} {w : World} {vals : Array Value} {id : Nat} (hid : ∀ d, F.mu0 (id / 2 + d) = none) (Rl : Rel F G A ts cst w)
    {ow : List (Nat × Nat)} {A0 : AS} (R0 : Rel (inFra G w [] ow) (inGh G [] ow) A0 (vals ++ Array.replicate (fn.ntmps - vals.size) undef) [] w)
    (hrun : Io.runX tt hd okDraw lp ioB fn A0 = some (.ret ((r, ()), ()))) {R' : Type} {K : Oc → AS → Option R'} {rr : R'} (hK : K (.ret (.one (.bool r)) (some [])) (A.map (C.strip (ow.map (·.2)) [])) = some rr) :
    Calls P f vals w fun e w' => ∃ G' A' v u, Rel F G' A' ts cst w' ∧ Rv G' w' v u ∧
      ((e = .returned u ∧ ∃ ks, Unt G G' (inKs ks) w w' ∧ K (.ret v ks) A' = some rr) ∨ (e = .panicked [{ v := u, recovered := false }] ∧ K (.pan v) A' = some rr)) := by
  obtain ⟨c, hc⟩ : ∃ c, fn.body = some c := by
    cases hb : fn.body with
    | none => simp only [Io.runX, hb] at hrun; cases hrun
    | some c => exact ⟨c, rfl⟩
  simp only [Io.runX, hc] at hrun
  have hfc : fnCode fn = c := by unfold fnCode; rw [hc]
  have hkb : ∀ d, (inFra G w [] ow).mu0 (0 + d) = none := fun d => rfl
  have hl := hlp.all
  unfold tops at hl
  rw [hfc] at hl
  refine calls_of_wp hf hc (ev_sound htt hm hh hdr hkb c hl hrun R0 ?_)
  intro ex A' G' a' w' Re hdf hk
  have fin : finRet tt ioB fn A' = some (.ret ((r, ()), ())) → ∃ v, (results fn a'.tmps).run P w' = .ok v w' ∧ (∃ G' A' v_1 u, Rel F G' A' ts cst w' ∧ Rv G' w' v_1 u ∧
      ((Ending.returned v = .returned u ∧ ∃ ks, Unt G G' (inKs ks) w w' ∧ K (.ret v_1 ks) A' = some rr) ∨ (Ending.returned v = .panicked [{ v := u, recovered := false }] ∧ K (.pan v_1) A' = some rr))) := by
    intro hfin
    unfold finRet at hfin
    split at hfin
    · rename_i r0 β g1
      split at hfin
      · rename_i o β' g2
        cases hnd : nodupB ((owVs _root_.id ioB.res (fn.results.toList.map (resV tt A')) 0 ++ owOb A'.ob β' β' (ioB.obs ++ ioB.nobs) 0).map (·.2)) with
        | false => rw [hnd] at hfin; cases hfin
        | true =>
          rw [hnd] at hfin
          simp only [cond_true, Option.some.injEq, Out.ret.injEq, Prod.mk.injEq] at hfin
          obtain ⟨us, hres, hus⟩ := run_results htt Re fn (mVs_ne_any g1)
          obtain ⟨_, g3, _⟩ := mVs_sound g1 hus
          obtain ⟨u, us', rfl, ⟨hrt, _, hone⟩, hnil⟩ := g3 β (.refl _)
          have hnil : us' = [] := hnil
          subst hnil
          have hr0 : r0.1 = r := by rw [hfin.1]
          rw [hr0] at hrt
          have hu : u.cells = #[u] := by
            have := hone rfl
            cases u <;> first | rfl | cases this
          rw [hu] at hrt
          have hub : u = .bool r := by
            have h1 : [u] = [Value.bool r] := hrt
            simpa using h1
          subst hub
          refine ⟨_, hres, ?_⟩
          have hgo := outGh_ok (I := ow.map (·.2)) (OW := []) (base := id / 2) (nn := 0) (mn := fun _ => none) Rl.gh Re.gh (fun p hp => List.mem_map.2 ⟨p, hp, rfl⟩) rfl hid (fun _ _ h => by cases h) (fun _ _ _ h => by cases h)
          have hval : ∀ c v, Rc G w c v → Rc (outGh G G' (ow.map (·.2)) [] (id / 2) 0 fun _ => none) w' (c.strip (ow.map (·.2)) []) v := fun c v hc =>
            outGh_val (base := id / 2) (nn := 0) (mn := fun _ => none) Rl.gh Re.gh (fun p hp => List.mem_map.2 ⟨p, hp, rfl⟩) (OW := []) (fun p hp => by cases hp) hc
          have hheap : ∀ key b, G.mu key = some b → (outGh G G' (ow.map (·.2)) [] (id / 2) 0 fun _ => none).mu key = some b ∧ w'.heap[b]? = w.heap[b]? := fun key b hb =>
            ⟨by simp only [outGh]; rw [if_neg (by omega)]; exact hb, outGh_heap Rl.gh Re.gh hb fun j hj => by
              obtain ⟨k, hk, _⟩ := inGh_mu hj
              simp [Bn.at] at hk⟩
          refine ⟨_, _, .one (.bool r), .bool r, Rl.map hval (strip_itr _ _) hheap hgo, rfl, .inl ⟨rfl, some [], ⟨fun b o hs => ⟨Re.gh.sub b o hs, Re.gh.keep b o hs⟩, fun key b _ hb => hheap key b hb⟩, hK⟩⟩
      · cases hfin
    · cases hfin
  cases ex with
  | normal => exact ⟨hdf, fin hk⟩
  | ret => exact ⟨hdf, fin hk⟩
  | exit i => cases hk
  | panic v =>
    simp only [Io.fin] at hk
    split at hk
    · rename_i x _; exact nomatch x
    · cases hk
end
end Go.Proofs.YtmlgepgcofmpeaaGreat.Sym

/- leatref01.Spoil turns every byte of a list that nothing else leans on, and nothing else. -/
namespace Go.Proofs.YtmlgepgcofmpeaaGreat.Sym
open Go
set_option linter.unusedSimpArgs false
set_option linter.unusedVariables false
noncomputable section

noncomputable abbrev spC : Code := fnCode Go.Proofs.Tryz.f50
noncomputable abbrev spB : Code := (topL Go.Proofs.Tryz.f50 0).2.1
def blkC : Code → Code
  | .block _ b => b
  | c => c
noncomputable abbrev spO0 : Array Oper := regOps (seqL spC)
noncomputable abbrev spO1 : Array Oper := regOps (seqL (seqL spB))
noncomputable abbrev spO3 : Array Oper := regOps (blkC (seqL (seqR spB)))
noncomputable abbrev spO2 : Array Oper := regOps (seqR (seqR spB))
noncomputable abbrev u8T : Ty := .int .u8
noncomputable abbrev anys (n : Nat) : List V := List.replicate n .any
noncomputable abbrev exB (xs : List Int) : V := .one (.ex 5 u8T 0 xs 1 1)
/-- Some are turned. -/
def spTo (k : Nat) (xs : List Int) : List Int := (xs.take k).map spT ++ xs.drop k
theorem spTo_length (k : Nat) (xs : List Int) : (spTo k xs).length = xs.length := by simp [spTo]; omega
theorem spTo_get {k : Nat} {xs : List Int} (h : k < xs.length) : (spTo k xs).getD k 0 = xs[k] := by
  unfold spTo
  rw [List.getD_eq_getElem?_getD, List.getElem?_append_right (by simp; omega)]
  have : k - (List.map spT (List.take k xs)).length = 0 := by simp; omega
  rw [this, List.getElem?_drop]
  simp [h]
theorem spTo_set {k : Nat} {xs : List Int} (h : k < xs.length) : (spTo k xs).set k (spT xs[k]) = spTo (k + 1) xs := by
  unfold spTo
  rw [List.set_append_right _ _ (by simp; omega)]
  have : k - (List.map spT (List.take k xs)).length = 0 := by simp; omega
  rw [this, List.drop_eq_getElem_cons h, List.set_cons_zero, List.take_succ_eq_append_getElem h]
  simp only [List.map_append, List.map_cons, List.map_nil, List.append_assoc, List.singleton_append]

noncomputable def spH (ys : List Int) (k : Int) : AS := ⟨[exB ys, .any, .one (.int .i64 k)] ++ anys 14, [], []⟩
noncomputable abbrev spK (ys : List Int) (k : Int) : Int := ((0 : Nat) : Int) + (ys.length : Int)
noncomputable def spS1 (ys : List Int) (k : Int) : AS := ⟨[exB ys, .any, .one (.int .i64 k), .one (.int .i64 k), exB ys, .one (.int .i64 (spK ys k)), .one (.bool (decide (k < spK ys k)))] ++ anys 10, [], []⟩
theorem sp0 (ys : List Int) : evPs tt 0 spO0 [0] ⟨exB ys :: anys 16, [], []⟩ = some (spH ys 0) := by kernel_rfl
theorem sp1 (ys : List Int) (k : Int) : evPs tt 0 spO1 [0, 1, 2, 3] (spH ys k) = some (spS1 ys k) := by kernel_rfl
noncomputable abbrev spE (ys : List Int) (k : Nat) : V := .one (.eel u8T k (ys.getD k 0) 1 1)
noncomputable def spS3 (ys : List Int) (k : Nat) : AS := ⟨[exB ys, .any, .one (.int .i64 k), .one (.int .i64 k), exB ys, .one (.int .i64 (spK ys k)), .one (.bool (decide ((k : Int) < spK ys k))), .any, .any,
  exB ys, .one (.int .i64 k), exB ys, .one (.int .i64 k), spE ys k, .one (.int .u8 (ys.getD k 0)), .one (.int .u8 (spT (ys.getD k 0))), spE ys k], [], []⟩
theorem sp3 (ys : List Int) (k : Nat) : evPs tt 0 spO3 [0, 1, 2, 3, 4, 5, 6, 7] (spS1 ys k) = bif decide (((0 : Nat) : Int) ≤ (k : Int)) && decide ((k : Int) < ((0 : Nat) : Int) + (ys.length : Int)) then some (spS3 ys k) else none := by
  have h : evPs tt 0 spO3 [0, 1, 2, 3, 4, 5, 6, 7] (spS1 ys k) = bif decide (((0 : Nat) : Int) ≤ (k : Int)) && decide ((k : Int) < ((0 : Nat) : Int) + (ys.length : Int)) then (bif decide (((0 : Nat) : Int) ≤ (k : Int)) && decide ((k : Int) < ((0 : Nat) : Int) + (ys.length : Int)) then some (spS3 ys k) else none) else none := by kernel_rfl
  rw [h]
  cases (decide (((0 : Nat) : Int) ≤ (k : Int)) && decide ((k : Int) < ((0 : Nat) : Int) + (ys.length : Int))) <;> rfl
noncomputable def spM (ys : List Int) (k : Nat) : AS := ((spS3 ys k).map (C.updEx 1 u8T k (spT (ys.getD k 0)))).put none (.tup [])
theorem sp2 (ys : List Int) (k : Nat) : evPs tt 0 spO2 [0, 1, 2] (spM ys k) = some ⟨[exB (spSet 0 k ys (spT (ys.getD k 0))), .any, .one (.int .i64 (IntKind.wrap .i64 ((k : Int) + 1))), .one (.int .i64 k), exB (spSet 0 k ys (spT (ys.getD k 0))), .one (.int .i64 (spK ys k)), .one (.bool (decide ((k : Int) < spK ys k))),
  .one (.int .i64 k), .one (.int .i64 (IntKind.wrap .i64 ((k : Int) + 1))), exB (spSet 0 k ys (spT (ys.getD k 0))), .one (.int .i64 k), exB (spSet 0 k ys (spT (ys.getD k 0))), .one (.int .i64 k), .one .top, .one (.int .u8 (ys.getD k 0)), .one (.int .u8 (spT (ys.getD k 0))), .one .top], [], []⟩ := by kernel_rfl

def spFra (w : World) (b : Nat) : Fra := ⟨w, fun b' => b' = b, fun _ _ => False, fun _ => none⟩
def spGh (b : Nat) : Gh := ⟨fun _ _ => False, fun _ => none, fun j => if j = 1 then some (b, 0) else none⟩
theorem spGh_ok {w : World} {b : Nat} (hb : b < w.heap.size) : GhOk (spFra w b) (spGh b) w where
  mu := fun _ _ h => by cases h
  muI := fun _ _ _ h => by cases h
  ow := fun i b' l h => by
    simp only [spGh] at h
    split at h
    · cases h; exact ⟨fun _ _ h => h, .inr rfl, hb, fun _ h => by cases h⟩
    · cases h
  owI := fun i j b' l l' h h' => by
    simp only [spGh] at h h'
    by_cases e1 : i = 1
    · by_cases e2 : j = 1
      · rw [e1, e2]
      · rw [if_neg e2] at h'; cases h'
    · rw [if_neg e1] at h; cases h
  sB := fun _ _ h => h.elim
  fr := ⟨rfl, rfl, rfl, Nat.le_refl _, fun _ _ _ => rfl⟩
  sub := fun _ _ h => h
  sup := fun _ _ h => h.elim
  keep := fun _ _ h => h.elim
  fix_ := fun _ _ h => by cases h

theorem heap_lt {w : World} {b : Nat} {o : Obj} (h : w.heap[b]? = some o) : b < w.heap.size := (Array.getElem?_eq_some_iff.1 h).1
/-- What it does to the world. -/
theorem spoil_calls (w : World) (xs : List Int) (cap b : Nat) (cur : Array Value) (el : TypeId) (hh : w.heap[b]? = some (.cells cur el (0, 0))) (hcs : cur.size = cap) (hle : xs.length ≤ cap) (hcap : cap ≤ maxLen)
    (hx : ∀ (k : Nat) (x : Int), xs[k]? = some x → inR .u8 x ∧ cur[k]? = some (Value.int .u8 x)) :
    Calls prog 50 #[.slice (some ⟨b, 0, none⟩) xs.length cap] w fun e w' => e = .returned (.tuple #[]) ∧ ∃ cur', Wrote w w' b ∧ w'.heap[b]? = some (.cells cur' el (0, 0)) ∧ cur'.size = cur.size ∧
      (∀ (k : Nat) (z : Int), (xs.map spT)[k]? = some z → cur'[k]? = some (Value.int .u8 z) ∧ inR .u8 z) ∧ ∀ q : Nat, xs.length ≤ q → cur'[q]? = cur[q]? := by
  have htt := ttOf_ok Go.Proofs.Tryz.prog 400
  have hc : (Go.Proofs.Tryz.f50).body = some (.seq (.region 0 spO0 false) (.block 0 (.loop (.seq (.seq (.region 1 spO1 false) (.cond (.tmp 6) .skip (.exit 0))) (.seq (.block 1 (.region 3 spO3 false)) (.region 2 spO2 false)))))) := by kernel_rfl
  refine calls_of_wp (P := prog) (fn := Go.Proofs.Tryz.f50) (by kernel_rfl) hc ?_
  have ho : (spGh b).ow 1 = some (b, 0) := rfl
  have R0 : Rel (spFra w b) (spGh b) ⟨exB xs :: anys 16, [], []⟩ (#[Value.slice (some ⟨b, 0, none⟩) xs.length cap] ++ Array.replicate ((Go.Proofs.Tryz.f50).ntmps - 1) undef) [] w := by
    refine ⟨?_, trivial, fun k cs hk => by simp at hk, spGh_ok (heap_lt hh)⟩
    rw [show (Go.Proofs.Tryz.f50).ntmps - 1 = 16 by kernel_rfl, Array.toList_append, Array.toList_replicate]
    refine ⟨.inr ⟨b, cap, by rw [Nat.zero_add], ⟨by decide, by decide, .inl ho⟩, cur, el, hh, by rw [hcs]; simp [Ty.size], by rw [Nat.zero_add]; exact hle, hcap, fun k x hk => ?_⟩, All2.replicate (R := Rv (spGh b) w) (a := .any) (b := undef) trivial 16⟩
    obtain ⟨h1, h2⟩ := hx k x hk
    refine ⟨[.int .u8 x], ⟨rfl, h1⟩, fun q u hq => ?_⟩
    cases q with
    | succ q => simp at hq
    | zero =>
      simp only [List.getElem?_cons_zero, Option.some.injEq] at hq
      subst hq
      simpa [Ty.size] using h2
  have hxl : (xs.length : Int) ≤ 9223372036854775807 := by rw [maxLen_eq] at hcap; omega
  refine wp_seq (wp_region ?_)
  rw [show List.range spO0.size = [0] ++ [] by kernel_rfl]
  refine evPs_sound htt (sp0 xs) R0 fun a1 R1 hd1 => ?_
  show (Code.block 0 _).wp prog _ a1 w
  refine wp_block (wp_loop_ghost (fun m a' w' => ∃ k, m = xs.length - k ∧ k ≤ xs.length ∧ Rel (spFra w b) (spGh b) (spH (spTo k xs) (k : Int)) a'.tmps [] w' ∧ a'.defers = [] ∧
    ∃ cu : Array Value, Wrote w w' b ∧ w'.heap[b]? = some (.cells cu el (0, 0)) ∧ cu.size = cur.size ∧ ∀ q : Nat, xs.length ≤ q → cu[q]? = cur[q]?) (xs.length - 0) ⟨0, rfl, Nat.zero_le _, R1, hd1, cur, ⟨rfl, rfl, rfl, rfl, fun _ _ => rfl⟩, hh, rfl, fun _ _ => rfl⟩ ?_)
  rintro m a w1 ⟨k, rfl, hk, R, hd, cu, hwr, hcu, hcus, hhigh⟩
  refine wp_seq (wp_seq (wp_region ?_))
  rw [show List.range spO1.size = [0, 1, 2, 3] ++ [] by kernel_rfl]
  refine evPs_sound htt (sp1 _ _) R fun a2 R2 hd2 => ?_
  show (Code.cond _ _ _).wp prog _ a2 w1
  refine wp_cond (t := decide ((k : Int) < spK (spTo k xs) k)) (R2.opd (.tmp 6)) ?_
  have hT := spTo_length k xs
  by_cases hlt : k < xs.length
  · have e : decide ((k : Int) < spK (spTo k xs) k) = true := by simp only [spK, hT, decide_eq_true_eq]; omega
    rw [e]
    refine wp_skip ?_
    show (Code.seq _ _).wp prog _ a2 w1
    refine wp_seq (wp_block (wp_region ?_))
    rw [show List.range spO3.size = [0, 1, 2, 3, 4, 5, 6, 7] ++ [8] by kernel_rfl]
    refine evPs_sound htt ((sp3 _ _).trans (bif_true (by simp only [hT, Bool.and_eq_true, decide_eq_true_eq]; omega) _ _)) R2 fun a3 R3 hd3 => ?_
    obtain ⟨p0, f0, ho8⟩ : ∃ pos after, spO3[8]? = some { dst := none, op := .store 5 (.tmp 16) (.tmp 15), type := 0, pos := pos, after := after, guard := none } := ⟨_, _, rfl⟩
    simp only [wpOps, ho8]
    rw [if_pos (by rfl)]
    refine .inl ?_
    have hel : Rc (spGh b) w1 (.eel u8T k ((spTo k xs).getD k 0) 1 1) (a3.eval (.tmp 16)) := R3.opd (.tmp 16)
    have hyv : Rv (spGh b) w1 (.one (.int .u8 (spT ((spTo k xs).getD k 0)))) (a3.eval (.tmp 15)) := R3.opd (.tmp 15)
    have hyt : Rt (spGh b).S w1 u8T (spT ((spTo k xs).getD k 0)) (a3.eval (.tmp 15)).cells.toList := by
      obtain ⟨e1, e2⟩ := hyv
      rw [e1]
      exact ⟨rfl, e2⟩
    obtain ⟨b', cu1, el1, cu2, g1, g2, g3, g4, g5, g6⟩ := store_eel_run (P := prog) (t := 5) htt (by kernel_rfl) hel hyt
    rw [ho] at g1
    cases g1
    rw [hcu] at g2
    cases g2
    unfold Oper.wp
    rw [g6 _ rfl]
    have hwr2 := Wrote.setRow w1 b cu2
    have R4 : Rel (spFra w b) (spGh b) (spM (spTo k xs) k) a3.tmps [] (w1.setRow b cu2) := R3.updEx ho hwr2 hcu g3 g4 g5 hyt
    simp only [Oper.upon]
    show (Code.region 2 spO2 false).wp prog _ a3 _
    refine wp_region ?_
    rw [show List.range spO2.size = [0, 1, 2] ++ [] by kernel_rfl]
    refine evPs_sound htt (sp2 _ _) R4 fun a4 R5 hd5 => ?_
    refine ⟨xs.length - (k + 1), by omega, k + 1, rfl, hlt, ?_, hd5.trans (hd3.trans (hd2.trans hd)), cu2, ⟨hwr2.os.trans hwr.os, hwr2.tape.trans hwr.tape, hwr2.output.trans hwr.output, hwr2.size.trans hwr.size, fun q hq => (hwr2.other q hq).trans (hwr.other q hq)⟩, g3, ?_, ?_⟩
    · have R6 : Rel (spFra w b) (spGh b) ⟨maskTm 5 0 _, [], []⟩ a4.tmps [] (w1.setRow b cu2) := ⟨maskTm_sound 5 0 R5.tm, R5.stk, R5.ob, R5.gh⟩
      have e1 : spSet 0 k (spTo k xs) (spT ((spTo k xs).getD k 0)) = spTo (k + 1) xs := by
        rw [spTo_get hlt]
        exact spTo_set hlt
      rw [e1] at R6
      have e2 : IntKind.wrap .i64 ((k : Int) + 1) = ((k + 1 : Nat) : Int) := wrap_succ hlt (by rw [maxLen_eq]; omega)
      rw [e2] at R6
      exact R6
    · have := congrArg Array.size g4
      have g5' : k * 1 + 1 ≤ cu.size := g5
      obtain ⟨e1, e2⟩ := hyv
      rw [← this, e1]
      simp [Value.cells, Ty.size]
      omega
    · intro q hq
      obtain ⟨e1, e2⟩ := hyv
      rw [← hhigh q hq, ← g4, e1, ← Array.getElem?_toList, ← Array.getElem?_toList]
      have g5' : k * 1 + 1 ≤ cu.size := g5
      simp only [Value.cells, Ty.size]
      rw [List.append_assoc, List.getElem?_append_right (by simp; omega), List.getElem?_append_right (by simp; omega), List.getElem?_drop]
      congr 1
      simp
      omega
  · have hkl : k = xs.length := by omega
    have e : decide ((k : Int) < spK (spTo k xs) k) = false := by simp only [spK, hT, decide_eq_false_iff_not]; omega
    rw [e]
    refine wp_exit ?_
    simp only [Exit.then, Exit.inBlock, if_true]
    refine ⟨hd2.trans hd, .tuple #[], by kernel_rfl, rfl, cu, hwr, hcu, hcus, fun q z hz => ?_, hhigh⟩
    have he := R.get 0
    have hex : Rc (spGh b) w1 (.ex 5 u8T 0 (spTo k xs) 1 1) (a.tmps.getD 0 undef) := he
    have hz' : (spTo k xs)[q]? = some z := by
      rw [hkl]
      unfold spTo
      rw [List.take_length, List.drop_length, List.append_nil]
      exact hz
    rcases hex with ⟨_, h0, _⟩ | ⟨b', cap', _, ⟨_, _, ho'⟩, cu', el', hcu', _, _, _, h4⟩
    · rw [h0] at hz'; simp at hz'
    · have hbb : b' = b := by rcases ho' with h | h <;> (rw [ho] at h; cases h; rfl)
      subst hbb
      rw [hcu] at hcu'
      cases hcu'
      obtain ⟨c, ⟨rfl, hin⟩, hu⟩ := h4 q z hz'
      have := hu 0 _ rfl
      exact ⟨by simpa [Ty.size] using this, hin⟩
/-- Of a nil list nothing is turned. -/
theorem spoil_nil (w : World) : Calls prog 50 #[.slice none 0 0] w fun e w' => e = .returned (.tuple #[]) ∧ w' = w := by
  have htt := ttOf_ok Go.Proofs.Tryz.prog 400
  have hc : (Go.Proofs.Tryz.f50).body = some (.seq (.region 0 spO0 false) (.block 0 (.loop (.seq (.seq (.region 1 spO1 false) (.cond (.tmp 6) .skip (.exit 0))) (.seq (.block 1 (.region 3 spO3 false)) (.region 2 spO2 false)))))) := by kernel_rfl
  refine calls_of_wp (P := prog) (fn := Go.Proofs.Tryz.f50) (by kernel_rfl) hc ?_
  have hg0 : GhOk (thawFra ⟨fun _ _ => False, fun _ => none, fun _ => none⟩ w) (thawGh ⟨fun _ _ => False, fun _ => none, fun _ => none⟩) w :=
    { mu := fun _ _ h => by cases h
      muI := fun _ _ _ h => by cases h
      ow := fun _ _ _ h => by cases h
      owI := fun _ _ _ _ _ h => by cases h
      sB := fun _ _ h => by rcases h with h | ⟨_, h⟩; exact h.elim; cases h
      fr := ⟨rfl, rfl, rfl, Nat.le_refl _, fun _ _ _ => rfl⟩
      sub := fun _ _ h => h
      sup := fun _ _ h => .inl h
      keep := fun _ _ _ => rfl
      fix_ := fun _ _ h => by cases h }
  have R0 : Rel (thawFra ⟨fun _ _ => False, fun _ => none, fun _ => none⟩ w) (thawGh ⟨fun _ _ => False, fun _ => none, fun _ => none⟩) ⟨exB [] :: anys 16, [], []⟩ (#[Value.slice none 0 0] ++ Array.replicate ((Go.Proofs.Tryz.f50).ntmps - 1) undef) [] w := by
    refine ⟨?_, trivial, fun k cs hk => by simp at hk, hg0⟩
    rw [show (Go.Proofs.Tryz.f50).ntmps - 1 = 16 by kernel_rfl, Array.toList_append, Array.toList_replicate]
    exact ⟨.inl ⟨rfl, rfl, rfl⟩, All2.replicate (a := V.any) (b := undef) trivial 16⟩
  refine wp_seq (wp_region ?_)
  rw [show List.range spO0.size = [0] ++ [] by kernel_rfl]
  refine evPs_sound htt (sp0 []) R0 fun a1 R1 hd1 => ?_
  show (Code.block 0 _).wp prog _ a1 w
  refine wp_block (wp_loop_ghost (fun _ a' w' => Rel (thawFra ⟨fun _ _ => False, fun _ => none, fun _ => none⟩ w) (thawGh ⟨fun _ _ => False, fun _ => none, fun _ => none⟩) (spH [] 0) a'.tmps [] w' ∧ a'.defers = [] ∧ w' = w) 0 ⟨R1, hd1, rfl⟩ ?_)
  rintro m a w1 ⟨R, hd, rfl⟩
  refine wp_seq (wp_seq (wp_region ?_))
  rw [show List.range spO1.size = [0, 1, 2, 3] ++ [] by kernel_rfl]
  refine evPs_sound htt (sp1 _ _) R fun a2 R2 hd2 => ?_
  show (Code.cond _ _ _).wp prog _ a2 _
  refine wp_cond (t := false) (R2.opd (.tmp 6)) ?_
  refine wp_exit ?_
  simp only [Exit.then, Exit.inBlock, if_true]
  exact ⟨hd2.trans hd, .tuple #[], by kernel_rfl, rfl, rfl⟩
theorem Grown.refl (w : World) : Grown w w := ⟨rfl, rfl, rfl, Nat.le_refl _, fun _ _ => rfl⟩
theorem AS.map_noOp {F : Fra} {G : Gh} {A : AS} {ts : Array Value} {cst : List (Array Value)} {w : World} (R : Rel F G A ts cst w) (i : Nat) : Rel F G (A.map (C.over i [])) ts cst w := by
  refine R.map (fun c v h => ?_) (fun _ => rfl) (fun _ _ h => ⟨h, rfl⟩) R.gh
  have hcell := h.cell
  cases c with
  | lst e t xs own =>
    obtain ⟨A', cap, e0, h1, h2, h3, h4⟩ := h
    refine ⟨A', cap, e0, h1, h2, h3, ?_⟩
    cases hb : own == i with
    | true => exact .inl rfl
    | false => exact h4
  | ex e t lo xs a b =>
    simp only [C.over]
    cases hn : !(a == i) && !(b == i) with
    | true => exact h
    | false =>
      simp only [cond_false]
      split
      · rename_i ht
        subst ht
        simp only
        cases hy : (a == i) && (b == i) with
        | true =>
          have : spOver lo [] xs = xs := by simp [spOver]
          rw [this]
          exact h
        | false =>
          simp only [cond_false]
          cases hlo : Nat.beq lo 0 with
          | false => exact hcell
          | true =>
            have hlo := Nat.eq_of_beq_eq_true hlo
            subst hlo
            exact h
      · exact hcell
  | eel t k x a b =>
    simp only [C.over]
    cases hn : !(a == i) && !(b == i) with
    | true => exact h
    | false => exact hcell
  | _ => exact h

theorem okspoil : HcOk prog 50 spoilHd := by
  intro R args id A K r F G ts cst w vals hid hrun Rl hv
  refine ⟨⟨Go.Proofs.Tryz.f50, by kernel_rfl, by kernel_rfl, by kernel_rfl⟩, ?_⟩
  unfold spoilHd at hrun
  split at hrun
  · rename_i e t lo xs i j
    cases hz : Nat.beq i j && Nat.beq lo 0 with
    | false => rw [hz] at hrun; cases hrun
    | true =>
      rw [hz] at hrun
      simp only [cond_true] at hrun
      simp only [Bool.and_eq_true] at hz
      have hij := Nat.eq_of_beq_eq_true hz.1
      have hlo := Nat.eq_of_beq_eq_true hz.2
      subst hij hlo
      split at hrun
      · rename_i ht
        subst ht
        simp only at hrun
        cases hg : allGe xs.length (A.coll (C.longs i)) with
        | false => rw [hg] at hrun; cases hrun
        | true =>
          rw [hg] at hrun
          simp only [cond_true, AS.force_eq] at hrun
          obtain ⟨v, rfl⟩ : ∃ v, vals = #[v] := by
            have := hv.length
            obtain ⟨v, hv⟩ : ∃ v, vals.toList = [v] := by
              cases h : vals.toList with
              | nil => rw [h] at this; cases this
              | cons v l => cases l with
                | nil => exact ⟨v, rfl⟩
                | cons _ _ => rw [h] at this; simp at this
            exact ⟨v, by rw [← Array.toList_inj]; exact hv⟩
          have hx : Rc G w (.ex e (.int .u8) 0 xs i i) v := hv.1
          rcases hx with ⟨_, rfl, rfl⟩ | ⟨b, cap, rfl, ⟨_, _, ho⟩, cur, el, hh, h1, h2, h3, h4⟩
          · refine (spoil_nil w).mono ?_
            rintro e' w' ⟨rfl, rfl⟩
            exact ⟨G, _, _, .tuple #[], AS.map_noOp Rl i, (show Rv G _ (.tup []) (.tuple #[]) from ⟨#[], rfl, trivial⟩), .inl ⟨rfl, some [], .refl _ _ _, hrun⟩⟩
          · have ho : G.ow i = some (b, 0) := by rcases ho with h | h <;> exact h
            rw [Nat.zero_add] at h2 ⊢
            refine (spoil_calls w xs cap b cur el hh (by rw [h1]; simp [Ty.size]) h2 h3 fun k x hk => ?_).mono ?_
            · obtain ⟨c, ⟨rfl, hin⟩, hu⟩ := h4 k x hk
              have := hu 0 _ rfl
              exact ⟨hin, by simpa [Ty.size] using this⟩
            · rintro e' w' ⟨rfl, cur', hwr, hh', hs', hlow, hhigh⟩
              have hl : (List.map spT xs).length = xs.length := List.length_map _
              have R' := Rl.over (zs := List.map spT xs) ho hwr hh hh' hs' hlow (by rw [hl]; exact hhigh) (by rw [hl]; exact hg)
              exact ⟨G, _, _, .tuple #[], R', (show Rv G w' (.tup []) (.tuple #[]) from ⟨#[], rfl, trivial⟩), .inl ⟨rfl, some [], ⟨(Goes.exWrote Rl.gh ho hwr).kept, fun key b1 _ hb1 => ⟨hb1, hwr.other b1 (by rintro rfl; exact (Rl.gh.ow i _ _ ho).2.2.2 key hb1)⟩⟩, hrun⟩⟩
      · cases hrun
  · cases hrun
end
end Go.Proofs.YtmlgepgcofmpeaaGreat.Sym

/- leatref01.Apart: two lists that nothing else leans on are apart. -/
namespace Go.Proofs.YtmlgepgcofmpeaaGreat.Sym
open Go
set_option linter.unusedSimpArgs false
set_option linter.unusedVariables false
noncomputable section

/-! ### leat/leatref01.Turned -/
noncomputable abbrev ioTurned : Io := ⟨[dL, dL], [], [], [dB], none⟩
noncomputable def FTurned (d : ioTurned.In) : Tr ioTurned.Res := .ret (.ret ((decide (d.1.1 = List.map spT d.1.2.1), ()), ()))
noncomputable abbrev csTurned : List (Nat × Hc) := []
noncomputable def hdTurned : Hd := hdT csTurned
noncomputable abbrev loTurned_5 : Lo := ⟨⟨[.one (.hol (.sl 5 (Ty.int IntKind.u8))), .one (.hol (.sl 5 (Ty.int IntKind.u8))), .any, .any, .any, .one (.hol (.int IntKind.i64)), .any, .any, .any, .any, .any, .any, .any, .any, .any, .any, .any, .any, .any, .any, .any, .any, .any, .any, .any, .any, .any], []⟩, [(.ret, ⟨[.any, .any, .any, .any, .one (.hol .bool), .any, .any, .any, .any, .any, .any, .any, .any, .any, .any, .any, .any, .any, .any, .any, .any, .any, .any, .any, .any, .any, .any], []⟩), (.exit 0, ⟨[.any, .any, .any, .any, .any, .any, .any, .any, .any, .any, .any, .any, .any, .any, .any, .any, .any, .any, .any, .any, .any, .any, .any, .any, .any, .any, .any], []⟩)]⟩
-- FTurned_5 : loTurned_5.st.den → Tr (DenX loTurned_5.xs) | ((h2, (h3, (h4, ()))), ())
noncomputable def FTurned_5 (d : loTurned_5.st.den) : Tr (DenX loTurned_5.xs) :=
  .ite (decide (0 ≤ d.1.2.2.1) && decide (d.1.1.length = d.1.2.1.length)) (.ite (decide (d.1.1.drop d.1.2.2.1.toNat = (List.map spT d.1.2.1).drop d.1.2.2.1.toNat)) (.ret (.pan (.ret ((), ((), ()))))) (.ret (.ret ((), ((false, ()), ()))))) .no
noncomputable def lpTurned : Lp := lpT [(5, loHd loTurned_5 FTurned_5)]
noncomputable def stepTurned_5 {R : Type} (h2 : List Int) (h3 : List Int) (h4 : Int) (next : List Int → List Int → Int → Option R) (out : DenX loTurned_5.xs → Option R) : Option R := bif decide (h4 < (↑h2.length : Int)) then bif decide (0 ≤ h4) && decide (h4 < (↑h2.length : Int)) then bif decide (0 ≤ h4) && decide (h4 < (↑h3.length : Int)) then bif h2.getD h4.toNat 0 != spXor IntKind.u8 (h3.getD h4.toNat 0) 90 then out (.ret ((), ((false, ()), ()))) else next (h2) (h3) (IntKind.i64.wrap (h4 + 1)) else none else none else out (.pan (.ret ((), ((), ()))))
noncomputable def itTurned_5 (n : Nat) (h2 : List Int) (h3 : List Int) (h4 : Int) : Option (DenX loTurned_5.xs) := lpN tt hdTurned dr lpTurned 0 Go.Proofs.Tryz.f51 (topL Go.Proofs.Tryz.f51 0) n (loTurned_5.st.mk' ((h2, (h3, (h4, ()))), ())) (decX loTurned_5.xs)
theorem slTurned_5 (n : Nat) (h2 : List Int) (h3 : List Int) (h4 : Int) : itTurned_5 (n + 1) h2 h3 h4 = stepTurned_5 h2 h3 h4 (itTurned_5 n) some := by kernel_rfl
theorem loopTurned (xs ys : List Int) (hl : xs.length = ys.length) (hb : xs.length ≤ maxLen) : ∀ (k i : Nat), i ≤ xs.length → xs.length < i + k →
    itTurned_5 k xs ys i = if xs.drop i = (List.map spT ys).drop i then some (.pan (.ret ((), ((), ())))) else some (.ret ((), ((false, ()), ()))) := by
  intro k
  induction k with
  | zero => intro i h h'; omega
  | succ k ih =>
    intro i hi h
    rw [slTurned_5]
    unfold stepTurned_5
    by_cases h1 : i < xs.length
    · have h2 : i < ys.length := by omega
      have h3 : i < (List.map spT ys).length := by simpa using h2
      rw [wrap_succ h1 hb, ih (i + 1) h1 (by omega)]
      have e : (xs.drop i = (List.map spT ys).drop i) ↔ (xs[i] = spT ys[i] ∧ xs.drop (i + 1) = (List.map spT ys).drop (i + 1)) := by rw [List.drop_eq_getElem_cons h1, List.drop_eq_getElem_cons h3, List.cons.injEq, List.getElem_map]
      have e2 : spXor .u8 ys[i] 90 = spT ys[i] := rfl
      simp only [Int.toNat_natCast, getD_lt h1, getD_lt h2, e2]
      by_cases he : xs[i] = spT ys[i] <;> simp [h1, h2, he, e, cond_eq_ite]
    · rw [List.drop_of_length_le (by omega), List.drop_of_length_le (by simp; omega)]
      simp [h1]
noncomputable def bodyTurned (a0 : List Int) (a1 : List Int) : Option ioTurned.Res := bif (↑a0.length : Int) != (↑a1.length : Int) then some (Out.ret ((false, ()), ())) else (FTurned_5 ((a0, (a1, (0, ()))), ())).run fun y => match y with | .ret ((), ((x9, ()), ())) => (some (Out.ret ((x9, ()), ()))) | .pan (.ret ((), ((), ()))) => (some (Out.ret ((true, ()), ())))
theorem runTurned (a0 : List Int) (a1 : List Int) : Io.run tt hdTurned dr lpTurned ioTurned Go.Proofs.Tryz.f51 ((a0, a1, ()), ()) = bodyTurned a0 a1 := by kernel_rfl
theorem okTurned : HcOk prog 51 (ioHd ioTurned FTurned) := by
  refine fn_sound (n := 400) hm (cs := csTurned) HcsOk.nil (lp := lpTurned) (fn := Go.Proofs.Tryz.f51) (by kernel_rfl) (by kernel_rfl) (by kernel_rfl) ioTurned
    (.step (h0 := loHd loTurned_5 FTurned_5) (by kernel_rfl) (loop_sound (n := 400) hm (cs := csTurned) HcsOk.nil (lp := lpTurned) (fn := Go.Proofs.Tryz.f51) (.done (by kernel_rfl)) loTurned_5 FTurned_5 ?_) (.done (by kernel_rfl))) FTurned ?_
  · rintro ⟨⟨xs, ys, i, ⟨⟩⟩, ⟨⟩⟩ y hw hy
    obtain ⟨hg, hy⟩ := Tr.guard hy
    simp only [Bool.and_eq_true, decide_eq_true_eq] at hg
    obtain ⟨n, rfl⟩ := toNat_of hg.1
    by_cases hn : n ≤ xs.length
    · refine ⟨xs.length + 1, (loopTurned xs ys hg.2 hw.1.1.1 _ n hn (by omega)).trans ?_⟩
      rw [← hy]
      simp only [Tr.val_ite, decide_eq_true_eq, Int.toNat_natCast, Tr.val_ret]
    · refine ⟨1, ?_⟩
      show itTurned_5 (0 + 1) xs ys n = _
      rw [slTurned_5, ← hy]
      unfold stepTurned_5
      have h1 : ¬ n < xs.length := by omega
      simp [Tr.val_ite, Tr.val_ret, h1, List.drop_of_length_le (show xs.length ≤ n by omega), List.drop_of_length_le (show (List.map spT ys).length ≤ n by simp; omega)]
  · rintro ⟨⟨(xs : List Int), (ys : List Int), ⟨⟩⟩, ⟨⟩⟩ out hw ho
    refine (runTurned xs ys).trans ?_
    cases ho
    unfold bodyTurned
    by_cases hl : xs.length = ys.length
    · by_cases he : xs = List.map spT ys
      · subst he; simp [FTurned_5, Tr.run]
      · simp [FTurned_5, Tr.run, hl, he]
    · have : xs ≠ List.map spT ys := fun e => hl (by rw [e]; simp)
      have h2 : (xs.length : Int) ≠ ys.length := by omega
      simp [this, h2, cond_eq_ite]

/-! ### leat/leatref01.Apart -/
--@start InApart stApart
--@over 7 1 1 => 1 15
--@over 14 3 3 => 3 19
noncomputable abbrev ioApart : Io := ioB
noncomputable abbrev InApart : Type := List Int × (List Int × (List Int × Unit))
noncomputable def stApart (d : InApart) : AS := ⟨[.one (.ex 5 u8T 0 d.1 1 1), .one (.ex 5 u8T 0 d.2.1 3 3), .one (.lst 5 u8T d.2.2.1 0)] ++ anys 94, [], []⟩
noncomputable abbrev csApart : List (Nat × Hc) := [(31, pureHd (ioHd ioSame FSame)), (50, spoilHd), (51, pureHd (ioHd ioTurned FTurned))]
noncomputable def hdApart : Hd := hdT csApart
def spMk (c : Nat) : List Int := (List.range 80).map fun i => ((i + c : Nat) : Int)
theorem spMk_len (c : Nat) : (spMk c).length = 80 := by simp [spMk]
theorem spMk_get {c i : Nat} (h : i < 80) : (spMk c)[i]'(by rw [spMk_len]; exact h) = ((i + c : Nat) : Int) := by simp [spMk]
noncomputable abbrev loApart_7 : Lo := ⟨⟨[.one (.exl 5 (Ty.int IntKind.u8) 1 1), .one (.exl 5 (Ty.int IntKind.u8) 3 3), .one (.hol (.sl 5 (Ty.int IntKind.u8))), .any, .any, .any, .any, .one (.exl 5 (Ty.int IntKind.u8) 1 15), .one (.hol (.int IntKind.i64)), .any, .any, .any, .any, .any, .any, .any, .any, .any, .any, .any, .any, .any, .any, .any, .any, .any, .any, .any, .any, .any, .any, .any, .any, .any, .any, .any, .any, .any, .any, .any, .any, .any, .any, .any, .any, .any, .any, .any, .any, .any, .any, .any, .any, .any, .any, .any, .any, .any, .any, .any, .any, .any, .any, .any, .any, .any, .any, .any, .any, .any, .any, .any, .any, .any, .any, .any, .any, .any, .any, .any, .any, .any, .any, .any, .any, .any, .any, .any, .any, .any, .any, .any, .any, .any, .any, .any, .any], []⟩, [(.exit 0, ⟨[.one (.exl 5 (Ty.int IntKind.u8) 1 1), .one (.exl 5 (Ty.int IntKind.u8) 3 3), .one (.hol (.sl 5 (Ty.int IntKind.u8))), .any, .any, .any, .any, .one (.exl 5 (Ty.int IntKind.u8) 1 15), .any, .any, .any, .any, .any, .any, .any, .any, .any, .any, .any, .any, .any, .any, .any, .any, .any, .any, .any, .any, .any, .any, .any, .any, .any, .any, .any, .any, .any, .any, .any, .any, .any, .any, .any, .any, .any, .any, .any, .any, .any, .any, .any, .any, .any, .any, .any, .any, .any, .any, .any, .any, .any, .any, .any, .any, .any, .any, .any, .any, .any, .any, .any, .any, .any, .any, .any, .any, .any, .any, .any, .any, .any, .any, .any, .any, .any, .any, .any, .any, .any, .any, .any, .any, .any, .any, .any, .any, .any], []⟩)]⟩
-- FApart_7 : loApart_7.st.den → Tr (DenX loApart_7.xs) | ((h8, (h9, (h10, (h11, (h12, ()))))), ())
noncomputable abbrev loApart_14 : Lo := ⟨⟨[.one (.exl 5 (Ty.int IntKind.u8) 1 1), .one (.exl 5 (Ty.int IntKind.u8) 3 3), .one (.hol (.sl 5 (Ty.int IntKind.u8))), .any, .any, .any, .any, .one (.exl 5 (Ty.int IntKind.u8) 1 15), .any, .one (.exl 5 (Ty.int IntKind.u8) 3 19), .one (.hol (.int IntKind.i64)), .any, .any, .any, .any, .any, .any, .any, .any, .any, .any, .any, .any, .any, .any, .any, .any, .any, .any, .any, .any, .any, .any, .any, .any, .any, .any, .any, .any, .any, .any, .any, .any, .any, .any, .any, .any, .any, .any, .any, .any, .any, .any, .any, .any, .any, .any, .any, .any, .any, .any, .any, .any, .any, .any, .any, .any, .any, .any, .any, .any, .any, .any, .any, .any, .any, .any, .any, .any, .any, .any, .any, .any, .any, .any, .any, .any, .any, .any, .any, .any, .any, .any, .any, .any, .any, .any], []⟩, [(.exit 2, ⟨[.one (.exl 5 (Ty.int IntKind.u8) 1 1), .one (.exl 5 (Ty.int IntKind.u8) 3 3), .one (.hol (.sl 5 (Ty.int IntKind.u8))), .any, .any, .any, .any, .one (.exl 5 (Ty.int IntKind.u8) 1 15), .any, .one (.exl 5 (Ty.int IntKind.u8) 3 19), .any, .any, .any, .any, .any, .any, .any, .any, .any, .any, .any, .any, .any, .any, .any, .any, .any, .any, .any, .any, .any, .any, .any, .any, .any, .any, .any, .any, .any, .any, .any, .any, .any, .any, .any, .any, .any, .any, .any, .any, .any, .any, .any, .any, .any, .any, .any, .any, .any, .any, .any, .any, .any, .any, .any, .any, .any, .any, .any, .any, .any, .any, .any, .any, .any, .any, .any, .any, .any, .any, .any, .any, .any, .any, .any, .any, .any, .any, .any, .any, .any, .any, .any, .any, .any, .any, .any], []⟩)]⟩
-- FApart_14 : loApart_14.st.den → Tr (DenX loApart_14.xs) | ((h32, (h33, (h34, (h35, (h36, (h37, ())))))), ())
noncomputable abbrev loApart_19 : Lo := ⟨⟨[.one (.exl 5 (Ty.int IntKind.u8) 1 1), .one (.exl 5 (Ty.int IntKind.u8) 3 3), .one (.hol (.sl 5 (Ty.int IntKind.u8))), .any, .any, .any, .any, .one (.exl 5 (Ty.int IntKind.u8) 1 15), .any, .one (.ext 5 (Ty.int IntKind.u8) 3 19), .any, .one (.hol (.int IntKind.i64)), .any, .any, .any, .any, .any, .any, .any, .any, .any, .any, .any, .any, .any, .any, .any, .any, .any, .any, .any, .any, .any, .any, .any, .any, .any, .any, .any, .any, .any, .any, .any, .any, .any, .any, .any, .any, .any, .any, .any, .any, .any, .any, .any, .any, .any, .any, .any, .any, .any, .any, .any, .any, .any, .any, .any, .any, .any, .any, .any, .any, .any, .any, .any, .any, .any, .any, .any, .any, .any, .any, .any, .any, .any, .any, .any, .any, .any, .any, .any, .any, .any, .any, .any, .any, .any], []⟩, [(.ret, ⟨[.any, .any, .any, .any, .any, .any, .one (.hol .bool), .any, .any, .any, .any, .any, .any, .any, .any, .any, .any, .any, .any, .any, .any, .any, .any, .any, .any, .any, .any, .any, .any, .any, .any, .any, .any, .any, .any, .any, .any, .any, .any, .any, .any, .any, .any, .any, .any, .any, .any, .any, .any, .any, .any, .any, .any, .any, .any, .any, .any, .any, .any, .any, .any, .any, .any, .any, .any, .any, .any, .any, .any, .any, .any, .any, .any, .any, .any, .any, .any, .any, .any, .any, .any, .any, .any, .any, .any, .any, .any, .any, .any, .any, .any, .any, .any, .any, .any, .any, .any], []⟩), (.exit 4, ⟨[.one (.exl 5 (Ty.int IntKind.u8) 1 1), .one (.exl 5 (Ty.int IntKind.u8) 3 3), .one (.hol (.sl 5 (Ty.int IntKind.u8))), .any, .any, .any, .any, .any, .any, .any, .any, .any, .any, .any, .any, .any, .any, .any, .any, .any, .any, .any, .any, .any, .any, .any, .any, .any, .any, .any, .any, .any, .any, .any, .any, .any, .any, .any, .any, .any, .any, .any, .any, .any, .any, .any, .any, .any, .any, .any, .any, .any, .any, .any, .any, .any, .any, .any, .any, .any, .any, .any, .any, .any, .any, .any, .any, .any, .any, .any, .any, .any, .any, .any, .any, .any, .any, .any, .any, .any, .any, .any, .any, .any, .any, .any, .any, .any, .any, .any, .any, .any, .any, .any, .any, .any, .any], []⟩)]⟩
-- FApart_19 : loApart_19.st.den → Tr (DenX loApart_19.xs) | ((h54, (h55, (h56, (h57, ((h58, h59), (h60, ())))))), ())
noncomputable def FApart_7 (d : loApart_7.st.den) : Tr (DenX loApart_7.xs) :=
  .ite (decide (d.1.2.2.2.2.1 = 0) && (decide (d.1.2.2.2.1.length ≤ 4294967000) && decide (d.1.1.length ≤ d.1.2.2.2.1.length))) (.ret (.ret ((), ((d.1.1, d.1.2.1, d.1.2.2.1, d.1.2.2.2.1 ++ spMk 1, ()), ())))) .no
noncomputable def FApart_14 (d : loApart_14.st.den) : Tr (DenX loApart_14.xs) :=
  .ite (decide (d.1.2.2.2.2.2.1 = 0) && (decide (d.1.2.2.2.2.1.length ≤ 4294967000) && decide (d.1.2.1.length ≤ d.1.2.2.2.2.1.length))) (.ret (.ret ((), ((d.1.1, d.1.2.1, d.1.2.2.1, d.1.2.2.2.1, d.1.2.2.2.2.1 ++ spMk 101, ()), ())))) .no
noncomputable def FApart_19 (d : loApart_19.st.den) : Tr (DenX loApart_19.xs) :=
  .ite (decide (d.1.2.2.2.2.2.1 = 0) && (decide (List.drop d.1.1.length d.1.2.2.2.1 = spMk 1) && (decide (d.1.2.2.2.2.1.1 = d.1.2.1.length) && decide (d.1.2.2.2.2.1.2 = spMk 101)))) (.ret (.pan (.ret ((), ((d.1.1, d.1.2.1, d.1.2.2.1, ()), ()))))) .no
noncomputable def lpApart : Lp := lpT [(7, loHd loApart_7 FApart_7), (14, loHd loApart_14 FApart_14), (19, loHd loApart_19 FApart_19)]
noncomputable def stepApart_7 {R : Type} (h8 : List Int) (h9 : List Int) (h10 : List Int) (h11 : List Int) (h12 : Int) (next : List Int → List Int → List Int → List Int → Int → Option R) (out : DenX loApart_7.xs → Option R) : Option R := bif decide (h12 < 80) then bif decide (0 + h11.length + [IntKind.u8.wrap (IntKind.i64.wrap (h12 + 1))].length ≤ 4294967296) && (decide ((0 + h8.length) * 1 ≤ (0 + h11.length) * 1) && true) then next (h8) (h9) (h10) (h11 ++ [IntKind.u8.wrap (IntKind.i64.wrap (h12 + 1))]) (IntKind.i64.wrap (h12 + 1)) else none else out (.ret ((), ((h8, (h9, (h10, (h11, ())))), ())))
noncomputable def itApart_7 (n : Nat) (h8 : List Int) (h9 : List Int) (h10 : List Int) (h11 : List Int) (h12 : Int) : Option (DenX loApart_7.xs) := lpN tt hdApart dr lpApart 0 Go.Proofs.Tryz.f13 (topL Go.Proofs.Tryz.f13 0) n (loApart_7.st.mk' ((h8, (h9, (h10, (h11, (h12, ()))))), ())) (decX loApart_7.xs)
theorem slApart_7 (n : Nat) (h8 : List Int) (h9 : List Int) (h10 : List Int) (h11 : List Int) (h12 : Int) : itApart_7 (n + 1) h8 h9 h10 h11 h12 = stepApart_7 h8 h9 h10 h11 h12 (itApart_7 n) some := by kernel_rfl
noncomputable def stepApart_14 {R : Type} (h32 : List Int) (h33 : List Int) (h34 : List Int) (h35 : List Int) (h36 : List Int) (h37 : Int) (next : List Int → List Int → List Int → List Int → List Int → Int → Option R) (out : DenX loApart_14.xs → Option R) : Option R := bif decide (h37 < 80) then bif decide (0 + h36.length + [IntKind.u8.wrap (IntKind.i64.wrap (h37 + 101))].length ≤ 4294967296) && (decide ((0 + h33.length) * 1 ≤ (0 + h36.length) * 1) && true) then next (h32) (h33) (h34) (h35) (h36 ++ [IntKind.u8.wrap (IntKind.i64.wrap (h37 + 101))]) (IntKind.i64.wrap (h37 + 1)) else none else out (.ret ((), ((h32, (h33, (h34, (h35, (h36, ()))))), ())))
noncomputable def itApart_14 (n : Nat) (h32 : List Int) (h33 : List Int) (h34 : List Int) (h35 : List Int) (h36 : List Int) (h37 : Int) : Option (DenX loApart_14.xs) := lpN tt hdApart dr lpApart 0 Go.Proofs.Tryz.f13 (topL Go.Proofs.Tryz.f13 1) n (loApart_14.st.mk' ((h32, (h33, (h34, (h35, (h36, (h37, ())))))), ())) (decX loApart_14.xs)
theorem slApart_14 (n : Nat) (h32 : List Int) (h33 : List Int) (h34 : List Int) (h35 : List Int) (h36 : List Int) (h37 : Int) : itApart_14 (n + 1) h32 h33 h34 h35 h36 h37 = stepApart_14 h32 h33 h34 h35 h36 h37 (itApart_14 n) some := by kernel_rfl
noncomputable def stepApart_19 {R : Type} (h54 : List Int) (h55 : List Int) (h56 : List Int) (h57 : List Int) (h58 : Nat) (h59 : List Int) (h60 : Int) (next : List Int → List Int → List Int → List Int → Nat → List Int → Int → Option R) (out : DenX loApart_19.xs → Option R) : Option R := bif decide (h60 < 80) then bif decide ((↑0 : Int) ≤ IntKind.i64.wrap ((↑0 : Int) + (↑h54.length : Int) + h60)) && decide (IntKind.i64.wrap ((↑0 : Int) + (↑h54.length : Int) + h60) < (↑0 : Int) + (↑h57.length : Int)) then bif h57.getD ((IntKind.i64.wrap ((↑0 : Int) + (↑h54.length : Int) + h60)).toNat - 0) 0 != IntKind.u8.wrap (IntKind.i64.wrap (h60 + 1)) then out (.ret ((), ((false, ()), ()))) else bif decide ((↑h58 : Int) ≤ IntKind.i64.wrap ((↑0 : Int) + (↑h55.length : Int) + h60)) && decide (IntKind.i64.wrap ((↑0 : Int) + (↑h55.length : Int) + h60) < (↑h58 : Int) + (↑h59.length : Int)) then bif h59.getD ((IntKind.i64.wrap ((↑0 : Int) + (↑h55.length : Int) + h60)).toNat - h58) 0 != IntKind.u8.wrap (IntKind.i64.wrap (h60 + 101)) then out (.ret ((), ((false, ()), ()))) else next (h54) (h55) (h56) (h57) (h58) (h59) (IntKind.i64.wrap (h60 + 1)) else none else none else out (.pan (.ret ((), ((h54, (h55, (h56, ()))), ()))))
noncomputable def itApart_19 (n : Nat) (h54 : List Int) (h55 : List Int) (h56 : List Int) (h57 : List Int) (h58 : Nat) (h59 : List Int) (h60 : Int) : Option (DenX loApart_19.xs) := lpN tt hdApart dr lpApart 0 Go.Proofs.Tryz.f13 (topL Go.Proofs.Tryz.f13 2) n (loApart_19.st.mk' ((h54, (h55, (h56, (h57, ((h58, h59), (h60, ())))))), ())) (decX loApart_19.xs)
theorem slApart_19 (n : Nat) (h54 : List Int) (h55 : List Int) (h56 : List Int) (h57 : List Int) (h58 : Nat) (h59 : List Int) (h60 : Int) : itApart_19 (n + 1) h54 h55 h56 h57 h58 h59 h60 = stepApart_19 h54 h55 h56 h57 h58 h59 h60 (itApart_19 n) some := by kernel_rfl
theorem mk_step {i c : Nat} (h : i < 80) (hc : c ≤ 101) (o : List Int) : (o ++ [IntKind.u8.wrap (IntKind.i64.wrap ((i : Int) + (c : Int)))]) ++ (spMk c).drop (i + 1) = o ++ (spMk c).drop i := by
  rw [List.drop_eq_getElem_cons (show i < (spMk c).length by rw [spMk_len]; exact h), spMk_get h, wrap_i64 (n := (i : Int) + (c : Int)) (by omega) (by omega)]
  have : IntKind.u8.wrap ((i : Int) + (c : Int)) = ((i + c : Nat) : Int) := by
    simp [IntKind.wrap, IntKind.signed, IntKind.bits]
    omega
  rw [this]
  simp
theorem loopApart_7 (a b w : List Int) : ∀ (k : Nat) (g : List Int) (i : Nat), 80 < i + k → i ≤ 80 → g.length + (80 - i) ≤ 4294967296 → a.length ≤ g.length →
    itApart_7 k a b w g i = some (.ret ((), ((a, (b, (w, (g ++ (spMk 1).drop i, ())))), ()))) := by
  intro k
  induction k with
  | zero => intro g i _ _ _; omega
  | succ k ih =>
    intro g i h1 h2 h3 h4
    rw [slApart_7]
    unfold stepApart_7
    by_cases hl : i < 80
    · have h5 : (i : Int) < 80 := by omega
      rw [bif_true (by simpa using h5), bif_true (by simp; omega), wrap_succ hl (by rw [maxLen_eq]; omega), ih _ (i + 1) (by omega) (by omega) (by simp; omega) (by simp; omega)]
      have := mk_step (c := 1) hl (by omega) g
      have e : (((1 : Nat) : Int)) = 1 := rfl
      rw [e, wrap_succ hl (by rw [maxLen_eq]; omega)] at this
      rw [this]
    · rw [bif_false (by simp; omega), List.drop_of_length_le (by rw [spMk_len]; omega), List.append_nil]
theorem loopApart_14 (a b w g : List Int) : ∀ (k : Nat) (h : List Int) (i : Nat), 80 < i + k → i ≤ 80 → h.length + (80 - i) ≤ 4294967296 → b.length ≤ h.length →
    itApart_14 k a b w g h i = some (.ret ((), ((a, (b, (w, (g, (h ++ (spMk 101).drop i, ()))))), ()))) := by
  intro k
  induction k with
  | zero => intro g i _ _ _; omega
  | succ k ih =>
    intro h i h1 h2 h3 h4
    rw [slApart_14]
    unfold stepApart_14
    by_cases hl : i < 80
    · have h5 : (i : Int) < 80 := by omega
      rw [bif_true (by simpa using h5), bif_true (by simp; omega), wrap_succ hl (by rw [maxLen_eq]; omega), ih _ (i + 1) (by omega) (by omega) (by simp; omega) (by simp; omega)]
      have := mk_step (c := 101) hl (by omega) h
      have e : (((101 : Nat) : Int)) = 101 := rfl
      rw [e] at this
      rw [this]
    · rw [bif_false (by simp; omega), List.drop_of_length_le (by rw [spMk_len]; omega), List.append_nil]
theorem loopApart_19 (a b w g : List Int) (hg : g.drop a.length = spMk 1) (hgl : g.length ≤ maxLen) (hbl : b.length + 80 ≤ maxLen) : ∀ (k i : Nat), 80 < i + k → i ≤ 80 →
    itApart_19 k a b w g b.length (spMk 101) i = some (.pan (.ret ((), ((a, (b, (w, ()))), ())))) := by
  have hl : g.length = a.length + 80 := by
    have := congrArg List.length hg
    rw [List.length_drop, spMk_len] at this
    omega
  rw [maxLen_eq] at hgl hbl
  intro k
  induction k with
  | zero => intro i _ _; omega
  | succ k ih =>
    intro i h1 h2
    rw [slApart_19]
    unfold stepApart_19
    by_cases hlt : i < 80
    · have h5 : (i : Int) < 80 := by omega
      have e1 : IntKind.i64.wrap ((0 : Int) + (a.length : Int) + (i : Int)) = ((a.length + i : Nat) : Int) := by rw [wrap_i64] <;> omega
      have e2 : IntKind.i64.wrap ((0 : Int) + (b.length : Int) + (i : Int)) = ((b.length + i : Nat) : Int) := by rw [wrap_i64] <;> omega
      have e3 : IntKind.u8.wrap (IntKind.i64.wrap ((i : Int) + 1)) = ((i + 1 : Nat) : Int) := by
        rw [wrap_i64 (by omega) (by omega)]
        simp [IntKind.wrap, IntKind.signed, IntKind.bits]
        omega
      have e4 : IntKind.u8.wrap (IntKind.i64.wrap ((i : Int) + 101)) = ((i + 101 : Nat) : Int) := by
        rw [wrap_i64 (by omega) (by omega)]
        simp [IntKind.wrap, IntKind.signed, IntKind.bits]
        omega
      have e5 : g.getD (a.length + i) 0 = ((i + 1 : Nat) : Int) := by
        have h7 : (g.drop a.length)[i]? = some ((i + 1 : Nat) : Int) := by
          rw [hg, List.getElem?_eq_getElem (by rw [spMk_len]; exact hlt), spMk_get hlt]
        rw [List.getElem?_drop] at h7
        rw [List.getD_eq_getElem?_getD, h7]
        rfl
      have e6 : (spMk 101).getD i 0 = ((i + 101 : Nat) : Int) := by
        rw [List.getD_eq_getElem?_getD, List.getElem?_eq_getElem (by rw [spMk_len]; exact hlt), spMk_get hlt]
        rfl
      have hml : (spMk 101).length = 80 := spMk_len 101
      rw [bif_true (by simpa using h5), e1, e2, e3, e4, bif_true (by simp; omega)]
      rw [show ((a.length + i : Nat) : Int).toNat - 0 = a.length + i by omega, show ((b.length + i : Nat) : Int).toNat - b.length = i by omega, e5, e6, bif_false (by simp), bif_true (by simp; omega), bif_false (by simp), wrap_succ hlt (by rw [maxLen_eq]; omega), ih (i + 1) (by omega) (by omega)]
    · rw [bif_false (by simp; omega)]
noncomputable def bodyApart (a0 : List Int) (a1 : List Int) (a2 : List Int) : Option ioApart.Res := bif !decide (a0 = a2) then some (Out.ret ((false, ()), ())) else bif !decide (a1 = a2) then some (Out.ret ((false, ()), ())) else (FApart_7 ((spOver 0 (List.map spT a0) a0, (a1, (a2, (spOver 0 (List.map spT a0) a0, (0, ()))))), ())).run fun y => match y with | .ret ((), ((x22, x23, x24, x25, ()), ())) => (bif !decide (x23 = x24) then some (Out.ret ((false, ()), ())) else bif decide (0 ≤ (↑0 : Int) + (↑x22.length : Int)) && decide ((↑0 : Int) + (↑x22.length : Int) ≤ (↑x25.length : Int)) then bif !decide (List.take ((↑0 : Int) + (↑x22.length : Int)).toNat x25 = List.map spT x24) then some (Out.ret ((false, ()), ())) else (FApart_14 ((x22, (x23, (x24, (x25, (x23, (0, ())))))), ())).run fun y => match y with | .ret ((), ((x49, x50, x51, x52, x53, ()), ())) => (bif decide (x50.length ≤ x53.length) && true then (FApart_19 ((x49, (spOver 0 (List.map spT x50) x50, (x51, (x52, (((List.map spT x50).length, List.drop (List.map spT x50).length x53), (0, ())))))), ())).run fun y => match y with | .ret ((), ((x73, ()), ())) => (some (Out.ret ((x73, ()), ()))) | .pan (.ret ((), ((x74, x75, x76, ()), ()))) => (bif decide (x74 = List.map spT x76) then some (Out.ret ((decide (x75 = List.map spT x76), ()), ())) else some (Out.ret ((false, ()), ()))) else none) else none)
theorem runApart (a0 : List Int) (a1 : List Int) (a2 : List Int) : Io.runX tt hdApart dr lpApart ioApart Go.Proofs.Tryz.f13 (stApart (a0, a1, a2, ())) = bodyApart a0 a1 a2 := by kernel_rfl
/-- Both are want, and lists of their own: so they are apart. -/
def okApartB (a b w : List Int) : Bool := decide (a = w) && decide (b = w)
theorem bodyApart_eq (a b w : List Int) (ha : a.length ≤ 4294967000) (hb : b.length ≤ 4294967000) : bodyApart a b w = some (.ret ((okApartB a b w, ()), ())) := by
  unfold bodyApart okApartB
  by_cases h1 : a = w
  rotate_left
  · simp [h1]
  subst h1
  by_cases h2 : b = a
  rotate_left
  · simp [h2]
  subst h2
  have hl : (List.map spT b).length = b.length := by simp
  rw [spOver_self hl]
  have e7 : FApart_7 ((List.map spT b, b, b, List.map spT b, 0, ()), ()) = .ite true (.ret (.ret ((), ((List.map spT b, b, b, List.map spT b ++ spMk 1, ()), ())))) .no := by
    have : (decide ((0 : Int) = 0) && (decide ((List.map spT b).length ≤ 4294967000) && decide ((List.map spT b).length ≤ (List.map spT b).length))) = true := by simp; omega
    exact congrArg (fun c => Tr.ite c _ _) this
  rw [e7]
  simp only [decide_true, Bool.not_true, cond_false, Tr.run, cond_true]
  have e0 : ((0 : Int) + ((List.map spT b).length : Int)).toNat = (List.map spT b).length := by omega
  rw [bif_true (by simp; omega), e0, List.take_left']
  rotate_left
  · rfl
  simp only [decide_true, Bool.not_true, cond_false]
  have e14 : FApart_14 ((List.map spT b, b, b, List.map spT b ++ spMk 1, b, 0, ()), ()) = .ite true (.ret (.ret ((), ((List.map spT b, b, b, List.map spT b ++ spMk 1, b ++ spMk 101, ()), ())))) .no := by
    have : (decide ((0 : Int) = 0) && (decide (b.length ≤ 4294967000) && decide (b.length ≤ b.length))) = true := by simp; omega
    exact congrArg (fun c => Tr.ite c _ _) this
  rw [e14]
  simp only [Tr.run, cond_true]
  rw [bif_true (by simp)]
  have ed : List.drop (List.map spT b).length (b ++ spMk 101) = spMk 101 := by rw [hl]; simp
  rw [ed, spOver_self hl]
  have e19 : FApart_19 ((List.map spT b, List.map spT b, b, List.map spT b ++ spMk 1, ((List.map spT b).length, spMk 101), 0, ()), ()) = .ite true (.ret (.pan (.ret ((), ((List.map spT b, List.map spT b, b, ()), ()))))) .no := by
    have : (decide ((0 : Int) = 0) && (decide (List.drop (List.map spT b).length (List.map spT b ++ spMk 1) = spMk 1) && (decide ((List.map spT b).length = (List.map spT b).length) && decide (spMk 101 = spMk 101)))) = true := by simp
    exact congrArg (fun c => Tr.ite c _ _) this
  rw [e19]
  simp [Tr.run]

def apartHd : Hc := fun _ args _ A K => match args with
  | [.one (.ex _ t lo xs i j), .one (.ex _ t2 lo2 ys i2 j2), .one (.lst _ t3 ws _)] =>
    bif Nat.beq i j && (Nat.beq i2 j2 && (Nat.beq lo 0 && (Nat.beq lo2 0 && !(Nat.beq i i2)))) then
      (if h : t = .int .u8 ∧ t2 = .int .u8 ∧ t3 = .int .u8 then (bif decide (xs.length ≤ 4294967000) && decide (ys.length ≤ 4294967000) then
        (A.map (C.strip [i, i2] [])).force fun A => K (.ret (.one (.bool (okApartB (h.1 ▸ xs : List (Ty.int .u8).den) (h.2.1 ▸ ys : List (Ty.int .u8).den) (h.2.2 ▸ ws : List (Ty.int .u8).den)))) (some [])) A else none) else none) else none
  | _ => none
theorem okapart : HcOk prog 13 apartHd := by
  have htt := ttOf_ok Go.Proofs.Tryz.prog 400
  have hcs : HcsOk prog csApart := .cons (pure_sound okSame) (.cons okspoil (.cons (pure_sound okTurned) .nil))
  intro R args id A K r F G ts cst w vals hid hrun Rl hv
  refine ⟨⟨Go.Proofs.Tryz.f13, by kernel_rfl, by kernel_rfl, by kernel_rfl⟩, ?_⟩
  unfold apartHd at hrun
  split at hrun
  · rename_i e1 t lo xs i j e2 t2 lo2 ys i2 j2 e3 t3 ws own
    cases hz : Nat.beq i j && (Nat.beq i2 j2 && (Nat.beq lo 0 && (Nat.beq lo2 0 && !(Nat.beq i i2)))) with
    | false => rw [hz] at hrun; cases hrun
    | true =>
      rw [hz] at hrun
      simp only [cond_true] at hrun
      simp only [Bool.and_eq_true, Bool.not_eq_true'] at hz
      obtain ⟨z1, z2, z3, z4, z5⟩ := hz
      have z1 := Nat.eq_of_beq_eq_true z1
      have z2 := Nat.eq_of_beq_eq_true z2
      have z3 := Nat.eq_of_beq_eq_true z3
      have z4 := Nat.eq_of_beq_eq_true z4
      have z5 : i ≠ i2 := by rintro rfl; rw [Nat.beq_refl] at z5; cases z5
      subst z1 z2 z3 z4
      split at hrun
      · rename_i h
        obtain ⟨rfl, rfl, rfl⟩ := h
        simp only at hrun
        cases hg : decide (xs.length ≤ 4294967000) && decide (ys.length ≤ 4294967000) with
        | false => rw [hg] at hrun; cases hrun
        | true =>
          rw [hg] at hrun
          simp only [cond_true, AS.force_eq] at hrun
          simp only [Bool.and_eq_true, decide_eq_true_eq] at hg
          have hvl : vals.toList.length = 3 := hv.length.symm
          obtain ⟨v1, v2, v3, hvs⟩ : ∃ v1 v2 v3, vals.toList = [v1, v2, v3] := by
            match h : vals.toList with
            | [] => rw [h] at hvl; cases hvl
            | [_] => rw [h] at hvl; simp at hvl
            | [_, _] => rw [h] at hvl; simp at hvl
            | [a, b, c] => exact ⟨a, b, c, rfl⟩
            | _ :: _ :: _ :: _ :: _ => rw [h] at hvl; simp at hvl
          rw [hvs] at hv
          obtain ⟨hx1, hx2, hx3, _⟩ := hv
          have hn2 : nodupB (([(1, i), (3, i2)] : List (Nat × Nat)).map (·.2)) = true := by simp [nodupB, z5.symm]
          have hto : ∀ {xs : List Int} {k k' : Nat} {v : Value}, k' ≠ 0 → (∀ b, G.ow k = some (b, 0) → (inGh G [] [(1, i), (3, i2)]).ow k' = some (b, 0)) → Rc G w (.ex e1 (.int .u8) 0 xs k k) v → Rc (inGh G [] [(1, i), (3, i2)]) w (.ex 5 u8T 0 xs k' k') v := by
            intro xs k k' v hk0 hk h
            rcases h with h | ⟨b, cap, e0, ⟨_, _, ho⟩, h⟩
            · exact .inl h
            · exact .inr ⟨b, cap, e0, ⟨hk0, hk0, .inl (hk b (by rcases ho with h | h <;> exact h))⟩, h⟩
          have R0 : Rel (inFra G w [] [(1, i), (3, i2)]) (inGh G [] [(1, i), (3, i2)]) (stApart (xs, ys, ws, ())) (vals ++ Array.replicate ((Go.Proofs.Tryz.f13).ntmps - vals.size) undef) [] w := by
            refine ⟨?_, trivial, fun k cs hk => by simp [stApart] at hk, inGh_ok Rl.gh (fun i j k h => by simp [Bn.at] at h) hn2⟩
            have hs : vals.size = 3 := by simpa using hvl
            rw [hs, show (Go.Proofs.Tryz.f13).ntmps - 3 = 94 by kernel_rfl, Array.toList_append, Array.toList_replicate, hvs]
            refine ⟨hto (by decide) (fun b hb => by simp [inGh, hb]) hx1, hto (by decide) (fun b hb => by simp [inGh, hb]) hx2, ?_, All2.replicate (a := V.any) (b := undef) trivial 94⟩
            obtain ⟨Aa, cap, e0, g1, g2, g3, _⟩ := hx3
            exact ⟨Aa, cap, e0, g1, g2, g3, .inl rfl⟩
          refine exFn_sound (lp := lpApart) htt hm (hdT_ok hcs) (orderD_ok htt) (by kernel_rfl) ?_ hid Rl R0 ((runApart xs ys ws).trans (bodyApart_eq xs ys ws hg.1 hg.2)) hrun
          refine .step (h0 := loHd loApart_7 FApart_7) (by kernel_rfl) (loop_sound (n := 400) hm (cs := csApart) hcs (lp := lpApart) (fn := Go.Proofs.Tryz.f13) (.done (by kernel_rfl)) loApart_7 FApart_7 ?_)
            (.step (h0 := loHd loApart_14 FApart_14) (by kernel_rfl) (loop_sound (n := 400) hm (cs := csApart) hcs (lp := lpApart) (fn := Go.Proofs.Tryz.f13) (.done (by kernel_rfl)) loApart_14 FApart_14 ?_)
            (.step (h0 := loHd loApart_19 FApart_19) (by kernel_rfl) (loop_sound (n := 400) hm (cs := csApart) hcs (lp := lpApart) (fn := Go.Proofs.Tryz.f13) (.done (by kernel_rfl)) loApart_19 FApart_19 ?_) (.done (by kernel_rfl))))
          · rintro ⟨⟨a, b, c, g, i, ⟨⟩⟩, ⟨⟩⟩ y hw hy
            obtain ⟨hg, hy⟩ := Tr.guard hy
            simp only [Bool.and_eq_true, decide_eq_true_eq] at hg
            obtain ⟨rfl, h1, h2⟩ := hg
            refine ⟨81, (loopApart_7 a b c 81 g 0 (by omega) (by omega) (by omega) h2).trans ?_⟩
            rw [← hy]; rfl
          · rintro ⟨⟨a, b, c, g, h, i, ⟨⟩⟩, ⟨⟩⟩ y hw hy
            obtain ⟨hg, hy⟩ := Tr.guard hy
            simp only [Bool.and_eq_true, decide_eq_true_eq] at hg
            obtain ⟨rfl, h1, h2⟩ := hg
            refine ⟨81, (loopApart_14 a b c g 81 h 0 (by omega) (by omega) (by omega) h2).trans ?_⟩
            rw [← hy]; rfl
          · rintro ⟨⟨a, b, c, g, ⟨l, h⟩, i, ⟨⟩⟩, ⟨⟩⟩ y hw hy
            obtain ⟨hg, hy⟩ := Tr.guard hy
            simp only [Bool.and_eq_true, decide_eq_true_eq] at hg
            obtain ⟨rfl, h1, rfl, rfl⟩ := hg
            have w1 : g.length ≤ maxLen := hw.1.2.2.2.1.1
            have w2 : b.length + (spMk 101).length ≤ maxLen := hw.1.2.2.2.2.1.1
            rw [spMk_len] at w2
            refine ⟨81, (loopApart_19 a b c g h1 w1 w2 81 0 (by omega) (by omega)).trans ?_⟩
            rw [← hy]; rfl
      · cases hrun
  · cases hrun
end
end Go.Proofs.YtmlgepgcofmpeaaGreat.Sym

/- leatref01: Copy, Cat, Piece, Wide, Intact. -/
namespace Go.Proofs.YtmlgepgcofmpeaaGreat.Sym
open Go
set_option linter.unusedSimpArgs false
set_option linter.unusedVariables false
noncomputable section

/-- A loop that appends the bytes one by one. -/
theorem append_loop {R : Type} (it : Nat → List Int → List Int → Int → Option R) (out : List Int → Option R)
    (h : ∀ n b o i, it (n + 1) b o i = bif decide (i < (b.length : Int)) then bif decide (0 ≤ i) && decide (i < (b.length : Int)) then bif decide (o.length + [b.getD i.toNat 0].length ≤ 4294967296) then it n b (o ++ [b.getD i.toNat 0]) (IntKind.i64.wrap (i + 1)) else none else none else out o)
    (b : List Int) (hb : b.length ≤ maxLen) : ∀ (k : Nat) (o : List Int) (i : Nat), i ≤ b.length → b.length < i + k → o.length + (b.length - i) ≤ 4294967296 → it k b o i = out (o ++ b.drop i) := by
  intro k
  induction k with
  | zero => intro o i h1 h2; omega
  | succ k ih =>
    intro o i h1 h2 h3
    rw [h]
    by_cases hi : i < b.length
    · rw [wrap_succ hi hb, ih _ (i + 1) hi (by omega) (by simp; omega), List.drop_eq_getElem_cons hi]
      simp only [Int.toNat_natCast, getD_lt hi]
      have h4 : o.length + 1 ≤ 4294967296 := by omega
      simp [hi, h4]
    · rw [List.drop_of_length_le (by omega)]
      simp [hi]

/-! ### leat/leatref01.Copy -/
noncomputable abbrev ioCopy : Io := ⟨[dL], [], [], [dO], none⟩
noncomputable def FCopy (d : ioCopy.In) : Tr ioCopy.Res := .ite (decide (d.1.1.length ≤ 4294967296)) (.ret (.ret ((d.1.1, ()), ()))) .no
noncomputable abbrev csCopy : List (Nat × Hc) := []
noncomputable def hdCopy : Hd := hdT csCopy
noncomputable abbrev loCopy_4 : Lo := ⟨⟨[.one (.hol (.sl 5 (Ty.int IntKind.u8))), .any, .any, .one (.onl 5 (Ty.int IntKind.u8) 7), .one (.hol (.int IntKind.i64)), .any, .any, .any, .any, .any, .any, .any, .any, .any, .any, .any, .any, .any, .any, .any], []⟩, [(.exit 0, ⟨[.any, .any, .any, .one (.onl 5 (Ty.int IntKind.u8) 7), .any, .any, .any, .any, .any, .any, .any, .any, .any, .any, .any, .any, .any, .any, .any, .any], []⟩)]⟩
-- FCopy_4 : loCopy_4.st.den → Tr (DenX loCopy_4.xs) | ((h1, (h2, (h3, ()))), ())
noncomputable def FCopy_4 (d : loCopy_4.st.den) : Tr (DenX loCopy_4.xs) :=
  .ite (decide (d.1.2.2.1 = 0) && decide (d.1.2.1.length + d.1.1.length ≤ 4294967296)) (.ret (.ret ((), ((d.1.2.1 ++ d.1.1, ()), ())))) .no
noncomputable def lpCopy : Lp := lpT [(4, loHd loCopy_4 FCopy_4)]
noncomputable def stepCopy_4 {R : Type} (h1 : List Int) (h2 : List Int) (h3 : Int) (next : List Int → List Int → Int → Option R) (out : DenX loCopy_4.xs → Option R) : Option R := bif decide (h3 < (↑h1.length : Int)) then bif decide (0 ≤ h3) && decide (h3 < (↑h1.length : Int)) then bif decide (h2.length + [h1.getD h3.toNat 0].length ≤ 4294967296) then next (h1) (h2 ++ [h1.getD h3.toNat 0]) (IntKind.i64.wrap (h3 + 1)) else none else none else out (.ret ((), ((h2, ()), ())))
noncomputable def itCopy_4 (n : Nat) (h1 : List Int) (h2 : List Int) (h3 : Int) : Option (DenX loCopy_4.xs) := lpN tt hdCopy dr lpCopy 0 Go.Proofs.Tryz.f28 (topL Go.Proofs.Tryz.f28 0) n (loCopy_4.st.mk' ((h1, (h2, (h3, ()))), ())) (decX loCopy_4.xs)
theorem slCopy_4 (n : Nat) (h1 : List Int) (h2 : List Int) (h3 : Int) : itCopy_4 (n + 1) h1 h2 h3 = stepCopy_4 h1 h2 h3 (itCopy_4 n) some := by kernel_rfl
noncomputable def bodyCopy (a0 : List Int) : Option ioCopy.Res := (FCopy_4 ((a0, ([], (0, ()))), ())).run fun y => match y with | .ret ((), ((x8, ()), ())) => (some (Out.ret ((x8, ()), ())))
theorem runCopy (a0 : List Int) : Io.run tt hdCopy dr lpCopy ioCopy Go.Proofs.Tryz.f28 ((a0, ()), ()) = bodyCopy a0 := by kernel_rfl
theorem okCopy : HcOk prog 28 (ioHd ioCopy FCopy) := by
  refine fn_sound (n := 400) hm (cs := csCopy) HcsOk.nil (lp := lpCopy) (fn := Go.Proofs.Tryz.f28) (by kernel_rfl) (by kernel_rfl) (by kernel_rfl) ioCopy
    (.step (h0 := loHd loCopy_4 FCopy_4) (by kernel_rfl) (loop_sound (n := 400) hm (cs := csCopy) HcsOk.nil (lp := lpCopy) (fn := Go.Proofs.Tryz.f28) (.done (by kernel_rfl)) loCopy_4 FCopy_4 ?_) (.done (by kernel_rfl))) FCopy ?_
  · rintro ⟨⟨b, o, i, ⟨⟩⟩, ⟨⟩⟩ y hw hy
    obtain ⟨hg, hy⟩ := Tr.guard hy
    simp only [Bool.and_eq_true, decide_eq_true_eq] at hg
    obtain ⟨rfl, hl⟩ := hg
    refine ⟨b.length + 1, (append_loop (fun k b o i => itCopy_4 k b o i) (fun o => some (.ret ((), ((o, ()), ())))) (fun n b o i => slCopy_4 n b o i) b hw.1.1.1 _ o 0 (by omega) (by omega) (by omega)).trans ?_⟩
    rw [← hy]; rfl
  · rintro ⟨⟨b, ⟨⟩⟩, ⟨⟩⟩ out hw ho
    obtain ⟨hg, ho⟩ := Tr.guard ho
    cases ho
    refine (runCopy b).trans ?_
    simp only [decide_eq_true_eq] at hg
    unfold bodyCopy FCopy_4
    simp [Tr.run_ite, Tr.run_ret, hg]

/-! ### leat/leatref01.Cat -/
noncomputable abbrev ioCat : Io := ⟨[dL, dL], [], [], [dO], none⟩
noncomputable def FCat (d : ioCat.In) : Tr ioCat.Res := .ite (decide (d.1.1.length + d.1.2.1.length ≤ 4294967296)) (.ret (.ret ((d.1.1 ++ d.1.2.1, ()), ()))) .no
noncomputable abbrev csCat : List (Nat × Hc) := [(28, ioHd ioCopy FCopy)]
noncomputable def hdCat : Hd := hdT csCat
noncomputable abbrev loCat_4 : Lo := ⟨⟨[.any, .one (.hol (.sl 5 (Ty.int IntKind.u8))), .any, .any, .any, .one (.onl 5 (Ty.int IntKind.u8) 11), .one (.hol (.int IntKind.i64)), .any, .any, .any, .any, .any, .any, .any, .any, .any, .any, .any, .any, .any, .any, .any, .any], []⟩, [(.exit 0, ⟨[.any, .any, .any, .any, .any, .one (.onl 5 (Ty.int IntKind.u8) 11), .any, .any, .any, .any, .any, .any, .any, .any, .any, .any, .any, .any, .any, .any, .any, .any, .any], []⟩)]⟩
-- FCat_4 : loCat_4.st.den → Tr (DenX loCat_4.xs) | ((h2, (h3, (h4, ()))), ())
noncomputable def FCat_4 (d : loCat_4.st.den) : Tr (DenX loCat_4.xs) :=
  .ite (decide (d.1.2.2.1 = 0) && decide (d.1.2.1.length + d.1.1.length ≤ 4294967296)) (.ret (.ret ((), ((d.1.2.1 ++ d.1.1, ()), ())))) .no
noncomputable def lpCat : Lp := lpT [(4, loHd loCat_4 FCat_4)]
noncomputable def stepCat_4 {R : Type} (h2 : List Int) (h3 : List Int) (h4 : Int) (next : List Int → List Int → Int → Option R) (out : DenX loCat_4.xs → Option R) : Option R := bif decide (h4 < (↑h2.length : Int)) then bif decide (0 ≤ h4) && decide (h4 < (↑h2.length : Int)) then bif decide (h3.length + [h2.getD h4.toNat 0].length ≤ 4294967296) then next (h2) (h3 ++ [h2.getD h4.toNat 0]) (IntKind.i64.wrap (h4 + 1)) else none else none else out (.ret ((), ((h3, ()), ())))
noncomputable def itCat_4 (n : Nat) (h2 : List Int) (h3 : List Int) (h4 : Int) : Option (DenX loCat_4.xs) := lpN tt hdCat dr lpCat 0 Go.Proofs.Tryz.f146 (topL Go.Proofs.Tryz.f146 0) n (loCat_4.st.mk' ((h2, (h3, (h4, ()))), ())) (decX loCat_4.xs)
theorem slCat_4 (n : Nat) (h2 : List Int) (h3 : List Int) (h4 : Int) : itCat_4 (n + 1) h2 h3 h4 = stepCat_4 h2 h3 h4 (itCat_4 n) some := by kernel_rfl
noncomputable def bodyCat (a0 : List Int) (a1 : List Int) : Option ioCat.Res := bif decide (a0.length ≤ 4294967296) then (FCat_4 ((a1, (a0, (0, ()))), ())).run fun y => match y with | .ret ((), ((x9, ()), ())) => (some (Out.ret ((x9, ()), ()))) else none
theorem runCat (a0 : List Int) (a1 : List Int) : Io.run tt hdCat dr lpCat ioCat Go.Proofs.Tryz.f146 ((a0, a1, ()), ()) = bodyCat a0 a1 := by kernel_rfl
theorem okCat : HcOk prog 146 (ioHd ioCat FCat) := by
  refine fn_sound (n := 400) hm (cs := csCat) (.cons okCopy .nil) (lp := lpCat) (fn := Go.Proofs.Tryz.f146) (by kernel_rfl) (by kernel_rfl) (by kernel_rfl) ioCat
    (.step (h0 := loHd loCat_4 FCat_4) (by kernel_rfl) (loop_sound (n := 400) hm (cs := csCat) (.cons okCopy .nil) (lp := lpCat) (fn := Go.Proofs.Tryz.f146) (.done (by kernel_rfl)) loCat_4 FCat_4 ?_) (.done (by kernel_rfl))) FCat ?_
  · rintro ⟨⟨b, o, i, ⟨⟩⟩, ⟨⟩⟩ y hw hy
    obtain ⟨hg, hy⟩ := Tr.guard hy
    simp only [Bool.and_eq_true, decide_eq_true_eq] at hg
    obtain ⟨rfl, hl⟩ := hg
    refine ⟨b.length + 1, (append_loop (fun k b o i => itCat_4 k b o i) (fun o => some (.ret ((), ((o, ()), ())))) (fun n b o i => slCat_4 n b o i) b hw.1.1.1 _ o 0 (by omega) (by omega) (by omega)).trans ?_⟩
    rw [← hy]; rfl
  · rintro ⟨⟨a, b, ⟨⟩⟩, ⟨⟩⟩ out hw ho
    obtain ⟨hg, ho⟩ := Tr.guard ho
    cases ho
    refine (runCat a b).trans ?_
    simp only [decide_eq_true_eq] at hg
    have hg : a.length + b.length ≤ 4294967296 := hg
    have h1 : a.length ≤ 4294967296 := by omega
    unfold bodyCat FCat_4
    simp [Tr.run_ite, Tr.run_ret, hg, h1]

end
end Go.Proofs.YtmlgepgcofmpeaaGreat.Sym

/- leatref01: Piece, Wide, Intact. -/
namespace Go.Proofs.YtmlgepgcofmpeaaGreat.Sym
open Go
set_option linter.unusedSimpArgs false
set_option linter.unusedVariables false
noncomputable section

/-! ### leat/leatref01.Piece -/
noncomputable abbrev ioPiece : Io := ⟨[dL, dI, dI], [], [], [dO], none⟩
noncomputable def FPiece (d : ioPiece.In) : Tr ioPiece.Res := .ite (decide (d.1.1.length ≤ 4294967296)) (.ret (.ret ((((d.1.1.take d.1.2.2.1.toNat).drop d.1.2.1.toNat), ()), ()))) .no
noncomputable abbrev csPiece : List (Nat × Hc) := []
noncomputable def hdPiece : Hd := hdT csPiece
noncomputable abbrev loPiece_6 : Lo := ⟨⟨[.one (.hol (.sl 5 (Ty.int IntKind.u8))), .any, .one (.hol (.int IntKind.i64)), .any, .any, .any, .any, .one (.onl 5 (Ty.int IntKind.u8) 15), .one (.hol (.int IntKind.i64)), .any, .any, .any, .any, .any, .any, .any, .any, .any, .any, .any, .any, .any, .any, .any, .any, .any, .any, .any, .any, .any, .any, .any], []⟩, [(.exit 0, ⟨[.any, .any, .any, .any, .any, .any, .any, .one (.onl 5 (Ty.int IntKind.u8) 15), .any, .any, .any, .any, .any, .any, .any, .any, .any, .any, .any, .any, .any, .any, .any, .any, .any, .any, .any, .any, .any, .any, .any, .any], []⟩)]⟩
-- FPiece_6 : loPiece_6.st.den → Tr (DenX loPiece_6.xs) | ((h3, (h4, (h5, (h6, ())))), ())
noncomputable def FPiece_6 (d : loPiece_6.st.den) : Tr (DenX loPiece_6.xs) :=
  .ite (decide (0 ≤ d.1.2.2.2.1) && decide (d.1.2.2.1.length + d.1.1.length ≤ 4294967296)) (.ret (.ret ((), ((d.1.2.2.1 ++ (d.1.1.take d.1.2.1.toNat).drop d.1.2.2.2.1.toNat, ()), ())))) .no
noncomputable def lpPiece : Lp := lpT [(6, loHd loPiece_6 FPiece_6)]
noncomputable def stepPiece_6 {R : Type} (h3 : List Int) (h4 : Int) (h5 : List Int) (h6 : Int) (next : List Int → Int → List Int → Int → Option R) (out : DenX loPiece_6.xs → Option R) : Option R := bif decide (h6 < (↑h3.length : Int)) then bif decide (h6 < h4) then bif decide (0 ≤ h6) && decide (h6 < (↑h3.length : Int)) then bif decide (h5.length + [h3.getD h6.toNat 0].length ≤ 4294967296) then next (h3) (h4) (h5 ++ [h3.getD h6.toNat 0]) (IntKind.i64.wrap (h6 + 1)) else none else none else out (.ret ((), ((h5, ()), ()))) else out (.ret ((), ((h5, ()), ())))
noncomputable def itPiece_6 (n : Nat) (h3 : List Int) (h4 : Int) (h5 : List Int) (h6 : Int) : Option (DenX loPiece_6.xs) := lpN tt hdPiece dr lpPiece 0 Go.Proofs.Tryz.f26 (topL Go.Proofs.Tryz.f26 0) n (loPiece_6.st.mk' ((h3, (h4, (h5, (h6, ())))), ())) (decX loPiece_6.xs)
theorem slPiece_6 (n : Nat) (h3 : List Int) (h4 : Int) (h5 : List Int) (h6 : Int) : itPiece_6 (n + 1) h3 h4 h5 h6 = stepPiece_6 h3 h4 h5 h6 (itPiece_6 n) some := by kernel_rfl
theorem loopPiece (b : List Int) (hi : Int) (hb : b.length ≤ maxLen) : ∀ (k : Nat) (o : List Int) (i : Nat), b.length < i + k → o.length + (b.length - i) ≤ 4294967296 → 0 < k →
    itPiece_6 k b hi o i = some (.ret ((), ((o ++ (b.take hi.toNat).drop i, ()), ()))) := by
  intro k
  induction k with
  | zero => intro o i _ _ h; omega
  | succ k ih =>
    intro o i h1 h2 _
    rw [slPiece_6]
    unfold stepPiece_6
    by_cases hl : i < b.length
    · by_cases hh : (i : Int) < hi
      · rw [wrap_succ hl hb, ih _ (i + 1) (by omega) (by simp; omega) (by omega)]
        have hlt : i < (b.take hi.toNat).length := by simp; omega
        rw [List.drop_eq_getElem_cons hlt]
        simp only [Int.toNat_natCast, getD_lt hl, List.getElem_take]
        have h4 : o.length + 1 ≤ 4294967296 := by omega
        simp [hl, hh, h4]
      · rw [List.drop_of_length_le (by simp; omega)]
        simp [hl, hh]
    · rw [List.drop_of_length_le (by simp; omega)]
      simp [hl]
noncomputable def bodyPiece (a0 : List Int) (a1 : Int) (a2 : Int) : Option ioPiece.Res := bif decide (a1 < 0) then (FPiece_6 ((a0, (a2, ([], (0, ())))), ())).run fun y => match y with | .ret ((), ((x13, ()), ())) => (some (Out.ret ((x13, ()), ()))) else (FPiece_6 ((a0, (a2, ([], (a1, ())))), ())).run fun y => match y with | .ret ((), ((x18, ()), ())) => (some (Out.ret ((x18, ()), ())))
theorem runPiece (a0 : List Int) (a1 : Int) (a2 : Int) : Io.run tt hdPiece dr lpPiece ioPiece Go.Proofs.Tryz.f26 ((a0, a1, a2, ()), ()) = bodyPiece a0 a1 a2 := by kernel_rfl
theorem okPiece : HcOk prog 26 (ioHd ioPiece FPiece) := by
  refine fn_sound (n := 400) hm (cs := csPiece) HcsOk.nil (lp := lpPiece) (fn := Go.Proofs.Tryz.f26) (by kernel_rfl) (by kernel_rfl) (by kernel_rfl) ioPiece
    (.step (h0 := loHd loPiece_6 FPiece_6) (by kernel_rfl) (loop_sound (n := 400) hm (cs := csPiece) HcsOk.nil (lp := lpPiece) (fn := Go.Proofs.Tryz.f26) (.done (by kernel_rfl)) loPiece_6 FPiece_6 ?_) (.done (by kernel_rfl))) FPiece ?_
  · rintro ⟨⟨b, hi, o, i, ⟨⟩⟩, ⟨⟩⟩ y hw hy
    obtain ⟨hg, hy⟩ := Tr.guard hy
    simp only [Bool.and_eq_true, decide_eq_true_eq] at hg
    obtain ⟨n, rfl⟩ := toNat_of hg.1
    refine ⟨b.length + 1, (loopPiece b hi hw.1.1.1 _ o n (by omega) (by have := hg.2; omega) (by omega)).trans ?_⟩
    rw [← hy]; rfl
  · rintro ⟨⟨(b : List Int), (lo : Int), (hi : Int), ⟨⟩⟩, ⟨⟩⟩ out hw ho
    obtain ⟨hg, ho⟩ := Tr.guard ho
    cases ho
    refine (runPiece b lo hi).trans ?_
    simp only [decide_eq_true_eq] at hg
    have hg : b.length ≤ 4294967296 := hg
    unfold bodyPiece FPiece_6
    by_cases h0 : lo < 0
    · have : lo.toNat = 0 := by omega
      simp [Tr.run_ite, Tr.run_ret, hg, h0, this]
    · have h1 : 0 ≤ lo := by omega
      simp [Tr.run_ite, Tr.run_ret, hg, h0, h1]

/-! ### leat/leatref01.Wide -/
noncomputable abbrev ioWide : Io := ⟨[dL], [], [], [dO], none⟩
noncomputable def spMarks : List Int := (List.range 96).map fun i => ((i * 7 + 13 : Nat) : Int) % 256
noncomputable def FWide (d : ioWide.In) : Tr ioWide.Res := .ite (decide (d.1.1.length ≤ 4294967000)) (.ret (.ret ((d.1.1 ++ spMarks, ()), ()))) .no
noncomputable abbrev csWide : List (Nat × Hc) := [(28, ioHd ioCopy FCopy)]
noncomputable def hdWide : Hd := hdT csWide
noncomputable abbrev loWide_4 : Lo := ⟨⟨[.any, .any, .any, .one (.onl 5 (Ty.int IntKind.u8) 7), .one (.hol (.int IntKind.i64)), .any, .any, .any, .any, .any, .any, .any, .any, .any, .any, .any, .any, .any, .any], []⟩, [(.exit 0, ⟨[.any, .any, .any, .one (.onl 5 (Ty.int IntKind.u8) 7), .any, .any, .any, .any, .any, .any, .any, .any, .any, .any, .any, .any, .any, .any, .any], []⟩)]⟩
-- FWide_4 : loWide_4.st.den → Tr (DenX loWide_4.xs) | ((h1, (h2, ())), ())
noncomputable def FWide_4 (d : loWide_4.st.den) : Tr (DenX loWide_4.xs) :=
  .ite (decide (d.1.2.1 = 0) && decide (d.1.1.length ≤ 4294967000)) (.ret (.ret ((), ((d.1.1 ++ spMarks, ()), ())))) .no
noncomputable def lpWide : Lp := lpT [(4, loHd loWide_4 FWide_4)]
noncomputable def stepWide_4 {R : Type} (h1 : List Int) (h2 : Int) (next : List Int → Int → Option R) (out : DenX loWide_4.xs → Option R) : Option R := bif decide (h2 < 96) then bif decide (h1.length + [IntKind.u8.wrap (IntKind.i64.wrap (IntKind.i64.wrap (h2 * 7) + 13))].length ≤ 4294967296) then next (h1 ++ [IntKind.u8.wrap (IntKind.i64.wrap (IntKind.i64.wrap (h2 * 7) + 13))]) (IntKind.i64.wrap (h2 + 1)) else none else out (.ret ((), ((h1, ()), ())))
noncomputable def itWide_4 (n : Nat) (h1 : List Int) (h2 : Int) : Option (DenX loWide_4.xs) := lpN tt hdWide dr lpWide 0 Go.Proofs.Tryz.f18 (topL Go.Proofs.Tryz.f18 0) n (loWide_4.st.mk' ((h1, (h2, ())), ())) (decX loWide_4.xs)
theorem slWide_4 (n : Nat) (h1 : List Int) (h2 : Int) : itWide_4 (n + 1) h1 h2 = stepWide_4 h1 h2 (itWide_4 n) some := by kernel_rfl
theorem loopWide : ∀ (k : Nat) (o : List Int) (i : Nat), 96 < i + k → i ≤ 96 → o.length + (96 - i) ≤ 4294967296 →
    itWide_4 k o i = some (.ret ((), ((o ++ spMarks.drop i, ()), ()))) := by
  intro k
  induction k with
  | zero => intro o i _ _ h; omega
  | succ k ih =>
    intro o i h1 h2 h3
    rw [slWide_4]
    unfold stepWide_4
    by_cases hl : i < 96
    · have hlen : spMarks.length = 96 := by simp [spMarks]
      rw [wrap_succ hl (by rw [maxLen_eq]; omega), ih _ (i + 1) (by omega) (by omega) (by simp; omega)]
      rw [List.drop_eq_getElem_cons (show i < spMarks.length by omega)]
      have e1 : IntKind.i64.wrap ((i : Int) * 7) = (i : Int) * 7 := by rw [wrap_i64] <;> omega
      have e2 : IntKind.i64.wrap ((i : Int) * 7 + 13) = (i : Int) * 7 + 13 := by rw [wrap_i64] <;> omega
      have e3 : IntKind.u8.wrap ((i : Int) * 7 + 13) = spMarks[i]'(by omega) := by
        simp [IntKind.wrap, IntKind.signed, IntKind.bits, spMarks]
      rw [e1, e2, e3]
      have h4 : o.length + 1 ≤ 4294967296 := by omega
      have h5 : (i : Int) < 96 := by omega
      simp [h5, h4]
    · have hlen : spMarks.length = 96 := by simp [spMarks]
      rw [List.drop_of_length_le (by omega)]
      have h5 : ¬ (i : Int) < 96 := by omega
      simp [h5]
noncomputable def bodyWide (a0 : List Int) : Option ioWide.Res := bif decide (a0.length ≤ 4294967296) then (FWide_4 ((a0, (0, ())), ())).run fun y => match y with | .ret ((), ((x6, ()), ())) => (some (Out.ret ((x6, ()), ()))) else none
theorem runWide (a0 : List Int) : Io.run tt hdWide dr lpWide ioWide Go.Proofs.Tryz.f18 ((a0, ()), ()) = bodyWide a0 := by kernel_rfl
theorem okWide : HcOk prog 18 (ioHd ioWide FWide) := by
  refine fn_sound (n := 400) hm (cs := csWide) (.cons okCopy .nil) (lp := lpWide) (fn := Go.Proofs.Tryz.f18) (by kernel_rfl) (by kernel_rfl) (by kernel_rfl) ioWide
    (.step (h0 := loHd loWide_4 FWide_4) (by kernel_rfl) (loop_sound (n := 400) hm (cs := csWide) (.cons okCopy .nil) (lp := lpWide) (fn := Go.Proofs.Tryz.f18) (.done (by kernel_rfl)) loWide_4 FWide_4 ?_) (.done (by kernel_rfl))) FWide ?_
  · rintro ⟨⟨o, i, ⟨⟩⟩, ⟨⟩⟩ y hw hy
    obtain ⟨hg, hy⟩ := Tr.guard hy
    simp only [Bool.and_eq_true, decide_eq_true_eq] at hg
    obtain ⟨rfl, hl⟩ := hg
    refine ⟨97, (loopWide _ o 0 (by omega) (by omega) (by omega)).trans ?_⟩
    rw [← hy]; rfl
  · rintro ⟨⟨b, ⟨⟩⟩, ⟨⟩⟩ out hw ho
    obtain ⟨hg, ho⟩ := Tr.guard ho
    cases ho
    refine (runWide b).trans ?_
    simp only [decide_eq_true_eq] at hg
    have hg : b.length ≤ 4294967000 := hg
    have h1 : b.length ≤ 4294967296 := by omega
    unfold bodyWide FWide_4
    simp [Tr.run_ite, Tr.run_ret, hg, h1]

/-! ### leat/leatref01.Intact -/
noncomputable abbrev ioIntact : Io := ⟨[dL, dL], [], [], [dB], none⟩
noncomputable def FIntact (d : ioIntact.In) : Tr ioIntact.Res := .ite (decide (d.1.2.1.length ≤ 4294967000)) (.ret (.ret ((decide (d.1.1 = d.1.2.1 ++ spMarks), ()), ()))) .no
noncomputable abbrev csIntact : List (Nat × Hc) := [(18, ioHd ioWide FWide), (31, ioHd ioSame FSame)]
noncomputable def hdIntact : Hd := hdT csIntact
noncomputable def lpIntact : Lp := lpT []

noncomputable def bodyIntact (a0 : List Int) (a1 : List Int) : Option ioIntact.Res := bif decide (a1.length ≤ 4294967000) then some (Out.ret ((decide (a0 = a1 ++ spMarks), ()), ())) else none
theorem runIntact (a0 : List Int) (a1 : List Int) : Io.run tt hdIntact dr lpIntact ioIntact Go.Proofs.Tryz.f21 ((a0, a1, ()), ()) = bodyIntact a0 a1 := by kernel_rfl
theorem okIntact : HcOk prog 21 (ioHd ioIntact FIntact) := by
  refine fn_sound (n := 400) hm (cs := csIntact) (.cons okWide (.cons okSame .nil)) (lp := lpIntact) (fn := Go.Proofs.Tryz.f21) (by kernel_rfl) (by kernel_rfl) (by kernel_rfl) ioIntact (.done (by kernel_rfl)) FIntact ?_
  rintro ⟨⟨a, b, ⟨⟩⟩, ⟨⟩⟩ out hw ho
  obtain ⟨hg, ho⟩ := Tr.guard ho
  cases ho
  refine (runIntact a b).trans ?_
  unfold bodyIntact
  simp only [decide_eq_true_eq] at hg
  have hg : b.length ≤ 4294967000 := hg
  simp [hg]

end
end Go.Proofs.YtmlgepgcofmpeaaGreat.Sym

/- leatref04: well-formed text. -/
namespace Go.Proofs.YtmlgepgcofmpeaaGreat.Sym
open Go
set_option linter.unusedSimpArgs false
set_option linter.unusedVariables false
noncomputable section

noncomputable def spIn (b : List Int) (p : Int) (lo hi : Int) : Bool := decide (p < (b.length : Int)) && (decide (lo ≤ b.getD p.toNat 0) && decide (b.getD p.toNat 0 ≤ hi))

/-! ### leat/leatref04.within -/
noncomputable abbrev iorwithin : Io := ⟨[dL, dI, dU, dU], [], [], [dB], none⟩
noncomputable def Frwithin (d : iorwithin.In) : Tr iorwithin.Res := .ite (decide ((0 : Int) ≤ d.1.2.1)) (.ret (.ret ((spIn d.1.1 d.1.2.1 d.1.2.2.1 d.1.2.2.2.1, ()), ()))) .no
noncomputable abbrev csrwithin : List (Nat × Hc) := []
noncomputable def hdrwithin : Hd := hdT csrwithin
noncomputable def lprwithin : Lp := lpT []

noncomputable def bodyrwithin (a0 : List Int) (a1 : Int) (a2 : Int) (a3 : Int) : Option iorwithin.Res := bif decide (a1 < (↑a0.length : Int)) then bif decide (0 ≤ a1) && decide (a1 < (↑a0.length : Int)) then bif decide (a2 ≤ a0.getD a1.toNat 0) then bif decide (0 ≤ a1) && decide (a1 < (↑a0.length : Int)) then some (Out.ret ((decide (a0.getD a1.toNat 0 ≤ a3), ()), ())) else none else some (Out.ret ((false, ()), ())) else none else some (Out.ret ((false, ()), ()))
theorem runrwithin (a0 : List Int) (a1 : Int) (a2 : Int) (a3 : Int) : Io.run tt hdrwithin dr lprwithin iorwithin Go.Proofs.Tryz.f162 ((a0, a1, a2, a3, ()), ()) = bodyrwithin a0 a1 a2 a3 := by kernel_rfl
theorem okrwithin : HcOk prog 162 (ioHd iorwithin Frwithin) := by
  refine fn_sound (n := 400) hm (cs := csrwithin) HcsOk.nil (lp := lprwithin) (fn := Go.Proofs.Tryz.f162) (by kernel_rfl) (by kernel_rfl) (by kernel_rfl) iorwithin (.done (by kernel_rfl)) Frwithin ?_
  rintro ⟨⟨(b : List Int), (p : Int), (lo : Int), (hi : Int), ⟨⟩⟩, ⟨⟩⟩ out hw ho
  obtain ⟨hg, ho⟩ := Tr.guard ho
  cases ho
  refine (runrwithin b p lo hi).trans ?_
  have hg : (0 : Int) ≤ p := by simpa using hg
  unfold bodyrwithin
  show _ = some (Out.ret ((spIn b p lo hi, ()), ()))
  unfold spIn
  generalize b.getD p.toNat 0 = c
  by_cases h1 : p < (b.length : Int)
  · by_cases h2 : lo ≤ c
    · simp [hg, h1, h2]
    · simp [hg, h1, h2]
  · simp [h1]

end
end Go.Proofs.YtmlgepgcofmpeaaGreat.Sym

/- leatref04: one character. -/
namespace Go.Proofs.YtmlgepgcofmpeaaGreat.Sym
open Go
set_option linter.unusedSimpArgs false
set_option linter.unusedVariables false
noncomputable section

noncomputable def spLoOf (c : Int) : Int := if c = 240 then 144 else if c = 224 then 160 else 128
noncomputable def spHiOf (c : Int) : Int := if c = 244 then 143 else if c = 237 then 159 else 191
/-- The length of the well-formed character at a place, 0 if there is none. -/
noncomputable def spChar (b : List Int) (p : Int) : Int :=
  if p < 0 ∨ (b.length : Int) ≤ p then 0
  else if b.getD p.toNat 0 < 128 then 1
  else if b.getD p.toNat 0 < 194 ∨ 244 < b.getD p.toNat 0 ∨ spIn b (p + 1) (spLoOf (b.getD p.toNat 0)) (spHiOf (b.getD p.toNat 0)) = false then 0
  else if b.getD p.toNat 0 < 224 then 2
  else if spIn b (p + 2) 128 191 = false then 0
  else if b.getD p.toNat 0 < 240 then 3
  else if spIn b (p + 3) 128 191 = false then 0
  else 4

/-! ### leat/leatref04.Char -/
noncomputable abbrev iorChar : Io := ⟨[dL, dI], [], [], [dI], none⟩
noncomputable def FrChar (d : iorChar.In) : Tr iorChar.Res := .ret (.ret ((spChar d.1.1 d.1.2.1, ()), ()))
noncomputable abbrev csrChar : List (Nat × Hc) := [(162, ioHd iorwithin Frwithin)]
noncomputable def hdrChar : Hd := hdT csrChar
noncomputable def lprChar : Lp := lpT []

noncomputable def bodyrChar (a0 : List Int) (a1 : Int) : Option iorChar.Res := bif decide (a1 < 0) then some (Out.ret ((0, ()), ())) else bif decide ((↑a0.length : Int) ≤ a1) then some (Out.ret ((0, ()), ())) else bif decide (0 ≤ a1) && decide (a1 < (↑a0.length : Int)) then bif decide (a0.getD a1.toNat 0 < 128) then some (Out.ret ((1, ()), ())) else bif a0.getD a1.toNat 0 == 224 then bif a0.getD a1.toNat 0 == 237 then bif a0.getD a1.toNat 0 == 240 then bif a0.getD a1.toNat 0 == 244 then bif decide (a0.getD a1.toNat 0 < 194) then some (Out.ret ((0, ()), ())) else bif decide (244 < a0.getD a1.toNat 0) then some (Out.ret ((0, ()), ())) else bif decide (0 ≤ IntKind.i64.wrap (a1 + 1)) then bif !spIn a0 (IntKind.i64.wrap (a1 + 1)) 144 143 then some (Out.ret ((0, ()), ())) else bif decide (a0.getD a1.toNat 0 < 224) then some (Out.ret ((2, ()), ())) else bif decide (0 ≤ IntKind.i64.wrap (a1 + 2)) then bif !spIn a0 (IntKind.i64.wrap (a1 + 2)) 128 191 then some (Out.ret ((0, ()), ())) else bif decide (a0.getD a1.toNat 0 < 240) then some (Out.ret ((3, ()), ())) else bif decide (0 ≤ IntKind.i64.wrap (a1 + 3)) then bif !spIn a0 (IntKind.i64.wrap (a1 + 3)) 128 191 then some (Out.ret ((0, ()), ())) else some (Out.ret ((4, ()), ())) else none else none else none else bif decide (a0.getD a1.toNat 0 < 194) then some (Out.ret ((0, ()), ())) else bif decide (244 < a0.getD a1.toNat 0) then some (Out.ret ((0, ()), ())) else bif decide (0 ≤ IntKind.i64.wrap (a1 + 1)) then bif !spIn a0 (IntKind.i64.wrap (a1 + 1)) 144 159 then some (Out.ret ((0, ()), ())) else bif decide (a0.getD a1.toNat 0 < 224) then some (Out.ret ((2, ()), ())) else bif decide (0 ≤ IntKind.i64.wrap (a1 + 2)) then bif !spIn a0 (IntKind.i64.wrap (a1 + 2)) 128 191 then some (Out.ret ((0, ()), ())) else bif decide (a0.getD a1.toNat 0 < 240) then some (Out.ret ((3, ()), ())) else bif decide (0 ≤ IntKind.i64.wrap (a1 + 3)) then bif !spIn a0 (IntKind.i64.wrap (a1 + 3)) 128 191 then some (Out.ret ((0, ()), ())) else some (Out.ret ((4, ()), ())) else none else none else none else bif a0.getD a1.toNat 0 == 244 then bif decide (a0.getD a1.toNat 0 < 194) then some (Out.ret ((0, ()), ())) else bif decide (244 < a0.getD a1.toNat 0) then some (Out.ret ((0, ()), ())) else bif decide (0 ≤ IntKind.i64.wrap (a1 + 1)) then bif !spIn a0 (IntKind.i64.wrap (a1 + 1)) 160 143 then some (Out.ret ((0, ()), ())) else bif decide (a0.getD a1.toNat 0 < 224) then some (Out.ret ((2, ()), ())) else bif decide (0 ≤ IntKind.i64.wrap (a1 + 2)) then bif !spIn a0 (IntKind.i64.wrap (a1 + 2)) 128 191 then some (Out.ret ((0, ()), ())) else bif decide (a0.getD a1.toNat 0 < 240) then some (Out.ret ((3, ()), ())) else bif decide (0 ≤ IntKind.i64.wrap (a1 + 3)) then bif !spIn a0 (IntKind.i64.wrap (a1 + 3)) 128 191 then some (Out.ret ((0, ()), ())) else some (Out.ret ((4, ()), ())) else none else none else none else bif decide (a0.getD a1.toNat 0 < 194) then some (Out.ret ((0, ()), ())) else bif decide (244 < a0.getD a1.toNat 0) then some (Out.ret ((0, ()), ())) else bif decide (0 ≤ IntKind.i64.wrap (a1 + 1)) then bif !spIn a0 (IntKind.i64.wrap (a1 + 1)) 160 159 then some (Out.ret ((0, ()), ())) else bif decide (a0.getD a1.toNat 0 < 224) then some (Out.ret ((2, ()), ())) else bif decide (0 ≤ IntKind.i64.wrap (a1 + 2)) then bif !spIn a0 (IntKind.i64.wrap (a1 + 2)) 128 191 then some (Out.ret ((0, ()), ())) else bif decide (a0.getD a1.toNat 0 < 240) then some (Out.ret ((3, ()), ())) else bif decide (0 ≤ IntKind.i64.wrap (a1 + 3)) then bif !spIn a0 (IntKind.i64.wrap (a1 + 3)) 128 191 then some (Out.ret ((0, ()), ())) else some (Out.ret ((4, ()), ())) else none else none else none else bif a0.getD a1.toNat 0 == 240 then bif a0.getD a1.toNat 0 == 244 then bif decide (a0.getD a1.toNat 0 < 194) then some (Out.ret ((0, ()), ())) else bif decide (244 < a0.getD a1.toNat 0) then some (Out.ret ((0, ()), ())) else bif decide (0 ≤ IntKind.i64.wrap (a1 + 1)) then bif !spIn a0 (IntKind.i64.wrap (a1 + 1)) 144 143 then some (Out.ret ((0, ()), ())) else bif decide (a0.getD a1.toNat 0 < 224) then some (Out.ret ((2, ()), ())) else bif decide (0 ≤ IntKind.i64.wrap (a1 + 2)) then bif !spIn a0 (IntKind.i64.wrap (a1 + 2)) 128 191 then some (Out.ret ((0, ()), ())) else bif decide (a0.getD a1.toNat 0 < 240) then some (Out.ret ((3, ()), ())) else bif decide (0 ≤ IntKind.i64.wrap (a1 + 3)) then bif !spIn a0 (IntKind.i64.wrap (a1 + 3)) 128 191 then some (Out.ret ((0, ()), ())) else some (Out.ret ((4, ()), ())) else none else none else none else bif decide (a0.getD a1.toNat 0 < 194) then some (Out.ret ((0, ()), ())) else bif decide (244 < a0.getD a1.toNat 0) then some (Out.ret ((0, ()), ())) else bif decide (0 ≤ IntKind.i64.wrap (a1 + 1)) then bif !spIn a0 (IntKind.i64.wrap (a1 + 1)) 144 191 then some (Out.ret ((0, ()), ())) else bif decide (a0.getD a1.toNat 0 < 224) then some (Out.ret ((2, ()), ())) else bif decide (0 ≤ IntKind.i64.wrap (a1 + 2)) then bif !spIn a0 (IntKind.i64.wrap (a1 + 2)) 128 191 then some (Out.ret ((0, ()), ())) else bif decide (a0.getD a1.toNat 0 < 240) then some (Out.ret ((3, ()), ())) else bif decide (0 ≤ IntKind.i64.wrap (a1 + 3)) then bif !spIn a0 (IntKind.i64.wrap (a1 + 3)) 128 191 then some (Out.ret ((0, ()), ())) else some (Out.ret ((4, ()), ())) else none else none else none else bif a0.getD a1.toNat 0 == 244 then bif decide (a0.getD a1.toNat 0 < 194) then some (Out.ret ((0, ()), ())) else bif decide (244 < a0.getD a1.toNat 0) then some (Out.ret ((0, ()), ())) else bif decide (0 ≤ IntKind.i64.wrap (a1 + 1)) then bif !spIn a0 (IntKind.i64.wrap (a1 + 1)) 160 143 then some (Out.ret ((0, ()), ())) else bif decide (a0.getD a1.toNat 0 < 224) then some (Out.ret ((2, ()), ())) else bif decide (0 ≤ IntKind.i64.wrap (a1 + 2)) then bif !spIn a0 (IntKind.i64.wrap (a1 + 2)) 128 191 then some (Out.ret ((0, ()), ())) else bif decide (a0.getD a1.toNat 0 < 240) then some (Out.ret ((3, ()), ())) else bif decide (0 ≤ IntKind.i64.wrap (a1 + 3)) then bif !spIn a0 (IntKind.i64.wrap (a1 + 3)) 128 191 then some (Out.ret ((0, ()), ())) else some (Out.ret ((4, ()), ())) else none else none else none else bif decide (a0.getD a1.toNat 0 < 194) then some (Out.ret ((0, ()), ())) else bif decide (244 < a0.getD a1.toNat 0) then some (Out.ret ((0, ()), ())) else bif decide (0 ≤ IntKind.i64.wrap (a1 + 1)) then bif !spIn a0 (IntKind.i64.wrap (a1 + 1)) 160 191 then some (Out.ret ((0, ()), ())) else bif decide (a0.getD a1.toNat 0 < 224) then some (Out.ret ((2, ()), ())) else bif decide (0 ≤ IntKind.i64.wrap (a1 + 2)) then bif !spIn a0 (IntKind.i64.wrap (a1 + 2)) 128 191 then some (Out.ret ((0, ()), ())) else bif decide (a0.getD a1.toNat 0 < 240) then some (Out.ret ((3, ()), ())) else bif decide (0 ≤ IntKind.i64.wrap (a1 + 3)) then bif !spIn a0 (IntKind.i64.wrap (a1 + 3)) 128 191 then some (Out.ret ((0, ()), ())) else some (Out.ret ((4, ()), ())) else none else none else none else bif a0.getD a1.toNat 0 == 237 then bif a0.getD a1.toNat 0 == 240 then bif a0.getD a1.toNat 0 == 244 then bif decide (a0.getD a1.toNat 0 < 194) then some (Out.ret ((0, ()), ())) else bif decide (244 < a0.getD a1.toNat 0) then some (Out.ret ((0, ()), ())) else bif decide (0 ≤ IntKind.i64.wrap (a1 + 1)) then bif !spIn a0 (IntKind.i64.wrap (a1 + 1)) 144 143 then some (Out.ret ((0, ()), ())) else bif decide (a0.getD a1.toNat 0 < 224) then some (Out.ret ((2, ()), ())) else bif decide (0 ≤ IntKind.i64.wrap (a1 + 2)) then bif !spIn a0 (IntKind.i64.wrap (a1 + 2)) 128 191 then some (Out.ret ((0, ()), ())) else bif decide (a0.getD a1.toNat 0 < 240) then some (Out.ret ((3, ()), ())) else bif decide (0 ≤ IntKind.i64.wrap (a1 + 3)) then bif !spIn a0 (IntKind.i64.wrap (a1 + 3)) 128 191 then some (Out.ret ((0, ()), ())) else some (Out.ret ((4, ()), ())) else none else none else none else bif decide (a0.getD a1.toNat 0 < 194) then some (Out.ret ((0, ()), ())) else bif decide (244 < a0.getD a1.toNat 0) then some (Out.ret ((0, ()), ())) else bif decide (0 ≤ IntKind.i64.wrap (a1 + 1)) then bif !spIn a0 (IntKind.i64.wrap (a1 + 1)) 144 159 then some (Out.ret ((0, ()), ())) else bif decide (a0.getD a1.toNat 0 < 224) then some (Out.ret ((2, ()), ())) else bif decide (0 ≤ IntKind.i64.wrap (a1 + 2)) then bif !spIn a0 (IntKind.i64.wrap (a1 + 2)) 128 191 then some (Out.ret ((0, ()), ())) else bif decide (a0.getD a1.toNat 0 < 240) then some (Out.ret ((3, ()), ())) else bif decide (0 ≤ IntKind.i64.wrap (a1 + 3)) then bif !spIn a0 (IntKind.i64.wrap (a1 + 3)) 128 191 then some (Out.ret ((0, ()), ())) else some (Out.ret ((4, ()), ())) else none else none else none else bif a0.getD a1.toNat 0 == 244 then bif decide (a0.getD a1.toNat 0 < 194) then some (Out.ret ((0, ()), ())) else bif decide (244 < a0.getD a1.toNat 0) then some (Out.ret ((0, ()), ())) else bif decide (0 ≤ IntKind.i64.wrap (a1 + 1)) then bif !spIn a0 (IntKind.i64.wrap (a1 + 1)) 128 143 then some (Out.ret ((0, ()), ())) else bif decide (a0.getD a1.toNat 0 < 224) then some (Out.ret ((2, ()), ())) else bif decide (0 ≤ IntKind.i64.wrap (a1 + 2)) then bif !spIn a0 (IntKind.i64.wrap (a1 + 2)) 128 191 then some (Out.ret ((0, ()), ())) else bif decide (a0.getD a1.toNat 0 < 240) then some (Out.ret ((3, ()), ())) else bif decide (0 ≤ IntKind.i64.wrap (a1 + 3)) then bif !spIn a0 (IntKind.i64.wrap (a1 + 3)) 128 191 then some (Out.ret ((0, ()), ())) else some (Out.ret ((4, ()), ())) else none else none else none else bif decide (a0.getD a1.toNat 0 < 194) then some (Out.ret ((0, ()), ())) else bif decide (244 < a0.getD a1.toNat 0) then some (Out.ret ((0, ()), ())) else bif decide (0 ≤ IntKind.i64.wrap (a1 + 1)) then bif !spIn a0 (IntKind.i64.wrap (a1 + 1)) 128 159 then some (Out.ret ((0, ()), ())) else bif decide (a0.getD a1.toNat 0 < 224) then some (Out.ret ((2, ()), ())) else bif decide (0 ≤ IntKind.i64.wrap (a1 + 2)) then bif !spIn a0 (IntKind.i64.wrap (a1 + 2)) 128 191 then some (Out.ret ((0, ()), ())) else bif decide (a0.getD a1.toNat 0 < 240) then some (Out.ret ((3, ()), ())) else bif decide (0 ≤ IntKind.i64.wrap (a1 + 3)) then bif !spIn a0 (IntKind.i64.wrap (a1 + 3)) 128 191 then some (Out.ret ((0, ()), ())) else some (Out.ret ((4, ()), ())) else none else none else none else bif a0.getD a1.toNat 0 == 240 then bif a0.getD a1.toNat 0 == 244 then bif decide (a0.getD a1.toNat 0 < 194) then some (Out.ret ((0, ()), ())) else bif decide (244 < a0.getD a1.toNat 0) then some (Out.ret ((0, ()), ())) else bif decide (0 ≤ IntKind.i64.wrap (a1 + 1)) then bif !spIn a0 (IntKind.i64.wrap (a1 + 1)) 144 143 then some (Out.ret ((0, ()), ())) else bif decide (a0.getD a1.toNat 0 < 224) then some (Out.ret ((2, ()), ())) else bif decide (0 ≤ IntKind.i64.wrap (a1 + 2)) then bif !spIn a0 (IntKind.i64.wrap (a1 + 2)) 128 191 then some (Out.ret ((0, ()), ())) else bif decide (a0.getD a1.toNat 0 < 240) then some (Out.ret ((3, ()), ())) else bif decide (0 ≤ IntKind.i64.wrap (a1 + 3)) then bif !spIn a0 (IntKind.i64.wrap (a1 + 3)) 128 191 then some (Out.ret ((0, ()), ())) else some (Out.ret ((4, ()), ())) else none else none else none else bif decide (a0.getD a1.toNat 0 < 194) then some (Out.ret ((0, ()), ())) else bif decide (244 < a0.getD a1.toNat 0) then some (Out.ret ((0, ()), ())) else bif decide (0 ≤ IntKind.i64.wrap (a1 + 1)) then bif !spIn a0 (IntKind.i64.wrap (a1 + 1)) 144 191 then some (Out.ret ((0, ()), ())) else bif decide (a0.getD a1.toNat 0 < 224) then some (Out.ret ((2, ()), ())) else bif decide (0 ≤ IntKind.i64.wrap (a1 + 2)) then bif !spIn a0 (IntKind.i64.wrap (a1 + 2)) 128 191 then some (Out.ret ((0, ()), ())) else bif decide (a0.getD a1.toNat 0 < 240) then some (Out.ret ((3, ()), ())) else bif decide (0 ≤ IntKind.i64.wrap (a1 + 3)) then bif !spIn a0 (IntKind.i64.wrap (a1 + 3)) 128 191 then some (Out.ret ((0, ()), ())) else some (Out.ret ((4, ()), ())) else none else none else none else bif a0.getD a1.toNat 0 == 244 then bif decide (a0.getD a1.toNat 0 < 194) then some (Out.ret ((0, ()), ())) else bif decide (244 < a0.getD a1.toNat 0) then some (Out.ret ((0, ()), ())) else bif decide (0 ≤ IntKind.i64.wrap (a1 + 1)) then bif !spIn a0 (IntKind.i64.wrap (a1 + 1)) 128 143 then some (Out.ret ((0, ()), ())) else bif decide (a0.getD a1.toNat 0 < 224) then some (Out.ret ((2, ()), ())) else bif decide (0 ≤ IntKind.i64.wrap (a1 + 2)) then bif !spIn a0 (IntKind.i64.wrap (a1 + 2)) 128 191 then some (Out.ret ((0, ()), ())) else bif decide (a0.getD a1.toNat 0 < 240) then some (Out.ret ((3, ()), ())) else bif decide (0 ≤ IntKind.i64.wrap (a1 + 3)) then bif !spIn a0 (IntKind.i64.wrap (a1 + 3)) 128 191 then some (Out.ret ((0, ()), ())) else some (Out.ret ((4, ()), ())) else none else none else none else bif decide (a0.getD a1.toNat 0 < 194) then some (Out.ret ((0, ()), ())) else bif decide (244 < a0.getD a1.toNat 0) then some (Out.ret ((0, ()), ())) else bif decide (0 ≤ IntKind.i64.wrap (a1 + 1)) then bif !spIn a0 (IntKind.i64.wrap (a1 + 1)) 128 191 then some (Out.ret ((0, ()), ())) else bif decide (a0.getD a1.toNat 0 < 224) then some (Out.ret ((2, ()), ())) else bif decide (0 ≤ IntKind.i64.wrap (a1 + 2)) then bif !spIn a0 (IntKind.i64.wrap (a1 + 2)) 128 191 then some (Out.ret ((0, ()), ())) else bif decide (a0.getD a1.toNat 0 < 240) then some (Out.ret ((3, ()), ())) else bif decide (0 ≤ IntKind.i64.wrap (a1 + 3)) then bif !spIn a0 (IntKind.i64.wrap (a1 + 3)) 128 191 then some (Out.ret ((0, ()), ())) else some (Out.ret ((4, ()), ())) else none else none else none else none
theorem runrChar (a0 : List Int) (a1 : Int) : Io.run tt hdrChar dr lprChar iorChar Go.Proofs.Tryz.f161 ((a0, a1, ()), ()) = bodyrChar a0 a1 := by kernel_rfl
theorem spIn_lt {b : List Int} {p lo hi : Int} (h : spIn b p lo hi = true) : p < (b.length : Int) := by
  simp only [spIn, Bool.and_eq_true, decide_eq_true_eq] at h
  exact h.1
noncomputable def chTail (b : List Int) (p c lo hi : Int) : Option iorChar.Res :=
  bif decide (c < 194) then some (Out.ret ((0, ()), ())) else bif decide (244 < c) then some (Out.ret ((0, ()), ())) else bif decide (0 ≤ p + 1) then bif !spIn b (p + 1) lo hi then some (Out.ret ((0, ()), ()))
    else bif decide (c < 224) then some (Out.ret ((2, ()), ())) else bif decide (0 ≤ IntKind.i64.wrap (p + 2)) then bif !spIn b (IntKind.i64.wrap (p + 2)) 128 191 then some (Out.ret ((0, ()), ()))
    else bif decide (c < 240) then some (Out.ret ((3, ()), ())) else bif decide (0 ≤ IntKind.i64.wrap (p + 3)) then bif !spIn b (IntKind.i64.wrap (p + 3)) 128 191 then some (Out.ret ((0, ()), ())) else some (Out.ret ((4, ()), ())) else none else none else none
theorem chTail_eq {b : List Int} {p c lo hi : Int} (hp : 0 ≤ p) (hb : (b.length : Int) ≤ 9223372036854775807) : chTail b p c lo hi = some (Out.ret ((if c < 194 ∨ 244 < c ∨ spIn b (p + 1) lo hi = false then 0 else if c < 224 then 2 else if spIn b (p + 2) 128 191 = false then 0 else if c < 240 then 3 else if spIn b (p + 3) 128 191 = false then 0 else 4, ()), ())) := by
  unfold chTail
  by_cases d2 : c < 194
  · simp [d2]
  by_cases d3 : 244 < c
  · simp [d2, d3]
  rw [bif_false (by simpa using d2), bif_false (by simpa using d3), bif_true (by simp; omega)]
  cases a1 : spIn b (p + 1) lo hi with
  | false => simp
  | true =>
    have h1 := spIn_lt a1
    have e2 : IntKind.i64.wrap (p + 2) = p + 2 := by rw [wrap_i64] <;> omega
    rw [e2]
    by_cases d4 : c < 224
    · simp [d2, d3, d4]
    rw [bif_false (by rfl), bif_false (by simpa using d4), bif_true (by simp; omega)]
    cases a2 : spIn b (p + 2) 128 191 with
    | false => simp [d2, d3, d4]
    | true =>
      have h2 := spIn_lt a2
      have e3 : IntKind.i64.wrap (p + 3) = p + 3 := by rw [wrap_i64] <;> omega
      rw [e3]
      by_cases d5 : c < 240
      · simp [d2, d3, d4, d5]
      rw [bif_false (by rfl), bif_false (by simpa using d5), bif_true (by simp; omega)]
      cases a3 : spIn b (p + 3) 128 191 <;> simp [d2, d3, d4, d5]
theorem okrChar : HcOk prog 161 (ioHd iorChar FrChar) := by
  refine fn_sound (n := 400) hm (cs := csrChar) (.cons okrwithin .nil) (lp := lprChar) (fn := Go.Proofs.Tryz.f161) (by kernel_rfl) (by kernel_rfl) (by kernel_rfl) iorChar (.done (by kernel_rfl)) FrChar ?_
  rintro ⟨⟨(b : List Int), (p : Int), ⟨⟩⟩, ⟨⟩⟩ out hw ho
  cases ho
  refine (runrChar b p).trans ?_
  have hb : b.length ≤ maxLen := hw.1.1.1
  rw [maxLen_eq] at hb
  unfold bodyrChar
  show _ = some (Out.ret ((spChar b p, ()), ()))
  unfold spChar
  by_cases h1 : p < 0
  · simp [h1]
  by_cases h2 : (b.length : Int) ≤ p
  · simp [h1, h2]
  have e1 : IntKind.i64.wrap (p + 1) = p + 1 := by rw [wrap_i64] <;> omega
  rw [e1]
  have h3 : 0 ≤ p := by omega
  have h4 : p < (b.length : Int) := by omega
  have h5 : (0 : Int) ≤ p + 1 := by omega
  have h6 : (0 : Int) ≤ p + 2 := by omega
  have h7 : (0 : Int) ≤ p + 3 := by omega
  generalize b.getD p.toNat 0 = c
  rw [bif_false (by simpa using h1), bif_false (by simpa using h2), bif_true (by simp; omega), if_neg (by omega)]
  by_cases d1 : c < 128
  · rw [bif_true (by simpa using d1), if_pos d1]
  rw [bif_false (by simpa using d1), if_neg d1]
  have tail : ∀ lo hi, spLoOf c = lo → spHiOf c = hi → chTail b p c lo hi = some (Out.ret ((if c < 194 ∨ 244 < c ∨ spIn b (p + 1) (spLoOf c) (spHiOf c) = false then 0 else if c < 224 then 2 else if spIn b (p + 2) 128 191 = false then 0 else if c < 240 then 3 else if spIn b (p + 3) 128 191 = false then 0 else 4, ()), ())) := by
    intro lo hi e1 e2
    rw [e1, e2]
    exact chTail_eq h3 (by omega)
  have no : ∀ x : Int, c ≠ x → (c == x) = false := fun x h => by simpa using h
  have ye : ∀ x : Int, c = x → (c == x) = true := fun x h => by simpa using h
  by_cases c1 : c = 224
  · rw [bif_true (ye _ c1), bif_false (no 237 (by omega)), bif_false (no 240 (by omega)), bif_false (no 244 (by omega))]
    exact tail 160 191 (by simp [spLoOf, c1]) (by simp [spHiOf, c1])
  rw [bif_false (no _ c1)]
  by_cases c2 : c = 237
  · rw [bif_true (ye _ c2), bif_false (no 240 (by omega)), bif_false (no 244 (by omega))]
    exact tail 128 159 (by simp [spLoOf, c2]) (by simp [spHiOf, c2])
  rw [bif_false (no _ c2)]
  by_cases c3 : c = 240
  · rw [bif_true (ye _ c3), bif_false (no 244 (by omega))]
    exact tail 144 191 (by simp [spLoOf, c3]) (by simp [spHiOf, c3])
  rw [bif_false (no _ c3)]
  by_cases c4 : c = 244
  · rw [bif_true (ye _ c4)]
    exact tail 128 143 (by simp [spLoOf, c4]) (by simp [spHiOf, c4])
  rw [bif_false (no _ c4)]
  exact tail 128 191 (by simp [spLoOf, c1, c3]) (by simp [spHiOf, c2, c4])

end
end Go.Proofs.YtmlgepgcofmpeaaGreat.Sym

/- leatref04.Utf. -/
namespace Go.Proofs.YtmlgepgcofmpeaaGreat.Sym
open Go
set_option linter.unusedSimpArgs false
set_option linter.unusedVariables false
noncomputable section

/-- The first place at which no character begins, and whether that is the end. -/
noncomputable def spUtfN (b : List Int) : Nat → Int → Int × Bool
  | 0, p => (p, true)
  | n + 1, p => if (b.length : Int) ≤ p then (p, true) else if spChar b p = 0 then (p, false) else spUtfN b n (p + spChar b p)
noncomputable def spUtf (b : List Int) : Int × Bool := spUtfN b (b.length + 1) 0

theorem spChar_le {b : List Int} {p : Int} (h0 : 0 ≤ p) (h : p < (b.length : Int)) : 0 ≤ spChar b p ∧ p + spChar b p ≤ b.length := by
  unfold spChar
  rw [if_neg (by omega)]
  split
  · omega
  split
  · omega
  rename_i h1
  have a1 : spIn b (p + 1) (spLoOf (b.getD p.toNat 0)) (spHiOf (b.getD p.toNat 0)) = true := by
    cases hx : spIn b (p + 1) (spLoOf (b.getD p.toNat 0)) (spHiOf (b.getD p.toNat 0)) with
    | true => rfl
    | false => exact absurd (.inr (.inr hx)) h1
  have h2 := spIn_lt a1
  split
  · omega
  split
  · omega
  rename_i h3
  have h4 := spIn_lt (show spIn b (p + 2) 128 191 = true by simpa using h3)
  split
  · omega
  split
  · omega
  rename_i h5
  have h6 := spIn_lt (show spIn b (p + 3) 128 191 = true by simpa using h5)
  omega

/-! ### leat/leatref04.Utf -/
noncomputable abbrev iorUtf : Io := ⟨[dL], [], [], [dI, dB], none⟩
noncomputable def FrUtf (d : iorUtf.In) : Tr iorUtf.Res := .ret (.ret (((spUtf d.1.1).1, (spUtf d.1.1).2, ()), ()))
noncomputable abbrev csrUtf : List (Nat × Hc) := [(161, ioHd iorChar FrChar)]
noncomputable def hdrUtf : Hd := hdT csrUtf
noncomputable abbrev lorUtf_3 : Lo := ⟨⟨[.one (.hol (.sl 5 (Ty.int IntKind.u8))), .any, .any, .any, .one (.hol (.int IntKind.i64)), .any, .any, .any, .any, .any, .any, .any, .any, .any, .any, .any, .any, .any, .any, .any], []⟩, [(.ret, ⟨[.any, .any, .one (.hol (.int IntKind.i64)), .one (.hol .bool), .any, .any, .any, .any, .any, .any, .any, .any, .any, .any, .any, .any, .any, .any, .any, .any], []⟩), (.exit 0, ⟨[.any, .any, .any, .any, .one (.hol (.int IntKind.i64)), .any, .any, .any, .any, .any, .any, .any, .any, .any, .any, .any, .any, .any, .any, .any], []⟩)]⟩
-- FrUtf_3 : lorUtf_3.st.den → Tr (DenX lorUtf_3.xs) | ((h1, (h2, ())), ())
noncomputable def FrUtf_3 (d : lorUtf_3.st.den) : Tr (DenX lorUtf_3.xs) :=
  .ite (decide (d.1.2.1 = (0 : Int))) (.ite (spUtf d.1.1).2 (.ret (.pan (.ret ((), (((spUtf d.1.1).1, ()), ()))))) (.ret (.ret ((), (((spUtf d.1.1).1, (false, ())), ()))))) .no
noncomputable def lprUtf : Lp := lpT [(3, loHd lorUtf_3 FrUtf_3)]
noncomputable def steprUtf_3 {R : Type} (h1 : List Int) (h2 : Int) (next : List Int → Int → Option R) (out : DenX lorUtf_3.xs → Option R) : Option R := bif decide (h2 < (↑h1.length : Int)) then bif spChar h1 h2 == 0 then out (.ret ((), ((h2, (false, ())), ()))) else next (h1) (IntKind.i64.wrap (h2 + spChar h1 h2)) else out (.pan (.ret ((), ((h2, ()), ()))))
noncomputable def itrUtf_3 (n : Nat) (h1 : List Int) (h2 : Int) : Option (DenX lorUtf_3.xs) := lpN tt hdrUtf dr lprUtf 0 Go.Proofs.Tryz.f157 (topL Go.Proofs.Tryz.f157 0) n (lorUtf_3.st.mk' ((h1, (h2, ())), ())) (decX lorUtf_3.xs)
theorem slrUtf_3 (n : Nat) (h1 : List Int) (h2 : Int) : itrUtf_3 (n + 1) h1 h2 = steprUtf_3 h1 h2 (itrUtf_3 n) some := by kernel_rfl
theorem looprUtf (b : List Int) (hb : (b.length : Int) ≤ 9223372036854775807) : ∀ (k : Nat) (p : Int), 0 ≤ p → p ≤ b.length → (b.length : Int) < p + k →
    itrUtf_3 k b p = if (spUtfN b k p).2 = true then some (.pan (.ret ((), (((spUtfN b k p).1, ()), ())))) else some (.ret ((), (((spUtfN b k p).1, (false, ())), ()))) := by
  intro k
  induction k with
  | zero => intro p h0 h1 h2; omega
  | succ k ih =>
    intro p h0 h1 h2
    rw [slrUtf_3]
    unfold steprUtf_3
    by_cases h3 : (b.length : Int) ≤ p
    · have h4 : ¬ p < (b.length : Int) := by omega
      have hS : spUtfN b (k + 1) p = (p, true) := by simp [spUtfN, h3]
      simp [hS, h4]
    · have h4 : p < (b.length : Int) := by omega
      obtain ⟨h5, h6⟩ := spChar_le h0 h4
      rw [bif_true (by simpa using h4)]
      by_cases h7 : spChar b p = 0
      · have hS : spUtfN b (k + 1) p = (p, false) := by simp [spUtfN, h3, h7]
        simp [hS, h7]
      · have hS : spUtfN b (k + 1) p = spUtfN b k (p + spChar b p) := by simp [spUtfN, h3, h7]
        simp only [hS]
        rw [bif_false (by simpa using h7), wrap_i64 (by omega) (by omega), ih _ (by omega) h6 (by omega)]
noncomputable def bodyrUtf (a0 : List Int) : Option iorUtf.Res := (FrUtf_3 ((a0, (0, ())), ())).run fun y => match y with | .ret ((), ((x8, x9, ()), ())) => (some (Out.ret ((x8, x9, ()), ()))) | .pan (.ret ((), ((x10, ()), ()))) => (some (Out.ret ((x10, true, ()), ())))
theorem runrUtf (a0 : List Int) : Io.run tt hdrUtf dr lprUtf iorUtf Go.Proofs.Tryz.f157 ((a0, ()), ()) = bodyrUtf a0 := by kernel_rfl
theorem okrUtf : HcOk prog 157 (ioHd iorUtf FrUtf) := by
  refine fn_sound (n := 400) hm (cs := csrUtf) (.cons okrChar .nil) (lp := lprUtf) (fn := Go.Proofs.Tryz.f157) (by kernel_rfl) (by kernel_rfl) (by kernel_rfl) iorUtf
    (.step (h0 := loHd lorUtf_3 FrUtf_3) (by kernel_rfl) (loop_sound (n := 400) hm (cs := csrUtf) (.cons okrChar .nil) (lp := lprUtf) (fn := Go.Proofs.Tryz.f157) (.done (by kernel_rfl)) lorUtf_3 FrUtf_3 ?_) (.done (by kernel_rfl))) FrUtf ?_
  · rintro ⟨⟨(b : List Int), (p : Int), ⟨⟩⟩, ⟨⟩⟩ y hw hy
    obtain ⟨hg, hy⟩ := Tr.guard hy
    have hg : p = 0 := by simpa using hg
    subst hg
    have hb : b.length ≤ maxLen := hw.1.1.1
    rw [maxLen_eq] at hb
    refine ⟨b.length + 1, (looprUtf b (by omega) (b.length + 1) 0 (by omega) (by omega) (by omega)).trans ?_⟩
    rw [← hy]
    simp only [Tr.val_ite, Tr.val_ret]
    rfl
  · rintro ⟨⟨(b : List Int), ⟨⟩⟩, ⟨⟩⟩ out hw ho
    cases ho
    refine (runrUtf b).trans ?_
    unfold bodyrUtf FrUtf_3
    show _ = some (Out.ret (((spUtf b).1, (spUtf b).2, ()), ()))
    simp only [Tr.run_ite, Tr.run_ret]
    generalize spUtf b = r
    obtain ⟨r1, r2⟩ := r
    cases r2 <;> simp

end
end Go.Proofs.YtmlgepgcofmpeaaGreat.Sym

/- strings.HasPrefix, label.Utf. -/
namespace Go.Proofs.YtmlgepgcofmpeaaGreat.Sym
open Go
set_option linter.unusedSimpArgs false
set_option linter.unusedVariables false
noncomputable section

noncomputable abbrev dS : Sh := .dat .str false false
noncomputable def spPre (s p : List Int) : Bool := decide (s.take p.length = p)
theorem mkStr_get {s : List Int} (hs : byteR s) (k : Nat) : ((mkStr s).get! k).toNat = (s.getD k 0).toNat := by
  by_cases h : k < s.length
  · have h1 : (mkStr s).get! k = UInt8.ofNat (s[k]).toNat := by
      have : k < (mkStr s).data.size := by simp [mkStr, h]
      have e : (mkStr s).get! k = (mkStr s).data[k] := getElem!_pos (mkStr s).data k this
      rw [e]
      simp [mkStr]
    rw [h1, getD_lt h]
    have := hs s[k] (List.getElem_mem h)
    rw [UInt8.toNat_ofNat', Nat.mod_eq_of_lt (by omega)]
  · have h1 : (mkStr s).get! k = 0 := by
      have : ¬ k < (mkStr s).data.size := by simp [mkStr]; omega
      have e : (mkStr s).get! k = default := getElem!_neg (mkStr s).data k this
      rw [e]
      rfl
    rw [h1, List.getD_eq_getElem?_getD, List.getElem?_eq_none (by omega)]
    rfl
/-- A character by its bytes. -/
def chN (r1 r2 r3 : Prop) [Decidable r1] [Decidable r2] [Decidable r3] (x0 x1 x2 x3 : Nat) : Nat :=
  if x0 < 128 then 1
  else if x0 < 194 ∨ 244 < x0 ∨ ¬ (r1 ∧ (if x0 = 240 then 144 else if x0 = 224 then 160 else 128) ≤ x1 ∧ x1 ≤ (if x0 = 244 then 143 else if x0 = 237 then 159 else 191)) then 0
  else if x0 < 224 then 2
  else if ¬ (r2 ∧ 128 ≤ x2 ∧ x2 ≤ 191) then 0
  else if x0 < 240 then 3
  else if ¬ (r3 ∧ 128 ≤ x3 ∧ x3 ≤ 191) then 0 else 4
theorem spChar_N {b : List Int} (hs : byteR b) {n : Nat} (h : n < b.length) : spChar b n = (chN (n + 1 < b.length) (n + 2 < b.length) (n + 3 < b.length) (b.getD n 0).toNat (b.getD (n + 1) 0).toNat (b.getD (n + 2) 0).toNat (b.getD (n + 3) 0).toNat : Int) := by
  have hr : ∀ k, 0 ≤ b.getD k 0 ∧ b.getD k 0 < 256 := fun k => by
    by_cases hk : k < b.length
    · rw [getD_lt hk]; exact hs _ (List.getElem_mem hk)
    · rw [List.getD_eq_getElem?_getD, List.getElem?_eq_none (by omega)]; simp
  unfold spChar chN spIn spLoOf spHiOf
  have e1 : ((n : Int) + 1).toNat = n + 1 := by omega
  have e2 : ((n : Int) + 2).toNat = n + 2 := by omega
  have e3 : ((n : Int) + 3).toNat = n + 3 := by omega
  rw [e1, e2, e3, Int.toNat_natCast]
  have h0 := hr n
  have h1 := hr (n + 1)
  have h2 := hr (n + 2)
  have h3 := hr (n + 3)
  generalize b.getD n 0 = y0 at *
  generalize b.getD (n + 1) 0 = y1 at *
  generalize b.getD (n + 2) 0 = y2 at *
  generalize b.getD (n + 3) 0 = y3 at *
  obtain ⟨x0, rfl⟩ := toNat_of h0.1
  obtain ⟨x1, rfl⟩ := toNat_of h1.1
  obtain ⟨x2, rfl⟩ := toNat_of h2.1
  obtain ⟨x3, rfl⟩ := toNat_of h3.1
  generalize b.length = L at *
  rw [if_neg (by omega)]
  simp only [Bool.and_eq_false_iff, decide_eq_false_iff_not, Int.toNat_natCast]
  by_cases a0 : x0 < 128
  · rw [if_pos (by omega), if_pos a0]; rfl
  rw [if_neg (by omega), if_neg a0]
  have hi : (if (x0 : Int) = 240 then (144 : Int) else if (x0 : Int) = 224 then 160 else 128) = ((if x0 = 240 then 144 else if x0 = 224 then 160 else 128 : Nat) : Int) := by
    repeat' split
    all_goals omega
  have hj : (if (x0 : Int) = 244 then (143 : Int) else if (x0 : Int) = 237 then 159 else 191) = ((if x0 = 244 then 143 else if x0 = 237 then 159 else 191 : Nat) : Int) := by
    repeat' split
    all_goals omega
  rw [hi, hj]
  generalize (if x0 = 240 then 144 else if x0 = 224 then 160 else 128 : Nat) = lo
  generalize (if x0 = 244 then 143 else if x0 = 237 then 159 else 191 : Nat) = hi
  by_cases a1 : x0 < 194 ∨ 244 < x0 ∨ ¬ (n + 1 < L ∧ lo ≤ x1 ∧ x1 ≤ hi)
  · rw [if_pos a1, if_pos (by omega)]; rfl
  rw [if_neg a1, if_neg (by omega)]
  by_cases a2 : x0 < 224
  · rw [if_pos a2, if_pos (by omega)]; rfl
  rw [if_neg a2, if_neg (by omega)]
  by_cases a3 : ¬ (n + 2 < L ∧ 128 ≤ x2 ∧ x2 ≤ 191)
  · rw [if_pos a3, if_pos (by omega)]; rfl
  rw [if_neg a3, if_neg (by omega)]
  by_cases a4 : x0 < 240
  · rw [if_pos a4, if_pos (by omega)]; rfl
  rw [if_neg a4, if_neg (by omega)]
  by_cases a5 : ¬ (n + 3 < L ∧ 128 ≤ x3 ∧ x3 ≤ 191)
  · rw [if_pos a5, if_pos (by omega)]; rfl
  rw [if_neg a5, if_neg (by omega)]; rfl
/-- A rune by its bytes. -/
def ruN (r1 r2 r3 : Prop) [Decidable r1] [Decidable r2] [Decidable r3] (x0 x1 x2 x3 : Nat) : Nat × Nat :=
  if x0 < 128 then (x0, 1)
  else if x0 / 32 = 6 ∧ (r1 ∧ x1 / 64 = 2) then (if 128 ≤ (x0 % 32) * 64 + x1 % 64 then ((x0 % 32) * 64 + x1 % 64, 2) else (65533, 1))
  else if (x0 / 16 = 14 ∧ (r1 ∧ x1 / 64 = 2)) ∧ (r2 ∧ x2 / 64 = 2) then
    (if 2048 ≤ (x0 % 16) * 4096 + (x1 % 64) * 64 + x2 % 64 ∧ ((x0 % 16) * 4096 + (x1 % 64) * 64 + x2 % 64 < 55296 ∨ 57344 ≤ (x0 % 16) * 4096 + (x1 % 64) * 64 + x2 % 64) then ((x0 % 16) * 4096 + (x1 % 64) * 64 + x2 % 64, 3) else (65533, 1))
  else if ((x0 / 8 = 30 ∧ (r1 ∧ x1 / 64 = 2)) ∧ (r2 ∧ x2 / 64 = 2)) ∧ (r3 ∧ x3 / 64 = 2) then
    (if 65536 ≤ (x0 % 8) * 262144 + (x1 % 64) * 4096 + (x2 % 64) * 64 + x3 % 64 ∧ (x0 % 8) * 262144 + (x1 % 64) * 4096 + (x2 % 64) * 64 + x3 % 64 ≤ 1114111 then ((x0 % 8) * 262144 + (x1 % 64) * 4096 + (x2 % 64) * 64 + x3 % 64, 4) else (65533, 1))
  else (65533, 1)
theorem valid3 {c : Nat} (h : c < 65536) : Utf8.valid (c : Int) = true ↔ (c < 55296 ∨ 57344 ≤ c) := by
  simp only [Utf8.valid, Bool.or_eq_true, Bool.and_eq_true, decide_eq_true_eq]; omega
theorem valid4 {c : Nat} (h : 65536 ≤ c) : Utf8.valid (c : Int) = true ↔ c ≤ 1114111 := by
  simp only [Utf8.valid, Bool.or_eq_true, Bool.and_eq_true, decide_eq_true_eq]; omega
theorem decode_N {b : List Int} (hs : byteR b) (n : Nat) : Utf8.decode (mkStr b) n = ruN (n + 1 < b.length) (n + 2 < b.length) (n + 3 < b.length) (b.getD n 0).toNat (b.getD (n + 1) 0).toNat (b.getD (n + 2) 0).toNat (b.getD (n + 3) 0).toNat := by
  unfold Utf8.decode ruN Utf8.runeError
  simp only [mkStr_get hs, mkStr_size, Nat.add_zero]
  generalize (b.getD n 0).toNat = x0
  generalize (b.getD (n + 1) 0).toNat = x1
  generalize (b.getD (n + 2) 0).toNat = x2
  generalize (b.getD (n + 3) 0).toNat = x3
  simp only [Bool.and_eq_true, decide_eq_true_eq, beq_iff_eq, ge_iff_le]
  congr 1
  congr 1
  congr 1
  · congr 1
    apply propext
    constructor
    · rintro ⟨h1, h2⟩; exact ⟨h1, (valid3 (by omega)).1 h2⟩
    · rintro ⟨h1, h2⟩; exact ⟨h1, (valid3 (by omega)).2 h2⟩
  · congr 1
    congr 1
    apply propext
    constructor
    · rintro ⟨h1, h2⟩; exact ⟨h1, (valid4 h1).1 h2⟩
    · rintro ⟨h1, h2⟩; exact ⟨h1, (valid4 h1).2 h2⟩
theorem ru2 {x0 x1 : Nat} (h0 : x0 < 256) (h1 : x1 < 256) : (x0 / 32 = 6 ∧ x1 / 64 = 2) ∧ 128 ≤ (x0 % 32) * 64 + x1 % 64 ↔ 194 ≤ x0 ∧ x0 < 224 ∧ 128 ≤ x1 ∧ x1 ≤ 191 := by omega
theorem ru3 {x0 x1 x2 : Nat} (h0 : x0 < 256) (h1 : x1 < 256) (h2 : x2 < 256) : ((x0 / 16 = 14 ∧ x1 / 64 = 2) ∧ x2 / 64 = 2) ∧ (2048 ≤ (x0 % 16) * 4096 + (x1 % 64) * 64 + x2 % 64 ∧ ((x0 % 16) * 4096 + (x1 % 64) * 64 + x2 % 64 < 55296 ∨ 57344 ≤ (x0 % 16) * 4096 + (x1 % 64) * 64 + x2 % 64)) ↔
    224 ≤ x0 ∧ x0 < 240 ∧ ((if x0 = 224 then 160 else 128) ≤ x1 ∧ x1 ≤ (if x0 = 237 then 159 else 191)) ∧ 128 ≤ x2 ∧ x2 ≤ 191 := by
  constructor
  · rintro ⟨⟨⟨h3, h4⟩, h5⟩, h6⟩
    refine ⟨by omega, by omega, ⟨?_, ?_⟩, by omega, by omega⟩
    · split <;> omega
    · split <;> omega
  · rintro ⟨h3, h4, ⟨h5, h6⟩, h7, h8⟩
    split at h5 <;> split at h6 <;> omega
theorem ru4 {x0 x1 x2 x3 : Nat} (h0 : x0 < 256) (h1 : x1 < 256) (h2 : x2 < 256) (h3 : x3 < 256) : (((x0 / 8 = 30 ∧ x1 / 64 = 2) ∧ x2 / 64 = 2) ∧ x3 / 64 = 2) ∧ (65536 ≤ (x0 % 8) * 262144 + (x1 % 64) * 4096 + (x2 % 64) * 64 + x3 % 64 ∧ (x0 % 8) * 262144 + (x1 % 64) * 4096 + (x2 % 64) * 64 + x3 % 64 ≤ 1114111) ↔
    240 ≤ x0 ∧ x0 ≤ 244 ∧ ((if x0 = 240 then 144 else 128) ≤ x1 ∧ x1 ≤ (if x0 = 244 then 143 else 191)) ∧ (128 ≤ x2 ∧ x2 ≤ 191) ∧ (128 ≤ x3 ∧ x3 ≤ 191) := by
  constructor
  · rintro ⟨⟨⟨⟨h3, h4⟩, h5⟩, h6⟩, h7⟩
    refine ⟨by omega, by omega, ⟨?_, ?_⟩, ⟨by omega, by omega⟩, by omega, by omega⟩
    · split <;> omega
    · split <;> omega
  · rintro ⟨h3, h4, ⟨h5, h6⟩, ⟨h7, h8⟩, h9, h10⟩
    split at h5 <;> split at h6 <;> omega
theorem ch_ru (r1 r2 r3 : Prop) [Decidable r1] [Decidable r2] [Decidable r3] (x0 x1 x2 x3 : Nat) (h0 : x0 < 256) (h1 : x1 < 256) (h2 : x2 < 256) (h3 : x3 < 256) :
    (chN r1 r2 r3 x0 x1 x2 x3 = 0 ∧ ruN r1 r2 r3 x0 x1 x2 x3 = (65533, 1) ∧ ¬ (r1 ∧ r2 ∧ x0 = 239 ∧ x1 = 191 ∧ x2 = 189)) ∨
    (0 < chN r1 r2 r3 x0 x1 x2 x3 ∧ (ruN r1 r2 r3 x0 x1 x2 x3).2 = chN r1 r2 r3 x0 x1 x2 x3 ∧ ((ruN r1 r2 r3 x0 x1 x2 x3).1 = 65533 → (r1 ∧ r2 ∧ x0 = 239 ∧ x1 = 191 ∧ x2 = 189))) := by
  by_cases a0 : x0 < 128
  · right
    unfold chN ruN
    rw [if_pos a0, if_pos a0]
    exact ⟨by omega, rfl, fun h => by simp only at h; omega⟩
  by_cases c2 : r1 ∧ 194 ≤ x0 ∧ x0 < 224 ∧ 128 ≤ x1 ∧ x1 ≤ 191
  · right
    obtain ⟨⟨g1, g2⟩, g3⟩ := (ru2 h0 h1).2 c2.2
    have e1 : chN r1 r2 r3 x0 x1 x2 x3 = 2 := by
      unfold chN
      rw [if_neg a0, if_neg, if_pos (by omega)]
      rintro (h | h | h)
      · omega
      · omega
      · refine h ⟨c2.1, ?_, ?_⟩
        · rw [if_neg (by omega), if_neg (by omega)]; omega
        · rw [if_neg (by omega), if_neg (by omega)]; omega
    have e2 : ruN r1 r2 r3 x0 x1 x2 x3 = ((x0 % 32) * 64 + x1 % 64, 2) := by
      unfold ruN
      rw [if_neg a0, if_pos ⟨g1, c2.1, g2⟩, if_pos g3]
    rw [e1, e2]
    exact ⟨by omega, rfl, fun h => by simp only at h; omega⟩
  by_cases c3 : r1 ∧ r2 ∧ (224 ≤ x0 ∧ x0 < 240 ∧ ((if x0 = 224 then 160 else 128) ≤ x1 ∧ x1 ≤ (if x0 = 237 then 159 else 191)) ∧ 128 ≤ x2 ∧ x2 ≤ 191)
  · right
    obtain ⟨k1, k2, k⟩ := c3
    obtain ⟨⟨⟨g1, g2⟩, g3⟩, g4⟩ := (ru3 h0 h1 h2).2 k
    have e1 : chN r1 r2 r3 x0 x1 x2 x3 = 3 := by
      unfold chN
      rw [if_neg a0, if_neg, if_neg (by omega), if_neg (fun h => h ⟨k2, k.2.2.2⟩), if_pos (by omega)]
      rintro (h | h | h)
      · omega
      · omega
      · refine h ⟨k1, ?_, ?_⟩
        · rw [if_neg (by omega)]; exact k.2.2.1.1
        · rw [if_neg (by omega)]; exact k.2.2.1.2
    have e2 : ruN r1 r2 r3 x0 x1 x2 x3 = ((x0 % 16) * 4096 + (x1 % 64) * 64 + x2 % 64, 3) := by
      unfold ruN
      rw [if_neg a0, if_neg (by omega), if_pos ⟨⟨g1, k1, g2⟩, k2, g3⟩, if_pos g4]
    rw [e1, e2]
    refine ⟨by omega, rfl, fun h => ?_⟩
    simp only at h
    exact ⟨k1, k2, by omega⟩
  by_cases c4 : r1 ∧ r2 ∧ r3 ∧ (240 ≤ x0 ∧ x0 ≤ 244 ∧ ((if x0 = 240 then 144 else 128) ≤ x1 ∧ x1 ≤ (if x0 = 244 then 143 else 191)) ∧ (128 ≤ x2 ∧ x2 ≤ 191) ∧ (128 ≤ x3 ∧ x3 ≤ 191))
  · right
    obtain ⟨k1, k2, k3, k⟩ := c4
    obtain ⟨⟨⟨⟨g1, g2⟩, g3⟩, g4⟩, g5⟩ := (ru4 h0 h1 h2 h3).2 k
    have e1 : chN r1 r2 r3 x0 x1 x2 x3 = 4 := by
      unfold chN
      rw [if_neg a0, if_neg, if_neg (by omega), if_neg (fun h => h ⟨k2, k.2.2.2.1⟩), if_neg (by omega), if_neg (fun h => h ⟨k3, k.2.2.2.2⟩)]
      rintro (h | h | h)
      · omega
      · omega
      · refine h ⟨k1, ?_, ?_⟩
        · have := k.2.2.1.1
          split at this
          · rename_i e; rw [if_pos e]; exact this
          · rename_i e; rw [if_neg e, if_neg (by omega)]; exact this
        · have := k.2.2.1.2
          split at this
          · rename_i e; rw [if_pos e]; exact this
          · rename_i e; rw [if_neg e, if_neg (by omega)]; exact this
    have e2 : ruN r1 r2 r3 x0 x1 x2 x3 = ((x0 % 8) * 262144 + (x1 % 64) * 4096 + (x2 % 64) * 64 + x3 % 64, 4) := by
      unfold ruN
      rw [if_neg a0, if_neg (by omega), if_neg (by omega), if_pos ⟨⟨⟨g1, k1, g2⟩, k2, g3⟩, k3, g4⟩, if_pos g5]
    rw [e1, e2]
    exact ⟨by omega, rfl, fun h => by simp only at h; omega⟩
  · left
    have e2 : ruN r1 r2 r3 x0 x1 x2 x3 = (65533, 1) := by
      unfold ruN
      rw [if_neg a0]
      split
      · rename_i g
        rw [if_neg fun g' => c2 ⟨g.2.1, (ru2 h0 h1).1 ⟨⟨g.1, g.2.2⟩, g'⟩⟩]
      split
      · rename_i g
        rw [if_neg fun g' => c3 ⟨g.1.2.1, g.2.1, (ru3 h0 h1 h2).1 ⟨⟨⟨g.1.1, g.1.2.2⟩, g.2.2⟩, g'⟩⟩]
      split
      · rename_i g
        rw [if_neg fun g' => c4 ⟨g.1.1.2.1, g.1.2.1, g.2.1, (ru4 h0 h1 h2 h3).1 ⟨⟨⟨⟨g.1.1.1, g.1.1.2.2⟩, g.1.2.2⟩, g.2.2⟩, g'⟩⟩]
      rfl
    have e3 : ¬ (r1 ∧ r2 ∧ x0 = 239 ∧ x1 = 191 ∧ x2 = 189) := by
      rintro ⟨k1, k2, rfl, rfl, rfl⟩
      exact c3 ⟨k1, k2, by simp⟩
    refine ⟨?_, e2, e3⟩
    unfold chN
    rw [if_neg a0]
    generalize hlo : (if x0 = 240 then 144 else if x0 = 224 then 160 else 128 : Nat) = lo
    generalize hhi : (if x0 = 244 then 143 else if x0 = 237 then 159 else 191 : Nat) = hi
    by_cases g : x0 < 194 ∨ 244 < x0 ∨ ¬ (r1 ∧ lo ≤ x1 ∧ x1 ≤ hi)
    · rw [if_pos g]
    rw [if_neg g]
    simp only [not_or, Decidable.not_not] at g
    obtain ⟨g1, g2, g3, g4, g5⟩ := g
    by_cases g6 : x0 < 224
    · rw [if_neg (by omega), if_neg (by omega)] at hlo hhi
      exact absurd ⟨g3, by omega, by omega, by omega, by omega⟩ c2
    rw [if_neg g6]
    by_cases g7 : ¬ (r2 ∧ 128 ≤ x2 ∧ x2 ≤ 191)
    · rw [if_pos g7]
    rw [if_neg g7]
    simp only [Decidable.not_not] at g7
    by_cases g8 : x0 < 240
    · rw [if_neg (by omega)] at hlo hhi
      subst hlo hhi
      exact absurd ⟨g3, g7.1, by omega, by omega, ⟨g4, g5⟩, g7.2⟩ c3
    rw [if_neg g8]
    by_cases g9 : ¬ (r3 ∧ 128 ≤ x3 ∧ x3 ≤ 191)
    · rw [if_pos g9]
    exfalso
    simp only [Decidable.not_not] at g9
    refine c4 ⟨g3, g7.1, g9.1, by omega, by omega, ⟨?_, ?_⟩, g7.2, g9.2⟩
    · by_cases e : x0 = 240
      · rw [if_pos e] at hlo ⊢; omega
      · rw [if_neg e] at hlo ⊢; rw [if_neg (by omega)] at hlo; omega
    · by_cases e : x0 = 244
      · rw [if_pos e] at hhi ⊢; omega
      · rw [if_neg e] at hhi ⊢; rw [if_neg (by omega)] at hhi; omega
theorem pre_iff {b : List Int} {n : Nat} (hs : byteR b) : spPre (b.drop n) [239, 191, 189] = true ↔ (n + 1 < b.length ∧ n + 2 < b.length ∧ (b.getD n 0).toNat = 239 ∧ (b.getD (n + 1) 0).toNat = 191 ∧ (b.getD (n + 2) 0).toNat = 189) := by
  unfold spPre
  rw [decide_eq_true_eq]
  show (b.drop n).take 3 = _ ↔ _
  constructor
  · intro h
    have hl := congrArg List.length h
    simp only [List.length_take, List.length_drop, List.length_cons, List.length_nil] at hl
    have h3 : n + 2 < b.length := by omega
    rw [List.drop_eq_getElem_cons (by omega), List.drop_eq_getElem_cons (by omega), List.drop_eq_getElem_cons (by omega)] at h
    simp only [List.take_succ_cons, List.take_zero, List.cons.injEq, and_true] at h
    obtain ⟨k1, k2, k3⟩ := h
    have k3 : b[n + 2] = 189 := k3
    rw [getD_lt (by omega), getD_lt (by omega), getD_lt h3, k1, k2, k3]
    exact ⟨by omega, by omega, rfl, rfl, rfl⟩
  · rintro ⟨h1, h2, h3, h4, h5⟩
    rw [getD_lt (by omega)] at h3 h4 h5
    rw [List.drop_eq_getElem_cons (by omega), List.drop_eq_getElem_cons (by omega), List.drop_eq_getElem_cons (by omega)]
    simp only [List.take_succ_cons, List.take_zero, List.cons.injEq, and_true]
    refine ⟨by omega, by omega, ?_⟩
    show b[n + 2] = 189
    omega
theorem rune_char {b : List Int} (hs : byteR b) {n : Nat} (h : n < b.length) :
    (spChar b n = 0 ∧ (spRune b n).1 = 65533 ∧ spPre (b.drop n) [239, 191, 189] = false) ∨
    (0 < spChar b n ∧ (spRune b n).2 = spChar b n ∧ ((spRune b n).1 = 65533 → spPre (b.drop n) [239, 191, 189] = true)) := by
  rw [spRune_nat, spChar_N hs h, decode_N hs n]
  have hx : ∀ k, (b.getD k 0).toNat < 256 := fun k => by rw [← mkStr_get hs]; exact UInt8.toNat_lt _
  have := ch_ru (n + 1 < b.length) (n + 2 < b.length) (n + 3 < b.length) _ _ _ _ (hx n) (hx (n + 1)) (hx (n + 2)) (hx (n + 3))
  rw [pre_iff hs, ← Bool.not_eq_true, pre_iff hs]
  rcases this with ⟨h1, h2, h3⟩ | ⟨h1, h2, h3⟩
  · left
    exact ⟨by rw [h1]; rfl, by rw [h2]; rfl, h3⟩
  · right
    exact ⟨by omega, by simp only; rw [h2], fun h => h3 (by simp only at h; omega)⟩

/-! ### internal/stringslite.HasPrefix -/
noncomputable abbrev iopPre0 : Io := ⟨[dS, dS], [], [], [dB], none⟩
noncomputable def FpPre0 (d : iopPre0.In) : Tr iopPre0.Res := .ret (.ret ((spPre d.1.1 d.1.2.1, ()), ()))
noncomputable abbrev cspPre0 : List (Nat × Hc) := []
noncomputable def hdpPre0 : Hd := hdT cspPre0
noncomputable def lppPre0 : Lp := lpT []

noncomputable def bodypPre0 (a0 : List Int) (a1 : List Int) : Option iopPre0.Res := bif decide ((↑a1.length : Int) ≤ (↑a0.length : Int)) then bif decide (0 ≤ 0) && (decide (0 ≤ (↑a1.length : Int)) && decide ((↑a1.length : Int) ≤ (↑a0.length : Int))) then some (Out.ret ((decide (List.drop (Int.toNat 0) (List.take (↑a1.length : Int).toNat a0) = a1), ()), ())) else none else some (Out.ret ((false, ()), ()))
theorem runpPre0 (a0 : List Int) (a1 : List Int) : Io.run tt hdpPre0 dr lppPre0 iopPre0 Go.Proofs.Tryz.f147 ((a0, a1, ()), ()) = bodypPre0 a0 a1 := by kernel_rfl
theorem okpPre0 : HcOk prog 147 (ioHd iopPre0 FpPre0) := by
  refine fn_sound (n := 400) hm (cs := cspPre0) .nil (lp := lppPre0) (fn := Go.Proofs.Tryz.f147) (by kernel_rfl) (by kernel_rfl) (by kernel_rfl) iopPre0 (.done (by kernel_rfl)) FpPre0 ?_
  rintro ⟨⟨(s : List Int), (p : List Int), ⟨⟩⟩, ⟨⟩⟩ out hw ho
  cases ho
  refine (runpPre0 s p).trans ?_
  show _ = some (Out.ret ((spPre s p, ()), ()))
  unfold bodypPre0
  by_cases h : p.length ≤ s.length
  · rw [bif_true (by simpa using h), bif_true (by simp; omega)]
    rfl
  · rw [bif_false (by simpa using h)]
    have : spPre s p = false := by
      unfold spPre
      rw [decide_eq_false_iff_not]
      intro e
      have := congrArg List.length e
      simp only [List.length_take] at this
      omega
    rw [this]

/-! ### strings.HasPrefix -/
noncomputable abbrev iopPre : Io := ⟨[dS, dS], [], [], [dB], none⟩
noncomputable def FpPre (d : iopPre.In) : Tr iopPre.Res := .ret (.ret ((spPre d.1.1 d.1.2.1, ()), ()))
noncomputable abbrev cspPre : List (Nat × Hc) := [(147, ioHd iopPre0 FpPre0)]
noncomputable def hdpPre : Hd := hdT cspPre
noncomputable def lppPre : Lp := lpT []

noncomputable def bodypPre (a0 : List Int) (a1 : List Int) : Option iopPre.Res := some (Out.ret ((spPre a0 a1, ()), ()))
theorem runpPre (a0 : List Int) (a1 : List Int) : Io.run tt hdpPre dr lppPre iopPre Go.Proofs.Tryz.f133 ((a0, a1, ()), ()) = bodypPre a0 a1 := by kernel_rfl
theorem okpPre : HcOk prog 133 (ioHd iopPre FpPre) := by
  refine fn_sound (n := 400) hm (cs := cspPre) (.cons okpPre0 .nil) (lp := lppPre) (fn := Go.Proofs.Tryz.f133) (by kernel_rfl) (by kernel_rfl) (by kernel_rfl) iopPre (.done (by kernel_rfl)) FpPre ?_
  rintro ⟨⟨(s : List Int), (p : List Int), ⟨⟩⟩, ⟨⟩⟩ out hw ho
  cases ho
  exact runpPre s p

theorem spUtfN_end (b : List Int) : ∀ (n : Nat) (p : Int), 0 ≤ p → p ≤ b.length → (b.length : Int) < p + n → (spUtfN b n p).2 = true → (spUtfN b n p).1 = b.length
  | 0, p, h0, h1, h2, h => by omega
  | n + 1, p, h0, h1, h2, h => by
    unfold spUtfN at h ⊢
    split
    · rename_i h3; simp only; omega
    · rename_i h3
      rw [if_neg h3] at h
      split
      · rename_i h4; rw [if_pos h4] at h; cases h
      · rename_i h4
        rw [if_neg h4] at h
        have h5 := spChar_le (b := b) h0 (show p < (b.length : Int) by omega)
        exact spUtfN_end b n _ (by omega) (by omega) (by omega) h
theorem spUtf_end (b : List Int) (h : (spUtf b).2 = true) : (spUtf b).1 = b.length := spUtfN_end b (b.length + 1) 0 (by omega) (by omega) (by omega) h

/-! ### leat/label.Utf -/
noncomputable abbrev iopUtf : Io := ⟨[dL], [], [], [dI, dB], none⟩
noncomputable def FpUtf (d : iopUtf.In) : Tr iopUtf.Res := .ret (.ret (((spUtf d.1.1).1, (spUtf d.1.1).2, ()), ()))
noncomputable abbrev cspUtf : List (Nat × Hc) := [(133, ioHd iopPre FpPre)]
noncomputable def hdpUtf : Hd := hdT cspUtf
noncomputable abbrev lopUtf_4 : Lo := ⟨⟨[.one (.hol (.sl 5 (Ty.int IntKind.u8))), .any, .any, .any, .one (.hol .str), .any, .any, .any, .any, .any, .one (.ptr 10 0), .any, .any, .any, .any, .any, .any, .any, .any, .any, .any, .any, .any, .any, .any, .any, .any], [none, none, none, none, none, none, none, none, none, none, some [.itr]]⟩, [(.ret, ⟨[.any, .any, .one (.hol (.int IntKind.i64)), .one (.hol .bool), .any, .any, .any, .any, .any, .any, .any, .any, .any, .any, .any, .any, .any, .any, .any, .any, .any, .any, .any, .any, .any, .any, .any], []⟩), (.exit 0, ⟨[.one (.hol (.sl 5 (Ty.int IntKind.u8))), .any, .any, .any, .any, .any, .any, .any, .any, .any, .any, .any, .any, .any, .any, .any, .any, .any, .any, .any, .any, .any, .any, .any, .any, .any, .any], []⟩)]⟩
-- FpUtf_4 : lopUtf_4.st.den → Tr (DenX lopUtf_4.xs) | ((h1, (h2, ())), ((h3, ()), ()))
noncomputable def FpUtf_4 (d : lopUtf_4.st.den) : Tr (DenX lopUtf_4.xs) :=
  .ite (decide (d.2.1.1.2 = (0 : Int)) && decide (d.2.1.1.1 = d.1.2.1)) (.ite (spUtf d.1.2.1).2 (.ret (.pan (.ret ((), ((d.1.1, ()), ()))))) (.ret (.ret ((), (((spUtf d.1.2.1).1, (false, ())), ()))))) .no
noncomputable def lppUtf : Lp := lpT [(4, loHd lopUtf_4 FpUtf_4)]
noncomputable def steppUtf_4 {R : Type} (h1 : List Int) (h2 : List Int) (h3 : List Int × Int) (next : List Int → List Int → List Int × Int → Option R) (out : DenX lopUtf_4.xs → Option R) : Option R := bif decide (h3.snd < (↑h3.fst.length : Int)) then bif (spRune h3.fst h3.snd).fst == 65533 then bif decide (0 ≤ h3.snd) && (decide (h3.snd ≤ (↑h2.length : Int)) && decide ((↑h2.length : Int) ≤ (↑h2.length : Int))) then bif !spPre (List.drop h3.snd.toNat (List.take (↑h2.length : Int).toNat h2)) (List.map (fun (c : UInt8) => (↑c.toNat : Int)) [UInt8.ofBitVec (BitVec.ofFin (Fin.mk (239 % 2 ^ 8) (Nat.mod_lt 239 (BitVec.ofNat._proof_1 8)))), UInt8.ofBitVec (BitVec.ofFin (Fin.mk (191 % 2 ^ 8) (Nat.mod_lt 191 (BitVec.ofNat._proof_1 8)))), UInt8.ofBitVec (BitVec.ofFin (Fin.mk (189 % 2 ^ 8) (Nat.mod_lt 189 (BitVec.ofNat._proof_1 8))))]) then out (.ret ((), ((h3.snd, (false, ())), ()))) else next (h1) (h2) ((h3.fst, h3.snd + (spRune h3.fst h3.snd).snd)) else none else next (h1) (h2) ((h3.fst, h3.snd + (spRune h3.fst h3.snd).snd)) else out (.pan (.ret ((), ((h1, ()), ()))))
noncomputable def itpUtf_4 (n : Nat) (h1 : List Int) (h2 : List Int) (h3 : List Int × Int) : Option (DenX lopUtf_4.xs) := lpN tt hdpUtf dr lppUtf 0 Go.Proofs.Tryz.f104 (topL Go.Proofs.Tryz.f104 0) n (lopUtf_4.st.mk' ((h1, (h2, ())), ((h3, ()), ()))) (decX lopUtf_4.xs)
theorem slpUtf_4 (n : Nat) (h1 : List Int) (h2 : List Int) (h3 : List Int × Int) : itpUtf_4 (n + 1) h1 h2 h3 = steppUtf_4 h1 h2 h3 (itpUtf_4 n) some := by kernel_rfl
theorem looppUtf (b s : List Int) (hs : byteR s) (hb : (s.length : Int) ≤ 9223372036854775807) : ∀ (k : Nat) (p : Int), 0 ≤ p → p ≤ s.length → (s.length : Int) < p + k →
    itpUtf_4 k b s (s, p) = if (spUtfN s k p).2 = true then some (.pan (.ret ((), ((b, ()), ())))) else some (.ret ((), (((spUtfN s k p).1, (false, ())), ()))) := by
  intro k
  induction k with
  | zero => intro p h0 h1 h2; omega
  | succ k ih =>
    intro p h0 h1 h2
    rw [slpUtf_4]
    unfold steppUtf_4
    change (bif decide (p < (s.length : Int)) then bif (spRune s p).1 == 65533 then bif decide (0 ≤ p) && (decide (p ≤ (s.length : Int)) && decide ((s.length : Int) ≤ (s.length : Int))) then bif !spPre (List.drop p.toNat (List.take (s.length : Int).toNat s)) [239, 191, 189] then some (.ret ((), ((p, (false, ())), ()))) else itpUtf_4 k b s (s, p + (spRune s p).2) else none else itpUtf_4 k b s (s, p + (spRune s p).2) else some (.pan (.ret ((), ((b, ()), ()))))) = _
    by_cases h3 : (s.length : Int) ≤ p
    · have h4 : ¬ p < (s.length : Int) := by omega
      have hS : spUtfN s (k + 1) p = (p, true) := by simp [spUtfN, h3]
      simp [hS, h4]
    · have h4 : p < (s.length : Int) := by omega
      obtain ⟨n, rfl⟩ := toNat_of h0
      have h5 := rune_char hs (show n < s.length by omega)
      have h6 := spChar_le h0 h4
      rw [bif_true (by simpa using h4), Int.toNat_natCast, Int.toNat_natCast, List.take_length]
      rcases h5 with ⟨g1, g2, g3⟩ | ⟨g1, g2, g3⟩
      · have hS : spUtfN s (k + 1) n = (↑n, false) := by simp [spUtfN, h3, g1]
        rw [hS, g3, bif_true (by simpa using g2), bif_true (by simp; omega)]
        rfl
      · have hS : spUtfN s (k + 1) n = spUtfN s k (n + spChar s n) := by
          simp only [spUtfN]
          rw [if_neg h3, if_neg (by omega)]
        rw [hS, g2]
        have hn := ih (n + spChar s n) (by omega) (by omega) (by omega)
        by_cases g4 : (spRune s n).1 = 65533
        · rw [bif_true (by simpa using g4), bif_true (by simp; omega), g3 g4]
          exact hn
        · rw [bif_false (by simpa using g4)]
          exact hn
noncomputable def bodypUtf (a0 : List Int) : Option iopUtf.Res := (FpUtf_4 ((a0, (a0, ())), (((a0, 0), ()), ()))).run fun y => match y with | .ret ((), ((x13, x14, ()), ())) => (some (Out.ret ((x13, x14, ()), ()))) | .pan (.ret ((), ((x15, ()), ()))) => (some (Out.ret (((↑x15.length : Int), true, ()), ())))
theorem runpUtf (a0 : List Int) : Io.run tt hdpUtf dr lppUtf iopUtf Go.Proofs.Tryz.f104 ((a0, ()), ()) = bodypUtf a0 := by kernel_rfl
theorem okpUtf : HcOk prog 104 (ioHd iopUtf FpUtf) := by
  refine fn_sound (n := 400) hm (cs := cspUtf) (.cons okpPre .nil) (lp := lppUtf) (fn := Go.Proofs.Tryz.f104) (by kernel_rfl) (by kernel_rfl) (by kernel_rfl) iopUtf
    (.step (h0 := loHd lopUtf_4 FpUtf_4) (by kernel_rfl) (loop_sound (n := 400) hm (cs := cspUtf) (.cons okpPre .nil) (lp := lppUtf) (fn := Go.Proofs.Tryz.f104) (.done (by kernel_rfl)) lopUtf_4 FpUtf_4 ?_) (.done (by kernel_rfl))) FpUtf ?_
  · rintro ⟨⟨(b : List Int), (s : List Int), ⟨⟩⟩, ⟨⟨⟨(s' : List Int), (p : Int)⟩, ⟨⟩⟩, ⟨⟩⟩⟩ y hw hy
    obtain ⟨hg, hy⟩ := Tr.guard hy
    simp only [Bool.and_eq_true, decide_eq_true_eq] at hg
    have hg1 : p = 0 := hg.1
    have hg2 : s' = s := hg.2
    subst hg1 hg2
    have hs : byteR s' ∧ s'.length ≤ maxLen := hw.1.2.1
    have hb := hs.2
    rw [maxLen_eq] at hb
    refine ⟨s'.length + 1, (looppUtf b s' hs.1 (by omega) (s'.length + 1) 0 (by omega) (by omega) (by omega)).trans ?_⟩
    rw [← hy]
    simp only [Tr.val_ite, Tr.val_ret]
    rfl
  · rintro ⟨⟨(b : List Int), ⟨⟩⟩, ⟨⟩⟩ out hw ho
    cases ho
    refine (runpUtf b).trans ?_
    unfold bodypUtf FpUtf_4
    show _ = some (Out.ret (((spUtf b).1, (spUtf b).2, ()), ()))
    simp only [Tr.run_ite, Tr.run_ret]
    have he : (spUtf b).2 = true → (spUtf b).1 = b.length := spUtf_end b
    generalize spUtf b = r at *
    obtain ⟨r1, r2⟩ := r
    cases r2 with
    | true =>
      have he : r1 = b.length := he rfl
      simp [he]
    | false => simp

end
end Go.Proofs.YtmlgepgcofmpeaaGreat.Sym

/- bytes.Clone: nil stays nil, which no data tell. -/
namespace Go.Proofs.YtmlgepgcofmpeaaGreat.Sym
open Go
set_option linter.unusedSimpArgs false
set_option linter.unusedVariables false
noncomputable section

noncomputable abbrev clC : Code := fnCode Go.Proofs.Tryz.f123
noncomputable abbrev clO : Array Oper := regOps (seqL (seqL (seqR clC)))
noncomputable abbrev clX : Code := condT (seqR (seqL (seqR clC)))
noncomputable abbrev clY : Code := seqR (seqR clC)
noncomputable abbrev iopClone : Io := ⟨[dL], [], [], [dO], none⟩
noncomputable def FpClone (d : iopClone.In) : Tr iopClone.Res := .ite (decide (d.1.1.length ≤ 4294967296)) (.ret (.ret ((d.1.1, ()), ()))) .no
noncomputable abbrev clHd : Hd := hdT []
noncomputable abbrev clLp : Lp := lpT []
noncomputable def clA (b : List Int) (v3 v4 : V) : AS := ⟨[.one (.lst 5 (.int .u8) b 0), .any, .one (.lst 5 (.int .u8) [] 5), v3, v4, .any, .any, .any], [], []⟩
noncomputable def clK (ex : Ex) (A : AS) : Option iopClone.Res := match ex with
  | .ret => iopClone.fin tt Go.Proofs.Tryz.f123 .ret A
  | _ => none
noncomputable abbrev clLr : Nat := lrOf Go.Proofs.Tryz.f123
theorem cl0 (b : List Int) : ev tt clHd dr clLp 0 clLr (seqL clC) clLr [] (iopClone.start 8 ((b, ()), ())) (fun ex A => match ex with | .normal => some A | _ => none) = some (clA b .any .any) := by kernel_rfl
theorem clx (b : List Int) : ev tt clHd dr clLp 0 clLr clX clLr [] (clA b (.one (.lst 5 (.int .u8) b 0)) (.one (.bool true))) clK = some (.ret (([], ()), ())) := by kernel_rfl
theorem cly (b : List Int) : ev tt clHd dr clLp 0 clLr clY clLr [] (clA b (.one (.lst 5 (.int .u8) b 0)) (.one (.bool false))) clK = bif decide (([] : List Int).length + b.length ≤ 4294967296) then some (.ret ((b, ()), ())) else none := by kernel_rfl

theorem okpClone : HcOk prog 123 (ioHd iopClone FpClone) := by
  have htt := ttOf_ok Go.Proofs.Tryz.prog 400
  refine io_soundG (P := prog) htt (fn := Go.Proofs.Tryz.f123) (by kernel_rfl) (by kernel_rfl) iopClone FpClone ?_ (by kernel_rfl)
  rintro ⟨⟨(b : List Int), ⟨⟩⟩, ⟨⟩⟩ out hwf hout F G cst w vals R Rl hkb hend
  obtain ⟨hg, hout⟩ := Tr.guard hout
  have hg : b.length ≤ 4294967296 := by simpa using hg
  cases hout
  have hc : (Go.Proofs.Tryz.f123).body = some (.seq (seqL clC) (.seq (.seq (.region 1 clO false) (.cond (.tmp 4) clX .skip)) clY)) := by kernel_rfl
  have hdr := orderD_ok (ttOf_ok Go.Proofs.Tryz.prog 400)
  have hhd : HdOk prog clHd := hdT_ok HcsOk.nil
  refine calls_of_wp (P := prog) (fn := Go.Proofs.Tryz.f123) (by kernel_rfl) hc ?_
  refine wp_seq (ev_sound htt hm hhd hdr hkb (lp := clLp) _ (noLoops (c := (seqL clC)) (by kernel_rfl)) (cl0 b) Rl ?_)
  intro ex A1 G1 a1 w1 R1 hd1 h1
  cases ex with
  | normal =>
    simp only [Option.some.injEq] at h1
    subst h1
    show (Code.seq (.seq (.region 1 clO false) (.cond (.tmp 4) clX .skip)) clY).wp prog _ a1 w1
    refine wp_seq (wp_seq (wp_region ?_))
    have hr : List.range clO.size = [0, 1] := by kernel_rfl
    rw [hr]
    obtain ⟨p0, f0, ho0⟩ : ∃ pos after, clO[0]? = some { dst := some 3, op := .move (.tmp 0), type := 30, pos := pos, after := after, guard := none } := ⟨_, _, rfl⟩
    obtain ⟨p1, f1, ho1⟩ : ∃ pos after, clO[1]? = some { dst := some 4, op := .binOp .eql 30 (.tmp 3) (.const (.slice none 0 0)) 30, type := 4, pos := pos, after := after, guard := none } := ⟨_, _, rfl⟩
    have hu : Program.underlying prog 30 = some (.slice 5) := by kernel_rfl
    simp only [wpOps, ho0, ho1]
    rw [if_pos (by rfl)]
    refine .inl ?_
    obtain ⟨u0, hu0, hv0⟩ := evP_sound (P := prog) htt (fun x => R1.opd x) R1.ob { dst := some 3, op := .move (.tmp 0), type := 30, pos := p0, after := f0, guard := none } (id := 7) (chk := true) (v := .one (.lst 5 (.int .u8) b 0)) (by kernel_rfl) rfl
    unfold Oper.wp
    rw [hu0, Oper.upon_value]
    have R2 := R1.puts hv0 (some 3)
    have hd2 : (a1.put (some 3) u0).defers = [] := (Act.put_defers' _ _ _).trans hd1
    generalize a1.put (some 3) u0 = a2 at R2 hd2 ⊢
    rw [if_pos (by rfl)]
    refine .inl ?_
    obtain ⟨Aa, cap, he, hc1, hc2, hrow, _⟩ : Rc G1 w1 (.lst 5 (.int .u8) b 0) (a2.eval (.tmp 3)) := R2.opd (.tmp 3)
    have hrun : (execOp a2.eval { dst := some 4, op := .binOp .eql 30 (.tmp 3) (.const (.slice none 0 0)) 30, type := 4, pos := p1, after := f1, guard := none }).run prog w1 = .ok (.value (.bool Aa.isNone)) w1 := by
      have h1 := Go.Lib.run_eql_slice_nil (P := prog) w1 30 5 Aa b.length cap 0 0 hu
      have h2 : a2.eval (.const (.slice none 0 0)) = .slice none 0 0 := rfl
      simp only [execOp, Sem.run_bind, he, h2]
      simp [eqGuard, h1]
    rw [hrun, Oper.upon_value]
    have R3 := R2.puts (v := .one (.bool Aa.isNone)) (u := .bool Aa.isNone) rfl (some 4)
    have hd3 : (a2.put (some 4) (.bool Aa.isNone)).defers = [] := (Act.put_defers' _ _ _).trans hd2
    generalize a2.put (some 4) (.bool Aa.isNone) = a3 at R3 hd3 ⊢
    have hb4 : a3.eval (.tmp 4) = .bool Aa.isNone := R3.opd (.tmp 4)
    refine wp_cond hb4 ?_
    cases Aa with
    | none =>
      have hb : b = [] := Classical.byContradiction fun hne => by
        obtain ⟨_, _, e, _⟩ := hrow hne
        cases e
      subst hb
      refine ev_sound htt hm hhd hdr hkb (lp := clLp) (l := clLr) (x := []) clX (noLoops (c := clX) (by kernel_rfl)) (clx []) R3 ?_
      intro ex A' G' a' w' R' hd' hk
      cases ex with
      | ret => exact ⟨hd'.trans hd3, hend .ret A' G' a' w' R' hk⟩
      | normal => cases hk
      | exit i => cases hk
      | panic v => cases hk
    | some ad =>
      refine wp_skip ?_
      refine ev_sound htt hm hhd hdr hkb (lp := clLp) (l := clLr) (x := []) clY (noLoops (c := clY) (by kernel_rfl)) ((cly b).trans (bif_true (by simpa using hg) _ _)) R3 ?_
      intro ex A' G' a' w' R' hd' hk
      cases ex with
      | ret => exact ⟨hd'.trans hd3, hend .ret A' G' a' w' R' hk⟩
      | normal => cases hk
      | exit i => cases hk
      | panic v => cases hk
  | exit i => cases h1
  | ret => cases h1
  | panic v => cases h1

end
end Go.Proofs.YtmlgepgcofmpeaaGreat.Sym

/- cursor.Writer: Room, number, I8 to I64, Raw, Bytes, NewWriter. -/
namespace Go.Proofs.YtmlgepgcofmpeaaGreat.Sym
open Go
set_option linter.unusedSimpArgs false
set_option linter.unusedVariables false
noncomputable section

noncomputable abbrev oWr : List Sh := [dO, dI]
noncomputable abbrev d16 : Sh := .dat (.int .i16) false false
noncomputable abbrev dS32 : Sh := .dat (.int .i32) false false
noncomputable abbrev d64u : Sh := .dat (.int .u64) false false
/-- The n lowest bytes of v, the highest first. -/
def spBE (v : Int) : Nat → List Int
  | 0 => []
  | n + 1 => (v / 256 ^ n) % 256 :: spBE v n
theorem spBE_len (v : Int) : ∀ n, (spBE v n).length = n
  | 0 => rfl
  | n + 1 => by rw [spBE, List.length_cons, spBE_len v n]

/-- The n lowest bytes of v behind b, if there is room. -/
noncomputable def spWr (b : List Int) (most v : Int) (n : Nat) : Int × List Int := if most - b.length < n then (10, b) else (0, b ++ spBE v n)
def spWok (b : List Int) (most : Int) : Bool := decide (b.length ≤ 4294960000) && (decide (0 ≤ most) && decide (most ≤ (1048576 : Int)))
/-! ### (*leat/cursor.Writer).Room -/
noncomputable abbrev iowRoom : Io := ⟨[.ptr 0 0], [oWr], [], [dI], none⟩
noncomputable def FwRoom (d : iowRoom.In) : Tr iowRoom.Res := .ret (.ret ((IntKind.i64.wrap (d.2.1.2.1 - d.2.1.1.length), ()), ((d.2.1.1, (d.2.1.2.1, ())), ())))
noncomputable abbrev cswRoom : List (Nat × Hc) := []
noncomputable def hdwRoom : Hd := hdT cswRoom
noncomputable def lpwRoom : Lp := lpT []

noncomputable def bodywRoom (a0 : List Int) (a1 : Int) : Option iowRoom.Res := some (Out.ret ((IntKind.i64.wrap (a1 - (↑a0.length : Int)), ()), (a0, a1, ()), ()))
theorem runwRoom (a0 : List Int) (a1 : Int) : Io.run tt hdwRoom dr lpwRoom iowRoom Go.Proofs.Tryz.f134 (((), ()), (a0, a1, ()), ()) = bodywRoom a0 a1 := by kernel_rfl

theorem okwRoom : HcOk prog 134 (ioHd iowRoom FwRoom) := by
  refine fn_sound (n := 400) hm (cs := cswRoom) HcsOk.nil (lp := lpwRoom) (fn := Go.Proofs.Tryz.f134) (by kernel_rfl) (by kernel_rfl) (by kernel_rfl) iowRoom (.done (by kernel_rfl)) FwRoom ?_
  rintro ⟨⟨⟨⟩, ⟨⟩⟩, ⟨⟨(b : List Int), (m : Int), ⟨⟩⟩, ⟨⟩⟩⟩ out hw ho
  rw [← ho]
  exact runwRoom b m

/-! ### (*leat/cursor.Writer).number -/
noncomputable abbrev iownumber : Io := ⟨[.ptr 0 0, d64u, dI], [oWr], [], [dI], none⟩
noncomputable def Fwnumber (d : iownumber.In) : Tr iownumber.Res :=
  .ite (spWok d.2.1.1 d.2.1.2.1 && (decide ((0 : Int) ≤ d.1.2.2.1) && decide (d.1.2.2.1 ≤ (8 : Int)))) (.ret (.ret (((spWr d.2.1.1 d.2.1.2.1 d.1.2.1 d.1.2.2.1.toNat).1, ()), (((spWr d.2.1.1 d.2.1.2.1 d.1.2.1 d.1.2.2.1.toNat).2, (d.2.1.2.1, ())), ())))) .no
noncomputable abbrev cswnumber : List (Nat × Hc) := [(134, ioHd iowRoom FwRoom)]
noncomputable def hdwnumber : Hd := hdT cswnumber
noncomputable abbrev lownumber_5 : Lo := ⟨⟨[.one (.ptr 0 0), .one (.hol (.int IntKind.u64)), .any, .any, .any, .any, .any, .one (.hol (.int IntKind.i64)), .any, .any, .any, .any, .any, .any, .any, .any, .any, .any, .any, .any, .any, .any, .any, .any, .any, .any, .any, .any, .any, .any, .any, .any], [some [.onl 5 (Ty.int IntKind.u8) 2, .hol (.int IntKind.i64)]]⟩, [(.exit 0, ⟨[.any, .any, .any, .any, .any, .any, .any, .any, .any, .any, .any, .any, .any, .any, .any, .any, .any, .any, .any, .any, .any, .any, .any, .any, .any, .any, .any, .any, .any, .any, .any, .any], [some [.onl 5 (Ty.int IntKind.u8) 2, .hol (.int IntKind.i64)]]⟩)]⟩
-- Fwnumber_5 : lownumber_5.st.den → Tr (DenX lownumber_5.xs) | ((h4, (h5, ())), ((h6, (h7, ())), ()))
noncomputable def Fwnumber_5 (d : lownumber_5.st.den) : Tr (DenX lownumber_5.xs) :=
  .ite (decide (-1 ≤ d.1.2.1) && (decide (d.1.2.1 ≤ 7) && decide (d.2.1.1.length ≤ 4294960000))) (.ret (.ret ((), ((), ((d.2.1.1 ++ spBE d.1.1 (d.1.2.1 + 1).toNat, (d.2.1.2.1, ())), ()))))) .no
noncomputable def lpwnumber : Lp := lpT [(5, loHd lownumber_5 Fwnumber_5)]
noncomputable def stepwnumber_5 {R : Type} (h4 : Int) (h5 : Int) (h6 : List Int) (h7 : Int) (next : Int → Int → List Int → Int → Option R) (out : DenX lownumber_5.xs → Option R) : Option R := bif decide (0 ≤ h5) then bif decide (0 ≤ IntKind.i64.wrap (8 * h5)) then bif !(0 == 1 + 29 || false) && true && decide (h6.length + [IntKind.u8.wrap (spShr IntKind.u64 h4 (IntKind.i64.wrap (8 * h5)))].length ≤ 4294967296) then next (h4) (IntKind.i64.wrap (h5 - 1)) (h6 ++ [IntKind.u8.wrap (spShr IntKind.u64 h4 (IntKind.i64.wrap (8 * h5)))]) (h7) else none else none else out (.ret ((), ((), ((h6, (h7, ())), ()))))
noncomputable def itwnumber_5 (n : Nat) (h4 : Int) (h5 : Int) (h6 : List Int) (h7 : Int) : Option (DenX lownumber_5.xs) := lpN tt hdwnumber dr lpwnumber 1 Go.Proofs.Tryz.f132 (topL Go.Proofs.Tryz.f132 0) n (lownumber_5.st.mk' ((h4, (h5, ())), ((h6, (h7, ())), ()))) (decX lownumber_5.xs)
theorem slwnumber_5 (n : Nat) (h4 : Int) (h5 : Int) (h6 : List Int) (h7 : Int) : itwnumber_5 (n + 1) h4 h5 h6 h7 = stepwnumber_5 h4 h5 h6 h7 (itwnumber_5 n) some := by kernel_rfl
theorem shr_byte {v : Int} (h0 : 0 ≤ v) (h1 : v ≤ 18446744073709551615) {i : Nat} (hi : i ≤ 7) : IntKind.u8.wrap (spShr .u64 v (IntKind.i64.wrap (8 * (i : Int)))) = (v / 256 ^ i) % 256 := by
  rw [wrap_i64 (n := 8 * (i : Int)) (by omega) (by omega)]
  unfold spShr
  have e : min (8 * (i : Int)).toNat (IntKind.u64).bits = 8 * i := by
    show min (8 * (i : Int)).toNat 64 = 8 * i
    omega
  rw [e]
  have e2 : (2 : Int) ^ (8 * i) = 256 ^ i := by rw [Int.pow_mul]; rfl
  have hp : (0 : Int) < 256 ^ i := Int.pow_pos (by decide)
  rw [e2, Int.fdiv_eq_ediv_of_nonneg _ (Int.le_of_lt hp)]
  have h3 : 0 ≤ v / 256 ^ i := Int.ediv_nonneg h0 (Int.le_of_lt hp)
  have h4 : v / 256 ^ i ≤ v := Int.ediv_le_self _ h0
  rw [wrap_id (k := .u64) (by simp [inR, IntKind.min, IntKind.max, IntKind.signed, IntKind.bits]; omega)]
  simp [IntKind.wrap, IntKind.signed, IntKind.bits]
theorem loopwnumber {v : Int} (h0 : 0 ≤ v) (h1 : v ≤ 18446744073709551615) (most : Int) : ∀ (k m : Nat) (b : List Int), m < k → m ≤ 8 → b.length + m ≤ 4294967296 →
    itwnumber_5 k v ((m : Int) - 1) b most = some (.ret ((), ((), ((b ++ spBE v m, (most, ())), ())))) := by
  intro k
  induction k with
  | zero => intro m b h; omega
  | succ k ih =>
    intro m b h2 h3 h4
    rw [slwnumber_5]
    unfold stepwnumber_5
    cases m with
    | zero => simp [spBE]
    | succ m =>
      have e : ((m + 1 : Nat) : Int) - 1 = (m : Int) := by omega
      rw [e, bif_true (by simp), wrap_i64 (n := (m : Int) - 1) (by omega) (by omega), shr_byte h0 h1 (by omega), wrap_i64 (n := 8 * (m : Int)) (by omega) (by omega), bif_true (by simp; omega), bif_true (by simp; omega), ih m _ (by omega) (by omega) (by simp; omega)]
      simp [spBE]
noncomputable def bodywnumber (a0 : Int) (a1 : Int) (a2 : List Int) (a3 : Int) : Option iownumber.Res := bif decide (IntKind.i64.wrap (a3 - (↑a2.length : Int)) < a1) then some (Out.ret ((10, ()), (a2, a3, ()), ())) else (Fwnumber_5 ((a0, (IntKind.i64.wrap (a1 - 1), ())), ((a2, (a3, ())), ()))).run fun y => match y with | .ret ((), ((), (x14, x15, ()), ())) => (some (Out.ret ((0, ()), (x14, x15, ()), ())))
theorem runwnumber (a0 : Int) (a1 : Int) (a2 : List Int) (a3 : Int) : Io.run tt hdwnumber dr lpwnumber iownumber Go.Proofs.Tryz.f132 (((), a0, a1, ()), (a2, a3, ()), ()) = bodywnumber a0 a1 a2 a3 := by kernel_rfl
theorem okwnumber : HcOk prog 132 (ioHd iownumber Fwnumber) := by
  refine fn_sound (n := 400) hm (cs := cswnumber) (.cons okwRoom .nil) (lp := lpwnumber) (fn := Go.Proofs.Tryz.f132) (by kernel_rfl) (by kernel_rfl) (by kernel_rfl) iownumber (.step (h0 := loHd lownumber_5 Fwnumber_5) (by kernel_rfl) (loop_sound (n := 400) hm (cs := cswnumber) (.cons okwRoom .nil) (lp := lpwnumber) (fn := Go.Proofs.Tryz.f132) (.done (by kernel_rfl)) lownumber_5 Fwnumber_5 ?_) (.done (by kernel_rfl))) Fwnumber ?_
  · rintro ⟨⟨(v : Int), (i : Int), ⟨⟩⟩, ⟨⟨(b : List Int), (m : Int), ⟨⟩⟩, ⟨⟩⟩⟩ y hw hy
    obtain ⟨hg, hy⟩ := Tr.guard hy
    simp only [Bool.and_eq_true, decide_eq_true_eq] at hg
    have hv : inR .u64 v := hw.1.1
    simp [inR, IntKind.min, IntKind.max, IntKind.signed, IntKind.bits] at hv
    have g1 : (-1 : Int) ≤ i := hg.1
    have g2 : i ≤ (7 : Int) := hg.2.1
    have g3 : b.length ≤ 4294960000 := hg.2.2
    obtain ⟨n, hn⟩ : ∃ n : Nat, i = (n : Int) - 1 := ⟨(i + 1).toNat, by omega⟩
    subst hn
    refine ⟨10, (loopwnumber hv.1 (by omega) m 10 n b (by omega) (by omega) (by omega)).trans ?_⟩
    rw [← hy, show ((n : Int) - 1 + 1).toNat = n by omega]; rfl
  · rintro ⟨⟨⟨⟩, (v : Int), (n : Int), ⟨⟩⟩, ⟨⟨(b : List Int), (m : Int), ⟨⟩⟩, ⟨⟩⟩⟩ out hw ho
    obtain ⟨hg, ho⟩ := Tr.guard ho
    simp only [spWok, Bool.and_eq_true, decide_eq_true_eq] at hg
    obtain ⟨⟨h1, h2, h3⟩, h4, h5⟩ := hg
    have h4 : (0 : Int) ≤ n := h4
    have h5 : n ≤ (8 : Int) := h5
    cases ho
    refine (runwnumber v n b m).trans ?_
    unfold bodywnumber Fwnumber_5
    simp only
    rw [wrap_i64 (n := m - (b.length : Int)) (by omega) (by omega), wrap_i64 (n := n - 1) (by omega) (by omega), show n - 1 + 1 = n by omega]
    unfold spWr
    by_cases hl : m - (b.length : Int) < n
    · rw [bif_true (by simpa using hl), if_pos (by omega)]
    · rw [bif_false (by simpa using hl), if_neg (by omega)]
      have : (decide (-1 ≤ n - 1) && (decide (n - 1 ≤ 7) && decide (b.length ≤ 4294960000))) = true := by simp; omega
      rw [this]
      rfl

theorem spBE_u64 (v : Int) {n : Nat} (h : n ≤ 8) : spBE (IntKind.u64.wrap v) n = spBE v n := by
  have e : IntKind.u64.wrap v = v % 18446744073709551616 := by simp [IntKind.wrap, IntKind.signed, IntKind.bits]
  rw [e]
  have key : ∀ k : Nat, k < 8 → (v % 18446744073709551616 / 256 ^ k) % 256 = (v / 256 ^ k) % 256 := by
    intro k hk
    match k, hk with
    | 0, _ => omega
    | 1, _ => omega
    | 2, _ => omega
    | 3, _ => omega
    | 4, _ => omega
    | 5, _ => omega
    | 6, _ => omega
    | 7, _ => omega
  induction n with
  | zero => rfl
  | succ n ih => rw [spBE, spBE, key n (by omega), ih (by omega)]
/-! ### (*leat/cursor.Writer).I16 -/
noncomputable abbrev iowI16 : Io := ⟨[.ptr 0 0, d16], [oWr], [], [dI], none⟩
noncomputable def FwI16 (d : iowI16.In) : Tr iowI16.Res :=
  .ite (spWok d.2.1.1 d.2.1.2.1) (.ret (.ret (((spWr d.2.1.1 d.2.1.2.1 d.1.2.1 2).1, ()), (((spWr d.2.1.1 d.2.1.2.1 d.1.2.1 2).2, (d.2.1.2.1, ())), ())))) .no
noncomputable abbrev cswI16 : List (Nat × Hc) := [(132, ioHd iownumber Fwnumber)]
noncomputable def hdwI16 : Hd := hdT cswI16
noncomputable def lpwI16 : Lp := lpT []

noncomputable def bodywI16 (a0 : Int) (a1 : List Int) (a2 : Int) : Option iowI16.Res := bif spWok a1 a2 && (decide (0 ≤ 2) && decide (2 ≤ 8)) then some (Out.ret (((spWr a1 a2 (IntKind.u64.wrap a0) (Int.toNat 2)).fst, ()), ((spWr a1 a2 (IntKind.u64.wrap a0) (Int.toNat 2)).snd, a2, ()), ())) else none
theorem runwI16 (a0 : Int) (a1 : List Int) (a2 : Int) : Io.run tt hdwI16 dr lpwI16 iowI16 Go.Proofs.Tryz.f102 (((), a0, ()), (a1, a2, ()), ()) = bodywI16 a0 a1 a2 := by kernel_rfl
theorem okwI16 : HcOk prog 102 (ioHd iowI16 FwI16) := by
  refine fn_sound (n := 400) hm (cs := cswI16) (.cons okwnumber .nil) (lp := lpwI16) (fn := Go.Proofs.Tryz.f102) (by kernel_rfl) (by kernel_rfl) (by kernel_rfl) iowI16 (.done (by kernel_rfl)) FwI16 ?_
  rintro ⟨⟨⟨⟩, (v : Int), ⟨⟩⟩, ⟨⟨(b : List Int), (m : Int), ⟨⟩⟩, ⟨⟩⟩⟩ out hw ho
  obtain ⟨hg, ho⟩ := Tr.guard ho
  have hg : spWok b m = true := hg
  cases ho
  refine (runwI16 v b m).trans ?_
  unfold bodywI16
  have e : spWr b m (IntKind.u64.wrap v) 2 = spWr b m v 2 := by unfold spWr; rw [spBE_u64 v (by decide)]
  simp [hg, e]

/-! ### (*leat/cursor.Writer).I32 -/
noncomputable abbrev iowI32 : Io := ⟨[.ptr 0 0, dS32], [oWr], [], [dI], none⟩
noncomputable def FwI32 (d : iowI32.In) : Tr iowI32.Res :=
  .ite (spWok d.2.1.1 d.2.1.2.1) (.ret (.ret (((spWr d.2.1.1 d.2.1.2.1 d.1.2.1 4).1, ()), (((spWr d.2.1.1 d.2.1.2.1 d.1.2.1 4).2, (d.2.1.2.1, ())), ())))) .no
noncomputable abbrev cswI32 : List (Nat × Hc) := [(132, ioHd iownumber Fwnumber)]
noncomputable def hdwI32 : Hd := hdT cswI32
noncomputable def lpwI32 : Lp := lpT []

noncomputable def bodywI32 (a0 : Int) (a1 : List Int) (a2 : Int) : Option iowI32.Res := bif spWok a1 a2 && (decide (0 ≤ 4) && decide (4 ≤ 8)) then some (Out.ret (((spWr a1 a2 (IntKind.u64.wrap a0) (Int.toNat 4)).fst, ()), ((spWr a1 a2 (IntKind.u64.wrap a0) (Int.toNat 4)).snd, a2, ()), ())) else none
theorem runwI32 (a0 : Int) (a1 : List Int) (a2 : Int) : Io.run tt hdwI32 dr lpwI32 iowI32 Go.Proofs.Tryz.f103 (((), a0, ()), (a1, a2, ()), ()) = bodywI32 a0 a1 a2 := by kernel_rfl
theorem okwI32 : HcOk prog 103 (ioHd iowI32 FwI32) := by
  refine fn_sound (n := 400) hm (cs := cswI32) (.cons okwnumber .nil) (lp := lpwI32) (fn := Go.Proofs.Tryz.f103) (by kernel_rfl) (by kernel_rfl) (by kernel_rfl) iowI32 (.done (by kernel_rfl)) FwI32 ?_
  rintro ⟨⟨⟨⟩, (v : Int), ⟨⟩⟩, ⟨⟨(b : List Int), (m : Int), ⟨⟩⟩, ⟨⟩⟩⟩ out hw ho
  obtain ⟨hg, ho⟩ := Tr.guard ho
  have hg : spWok b m = true := hg
  cases ho
  refine (runwI32 v b m).trans ?_
  unfold bodywI32
  have e : spWr b m (IntKind.u64.wrap v) 4 = spWr b m v 4 := by unfold spWr; rw [spBE_u64 v (by decide)]
  simp [hg, e]

/-! ### (*leat/cursor.Writer).I64 -/
noncomputable abbrev iowI64 : Io := ⟨[.ptr 0 0, .dat (.int .i64) false false], [oWr], [], [dI], none⟩
noncomputable def FwI64 (d : iowI64.In) : Tr iowI64.Res :=
  .ite (spWok d.2.1.1 d.2.1.2.1) (.ret (.ret (((spWr d.2.1.1 d.2.1.2.1 d.1.2.1 8).1, ()), (((spWr d.2.1.1 d.2.1.2.1 d.1.2.1 8).2, (d.2.1.2.1, ())), ())))) .no
noncomputable abbrev cswI64 : List (Nat × Hc) := [(132, ioHd iownumber Fwnumber)]
noncomputable def hdwI64 : Hd := hdT cswI64
noncomputable def lpwI64 : Lp := lpT []

noncomputable def bodywI64 (a0 : Int) (a1 : List Int) (a2 : Int) : Option iowI64.Res := bif spWok a1 a2 && (decide (0 ≤ 8) && decide (8 ≤ 8)) then some (Out.ret (((spWr a1 a2 (IntKind.u64.wrap a0) (Int.toNat 8)).fst, ()), ((spWr a1 a2 (IntKind.u64.wrap a0) (Int.toNat 8)).snd, a2, ()), ())) else none
theorem runwI64 (a0 : Int) (a1 : List Int) (a2 : Int) : Io.run tt hdwI64 dr lpwI64 iowI64 Go.Proofs.Tryz.f106 (((), a0, ()), (a1, a2, ()), ()) = bodywI64 a0 a1 a2 := by kernel_rfl
theorem okwI64 : HcOk prog 106 (ioHd iowI64 FwI64) := by
  refine fn_sound (n := 400) hm (cs := cswI64) (.cons okwnumber .nil) (lp := lpwI64) (fn := Go.Proofs.Tryz.f106) (by kernel_rfl) (by kernel_rfl) (by kernel_rfl) iowI64 (.done (by kernel_rfl)) FwI64 ?_
  rintro ⟨⟨⟨⟩, (v : Int), ⟨⟩⟩, ⟨⟨(b : List Int), (m : Int), ⟨⟩⟩, ⟨⟩⟩⟩ out hw ho
  obtain ⟨hg, ho⟩ := Tr.guard ho
  have hg : spWok b m = true := hg
  cases ho
  refine (runwI64 v b m).trans ?_
  unfold bodywI64
  have e : spWr b m (IntKind.u64.wrap v) 8 = spWr b m v 8 := by unfold spWr; rw [spBE_u64 v (by decide)]
  simp [hg, e]

/-! ### leat/cursor.NewWriter -/
noncomputable abbrev iowNew : Io := ⟨[dI], [], [oWr], [.ptr 0 0], none⟩
noncomputable def FwNew (d : iowNew.In) : Tr iowNew.Res := .ret (.ret (((), ()), ((([] : List Int), (spMin (spMax d.1.1 0) 1048576, ())), ())))
noncomputable abbrev cswNew : List (Nat × Hc) := []
noncomputable def hdwNew : Hd := hdT cswNew
noncomputable def lpwNew : Lp := lpT []

noncomputable def bodywNew (a0 : Int) : Option iowNew.Res := some (Out.ret (((), ()), ([], spMin (spMax a0 0) 1048576, ()), ()))
theorem runwNew (a0 : Int) : Io.run tt hdwNew dr lpwNew iowNew Go.Proofs.Tryz.f85 ((a0, ()), ()) = bodywNew a0 := by kernel_rfl
theorem okwNew : HcOk prog 85 (ioHd iowNew FwNew) := by
  refine fn_sound (n := 400) hm (cs := cswNew) HcsOk.nil (lp := lpwNew) (fn := Go.Proofs.Tryz.f85) (by kernel_rfl) (by kernel_rfl) (by kernel_rfl) iowNew (.done (by kernel_rfl)) FwNew ?_
  rintro ⟨⟨(m : Int), ⟨⟩⟩, ⟨⟩⟩ out hw ho
  rw [← ho]
  exact runwNew m

/-! ### (*leat/cursor.Writer).Bytes -/
noncomputable abbrev iowBytes : Io := ⟨[.ptr 0 0], [oWr], [], [dO], none⟩
noncomputable def FwBytes (d : iowBytes.In) : Tr iowBytes.Res := .ite (decide (d.2.1.1.length ≤ 4294967296)) (.ret (.ret ((d.2.1.1, ()), ((d.2.1.1, (d.2.1.2.1, ())), ())))) .no
noncomputable abbrev cswBytes : List (Nat × Hc) := [(123, ioHd iopClone FpClone)]
noncomputable def hdwBytes : Hd := hdT cswBytes
noncomputable def lpwBytes : Lp := lpT []

noncomputable def bodywBytes (a0 : List Int) (a1 : Int) : Option iowBytes.Res := bif decide (a0.length ≤ 4294967296) then some (Out.ret ((a0, ()), (a0, a1, ()), ())) else none
theorem runwBytes (a0 : List Int) (a1 : Int) : Io.run tt hdwBytes dr lpwBytes iowBytes Go.Proofs.Tryz.f87 (((), ()), (a0, a1, ()), ()) = bodywBytes a0 a1 := by kernel_rfl
theorem okwBytes : HcOk prog 87 (ioHd iowBytes FwBytes) := by
  refine fn_sound (n := 400) hm (cs := cswBytes) (.cons okpClone .nil) (lp := lpwBytes) (fn := Go.Proofs.Tryz.f87) (by kernel_rfl) (by kernel_rfl) (by kernel_rfl) iowBytes (.done (by kernel_rfl)) FwBytes ?_
  rintro ⟨⟨⟨⟩, ⟨⟩⟩, ⟨⟨(b : List Int), (m : Int), ⟨⟩⟩, ⟨⟩⟩⟩ out hw ho
  obtain ⟨hg, ho⟩ := Tr.guard ho
  cases ho
  exact (runwBytes b m).trans (bif_true hg _ _)

--@def
/-- How long they are together, what they hold. -/
def spSumLen : List (List Int) → Nat
  | [] => 0
  | p :: ps => p.length + spSumLen ps
def spJoin : List (List Int) → List Int
  | [] => []
  | p :: ps => p ++ spJoin ps
noncomputable def spRaw (b : List Int) (most : Int) (ps : List (List Int)) : Int × List Int := if most - b.length < spSumLen ps then (10, b) else (0, b ++ spJoin ps)
/-! ### (*leat/cursor.Writer).Raw -/
noncomputable abbrev iowRaw : Io := ⟨[.ptr 0 0, .dat (.sl 30 bs) false false], [oWr], [], [dI], none⟩
noncomputable def FwRaw (d : iowRaw.In) : Tr iowRaw.Res :=
  .ite (spWok d.2.1.1 d.2.1.2.1 && decide (spSumLen d.1.2.1 ≤ 4294960000)) (.ret (.ret (((spRaw d.2.1.1 d.2.1.2.1 d.1.2.1).1, ()), (((spRaw d.2.1.1 d.2.1.2.1 d.1.2.1).2, (d.2.1.2.1, ())), ())))) .no
noncomputable abbrev cswRaw : List (Nat × Hc) := [(134, ioHd iowRoom FwRoom)]
noncomputable def hdwRaw : Hd := hdT cswRaw
noncomputable abbrev lowRaw_4 : Lo := ⟨⟨[.one (.ptr 0 0), .one (.hol (.sl 30 (Ty.sl 5 (Ty.int IntKind.u8)))), .any, .any, .any, .one (.hol (.int IntKind.i64)), .any, .any, .any, .any, .one (.hol (.sl 30 (Ty.sl 5 (Ty.int IntKind.u8)))), .one (.hol (.int IntKind.i64)), .one (.hol (.int IntKind.i64)), .any, .any, .any, .any, .any, .any, .any, .any, .any, .any, .any, .any, .any, .any, .any, .any, .any, .any, .any, .any, .any, .any, .any, .any, .any, .any, .any, .any], [some [.onl 5 (Ty.int IntKind.u8) 2, .hol (.int IntKind.i64)]]⟩, [(.exit 0, ⟨[.one (.ptr 0 0), .one (.hol (.sl 30 (Ty.sl 5 (Ty.int IntKind.u8)))), .any, .any, .any, .one (.hol (.int IntKind.i64)), .any, .any, .any, .any, .any, .any, .any, .any, .any, .any, .any, .any, .any, .any, .any, .any, .any, .any, .any, .any, .any, .any, .any, .any, .any, .any, .any, .any, .any, .any, .any, .any, .any, .any, .any], [some [.onl 5 (Ty.int IntKind.u8) 2, .hol (.int IntKind.i64)]]⟩)]⟩
-- FwRaw_4 : lowRaw_4.st.den → Tr (DenX lowRaw_4.xs) | ((h3, (h4, (h5, (h6, (h7, ()))))), ((h8, (h9, ())), ()))
noncomputable abbrev lowRaw_11 : Lo := ⟨⟨[.one (.ptr 0 0), .any, .any, .any, .any, .any, .any, .any, .any, .any, .any, .any, .any, .any, .any, .any, .any, .any, .any, .any, .any, .any, .any, .any, .any, .one (.hol (.sl 30 (Ty.sl 5 (Ty.int IntKind.u8)))), .one (.hol (.int IntKind.i64)), .one (.hol (.int IntKind.i64)), .any, .any, .any, .any, .any, .any, .any, .any, .any, .any, .any, .any, .any], [some [.onl 5 (Ty.int IntKind.u8) 2, .hol (.int IntKind.i64)]]⟩, [(.exit 2, ⟨[.any, .any, .any, .any, .any, .any, .any, .any, .any, .any, .any, .any, .any, .any, .any, .any, .any, .any, .any, .any, .any, .any, .any, .any, .any, .any, .any, .any, .any, .any, .any, .any, .any, .any, .any, .any, .any, .any, .any, .any, .any], [some [.onl 5 (Ty.int IntKind.u8) 2, .hol (.int IntKind.i64)]]⟩)]⟩
-- FwRaw_11 : lowRaw_11.st.den → Tr (DenX lowRaw_11.xs) | ((h25, (h26, (h27, ()))), ((h28, (h29, ())), ()))
noncomputable def FwRaw_4 (d : lowRaw_4.st.den) : Tr (DenX lowRaw_4.xs) :=
  .ite (decide (d.1.2.1 = 0) && (decide (d.1.2.2.2.2.1 = 0) && (decide (d.1.2.2.2.1 = (d.1.2.2.1.length : Int)) && decide (spSumLen d.1.2.2.1 ≤ 4294960000)))) (.ret (.ret ((), ((d.1.1, ((spSumLen d.1.2.2.1 : Int), ())), (d.2.1, ()))))) .no
noncomputable def FwRaw_11 (d : lowRaw_11.st.den) : Tr (DenX lowRaw_11.xs) :=
  .ite (decide (d.1.2.2.1 = 0) && (decide (d.1.2.1 = (d.1.1.length : Int)) && decide (d.2.1.1.length + spSumLen d.1.1 ≤ 4294967296))) (.ret (.ret ((), ((), ((d.2.1.1 ++ spJoin d.1.1, (d.2.1.2.1, ())), ()))))) .no
noncomputable def lpwRaw : Lp := lpT [(4, loHd lowRaw_4 FwRaw_4), (11, loHd lowRaw_11 FwRaw_11)]
noncomputable def stepwRaw_4 {R : Type} (h3 : List bs.den) (h4 : Int) (h5 : List bs.den) (h6 : Int) (h7 : Int) (h8 : List Int) (h9 : Int) (next : List bs.den → Int → List bs.den → Int → Int → List Int → Int → Option R) (out : DenX lowRaw_4.xs → Option R) : Option R := bif decide (h7 < h6) then bif decide (0 ≤ h7) && decide (h7 < (↑h5.length : Int)) then next (h3) (IntKind.i64.wrap (h4 + (↑(List.length (h5.getD h7.toNat [])) : Int))) (h5) (h6) (IntKind.i64.wrap (h7 + 1)) (h8) (h9) else none else out (.ret ((), ((h3, (h4, ())), ((h8, (h9, ())), ()))))
noncomputable def itwRaw_4 (n : Nat) (h3 : List bs.den) (h4 : Int) (h5 : List bs.den) (h6 : Int) (h7 : Int) (h8 : List Int) (h9 : Int) : Option (DenX lowRaw_4.xs) := lpN tt hdwRaw dr lpwRaw 1 Go.Proofs.Tryz.f105 (topL Go.Proofs.Tryz.f105 0) n (lowRaw_4.st.mk' ((h3, (h4, (h5, (h6, (h7, ()))))), ((h8, (h9, ())), ()))) (decX lowRaw_4.xs)
theorem slwRaw_4 (n : Nat) (h3 : List bs.den) (h4 : Int) (h5 : List bs.den) (h6 : Int) (h7 : Int) (h8 : List Int) (h9 : Int) : itwRaw_4 (n + 1) h3 h4 h5 h6 h7 h8 h9 = stepwRaw_4 h3 h4 h5 h6 h7 h8 h9 (itwRaw_4 n) some := by kernel_rfl
noncomputable def stepwRaw_11 {R : Type} (h25 : List (Ty.sl 5 (Ty.int IntKind.u8)).den) (h26 : Int) (h27 : Int) (h28 : List Int) (h29 : Int) (next : List (Ty.sl 5 (Ty.int IntKind.u8)).den → Int → Int → List Int → Int → Option R) (out : DenX lowRaw_11.xs → Option R) : Option R := bif decide (h27 < h26) then bif decide (0 ≤ h27) && decide (h27 < (↑h25.length : Int)) then bif decide (h28.length + List.length (h25.getD h27.toNat []) ≤ 4294967296) then next (h25) (h26) (IntKind.i64.wrap (h27 + 1)) (h28 ++ h25.getD h27.toNat []) (h29) else none else none else out (.ret ((), ((), ((h28, (h29, ())), ()))))
noncomputable def itwRaw_11 (n : Nat) (h25 : List (Ty.sl 5 (Ty.int IntKind.u8)).den) (h26 : Int) (h27 : Int) (h28 : List Int) (h29 : Int) : Option (DenX lowRaw_11.xs) := lpN tt hdwRaw dr lpwRaw 1 Go.Proofs.Tryz.f105 (topL Go.Proofs.Tryz.f105 1) n (lowRaw_11.st.mk' ((h25, (h26, (h27, ()))), ((h28, (h29, ())), ()))) (decX lowRaw_11.xs)
theorem slwRaw_11 (n : Nat) (h25 : List (Ty.sl 5 (Ty.int IntKind.u8)).den) (h26 : Int) (h27 : Int) (h28 : List Int) (h29 : Int) : itwRaw_11 (n + 1) h25 h26 h27 h28 h29 = stepwRaw_11 h25 h26 h27 h28 h29 (itwRaw_11 n) some := by kernel_rfl
theorem spSumLen_drop {ps : List (List Int)} {i : Nat} (h : i < ps.length) : spSumLen (ps.drop i) = ps[i].length + spSumLen (ps.drop (i + 1)) := by rw [List.drop_eq_getElem_cons h]; rfl
theorem spJoin_drop {ps : List (List Int)} {i : Nat} (h : i < ps.length) : spJoin (ps.drop i) = ps[i] ++ spJoin (ps.drop (i + 1)) := by rw [List.drop_eq_getElem_cons h]; rfl
theorem loopwRaw_4 (ps0 ps : List (List Int)) (b : List Int) (m : Int) (hl : ps.length ≤ maxLen) : ∀ (k i : Nat) (s : Nat), ps.length < i + k → i ≤ ps.length → s + spSumLen (ps.drop i) ≤ 4294960000 →
    itwRaw_4 k ps0 s ps (ps.length : Int) i b m = some (.ret ((), ((ps0, (((s + spSumLen (ps.drop i) : Nat) : Int), ())), ((b, (m, ())), ())))) := by
  intro k
  induction k with
  | zero => intro i s h; omega
  | succ k ih =>
    intro i s h1 h2 h3
    rw [slwRaw_4]
    unfold stepwRaw_4
    by_cases hi : i < ps.length
    · rw [spSumLen_drop hi] at h3 ⊢
      have e : List.getD ps (i : Int).toNat [] = ps[i] := by simp only [Int.toNat_natCast, getD_lt hi]
      rw [bif_true (by simpa using hi), bif_true (by simpa using hi), e, wrap_succ hi hl, wrap_i64 (n := (s : Int) + (List.length (α := Int) ps[i] : Int)) (by omega) (by omega)]
      have e2 : (s : Int) + (List.length (α := Int) ps[i] : Int) = ((s + ps[i].length : Nat) : Int) := by omega
      rw [e2, ih (i + 1) (s + ps[i].length) (by omega) (by omega) (by omega), Nat.add_assoc]
    · rw [bif_false (by simp; omega), List.drop_of_length_le (by omega)]
      rfl
theorem loopwRaw_11 (ps : List (List Int)) (m : Int) (hl : ps.length ≤ maxLen) : ∀ (k i : Nat) (b : List Int), ps.length < i + k → i ≤ ps.length → b.length + spSumLen (ps.drop i) ≤ 4294967296 →
    itwRaw_11 k ps (ps.length : Int) i b m = some (.ret ((), ((), ((b ++ spJoin (ps.drop i), (m, ())), ())))) := by
  intro k
  induction k with
  | zero => intro i b h; omega
  | succ k ih =>
    intro i b h1 h2 h3
    rw [slwRaw_11]
    unfold stepwRaw_11
    by_cases hi : i < ps.length
    · rw [spSumLen_drop hi] at h3
      rw [spJoin_drop hi]
      have e : List.getD ps (i : Int).toNat [] = ps[i] := by simp only [Int.toNat_natCast, getD_lt hi]
      rw [bif_true (by simpa using hi), bif_true (by simpa using hi), e, wrap_succ hi hl, bif_true (by simp; omega), ih (i + 1) _ (by omega) (by omega) (by simp; omega), List.append_assoc]
    · rw [bif_false (by simp; omega), List.drop_of_length_le (by omega)]
      simp [spJoin]
noncomputable def bodywRaw (a0 : List bs.den) (a1 : List Int) (a2 : Int) : Option iowRaw.Res := (FwRaw_4 ((a0, (0, (a0, ((↑a0.length : Int), (0, ()))))), ((a1, (a2, ())), ()))).run fun y => match y with | .ret ((), ((x21, x22, ()), (x23, x24, ()), ())) => (bif decide (IntKind.i64.wrap (x24 - (↑x23.length : Int)) < x22) then some (Out.ret ((10, ()), (x23, x24, ()), ())) else (FwRaw_11 ((x21, ((↑x21.length : Int), (0, ()))), ((x23, (x24, ())), ()))).run fun y => match y with | .ret ((), ((), (x37, x38, ()), ())) => (some (Out.ret ((0, ()), (x37, x38, ()), ()))))
theorem runwRaw (a0 : List bs.den) (a1 : List Int) (a2 : Int) : Io.run tt hdwRaw dr lpwRaw iowRaw Go.Proofs.Tryz.f105 (((), a0, ()), (a1, a2, ()), ()) = bodywRaw a0 a1 a2 := by kernel_rfl
theorem okwRaw : HcOk prog 105 (ioHd iowRaw FwRaw) := by
  refine fn_sound (n := 400) hm (cs := cswRaw) (.cons okwRoom .nil) (lp := lpwRaw) (fn := Go.Proofs.Tryz.f105) (by kernel_rfl) (by kernel_rfl) (by kernel_rfl) iowRaw (.step (h0 := loHd lowRaw_4 FwRaw_4) (by kernel_rfl) (loop_sound (n := 400) hm (cs := cswRaw) (.cons okwRoom .nil) (lp := lpwRaw) (fn := Go.Proofs.Tryz.f105) (.done (by kernel_rfl)) lowRaw_4 FwRaw_4 ?_) (.step (h0 := loHd lowRaw_11 FwRaw_11) (by kernel_rfl) (loop_sound (n := 400) hm (cs := cswRaw) (.cons okwRoom .nil) (lp := lpwRaw) (fn := Go.Proofs.Tryz.f105) (.done (by kernel_rfl)) lowRaw_11 FwRaw_11 ?_) (.done (by kernel_rfl)))) FwRaw ?_
  · rintro ⟨⟨ps0, s, ps, n, i, ⟨⟩⟩, ⟨⟨b, m, ⟨⟩⟩, ⟨⟩⟩⟩ y hw hy
    obtain ⟨hg, hy⟩ := Tr.guard hy
    simp only [Bool.and_eq_true, decide_eq_true_eq] at hg
    obtain ⟨rfl, rfl, rfl, h4⟩ := hg
    refine ⟨ps.length + 1, (loopwRaw_4 ps0 ps b m hw.1.2.2.1.1 _ 0 0 (by omega) (by omega) (by simpa using h4)).trans ?_⟩
    rw [← hy, Nat.zero_add]; rfl
  · rintro ⟨⟨ps, n, i, ⟨⟩⟩, ⟨⟨b, m, ⟨⟩⟩, ⟨⟩⟩⟩ y hw hy
    obtain ⟨hg, hy⟩ := Tr.guard hy
    simp only [Bool.and_eq_true, decide_eq_true_eq] at hg
    obtain ⟨rfl, rfl, h4⟩ := hg
    refine ⟨ps.length + 1, (loopwRaw_11 ps m hw.1.1.1 _ 0 b (by omega) (by omega) (by simpa using h4)).trans ?_⟩
    rw [← hy]; rfl
  · rintro ⟨⟨⟨⟩, (ps : List (List Int)), ⟨⟩⟩, ⟨⟨(b : List Int), (m : Int), ⟨⟩⟩, ⟨⟩⟩⟩ out hw ho
    obtain ⟨hg, ho⟩ := Tr.guard ho
    simp only [spWok, Bool.and_eq_true, decide_eq_true_eq] at hg
    obtain ⟨⟨h1, h2, h3⟩, h4⟩ := hg
    have h4 : spSumLen ps ≤ 4294960000 := h4
    cases ho
    refine (runwRaw ps b m).trans ?_
    unfold bodywRaw
    have c1 : (decide ((0 : Int) = 0) && (decide ((0 : Int) = 0) && (decide ((ps.length : Int) = (ps.length : Int)) && decide (spSumLen ps ≤ 4294960000)))) = true := by simp; omega
    have e1 : FwRaw_4 ((ps, (0, (ps, ((ps.length : Int), (0, ()))))), ((b, (m, ())), ())) = .ite true (.ret (.ret ((), ((ps, ((spSumLen ps : Int), ())), ((b, (m, ())), ()))))) .no := congrArg (fun c => Tr.ite c _ _) c1
    rw [e1]
    simp only [Tr.run, cond_true]
    rw [wrap_i64 (n := m - (b.length : Int)) (by omega) (by omega)]
    unfold spRaw
    by_cases hl : m - (b.length : Int) < (spSumLen ps : Int)
    · rw [bif_true (by simpa using hl), if_pos hl]
    · rw [bif_false (by simpa using hl), if_neg hl]
      have c2 : (decide ((0 : Int) = 0) && (decide ((ps.length : Int) = (ps.length : Int)) && decide (b.length + spSumLen ps ≤ 4294967296))) = true := by simp; omega
      have e2 : FwRaw_11 ((ps, ((ps.length : Int), (0, ()))), ((b, (m, ())), ())) = .ite true (.ret (.ret ((), ((), ((b ++ spJoin ps, (m, ())), ()))))) .no := congrArg (fun c => Tr.ite c _ _) c2
      rw [e2]
      rfl
end
end Go.Proofs.YtmlgepgcofmpeaaGreat.Sym
