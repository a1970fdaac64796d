/- The value logic: what one operation leads to, and that what it reads is all that it hangs on. Conditions: none. -/
import Derived.Test.YtjnflahicimmlaaVmO
set_option linter.unusedSimpArgs false
set_option linter.unusedVariables false
namespace Go.Vl
open Go Go.RowKit

section
variable {P : Program} {K : Ctx P} {ops : Array Oper} {st st' : St} {a : Act} {w : World} {p : Pl}

/-- From st the operation o leads to st', whatever follows. -/
def OpR (P : Program) (K : Ctx P) (ops : Array Oper) (o : Oper) (st st' : St) : Prop :=
  ∀ (next : Act → World → Prop) (Q : Exit → Act → World → Prop) (a : Act) (w : World) (p : Pl), Rel K st a w p → (∀ a' w' p', Rel K st' a' w' p' → next a' w') →
    if Region.wanted o (yielded ops a.tmps) then o.wp P a w next Q ∨ (o.asks P a w ∧ LetsOut Q) else next (a.put o.dst undef) w

theorem OpR.tops {o : Oper} {l : List Oper} {Q : Exit → St → Prop} (h : OpR P K ops o st st') (H : TOps P K ops l st' Q) : TOps P K ops (o :: l) st Q := by
  intro a w p R
  unfold wpList
  exact h _ _ a w p R fun a' w' p' R' => H a' w' p' R'
theorem OpR.wpOp {i : Nat} {o : Oper} {next : Act → World → Prop} {Q : Exit → Act → World → Prop} (hi : ops[i]? = some o) (h : OpR P K ops o st st') (R : Rel K st a w p) (H : ∀ a' w' p', Rel K st' a' w' p' → next a' w') : wpOp P ops Q i next a w := by
  unfold Go.wpOp
  simp only [hi]
  exact h _ _ a w p R H

theorem opr_val {o : Oper} {x : AV} (hg : gdA ops st o = some true) (h : vstep P st o = some x) (hd : ∀ d, o.dst = some d → d < st.nt) : OpR P K ops o st (match o.dst with | some d => st.put d x | none => st) := by
  intro next Q a w p R H
  rw [gd_sound R hg, if_pos rfl]
  refine .inl ?_
  obtain ⟨v, h1, h2⟩ := vstep_sound R h
  unfold Oper.wp
  rw [h1]
  refine H _ _ p (R.puto h2 ?_)
  cases hq : o.dst with
  | none => rfl
  | some d => simp [hd d hq]
theorem opr_skip {o : Oper} (hg : gdA ops st o = some false) (hd : ∀ d, o.dst = some d → d < st.nt) : OpR P K ops o st (match o.dst with | some d => st.put d (.tup []) | none => st) := by
  intro next Q a w p R H
  rw [gd_sound R hg, if_neg (by simp)]
  cases hq : o.dst with
  | none => rw [hq] at H; exact H _ _ p (by simpa [Act.put] using R)
  | some d => rw [hq] at H; exact H _ _ p (R.put (RA.tup (l := []) (cs := #[]) rfl (fun i a v ha => by simp at ha)) (hd d hq))
theorem opr_step {o : Oper} (hg : gdA ops st o = some true) (h : step P st o = some st') : OpR P K ops o st st' := by
  intro next Q a w p R H
  rw [gd_sound R hg, if_pos rfl]
  refine .inl ?_
  obtain ⟨w', p', h1⟩ := step_sound R h
  unfold Oper.wp
  rcases h1 with ⟨v, h1, R'⟩ | ⟨h1, R'⟩
  · rw [h1]; exact H _ _ p' R'
  · rw [h1]; exact H _ _ p' R'

/-- Only what a state gives is asked of it. -/
structure Eqv (st st' : St) : Prop where
  nt : st'.nt = st.nt
  env : ∀ t, get st'.env t = get st.env t
  box : ∀ n, get st'.box n = get st.box n
  vec : ∀ n, get st'.vec n = get st.vec n
theorem Eqv.refl (st : St) : Eqv st st := ⟨rfl, fun _ => rfl, fun _ => rfl, fun _ => rfl⟩
theorem Rel.eqv (R : Rel K st a w p) (E : Eqv st st') : Rel K st' a w p where
  lb := by rw [R.lb]; funext n; simp [St.lb, E.box]
  lv := by rw [R.lv]; funext n; simp [St.lv, E.vec]
  dfr := R.dfr
  nt := by rw [R.nt, E.nt]
  ntl := by rw [E.nt]; exact R.ntl
  ion := R.ion
  size := R.size
  os := R.os
  tape := R.tape
  dr := R.dr
  output := R.output
  old := R.old
  env := fun t x h => R.env t x (by rw [← E.env, h])
  box := fun n cs h => R.box n cs (by rw [← E.box, h])
  vec := fun n s h => R.vec n s (by rw [← E.vec, h])
  dbb := R.dbb
  dbv := R.dbv
  dvv := R.dvv

theorem wf_frz {lb lv : Nat → Bool} {n : Nat} (hn : lv n = false) (rows : D) (x : AV) : x.wf lb lv = true → x.frz n rows = x := by
  refine AV.rec (motive_1 := fun x => x.wf lb lv = true → x.frz n rows = x) (motive_2 := fun l => AV.wfL lb lv l = true → AV.frzL n rows l = l) ?_ ?_ ?_ ?_ ?_ ?_ ?_ ?_ ?_ ?_ ?_ ?_ ?_ ?_ ?_ ?_ x
  all_goals intros
  all_goals simp_all [AV.wf, AV.wfL, AV.frz, AV.frzL]
  all_goals intro e; subst e; simp_all

theorem buildSA_isM {t : TypeId} {n d : Nat} {parts : List (Nat × AV)} {s : VS} (h : buildSA P st d t n parts = some (St.put { st with vec := (d, s) :: st.vec } d (.vec d))) : s.isM = false := by
  unfold buildSA at h
  split at h
  case h_2 => cases h
  rename_i e hu
  cases hz : zerOf P e with
  | none => simp [hz] at h
  | some zs =>
    simp only [hz, Option.bind_some] at h
    split at h
    case isFalse => cases h
    rename_i hb
    cases hf : fillA (fun i => some (i * zs.length, zs.length)) (List.replicate (n * zs.length) .undef) parts with
    | none => rw [hf] at h; simp at h
    | some r =>
      rw [hf] at h
      simp only [Option.bind_some] at h
      cases hds : toDs r with
      | none => simp [hds] at h
      | some ds =>
        simp only [hds, Option.bind_some] at h
        cases hvd : get st.vec d with
        | some _ => simp [hvd] at h
        | none =>
          simp only [hvd, Option.some.injEq, St.put, St.mk.injEq, List.cons.injEq, Prod.mk.injEq, true_and, and_true] at h
          rw [← h]
          exact isM_lt hb.2.2.2

theorem buildS_data (R : Rel K st a w p) {o : Oper} {t : TypeId} {n d : Nat} {parts : Array (Nat × Operand)} (ho : o.op = .buildSlice t n parts) (hd : o.dst = some d) {s : VS}
    (h : buildSA P st d t n (parts.toList.map fun (i, x) => (i, opd st x)) = some (St.put { st with vec := (d, s) :: st.vec } d (.vec d))) (hv : get st.vec d = none) :
    ∃ w' p', ∃ v, (execOp a.eval o).run P w = .ok (.value v) w' ∧ Rel K (st.put d (.d (.slice s.rows))) (a.put o.dst v) w' p' := by
  obtain ⟨w', p', h1⟩ := buildS_sound R ho hd h
  have key : ∀ {b : Act}, Rel K (St.put { st with vec := (d, s) :: st.vec } d (.vec d)) b w' p' → ∃ p2, Rel K (st.put d (.d (.slice s.rows))) b w' p2 := fun {b} R1 => by
    obtain ⟨p2, R2, _⟩ := R1.frz d
    refine ⟨p2, R2.eqv ?_⟩
    have hl : st.lv d = false := by simp [St.lv, hv]
    have hget : get (St.put { st with vec := (d, s) :: st.vec } d (.vec d)).vec d = some s := by simp [St.put, get]
    have hM := buildSA_isM h
    have hdt : s.dat = .slice s.rows := by unfold VS.dat; rw [hM, if_neg (by decide)]
    unfold St.frz
    rw [hget]
    simp only [hdt]
    refine ⟨rfl, fun t => ?_, fun m => ?_, fun m => ?_⟩
    · simp only [St.put, get_mapv, get]
      by_cases e : d = t
      · simp [e, AV.frz]
      · simp only [if_neg e]
        cases hx : get st.env t with
        | none => rfl
        | some x => simp only [Option.map_some]; rw [wf_frz hl _ x ((R.env t x hx).names (fun n hn => (R.lbi n).1 hn) (fun n hn => (R.lvi n).1 hn))]
    · simp only [St.put, get_mapv]
      cases hx : get st.box m with
      | none => rfl
      | some cs =>
        simp only [Option.map_some]
        congr 1
        obtain ⟨⟨vs, ty, g1, g2, g3, _⟩, _⟩ := R.box m cs hx
        refine (List.ext_getElem? fun i => ?_).symm
        rw [List.getElem?_map]
        cases hc : cs[i]? with
        | none => rfl
        | some c =>
          have hi : i < vs.size := by have := (List.getElem?_eq_some_iff.1 hc).1; omega
          simp only [Option.map_some]
          rw [wf_frz hl _ c ((g3 i c _ hc (Array.getElem?_eq_getElem hi)).names (fun n hn => (R.lbi n).1 hn) (fun n hn => (R.lvi n).1 hn))]
    · simp only [St.put, get_del, get]
      by_cases e : d = m
      · subst e; simp [hv]
      · simp [e]
  rcases h1 with ⟨v, h1, R1⟩ | ⟨h1, R1⟩
  · obtain ⟨p2, R2⟩ := key R1
    exact ⟨w', p2, v, h1, R2⟩
  · exfalso
    simp only [execOp, ho] at h1
    simp only [Sem.run_bind] at h1
    generalize (Instr.buildSlice t n (parts.map fun (i, x) => (i, a.eval x))).run P w = q at h1
    cases q <;> simp [Result.andThen] at h1

theorem opr_data {o : Oper} {t : TypeId} {n d : Nat} {parts : Array (Nat × Operand)} {s : VS} (hg : gdA ops st o = some true) (ho : o.op = .buildSlice t n parts) (hd : o.dst = some d)
    (h : buildSA P st d t n (parts.toList.map fun (i, x) => (i, opd st x)) = some (St.put { st with vec := (d, s) :: st.vec } d (.vec d))) (hv : get st.vec d = none) : OpR P K ops o st (st.put d (.d (.slice s.rows))) := by
  intro next Q a w p R H
  rw [gd_sound R hg, if_pos rfl]
  refine .inl ?_
  obtain ⟨w', p', v, h1, R'⟩ := buildS_data R ho hd h hv
  unfold Oper.wp
  rw [h1]; exact H _ _ p' R'

theorem boxesOut_app (υ σ0 : List Nat) : ∀ (σ : List Nat) (bx : List (List AV)) (l : List (Nat × List AV)), boxesOut υ σ0 σ bx l = boxesOut υ σ0 σ bx [] ++ l
  | [], [], l => rfl
  | [], _ :: _, l => rfl
  | _ :: _, [], l => rfl
  | n :: σ, c :: bx, l => by simp only [boxesOut, List.cons_append, boxesOut_app υ σ0 σ bx l]

theorem opr_callV {f : FuncId} {bx : List (List AV)} {vx : List VS} {cargs : List AV} {res : AV} {bx' : List (List AV)} {vx' : List VS} {o : Oper} {c : Call} {y : Operand} {d : Nat} (σ τ υ : List Nat) (C : FnOKv P f bx vx cargs res bx' vx') (ho : o.op = .call c) (hc : c.callee = .value y) (hd : o.dst = some d)
    (hcall : ∀ (args : Array Value) (w : World), (callFunc f args).run P w = .ok (.enter f args) w) (hH : CallOK st ops o c y f σ τ υ bx vx cargs bx' vx' d) :
    OpR P K ops o st ((calledSt st σ τ υ bx' vx').put d (res.back υ σ)) := by
  intro next Q a w p R H
  rw [gd_sound R hH.gd, if_pos rfl]
  refine .inl ?_
  unfold Oper.wp
  obtain ⟨caps, hf, hargs⟩ := hH.fn
  obtain ⟨cs, hy, hl, hh⟩ := eval_fn R hf
  rw [enter_run ho hc hy hcall]
  show Calls P f (c.args.map a.eval ++ cs) w _
  refine (call_core C R hH ⟨caps, hl, hh, hargs⟩).mono fun e w' ⟨v, p', he, R', hv⟩ => ?_
  subst he
  show next (a.put o.dst v) w'
  rw [hd]
  exact H _ _ _ (R'.put hv hH.dn)
theorem opr_call {f : FuncId} {bx : List (List AV)} {cargs : List AV} {res : AV} {bx' : List (List AV)} {o : Oper} {c : Call} {y : Operand} {d : Nat} (σ : List Nat) (C : FnOK P f bx cargs res bx') (hg : gdA ops st o = some true) (ho : o.op = .call c) (hc : c.callee = .value y) (hd : o.dst = some d)
    (hcall : ∀ (args : Array Value) (w : World), (callFunc f args).run P w = .ok (.enter f args) w) (hdn : d < st.nt) (hσ : σ.Nodup) (hargs : ∃ caps, opd st y = .fn f caps ∧ (c.args.toList.map (opd st) ++ caps).map (AV.view [] [] σ) = cargs) (hbx : boxesIn st [] σ σ bx) (hl : bx.length = bx'.length) :
    OpR P K ops o st ({ st with box := boxesOut [] σ σ bx' st.box }.put d (res.back [] σ)) :=
  opr_callV σ [] [] C ho hc hd hcall ⟨hg, hdn, hσ, List.nodup_nil, List.nodup_nil, hargs, hbx, trivial, hl, rfl, fun n hn => by simp at hn⟩

/-! What an operation hangs on -/
structure Agr (ops : Array Oper) (o : Oper) (S st : St) : Prop where
  nt : st.nt = S.nt
  vec : ∀ n s, get S.vec n = some s → get st.vec n = some s
  look : ∀ t ∈ o.looksAt ops, st.look t = S.look t
  box : ∀ n cs, get S.box n = some cs → get st.box n = some cs

variable {o : Oper} {S : St}
theorem Agr.opd (A : Agr ops o S st) {x : Operand} (hx : x ∈ o.op.operands.toList) : opd st x = opd S x := by
  cases x with
  | tmp t =>
    refine A.look t ?_
    unfold Oper.looksAt
    exact List.mem_append.2 (.inl (List.mem_filterMap.2 ⟨_, hx, rfl⟩))
  | _ => rfl
theorem Agr.gd (A : Agr ops o S st) : gdA ops st o = gdA ops S o := by
  unfold gdA
  cases hg : o.guard with
  | none => rfl
  | some g =>
    obtain ⟨j, want⟩ := g
    simp only
    cases ht : (ops[j]?).bind (·.dst) with
    | none => rfl
    | some t =>
      have : st.look t = S.look t := A.look t (by unfold Oper.looksAt; exact List.mem_append.2 (.inr (by simp [hg, ht])))
      simp only [this]
theorem Agr.rows (A : Agr ops o S st) {x : AV} {r : List (List D)} (h : rowsOf S x = some r) : rowsOf st x = some r := by
  cases x with
  | vec n =>
    simp only [rowsOf] at h ⊢
    cases hb : get S.vec n with
    | none => simp [hb] at h
    | some s => rw [A.vec n s hb]; rwa [hb] at h
  | cut n z lo k =>
    simp only [rowsOf] at h ⊢
    cases hb : get S.vec n with
    | none => simp [hb] at h
    | some s => rw [A.vec n s hb]; rwa [hb] at h
  | d y => cases y <;> exact h
  | _ => exact h
theorem Agr.len (A : Agr ops o S st) {P : Program} {t : TypeId} {x : AV} {n : Int} (h : lenA P S t x = some n) : lenA P st t x = some n := by
  unfold lenA at h ⊢
  split at h
  · split at h
    · exact h
    · exact h
    · rename_i hnc
      cases hr : rowsOf S x with
      | none => rw [hr] at h; cases h
      | some r =>
        rw [hr] at h
        rw [A.rows hr]
        exact h
  · exact h
  · exact h
  · exact h
  · cases h
theorem Agr.cutV (A : Agr ops o S st) {P : Program} {e : TypeId} {n lo0 k0 : Nat} {lo hi mx : Option Int} {y : AV} (h : Vl.cutV P S e n lo0 k0 lo hi mx = some y) : Vl.cutV P st e n lo0 k0 lo hi mx = some y := by
  unfold Vl.cutV at h ⊢
  cases hb : get S.vec n with
  | none => rw [hb] at h; cases h
  | some s => rw [hb] at h; rw [A.vec n s hb]; exact h
theorem Agr.cut (A : Agr ops o S st) {P : Program} (t : TypeId) (x : AV) (lo hi mx : Option Int) {y : AV} (h : cutA P S t x lo hi mx = some y) : cutA P st t x lo hi mx = some y := by
  unfold cutA at h ⊢
  split at h
  · split at h
    · rename_i n
      cases hb : get S.vec n with
      | none => rw [hb] at h; cases h
      | some s => rw [hb] at h; simp only [A.vec n s hb]; exact A.cutV h
    · rename_i n z lo0 k0
      cases hb : get S.vec n with
      | none => rw [hb] at h; cases h
      | some s =>
        rw [hb] at h; simp only [A.vec n s hb]
        simp only [Option.bind_some] at h ⊢
        split at h
        · rename_i hz; rw [if_pos hz]; exact A.cutV h
        · cases h
    · rename_i h1 h2
      cases hr : rowsOf S x with
      | none => rw [hr] at h; cases h
      | some r =>
        have hr' := A.rows hr
        rw [hr] at h
        cases x with
        | vec n => exact absurd rfl (h1 n)
        | cut n z a b => exact absurd rfl (h2 n z a b)
        | _ => simp only; rw [hr']; exact h
  · exact h
  · cases h
theorem Agr.ixp (A : Agr ops o S st) {P : Program} {t : TypeId} {y x : AV} {i : Int} (h : indexPA P t y i S = some x) : indexPA P t y i st = some x := by
  unfold indexPA at h ⊢
  split at h
  · split at h
    case isFalse => cases h
    rename_i h0
    rw [if_pos h0]
    split at h
    · exact h
    · exact h
    · rename_i n
      cases hb : get S.vec n with
      | none => rw [hb] at h; cases h
      | some s => rw [hb] at h; rw [A.vec n s hb]; exact h
    · exact h
    · cases h
  · exact h
  · cases h
theorem Agr.load (A : Agr ops o S st) {t : TypeId} {x y : AV} (h : loadA P S t x = some y) : loadA P st t x = some y := by
  cases x with
  | ptr n k =>
    simp only [loadA] at h ⊢
    cases hb : get S.box n with
    | none => simp [hb] at h
    | some cs => rw [A.box n cs hb]; rwa [hb] at h
  | vptr n z i k =>
    simp only [loadA] at h ⊢
    cases hb : get S.vec n with
    | none => simp [hb] at h
    | some s => rw [A.vec n s hb]; rwa [hb] at h
  | _ => simpa only [loadA] using h
theorem Agr.vstep (A : Agr ops o S st) {x : AV} (h : vstep P S o = some x) : Vl.vstep P st o = some x := by
  have AO : ∀ y ∈ o.op.operands.toList, Vl.opd st y = Vl.opd S y := fun y hy => A.opd hy
  have AL := fun (t : TypeId) (x y : AV) (h : loadA P S t x = some y) => A.load h
  unfold Vl.vstep at h ⊢
  cases ho : o.op
  all_goals (try simp only [ho] at h ⊢)
  all_goals (try (simp only [ho, Op.operands] at AO))
  all_goals (try (cases h; done))
  case move y => rwa [AO y (by simp)]
  case assign y => rwa [AO y (by simp)]
  case pick c y z => rwa [AO c (by simp), AO y (by simp), AO z (by simp)]
  case nilCheck y => rwa [AO y (by simp)]
  case load t y => rw [AO y (by simp)]; exact AL _ _ _ h
  case fieldAddr s y f => rwa [AO y (by simp)]
  case field s y f => rwa [AO y (by simp)]
  case indexAddr t y i =>
    rw [AO y (by simp), AO i (by simp)]
    cases hi : intOfA (Vl.opd S i) with
    | none => rw [hi] at h; cases h
    | some n => rw [hi] at h; exact A.ixp h
  case index t y i => rwa [AO y (by simp), AO i (by simp)]
  case extract y i => rwa [AO y (by simp)]
  case binOp op t y z t' => rwa [AO y (by simp), AO z (by simp)]
  case unOp op t y => rwa [AO y (by simp)]
  case convert s d y => rwa [AO y (by simp)]
  case build t parts =>
    have e : (parts.toList.map fun x => (x.1, Vl.opd st x.2)) = parts.toList.map fun x => (x.1, Vl.opd S x.2) := List.map_congr_left fun q hq => by
      rw [AO q.2 (List.mem_map.2 ⟨q, hq, rfl⟩)]
    rw [e]; exact h
  case slice t y lo hi mx =>
    have e1 : lo.map (Vl.opd st) = lo.map (Vl.opd S) := by cases lo with | none => rfl | some q => simp [AO q (by simp)]
    have e2 : hi.map (Vl.opd st) = hi.map (Vl.opd S) := by cases hi with | none => rfl | some q => simp [AO q (by simp)]
    have e3 : mx.map (Vl.opd st) = mx.map (Vl.opd S) := by cases mx with | none => rfl | some q => simp [AO q (by simp)]
    rw [e1, e2, e3, AO y (by simp)]
    cases h1 : bndA (lo.map (Vl.opd S)) with
    | none => rw [h1] at h; cases h
    | some l =>
      cases h2 : bndA (hi.map (Vl.opd S)) with
      | none => rw [h1, h2] at h; cases h
      | some u =>
        cases h3 : bndA (mx.map (Vl.opd S)) with
        | none => rw [h1, h2, h3] at h; cases h
        | some m => rw [h1, h2, h3] at h; exact A.cut _ _ _ _ _ h
  case makeFunc fn first caps =>
    have e : caps.toList.map (Vl.opd st) = caps.toList.map (Vl.opd S) := List.map_congr_left fun y hy => AO y (by simp; exact .inr (by simpa using hy))
    rw [e]; exact h
  case call c =>
    have e : ∀ y ∈ c.args.toList, Vl.opd st y = Vl.opd S y := fun y hy => AO y (by simp [Call.operands]; exact .inr (by simpa using hy))
    have em : c.args.toList.map (Vl.opd st) = c.args.toList.map (Vl.opd S) := List.map_congr_left e
    unfold bstep at h ⊢
    split at h
    · rename_i x t h1 h2 h3
      rw [e x (by rw [h2]; simp)]
      cases hn : lenA P S t (Vl.opd S x) with
      | none => rw [hn] at h; cases h
      | some n => rw [hn] at h; rw [A.len hn]; exact h
    · rename_i h1; rw [em]; exact h
    · rename_i h1; rw [em]; exact h
    · cases h
end
end Go.Vl
