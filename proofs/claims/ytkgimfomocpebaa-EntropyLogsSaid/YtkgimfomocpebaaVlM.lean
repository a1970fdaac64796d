/- The value logic, part 13: a call of a function by its contract. Conditions: none. -/
import Derived.Test.YtkgimfomocpebaaVlL
set_option linter.unusedSimpArgs false
set_option linter.unusedVariables false
namespace Go.Vl
open Go Go.RowKit

def idxOf (σ : List Nat) (n : Nat) : Option Nat :=
  match σ with
  | [] => none
  | m :: l => if m = n then some 0 else (idxOf l n).map (· + 1)
theorem idxOf_some : ∀ {σ : List Nat} {n i : Nat}, idxOf σ n = some i → σ[i]? = some n
  | [], _, _, h => by simp [idxOf] at h
  | m :: l, n, i, h => by
    simp only [idxOf] at h
    split at h
    · cases h; subst_vars; rfl
    · cases hq : idxOf l n with
      | none => simp [hq] at h
      | some j => simp [hq] at h; subst h; simpa using idxOf_some hq

/- what a callee sees of a value -/
mutual
def AV.view (vs : List (Nat × VS)) (σ : List Nat) : AV → AV
  | .nilS => .d (.slice [])
  | .full rows => .d (.slice rows)
  | .vec n => match get vs n with | some s => .d (.slice s.rows) | none => .undef
  | .ptr n o => match idxOf σ n with | some i => .ptr (InO i) o | none => .undef
  | .vptr _ _ _ _ => .undef
  | .agg l => .agg (AV.viewL vs σ l)
  | .tup l => .tup (AV.viewL vs σ l)
  | x => x
def AV.viewL (vs : List (Nat × VS)) (σ : List Nat) : List AV → List AV
  | [] => []
  | x :: l => AV.view vs σ x :: AV.viewL vs σ l
end
theorem viewL_eq (vs : List (Nat × VS)) (σ : List Nat) : ∀ l : List AV, AV.viewL vs σ l = l.map (AV.view vs σ)
  | [] => rfl
  | x :: l => by simp [AV.viewL, viewL_eq vs σ l]
/- what a result is to the caller -/
mutual
def AV.back (σ : List Nat) : AV → AV
  | .ptr n o => match σ[n - 1000000]? with | some m => .ptr m o | none => .undef
  | .vec _ => .undef
  | .vptr _ _ _ _ => .undef
  | .agg l => .agg (AV.backL σ l)
  | .tup l => .tup (AV.backL σ l)
  | x => x
def AV.backL (σ : List Nat) : List AV → List AV
  | [] => []
  | x :: l => AV.back σ x :: AV.backL σ l
end
theorem backL_eq (σ : List Nat) : ∀ l : List AV, AV.backL σ l = l.map (AV.back σ)
  | [] => rfl
  | x :: l => by simp [AV.backL, backL_eq σ l]
/- no address is in it -/
mutual
def AV.flat : AV → Bool
  | .d (.int _ _) | .d (.bool _) | .d (.str _) => true
  | .agg l => AV.flatL l
  | .tup l => AV.flatL l
  | _ => false
def AV.flatL : List AV → Bool
  | [] => true
  | x :: l => AV.flat x && AV.flatL l
end
theorem flatL_get : ∀ {l : List AV}, AV.flatL l = true → ∀ {i : Nat} {x : AV}, l[i]? = some x → x.flat = true
  | [], _, i, x, h => by simp at h
  | y :: l, hl, i, x, h => by
    simp only [AV.flatL, Bool.and_eq_true] at hl
    cases i with
    | zero => simp at h; subst h; exact hl.1
    | succ i => exact flatL_get hl.2 (by simpa using h)

theorem RA.flat {w w' : World} {ok ok' : Nat → Prop} {p p' : Pl} {x : AV} {v : Value} (h : RA w ok p x v) : x.flat = true → RA w' ok' p' x v := by
  induction h with
  | d h => intro hf; cases h <;> first | (simp [AV.flat] at hf; done) | exact .d .int | exact .d .bool | exact .d .str
  | agg hl _ h1 ih => intro hf; exact .agg hl (fun i a v ha hv => ih i a v ha hv (flatL_get (by simpa [AV.flat] using hf) ha)) h1
  | tup hl _ ih => intro hf; exact .tup hl (fun i a v ha hv => ih i a v ha hv (flatL_get (by simpa [AV.flat] using hf) ha))
  | _ => intro hf; simp [AV.flat] at hf

theorem RA.view {w : World} {ok ok' : Nat → Prop} {p : Pl} {vs : List (Nat × VS)} {σ : List Nat} (ho : ∀ b, ok b → ok' b) (hv : ∀ n s, get vs n = some s → p.lv n → RD w ok' (.slice s.rows) (p.rw n)) {x : AV} {v : Value} (h : RA w ok p x v) :
    RA w ok' (ioPl (σ.map p.bx)) (x.view vs σ) v := by
  induction h with
  | undef => simp only [AV.view]; exact .undef
  | d h => simp only [AV.view]; exact .d (h.mono (fun _ _ => rfl) ho)
  | nilS => simp only [AV.view]; exact .d .snil
  | full h => simp only [AV.view]; exact .d (h.mono (fun _ _ => rfl) ho)
  | agg hl _ h1 ih =>
    simp only [AV.view, viewL_eq]
    refine .agg (by simpa using hl) (fun i a v ha hv' => ?_) h1
    simp only [List.getElem?_map, Option.map_eq_some_iff] at ha
    obtain ⟨q, hq, rfl⟩ := ha
    exact ih i q v hq hv'
  | tup hl _ ih =>
    simp only [AV.view, viewL_eq]
    refine .tup (by simpa using hl) (fun i a v ha hv' => ?_)
    simp only [List.getElem?_map, Option.map_eq_some_iff] at ha
    obtain ⟨q, hq, rfl⟩ := ha
    exact ih i q v hq hv'
  | ptr hm =>
    rename_i n o
    simp only [AV.view]
    cases hi : idxOf σ n with
    | none => exact .undef
    | some i =>
      have h1 := idxOf_some hi
      have h2 : (σ.map p.bx)[i]? = some (p.bx n) := by simp [h1]
      have h3 := io_bx h2
      refine RA.ptr_at (io_lb.2 (List.getElem?_eq_some_iff.1 h2).1) h3
  | cptr us h1 h2 h3 => simp only [AV.view]; exact .cptr us (ho _ h1) h2 (fun j x hx => (h3 j x hx).mono (fun _ _ => rfl) ho)
  | vec hm =>
    rename_i n
    simp only [AV.view]
    cases hs : get vs n with
    | none => exact .undef
    | some s => exact .d (hv n s hs hm)
  | vptr h1 h2 => simp only [AV.view]; exact .undef
  | fn => simp only [AV.view]; exact .fn

theorem RA.back {w : World} {ok ok' : Nat → Prop} {p : Pl} {σ : List Nat} (ho : ∀ b, ok b → ok' b) (hl : ∀ n ∈ σ, p.lb n) {x : AV} {v : Value} (h : RA w ok (ioPl (σ.map p.bx)) x v) : RA w ok' p (x.back σ) v := by
  induction h with
  | undef => simp only [AV.back]; exact .undef
  | d h => simp only [AV.back]; exact .d (h.mono (fun _ _ => rfl) ho)
  | nilS => simp only [AV.back]; exact .nilS
  | full h => simp only [AV.back]; exact .full (h.mono (fun _ _ => rfl) ho)
  | agg hl _ h1 ih =>
    simp only [AV.back, backL_eq]
    refine .agg (by simpa using hl) (fun i a v ha hv' => ?_) h1
    simp only [List.getElem?_map, Option.map_eq_some_iff] at ha
    obtain ⟨q, hq, rfl⟩ := ha
    exact ih i q v hq hv'
  | tup hl _ ih =>
    simp only [AV.back, backL_eq]
    refine .tup (by simpa using hl) (fun i a v ha hv' => ?_)
    simp only [List.getElem?_map, Option.map_eq_some_iff] at ha
    obtain ⟨q, hq, rfl⟩ := ha
    exact ih i q v hq hv'
  | ptr hm =>
    rename_i n o
    simp only [AV.back]
    cases hi : σ[n - 1000000]? with
    | none => exact .undef
    | some m =>
      have h2 : (ioPl (σ.map p.bx)).bx n = p.bx m := by simp [ioPl, hi]
      rw [h2]
      exact .ptr (hl m (List.mem_of_getElem? hi))
  | cptr us h1 h2 h3 => simp only [AV.back]; exact .cptr us (ho _ h1) h2 (fun j x hx => (h3 j x hx).mono (fun _ _ => rfl) ho)
  | vec hm => exact hm.elim
  | vptr h1 h2 => exact h1.elim
  | fn => simp only [AV.back]; exact .fn

/-- the caller's boxes that are handed on hold what the contract asks -/
def boxesIn (st : St) (σ0 : List Nat) : List Nat → List (List AV) → Prop
  | [], [] => True
  | n :: σ, cs :: bx => (∃ cs0, get st.box n = some cs0 ∧ AV.viewL [] σ0 cs0 = cs) ∧ boxesIn st σ0 σ bx
  | _, _ => False
def boxesOut (σ0 : List Nat) : List Nat → List (List AV) → List (Nat × List AV) → List (Nat × List AV)
  | n :: σ, cs :: bx, l => (n, AV.backL σ0 cs) :: boxesOut σ0 σ bx l
  | _, _, l => l

section
variable {P : Program} {K : Ctx} {st : St} {a : Act} {w : World} {p : Pl} {ops : Array Oper} {Q : Exit → St → Prop}

theorem boxesIn_get {st : St} {σ0 : List Nat} : ∀ {σ : List Nat} {bx : List (List AV)}, boxesIn st σ0 σ bx → σ.length = bx.length ∧ ∀ (i : Nat) (n : Nat) (cs : List AV), σ[i]? = some n → bx[i]? = some cs → ∃ cs0, get st.box n = some cs0 ∧ AV.viewL [] σ0 cs0 = cs
  | [], [], _ => ⟨rfl, fun i n cs h => by simp at h⟩
  | n :: σ, cs :: bx, h => by
    obtain ⟨h1, h2⟩ := boxesIn_get h.2
    refine ⟨by simp [h1], fun i m c hm hc => ?_⟩
    cases i with
    | zero => simp at hm hc; subst hm; subst hc; exact h.1
    | succ i => exact h2 i m c (by simpa using hm) (by simpa using hc)
  | [], _ :: _, h => h.elim
  | _ :: _, [], h => h.elim

theorem boxesOut_get (σ0 : List Nat) : ∀ {σ : List Nat} {bx : List (List AV)} {l : List (Nat × List AV)} {n : Nat} {cs : List AV}, σ.length = bx.length → σ.Nodup → get (boxesOut σ0 σ bx l) n = some cs →
    (∃ (i : Nat) (c : List AV), σ[i]? = some n ∧ bx[i]? = some c ∧ cs = AV.backL σ0 c) ∨ (n ∉ σ ∧ get l n = some cs)
  | [], [], l, n, cs, _, _, h => .inr ⟨by simp, h⟩
  | m :: σ, c :: bx, l, n, cs, hl, hn, h => by
    simp only [boxesOut, get] at h
    split at h
    · rename_i e; subst e; cases h; exact .inl ⟨0, c, rfl, rfl, rfl⟩
    · rename_i e
      rcases boxesOut_get σ0 (by simpa using hl) (List.nodup_cons.1 hn).2 h with ⟨i, c', h1, h2, h3⟩ | ⟨h1, h2⟩
      · exact .inl ⟨i + 1, c', by simpa using h1, by simpa using h2, h3⟩
      · exact .inr ⟨by simp [h1]; exact fun e' => e e'.symm, h2⟩
  | [], _ :: _, _, _, _, hl, _, _ => by simp at hl
  | _ :: _, [], _, _, _, hl, _, _ => by simp at hl

theorem boxesOut_dom (σ0 : List Nat) : ∀ {σ : List Nat} {bx : List (List AV)} {l : List (Nat × List AV)}, σ.length = bx.length → ∀ n, (get (boxesOut σ0 σ bx l) n).isSome = true ↔ (n ∈ σ ∨ (get l n).isSome = true)
  | [], [], l, _, n => by simp [boxesOut]
  | m :: σ, c :: bx, l, hl, n => by
    simp only [boxesOut, get]
    split
    · rename_i e; subst e; simp
    · rename_i e
      rw [boxesOut_dom σ0 (by simpa using hl) n]
      simp [Ne.symm e]
  | [], _ :: _, _, hl, _ => by simp at hl
  | _ :: _, [], _, hl, _ => by simp at hl

/-- behind a call: the boxes that were handed on are turned, all else stays -/
theorem Rel.called (R : Rel K st a w p) {σ : List Nat} {bx' : List (List AV)} {w' : World} (hn : σ.Nodup) (hσ : ∀ n ∈ σ, p.lb n) (hl : σ.length = bx'.length) (hf : Frm (σ.map p.bx) w w') (hpre : FnPre w' (okn (okc K w p) w w') (σ.map p.bx) bx') :
    Rel K { st with box := boxesOut σ σ bx' st.box } a w' p := by
  have hnot : ∀ {b : Nat}, b ∈ σ.map p.bx → ∃ n ∈ σ, p.bx n = b := fun h => by simpa using h
  have hokn : ∀ b, okn (okc K w p) w w' b → okc K w' p b := fun b h => by
    rcases h with h | ⟨h1, h2⟩
    · exact ⟨Nat.lt_of_lt_of_le h.1 hf.size, h.2⟩
    · exact ⟨h2, .inr (Nat.le_trans R.size h1), fun n hn e => by have := R.blt hn; omega, fun n hn e => by have := (R.vlt hn e).2; omega⟩
  have E : Evo K w w' p p (fun _ => true) (fun _ => true) :=
    ⟨hf.size, hf.os, hf.tape, hf.output, fun b hb hi => hf.block b (Nat.lt_of_lt_of_le hb R.size) (fun h => by
        obtain ⟨n, hn, rfl⟩ := hnot h
        obtain ⟨cs, hcs⟩ := Option.isSome_iff_exists.1 ((R.lbi n).1 (hσ n hn))
        rcases (R.box n cs hcs).mine with h0 | h0
        · omega
        · exact hi h0),
      fun q hq => World.cell?_of_block (hf.block _ hq.1 (fun h => by obtain ⟨n, hn, e⟩ := hnot h; exact hq.2.2.1 n (hσ n hn) e.symm)),
      fun b h => ⟨Nat.lt_of_lt_of_le h.1 hf.size, h.2⟩, fun _ _ h => ⟨h, rfl⟩, fun _ _ h => ⟨h, rfl⟩⟩
  exact {
    lb := by
      funext m
      simp only [St.lb, eq_iff_iff]
      rw [boxesOut_dom σ hl m]
      have := R.lbi m
      simp only [St.lb] at this
      rw [← this]
      exact ⟨.inr, fun h => h.elim (hσ m) id⟩
    lv := R.lv
    dfr := R.dfr
    nt := R.nt
    ntl := R.ntl
    ion := R.ion
    size := Nat.le_trans R.size E.size
    os := E.os.trans R.os
    tape := E.tape.trans R.tape
    output := E.output.trans R.output
    old := fun b hb hi => (E.old b hb hi).trans (R.old b hb hi)
    env := fun t x h => E.ra (R.env t x h) (wf_true x)
    box := fun m cs h => by
      rcases boxesOut_get σ hl hn h with ⟨i, c, h1, h2, rfl⟩ | ⟨h1, h2⟩
      · have hm : m ∈ σ := List.mem_of_getElem? h1
        obtain ⟨cs0, hcs0⟩ := Option.isSome_iff_exists.1 ((R.lbi m).1 (hσ m hm))
        obtain ⟨⟨vs, ty, g1, g2, g3, g4⟩⟩ := hpre.at_ i (p.bx m) c (by simp [h1]) h2
        refine ⟨⟨vs, ty, g1, by rw [backL_eq]; simpa using g2, fun j x v hx hv => ?_, g4⟩, (R.box m cs0 hcs0).mine⟩
        rw [backL_eq] at hx
        simp only [List.getElem?_map, Option.map_eq_some_iff] at hx
        obtain ⟨q, hq, rfl⟩ := hx
        exact (g3 j q v hq hv).back hokn hσ
      · have hm : p.lb m := (R.lbi m).2 (by simp [St.lb, h2])
        exact E.box (R.box m cs h2) rfl (hf.block _ (R.blt hm) (fun h => by
          obtain ⟨n, hn', e⟩ := hnot h
          exact R.dbb n m (hσ n hn') hm (fun e' => h1 (e' ▸ hn')) e)) rfl (fun i c hc => .inr ⟨hc, wf_true c⟩)
    vec := fun m s h => E.vec (R.vec m s h) rfl (fun g hg => hf.block _ (R.vlt ((R.lvi m).2 (by simp [St.lv, h])) hg).2 (fun h' => by
      obtain ⟨n, hn', e⟩ := hnot h'
      exact R.dbv n m (hσ n hn') ((R.lvi m).2 (by simp [St.lv, h])) (by rw [hg, e])))
    dbb := R.dbb
    dbv := R.dbv
    dvv := R.dvv }

theorem enter_run {f : FuncId} {o : Oper} {c : Call} (ho : o.op = .call c) (hc : c.callee = .value (.func f)) (hcall : ∀ (args : Array Value) (w : World), (callFunc f args).run P w = .ok (.enter f args) w) :
    (execOp a.eval o).run P w = .ok (.enter f (c.args.map a.eval)) w := by
  simp [execOp, ho, resolve, hc, Act.eval, Deferred.ofValue, invoke, hcall]

/-- A CALL: the boxes σ are handed on; no owned row is. -/
theorem tops_call {f : FuncId} {bx : List (List AV)} {cargs : List AV} {res : AV} {bx' : List (List AV)} {o : Oper} {c : Call} {l : List Oper} {d : Nat} (σ : List Nat) (C : FnOK P f bx cargs res bx') (hg : gdA ops st o = some true) (ho : o.op = .call c) (hc : c.callee = .value (.func f)) (hd : o.dst = some d)
    (hcall : ∀ (args : Array Value) (w : World), (callFunc f args).run P w = .ok (.enter f args) w) (hdn : d < st.nt) (hσ : σ.Nodup) (hargs : (c.args.toList.map (opd st)).map (AV.view [] σ) = cargs) (hbx : boxesIn st σ σ bx) (hl : bx.length = bx'.length)
    (h : TOps P K ops l ({ st with box := boxesOut σ σ bx' st.box }.put d (res.back σ)) Q) : TOps P K ops (o :: l) st Q := by
  intro a w p R
  unfold wpList
  rw [gd_sound R hg, if_pos rfl]
  refine .inl ?_
  unfold Oper.wp
  rw [enter_run ho hc hcall]
  show Calls P f (c.args.map a.eval) w _
  obtain ⟨hlen, hget⟩ := boxesIn_get hbx
  have hlive : ∀ n ∈ σ, p.lb n := fun n hn => by
    obtain ⟨i, hi, rfl⟩ := List.getElem_of_mem hn
    obtain ⟨cs0, h1, _⟩ := hget i σ[i] _ (List.getElem?_eq_getElem hi) (List.getElem?_eq_getElem (by omega))
    exact (R.lbi _).2 (by simp [St.lb, h1])
  have hview : ∀ {x : AV} {v : Value}, RA w (okc K w p) p x v → RA w (okc K w p) (ioPl (σ.map p.bx)) (x.view [] σ) v := fun h => h.view (fun _ h => h) (fun n s hs => by simp [get] at hs)
  have hpre : FnPre w (okc K w p) (σ.map p.bx) bx := {
    len := by simpa using hlen
    nodup := List.Nodup.map_on_live hσ (fun n hn m hm e => Classical.byContradiction fun hne => R.dbb n m (hlive n hn) (hlive m hm) hne e)
    okb := fun b hb => ⟨hb.1, fun hm => by obtain ⟨n, hn, rfl⟩ := List.mem_map.1 hm; exact hb.2.2.1 n (hlive n hn) rfl⟩
    at_ := fun i b cs hb hcs => by
      rw [List.getElem?_map] at hb
      simp only [Option.map_eq_some_iff] at hb
      obtain ⟨n, hn, rfl⟩ := hb
      obtain ⟨cs0, h1, h2⟩ := hget i n cs hn hcs
      obtain ⟨⟨vs, ty, g1, g2, g3, g4⟩, _⟩ := R.box n cs0 h1
      refine ⟨⟨vs, ty, g1, by rw [g2, ← h2, viewL_eq]; simp, fun j x v hx hv => ?_, g4⟩⟩
      rw [← h2, viewL_eq] at hx
      simp only [List.getElem?_map, Option.map_eq_some_iff] at hx
      obtain ⟨q, hq, rfl⟩ := hx
      exact hview (g3 j q v hq hv) }
  refine (C w (okc K w p) (σ.map p.bx) (c.args.map a.eval) hpre (by rw [← hargs]; simp) (fun i x v hx hv => ?_)).mono fun e w' he => ?_
  · rw [← hargs] at hx
    simp only [List.getElem?_map, Option.map_eq_some_iff] at hx
    obtain ⟨y, ⟨q, hq, rfl⟩, rfl⟩ := hx
    have hv' : v = a.eval q := by
      rw [Array.getElem?_map] at hv
      rw [Array.getElem?_toList] at hq
      rw [hq] at hv
      simpa using hv.symm
    subst hv'
    exact hview (R.opd q)
  · obtain ⟨v, rfl, hres, hpre', hfrm⟩ := he
    have R' := R.called hσ hlive (hlen.trans hl) hfrm hpre'
    show wpList P ops (Pst K Q) l (a.put o.dst v) w'
    rw [hd]
    refine h _ _ _ (R'.put (hres.back (fun b hb => ?_) hlive) hdn)
    rcases hb with h1 | ⟨h1, h2⟩
    · exact ⟨Nat.lt_of_lt_of_le h1.1 hfrm.size, h1.2⟩
    · exact ⟨h2, .inr (Nat.le_trans R.size h1), fun n hn e => by have := R.blt hn; omega, fun n hn e => by have := (R.vlt hn e).2; omega⟩
where
  List.Nodup.map_on_live {α β : Type} {f : α → β} {l : List α} (h : l.Nodup) (hf : ∀ n ∈ l, ∀ m ∈ l, f n = f m → n = m) : (l.map f).Nodup := by
    induction l with
    | nil => simp
    | cons x l ih =>
      rw [List.nodup_cons] at h
      rw [List.map_cons, List.nodup_cons]
      refine ⟨fun hm => ?_, ih h.2 (fun n hn m hm => hf n (by simp [hn]) m (by simp [hm]))⟩
      obtain ⟨y, hy, e⟩ := List.mem_map.1 hm
      exact h.1 (hf y (by simp [hy]) x (by simp) e ▸ hy)

/-- A CALL that sees owned rows; its result bears no address. -/
theorem tops_callv {f : FuncId} {cargs : List AV} {res : AV} {o : Oper} {c : Call} {l : List Oper} {d : Nat} (C : FnOK P f [] cargs res []) (hg : gdA ops st o = some true) (ho : o.op = .call c) (hc : c.callee = .value (.func f)) (hd : o.dst = some d)
    (hcall : ∀ (args : Array Value) (w : World), (callFunc f args).run P w = .ok (.enter f args) w) (hdn : d < st.nt) (hargs : (c.args.toList.map (opd st)).map (AV.view st.vec []) = cargs) (hres : res.flat = true)
    (h : TOps P K ops l (st.put d res) Q) : TOps P K ops (o :: l) st Q := by
  intro a w p R
  unfold wpList
  rw [gd_sound R hg, if_pos rfl]
  refine .inl ?_
  unfold Oper.wp
  rw [enter_run ho hc hcall]
  show Calls P f (c.args.map a.eval) w _
  let ok' : Nat → Prop := fun b => okc K w p b ∨ ∃ n, p.lv n ∧ (p.rw n).ownBlock = some b
  have hview : ∀ {x : AV} {v : Value}, RA w (okc K w p) p x v → RA w ok' (ioPl []) (x.view st.vec []) v := fun h => h.view (σ := []) (fun _ h => .inl h) (fun n s hs hn => by
    obtain ⟨⟨xs, hown, hrd⟩, hz⟩ := R.vec n s hs
    exact own_rd hown hz hrd (fun _ h => .inl h) (fun g hg => .inr ⟨n, hn, hg⟩))
  have hpre : FnPre w ok' [] [] := {
    len := rfl
    nodup := List.nodup_nil
    okb := fun b hb => ⟨by rcases hb with hb | ⟨n, hn, hb⟩; exact hb.1; exact (R.vlt hn hb).2, by simp⟩
    at_ := fun i b cs hb => by simp at hb }
  refine (C w ok' [] (c.args.map a.eval) hpre (by rw [← hargs]; simp) (fun i x v hx hv => ?_)).mono fun e w' he => ?_
  · rw [← hargs] at hx
    simp only [List.getElem?_map, Option.map_eq_some_iff] at hx
    obtain ⟨y, ⟨q, hq, rfl⟩, rfl⟩ := hx
    have hv' : v = a.eval q := by
      rw [Array.getElem?_map] at hv
      rw [Array.getElem?_toList] at hq
      rw [hq] at hv
      simpa using hv.symm
    subst hv'
    exact hview (R.opd q)
  · obtain ⟨v, rfl, hres', _, hfrm⟩ := he
    have R' : Rel K st a w' p := R.called (σ := []) (bx' := []) List.nodup_nil (fun n hn => by simp at hn) rfl hfrm ⟨rfl, List.nodup_nil, fun b hb => ⟨by
      rcases hb with h1 | ⟨_, h2⟩
      · exact Nat.lt_of_lt_of_le h1.1 hfrm.size
      · exact h2, by simp⟩, fun i b cs hb => by simp at hb⟩
    show wpList P ops (Pst K Q) l (a.put o.dst v) w'
    rw [hd]
    exact h _ _ _ (R'.put (hres'.flat hres) hdn)
end
end Go.Vl
