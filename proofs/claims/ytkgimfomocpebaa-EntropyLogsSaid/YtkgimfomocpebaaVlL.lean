/- The value logic, part 12: the contract of a function, its proof from a triple, its use at a call. Conditions: none. -/
import Derived.Test.YtkgimfomocpebaaVlK
set_option linter.unusedSimpArgs false
set_option linter.unusedVariables false
namespace Go.Vl
open Go Go.RowKit

/-- the placement of the boxes that come in -/
def ioPl (io : List Nat) : Pl := ⟨fun n => (io[n - 1000000]?).getD 0, fun _ => undef, fun n => 1000000 ≤ n ∧ n - 1000000 < io.length, fun _ => False⟩
theorem io_lb {io : List Nat} {i : Nat} : (ioPl io).lb (InO i) ↔ i < io.length := by simp [ioPl, InO]
theorem io_bx {io : List Nat} {i b : Nat} (h : io[i]? = some b) : (ioPl io).bx (InO i) = b := by simp [ioPl, InO, h]

structure BoxIn (w : World) (ok : Nat → Prop) (io : List Nat) (b : Nat) (cs : List AV) : Prop where
  at_ : ∃ (vs : Array Value) (ty : TypeId), w.heap[b]? = some (.cells vs ty (0, 0)) ∧ vs.size = cs.length ∧
    (∀ (i : Nat) (c : AV) (v : Value), cs[i]? = some c → vs[i]? = some v → RA w ok (ioPl io) c v) ∧ ∀ (i : Nat) (v : Value), vs[i]? = some v → v.oneCell' = true

structure FnPre (w : World) (ok : Nat → Prop) (io : List Nat) (bx : List (List AV)) : Prop where
  len : io.length = bx.length
  nodup : io.Nodup
  okb : ∀ b, ok b → b < w.heap.size ∧ b ∉ io
  at_ : ∀ (i b : Nat) (cs : List AV), io[i]? = some b → bx[i]? = some cs → BoxIn w ok io b cs

structure Frm (io : List Nat) (w w' : World) : Prop where
  size : w.heap.size ≤ w'.heap.size
  os : w'.os = w.os
  tape : w'.tape = w.tape
  output : w'.output = w.output
  block : ∀ b, b < w.heap.size → b ∉ io → w'.heap[b]? = w.heap[b]?

def okn (ok : Nat → Prop) (w w' : World) (b : Nat) : Prop := ok b ∨ (w.heap.size ≤ b ∧ b < w'.heap.size)

/-- Called with arguments that read as 'args', the boxes 'bx' handed in, f returns what reads as 'res', the boxes then hold 'bx''; nothing else that was there has changed. -/
def FnOK (P : Program) (f : FuncId) (bx : List (List AV)) (args : List AV) (res : AV) (bx' : List (List AV)) : Prop :=
  ∀ (w : World) (ok : Nat → Prop) (io : List Nat) (vs : Array Value), FnPre w ok io bx → vs.size = args.length → (∀ (i : Nat) (x : AV) (v : Value), args[i]? = some x → vs[i]? = some v → RA w ok (ioPl io) x v) →
    Calls P f vs w fun e w' => ∃ v, e = .returned v ∧ RA w' (okn ok w w') (ioPl io) res v ∧ FnPre w' (okn ok w w') io bx' ∧ Frm io w w'

/-! What a caller holds, as a callee sees it -/
mutual
def AV.fin : AV → AV
  | .nilS => .d (.slice [])
  | .full rows => .d (.slice rows)
  | .agg l => .agg (AV.finL l)
  | .tup l => .tup (AV.finL l)
  | x => x
def AV.finL : List AV → List AV
  | [] => []
  | x :: l => AV.fin x :: AV.finL l
end
theorem finL_eq : ∀ l : List AV, AV.finL l = l.map AV.fin
  | [] => rfl
  | x :: l => by simp [AV.finL, finL_eq l]
theorem RA.fin {w : World} {ok : Nat → Prop} {p : Pl} {x : AV} {v : Value} (h : RA w ok p x v) : RA w ok p x.fin v := by
  induction h with
  | undef => simp only [AV.fin]; exact .undef
  | d h => simp only [AV.fin]; exact .d h
  | nilS => simp only [AV.fin]; exact .d .snil
  | full h => simp only [AV.fin]; exact .d h
  | agg hl _ h1 ih =>
    simp only [AV.fin, finL_eq]
    refine .agg (by simpa using hl) (fun i a v ha hv' => ?_) h1
    simp only [List.getElem?_map, Option.map_eq_some_iff] at ha
    obtain ⟨q, hq, rfl⟩ := ha
    exact ih i q v hq hv'
  | tup hl _ ih =>
    simp only [AV.fin, finL_eq]
    refine .tup (by simpa using hl) (fun i a v ha hv' => ?_)
    simp only [List.getElem?_map, Option.map_eq_some_iff] at ha
    obtain ⟨q, hq, rfl⟩ := ha
    exact ih i q v hq hv'
  | ptr hm => simp only [AV.fin]; exact .ptr hm
  | cptr vs h1 h2 h3 => simp only [AV.fin]; exact .cptr vs h1 h2 h3
  | vec hm => simp only [AV.fin]; exact .vec hm
  | vptr h1 h2 => simp only [AV.fin]; exact .vptr h1 h2
  | fn => simp only [AV.fin]; exact .fn

/-! A function's results -/
def resA (P : Program) (st : St) : ResultVar → Option AV
  | .tmp t => some (st.look t)
  | .cell a t => loadA P st t (st.look a)
def resLA (P : Program) (st : St) : List ResultVar → Option (List AV)
  | [] => some []
  | r :: l => (resA P st r).bind fun x => (resLA P st l).map fun xs => x :: xs
def packA : List AV → AV
  | [x] => x
  | l => .tup l
def ioB (n : Nat) : Bool := decide (1000000 ≤ n)
def frzs (st : St) : List Nat → St
  | [] => st
  | n :: l => frzs (st.frz n) l
def boxesAre (st : St) : Nat → List (List AV) → Prop
  | _, [] => True
  | i, cs :: l => (∃ cs0, get st.box (InO i) = some cs0 ∧ AV.finL cs0 = cs ∧ AV.wfL ioB (fun _ => false) cs = true) ∧ boxesAre st (i + 1) l
/-- what the body must have come to -/
def Fin (P : Program) (rs : List ResultVar) (res : AV) (bx' : List (List AV)) (st : St) : Prop :=
  ∃ ns, (resLA P (frzs st ns) rs).map (fun l => (packA l).fin) = some res ∧ res.wf ioB (fun _ => false) = true ∧ boxesAre (frzs st ns) 0 bx'
def FinQ (P : Program) (rs : List ResultVar) (res : AV) (bx' : List (List AV)) : Exit → St → Prop
  | .normal, st => Fin P rs res bx' st
  | .ret, st => Fin P rs res bx' st
  | _, _ => False

def numbered {α : Type} : Nat → List α → List (Nat × α)
  | _, [] => []
  | i, x :: l => (i, x) :: numbered (i + 1) l
theorem get_numbered {α : Type} : ∀ (l : List α) (i t : Nat), get (numbered i l) t = if i ≤ t then l[t - i]? else none
  | [], i, t => by simp [numbered, get]
  | x :: l, i, t => by
    simp only [numbered, get, get_numbered l (i + 1) t]
    by_cases h1 : i = t
    · subst h1; simp
    · rw [if_neg h1]
      by_cases h2 : i ≤ t
      · rw [if_pos h2, if_pos (by omega), show t - i = (t - (i + 1)) + 1 by omega]; simp
      · rw [if_neg h2, if_neg (by omega)]
def enterSt (nt : Nat) (args : List AV) (bx : List (List AV)) : St := { nt := nt, env := numbered 0 args, box := numbered 1000000 bx, vec := [] }

section
variable {P : Program} {K : Ctx} {st : St} {a : Act} {w : World} {p : Pl}
theorem Rel.frzs (ns : List Nat) : ∀ {st : St} {p : Pl}, Rel K st a w p → ∃ p', Rel K (frzs st ns) a w p' := by
  induction ns with
  | nil => exact fun R => ⟨_, R⟩
  | cons n l ih => intro st p R; obtain ⟨p', R', _⟩ := R.frz n; exact ih R'

def resM (tmps : Array Value) : ResultVar → Sem Value
  | .tmp t => pure (tmps.getD t undef)
  | .cell q t => do loadVar t (← asAddr (tmps.getD q undef))

theorem resA_sound (R : Rel K st a w p) {r : ResultVar} {x : AV} (hr : resA P st r = some x) : ∃ v, (resM a.tmps r).run P w = .ok v w ∧ RA w (okc K w p) p x v := by
  cases r with
  | tmp t => simp [resA] at hr; subst hr; exact ⟨_, rfl, R.opd (.tmp t)⟩
  | cell q t =>
    simp only [resA] at hr
    have hq := R.opd (.tmp q)
    simp only [Vl.opd, Act.eval] at hq
    generalize hu : a.tmps.getD q undef = u at hq
    generalize st.look q = y at hq hr
    obtain ⟨v, g1, g2⟩ := loadA_sound R hr hq
    have hptr : ∃ b, u = .pointer (some b) := by
      cases hq <;> first | exact ⟨_, rfl⟩ | (simp [loadA] at hr)
    obtain ⟨b, rfl⟩ := hptr
    refine ⟨v, ?_, g2⟩
    simp only [resM, hu]
    simpa [Instr.loadAt, Instr.sureAddr, asAddr] using g1

theorem resLA_sound (R : Rel K st a w p) : ∀ {rs : List ResultVar} {xs : List AV}, resLA P st rs = some xs →
    ∃ vs : List Value, (rs.mapM (resM a.tmps)).run P w = .ok vs w ∧ vs.length = xs.length ∧
      ∀ (i : Nat) (x : AV) (v : Value), xs[i]? = some x → vs[i]? = some v → RA w (okc K w p) p x v
  | [], xs, h => by simp [resLA] at h; subst h; exact ⟨[], by simp, rfl, fun i x v hx => by simp at hx⟩
  | r :: rs, xs, h => by
    simp only [resLA] at h
    cases hr : resA P st r with
    | none => simp [hr] at h
    | some x =>
      cases hl : resLA P st rs with
      | none => simp [hr, hl] at h
      | some xs' =>
        simp [hr, hl] at h; subst h
        obtain ⟨vs, h1, h2, h3⟩ := resLA_sound R hl
        obtain ⟨v, g1, g2⟩ := resA_sound R hr
        refine ⟨v :: vs, ?_, by simp [h2], fun i y u hy hu => ?_⟩
        · rw [List.mapM_cons]
          simp only [Sem.run_bind, g1, Result.andThen_ok, h1, Sem.run_pure]
        · cases i with
          | zero => simp at hy hu; subst hy; subst hu; exact g2
          | succ i => exact h3 i y u (by simpa using hy) (by simpa using hu)

theorem results_eq (fn : Func) (tmps : Array Value) : results fn tmps = (do let vs ← fn.results.mapM (resM tmps); pure (if h : vs.size = 1 then vs[0] else .tuple vs)) := by
  unfold results
  congr 1

theorem results_run (R : Rel K st a w p) {fn : Func} {xs : List AV} (h : resLA P st fn.results.toList = some xs) : ∃ v, (results fn a.tmps).run P w = .ok v w ∧ RA w (okc K w p) p (packA xs) v := by
  obtain ⟨vs, h1, h2, h3⟩ := resLA_sound R h
  refine ⟨if h : vs.toArray.size = 1 then vs.toArray[0] else .tuple vs.toArray, ?_, ?_⟩
  · rw [results_eq, Array.mapM_eq_mapM_toList]
    simp [h1]
  · match xs, vs, h2 with
    | [], [], _ => simp [packA]; exact .tup rfl (fun i a v ha => by simp at ha)
    | [x], [v], _ => simp [packA]; exact h3 0 x v rfl rfl
    | x :: y :: xs, v :: u :: vs, h2 =>
      simp only [packA]
      rw [dif_neg (by simp)]
      exact .tup (by simpa using h2) (fun i a v ha hv => h3 i a v ha (by simpa using hv))

theorem boxesAre_get : ∀ {bx : List (List AV)} {i0 : Nat}, boxesAre st i0 bx → ∀ {i : Nat} {cs : List AV}, bx[i]? = some cs → ∃ cs0, get st.box (InO (i0 + i)) = some cs0 ∧ AV.finL cs0 = cs ∧ AV.wfL ioB (fun _ => false) cs = true
  | [], _, _, i, cs, h => by simp at h
  | c :: bx, i0, hb, i, cs, h => by
    cases i with
    | zero => simp at h; subst h; exact hb.1
    | succ i => have := boxesAre_get hb.2 (i := i) (by simpa using h); rwa [show i0 + 1 + i = i0 + (i + 1) by omega] at this

/-- A contract, from a triple over the body. -/
theorem fn_ok {f : FuncId} {fn : Func} {c : Code} {nt : Nat} {rs : List ResultVar} {bx : List (List AV)} {args : List AV} {res : AV} {bx' : List (List AV)} (hf : P.funcs[f]? = some fn) (hb : fn.body = some c) (hnt : fn.ntmps = nt) (hrs : fn.results.toList = rs)
    (hna : args.length ≤ nt) (hn6 : nt ≤ 1000000) (hlb : bx.length = bx'.length) (h : ∀ K : Ctx, Tr P K c (enterSt nt args bx) (FinQ P rs res bx')) : FnOK P f bx args res bx' := by
  intro w ok io vs hpre hvs hargs
  let K : Ctx := ⟨w, ok, io⟩
  refine calls_of_wp hf hb ?_
  have hokc : ∀ b, ok b → okc K w (ioPl io) b := fun b hb' => ⟨(hpre.okb b hb').1, .inl hb', fun n hn e => by
    obtain ⟨h1, h2⟩ := hn
    have : (ioPl io).bx n ∈ io := by simp [ioPl, List.getElem?_eq_getElem h2]
    exact (hpre.okb b hb').2 (e ▸ this), fun n hn => hn.elim⟩
  have hEv : Evo K w w (ioPl io) (ioPl io) (fun _ => true) (fun _ => true) := ⟨Nat.le_refl _, rfl, rfl, rfl, fun _ _ _ => rfl, fun _ _ => rfl, fun _ h => h, fun _ _ h => ⟨h, rfl⟩, fun _ _ h => ⟨h, rfl⟩⟩
  have hra : ∀ {x : AV} {v : Value}, RA w ok (ioPl io) x v → RA w (okc K w (ioPl io)) (ioPl io) x v := fun h => h.mono (fun _ _ => rfl) hokc (fun _ h => ⟨h, rfl⟩) (fun _ h => ⟨h, rfl⟩)
  have hgb : ∀ n cs, get (numbered 1000000 bx) n = some cs → 1000000 ≤ n ∧ bx[n - 1000000]? = some cs := fun n cs hg => by
    rw [get_numbered] at hg
    split at hg
    · exact ⟨‹_›, hg⟩
    · cases hg
  have R : Rel K (enterSt nt args bx) { tmps := vs ++ Array.replicate (fn.ntmps - vs.size) undef, defers := [] } w (ioPl io) := {
    lb := by
      funext n
      simp only [ioPl, St.lb, enterSt, get_numbered, eq_iff_iff, hpre.len]
      by_cases h : 1000000 ≤ n
      · simp [h]
      · simp [h]
    lv := by funext n; simp [ioPl, St.lv, enterSt, get]
    dfr := rfl
    nt := by simp [enterSt, hnt, hvs]; omega
    ntl := hn6
    ion := fun i hi => by have := io_lb.1 hi; rw [io_bx (List.getElem?_eq_getElem this)]; exact List.getElem?_eq_getElem this
    size := Nat.le_refl _
    os := rfl
    tape := rfl
    output := rfl
    old := fun _ _ _ => rfl
    env := fun t x hx => by
      simp only [enterSt, get_numbered, Nat.zero_le, if_true, Nat.sub_zero] at hx
      have ht : t < vs.size := by have := (List.getElem?_eq_some_iff.1 hx).1; omega
      have : (vs ++ Array.replicate (fn.ntmps - vs.size) undef).getD t undef = vs[t] := by simp [Array.getElem?_append, ht]
      rw [this]
      exact hra (hargs t x _ hx (by simp [ht]))
    box := fun n cs hn => by
      obtain ⟨h1, h2⟩ := hgb n cs hn
      have hi : n - 1000000 < io.length := by rw [hpre.len]; exact (List.getElem?_eq_some_iff.1 h2).1
      obtain ⟨⟨us, ty, g1, g2, g3, g4⟩⟩ := hpre.at_ (n - 1000000) io[n - 1000000] cs (List.getElem?_eq_getElem hi) h2
      have hbx : (ioPl io).bx n = io[n - 1000000] := by simp [ioPl, List.getElem?_eq_getElem hi]
      exact ⟨⟨us, ty, by rw [hbx]; exact g1, g2, fun i c v hc hv => hra (g3 i c v hc hv), g4⟩, .inr (by rw [hbx]; exact List.getElem_mem hi)⟩
    vec := fun n s hn => by simp [enterSt, get] at hn
    dbb := fun n m hn hm hne e => by
      have hn' : 1000000 ≤ n ∧ n - 1000000 < io.length := hn
      have hm' : 1000000 ≤ m ∧ m - 1000000 < io.length := hm
      clear hn hm
      obtain ⟨n1, n2⟩ := hn'
      obtain ⟨m1, m2⟩ := hm'
      have e2 : ((io[n - 1000000]?).getD 0) = ((io[m - 1000000]?).getD 0) := e
      rw [List.getElem?_eq_getElem n2, List.getElem?_eq_getElem m2] at e2
      have := (List.getElem_inj hpre.nodup).1 e2
      omega
    dbv := fun n m _ hm => hm.elim
    dvv := fun n m hn => hn.elim }
  refine wp_mono (h K _ w _ R) fun e a' w' ⟨s, p', R', q⟩ => ?_
  have key : Fin P rs res bx' s → a'.defers = [] ∧ ∃ v, (results fn a'.tmps).run P w' = .ok v w' ∧ (∃ u, Ending.returned v = .returned u ∧ RA w' (okn ok w w') (ioPl io) res u ∧ FnPre w' (okn ok w w') io bx' ∧ Frm io w w') := by
    rintro ⟨ns, hres, hwf, hbox⟩
    obtain ⟨p2, R2⟩ := R'.frzs ns
    cases hrl : resLA P (frzs s ns) rs with
    | none => rw [hrl] at hres; cases hres
    | some xs =>
      rw [hrl] at hres
      simp only [Option.map_some, Option.some.injEq] at hres
      rw [← hrs] at hrl
      obtain ⟨v, g1, g2⟩ := results_run R2 hrl
      have hexit : ∀ {x : AV} {u : Value}, RA w' (okc K w' p2) p2 x u → x.wf ioB (fun _ => false) = true → RA w' (okn ok w w') (ioPl io) x u := fun hx hw => by
        refine hx.less (lb := ioB) (lv := fun _ => false) (fun _ _ => rfl) (fun b hb' => ?_) (fun n hn hl => ?_) (fun n hn _ => by cases hn) hw
        · rcases hb'.2.1 with h1 | h1
          · exact .inl h1
          · exact .inr ⟨h1, hb'.1⟩
        · have h6 : 1000000 ≤ n := by simpa [ioB] using hn
          obtain ⟨i, rfl⟩ : ∃ i, n = InO i := ⟨n - 1000000, by unfold InO; omega⟩
          have h7 : io[i]? = some (p2.bx (InO i)) := R2.ion i hl
          exact ⟨io_lb.2 (List.getElem?_eq_some_iff.1 h7).1, io_bx h7⟩
      refine ⟨R2.dfr, v, g1, v, rfl, hexit (by rw [← hres]; exact g2.fin) hwf, ⟨hpre.len.trans hlb, hpre.nodup, fun b hb' => ?_, fun i b cs hi hc => ?_⟩, ⟨R2.size, R2.os, R2.tape, R2.output, fun b h1 h2 => R2.old b h1 h2⟩⟩
      · rcases hb' with h1 | ⟨h1, h2⟩
        · exact ⟨Nat.lt_of_lt_of_le (hpre.okb b h1).1 R2.size, (hpre.okb b h1).2⟩
        · refine ⟨h2, fun hm => ?_⟩
          obtain ⟨i, hi, rfl⟩ := List.getElem_of_mem hm
          obtain ⟨⟨us, ty, g1, _⟩⟩ := hpre.at_ i io[i] _ (List.getElem?_eq_getElem hi) (List.getElem?_eq_getElem (by rw [← hpre.len]; exact hi))
          have := (Array.getElem?_eq_some_iff.1 g1).1
          omega
      · obtain ⟨cs0, k1, k2, k3⟩ := boxesAre_get hbox hc
        rw [Nat.zero_add] at k1
        obtain ⟨⟨us, ty, g1, g2, g3, g4⟩, _⟩ := R2.box (InO i) cs0 k1
        have hpb : p2.bx (InO i) = b := by have := R2.ion i ((R2.lbi _).2 (by simp [St.lb, k1])); rw [show K.ios[i]? = some b from hi] at this; injection this with this; exact this.symm
        refine ⟨⟨us, ty, by rw [← hpb]; exact g1, by rw [g2, ← k2, finL_eq]; simp, fun j c v hc' hv => ?_, g4⟩⟩
        rw [← k2, finL_eq] at hc'
        simp only [List.getElem?_map, Option.map_eq_some_iff] at hc'
        obtain ⟨q, hq, rfl⟩ := hc'
        refine hexit (g3 j q v hq hv).fin (AV.wfL_get k3 (i := j) ?_)
        rw [← k2, finL_eq]
        simp [hq]
  cases e with
  | normal => exact key q
  | ret => exact key q
  | _ => exact q.elim
end
end Go.Vl
