/- The value logic, part 12: the contract of a function, its proof from a triple, its use at a call. Conditions: none. -/
import Derived.Test.YtnnipdjbiblekaaVmK
set_option linter.unusedSimpArgs false
set_option linter.unusedVariables false
namespace Go.Vl
open Go Go.RowKit

/-- the placement of the boxes and the owned rows that come in -/
def ioPl (io : List Nat) (iv : List Value) : Pl := ⟨fun n => (io[n - 1000000]?).getD 0, fun n => (iv[n - 2000000]?).getD undef, fun n => 1000000 ≤ n ∧ n - 1000000 < io.length, fun n => 2000000 ≤ n ∧ n - 2000000 < iv.length⟩
theorem io_lb {io : List Nat} {iv : List Value} {i : Nat} : (ioPl io iv).lb (InO i) ↔ i < io.length := by simp [ioPl, InO]
theorem io_bx {io : List Nat} {iv : List Value} {i b : Nat} (h : io[i]? = some b) : (ioPl io iv).bx (InO i) = b := by simp [ioPl, InO, h]
theorem io_lv {io : List Nat} {iv : List Value} {i : Nat} : (ioPl io iv).lv (InV i) ↔ i < iv.length := by simp [ioPl, InV]
theorem io_rw {io : List Nat} {iv : List Value} {i : Nat} {v : Value} (h : iv[i]? = some v) : (ioPl io iv).rw (InV i) = v := by simp [ioPl, InV, h]

structure BoxIn (w : World) (ok : Nat → Prop) (io : List Nat) (iv : List Value) (b : Nat) (cs : List AV) : Prop where
  at_ : ∃ (vs : Array Value) (ty : TypeId), w.heap[b]? = some (.cells vs ty (0, 0)) ∧ vs.size = cs.length ∧
    (∀ (i : Nat) (c : AV) (v : Value), cs[i]? = some c → vs[i]? = some v → RA w ok (ioPl io iv) c v) ∧ ∀ (i : Nat) (v : Value), vs[i]? = some v → v.oneCell' = true
structure VecIn (w : World) (ok : Nat → Prop) (v : Value) (s : VS) : Prop where
  at_ : VRow w ok s v
  hz : ∀ r ∈ s.rows, r.length = s.z

structure FnPre (w : World) (ok : Nat → Prop) (io : List Nat) (iv : List Value) (bx : List (List AV)) (vx : List VS) : Prop where
  len : io.length = bx.length
  nodup : io.Nodup
  okb : ∀ b, ok b → b < w.heap.size ∧ b ∉ io ∧ ∀ v ∈ iv, v.blk ≠ some b
  at_ : ∀ (i b : Nat) (cs : List AV), io[i]? = some b → bx[i]? = some cs → BoxIn w ok io iv b cs
  lenv : iv.length = vx.length
  vat : ∀ (i : Nat) (v : Value) (s : VS), iv[i]? = some v → vx[i]? = some s → VecIn w ok v s
  vdis : ∀ (i j : Nat) (v u : Value), iv[i]? = some v → iv[j]? = some u → i ≠ j → v.blk = none ∨ v.blk ≠ u.blk
  vio : ∀ v ∈ iv, ∀ b ∈ io, v.blk ≠ some b

structure Frm (io : List Nat) (iv : List Value) (w w' : World) : Prop where
  size : w.heap.size ≤ w'.heap.size
  os : w'.os = w.os
  tape : w'.tape = w.tape
  output : w'.output = w.output
  block : ∀ b, b < w.heap.size → b ∉ io → (∀ v ∈ iv, v.blk ≠ some b) → w'.heap[b]? = w.heap[b]?

def okn (ok : Nat → Prop) (iv iv' : List Value) (w w' : World) (b : Nat) : Prop := (ok b ∨ w.heap.size ≤ b ∨ ∃ v ∈ iv, v.blk = some b) ∧ b < w'.heap.size ∧ ∀ u ∈ iv', u.blk ≠ some b

/-- Called with arguments that read as 'args', the boxes 'bx' and the owned rows 'vx' handed in, f returns what reads as 'res', the boxes then hold 'bx'', and the rows 'vx'' are handed back; nothing else that was there has changed. -/
def FnOKv (P : Program) (f : FuncId) (bx : List (List AV)) (vx : List VS) (args : List AV) (res : AV) (bx' : List (List AV)) (vx' : List VS) : Prop :=
  ∀ (w : World) (ok : Nat → Prop) (io : List Nat) (iv : List Value) (vs : Array Value), FnPre w ok io iv bx vx → vs.size = args.length → (∀ (i : Nat) (x : AV) (v : Value), args[i]? = some x → vs[i]? = some v → RA w ok (ioPl io iv) x v) →
    Calls P f vs w fun e w' => ∃ v iv', e = .returned v ∧ RA w' (okn ok iv iv' w w') (ioPl io iv') res v ∧ FnPre w' (okn ok iv iv' w w') io iv' bx' vx' ∧ (∀ u ∈ iv', ∀ g, u.blk = some g → w.heap.size ≤ g ∨ ∃ v ∈ iv, v.blk = some g) ∧ Frm io iv w w'
/-- the same without owned rows -/
def FnOK (P : Program) (f : FuncId) (bx : List (List AV)) (args : List AV) (res : AV) (bx' : List (List AV)) : Prop := FnOKv P f bx [] args res bx' []

/-! What a caller holds, as a callee sees it -/
mutual
def AV.fin : AV → AV
  | .nilS => .d (.slice [])
  | .full rows => .d (.slice rows)
  | .agg l => .agg (AV.finL l)
  | .tup l => .tup (AV.finL l)
  | x => x
def AV.finL : List AV → List AV
  | [] => []
  | x :: l => AV.fin x :: AV.finL l
end
theorem finL_eq : ∀ l : List AV, AV.finL l = l.map AV.fin
  | [] => rfl
  | x :: l => by simp [AV.finL, finL_eq l]
theorem RA.fin {w : World} {ok : Nat → Prop} {p : Pl} {x : AV} {v : Value} (h : RA w ok p x v) : RA w ok p x.fin v := by
  induction h with
  | undef => simp only [AV.fin]; exact .undef
  | d h => simp only [AV.fin]; exact .d h
  | nilS => simp only [AV.fin]; exact .d .snil
  | full h => simp only [AV.fin]; exact .d h
  | agg hl _ h1 ih =>
    simp only [AV.fin, finL_eq]
    refine .agg (by simpa using hl) (fun i a v ha hv' => ?_) h1
    simp only [List.getElem?_map, Option.map_eq_some_iff] at ha
    obtain ⟨q, hq, rfl⟩ := ha
    exact ih i q v hq hv'
  | tup hl _ ih =>
    simp only [AV.fin, finL_eq]
    refine .tup (by simpa using hl) (fun i a v ha hv' => ?_)
    simp only [List.getElem?_map, Option.map_eq_some_iff] at ha
    obtain ⟨q, hq, rfl⟩ := ha
    exact ih i q v hq hv'
  | ptr hm => simp only [AV.fin]; exact .ptr hm
  | cptr vs h1 h2 h3 => simp only [AV.fin]; exact .cptr vs h1 h2 h3
  | vec hm => simp only [AV.fin]; exact .vec hm
  | vptr h1 h2 => simp only [AV.fin]; exact .vptr h1 h2
  | cut h1 h2 h3 h4 => simp only [AV.fin]; exact .cut h1 h2 h3 h4
  | cut0 h1 h2 => simp only [AV.fin]; exact .cut0 h1 h2
  | slen => simp only [AV.fin]; exact .slen
  | fn hl h => simp only [AV.fin]; exact .fn hl h

/-! A function's results -/
def resA (P : Program) (st : St) : ResultVar → Option AV
  | .tmp t => some (st.look t)
  | .cell a t => loadA P st t (st.look a)
def resLA (P : Program) (st : St) : List ResultVar → Option (List AV)
  | [] => some []
  | r :: l => (resA P st r).bind fun x => (resLA P st l).map fun xs => x :: xs
def packA : List AV → AV
  | [x] => x
  | l => .tup l
def ioB (n : Nat) : Bool := decide (1000000 ≤ n)
def frzs (st : St) : List Nat → St
  | [] => st
  | n :: l => frzs (st.frz n) l
def boxesAre (st : St) : Nat → List (List AV) → Prop
  | _, [] => True
  | i, cs :: l => (∃ cs0, get st.box (InO i) = some cs0 ∧ AV.finL cs0 = cs ∧ AV.wfL ioB (fun _ => false) cs = true) ∧ boxesAre st (i + 1) l
def idxOf (σ : List Nat) (n : Nat) : Option Nat :=
  match σ with
  | [] => none
  | m :: l => if m = n then some 0 else (idxOf l n).map (· + 1)
theorem idxOf_some : ∀ {σ : List Nat} {n i : Nat}, idxOf σ n = some i → σ[i]? = some n
  | [], _, _, h => by simp [idxOf] at h
  | m :: l, n, i, h => by
    simp only [idxOf] at h
    split at h
    · cases h; subst_vars; rfl
    · cases hq : idxOf l n with
      | none => simp [hq] at h
      | some j => simp [hq] at h; subst h; simpa using idxOf_some hq
theorem idxOf_none : ∀ {σ : List Nat} {n : Nat}, idxOf σ n = none ↔ n ∉ σ
  | [], n => by simp [idxOf]
  | m :: l, n => by
    simp only [idxOf]
    by_cases h : m = n
    · simp [h]
    · rw [if_neg h, Option.map_eq_none_iff, idxOf_none]; simp [Ne.symm h]
theorem idxOf_nodup {σ : List Nat} (h : σ.Nodup) {n i : Nat} (hi : σ[i]? = some n) : idxOf σ n = some i := by
  cases hq : idxOf σ n with
  | none => exact absurd (List.mem_of_getElem? hi) (idxOf_none.1 hq)
  | some j =>
    have hj := idxOf_some hq
    have hil := (List.getElem?_eq_some_iff.1 hi).1
    rw [(List.getElem?_inj hil h).1 (hi.trans hj.symm)]
/- the owned rows τ of a result, by their numbers -/
mutual
def AV.outV (τ : List Nat) : AV → AV
  | .vec n => match idxOf τ n with | some i => .vec (InV i) | none => .undef
  | .vptr _ _ _ _ => .undef
  | .cut _ _ _ _ => .undef
  | .agg l => .agg (AV.outVL τ l)
  | .tup l => .tup (AV.outVL τ l)
  | .fn f l => .fn f (AV.outVL τ l)
  | x => x
def AV.outVL (τ : List Nat) : List AV → List AV
  | [] => []
  | x :: l => AV.outV τ x :: AV.outVL τ l
end
theorem outVL_eq (τ : List Nat) : ∀ l : List AV, AV.outVL τ l = l.map (AV.outV τ)
  | [] => rfl
  | x :: l => by simp [AV.outVL, outVL_eq τ l]
def boxesAreV (st : St) (τ : List Nat) : Nat → List (List AV) → Prop
  | _, [] => True
  | i, cs :: l => (∃ cs0, get st.box (InO i) = some cs0 ∧ AV.outVL τ (AV.finL cs0) = cs ∧ AV.wfL ioB (fun _ => true) cs = true) ∧ boxesAreV st τ (i + 1) l
def vecsAre (st : St) : List Nat → List VS → Prop
  | [], [] => True
  | n :: τ, s :: vx => get st.vec n = some s ∧ vecsAre st τ vx
  | _, _ => False
/-- what the body must have come to -/
def Fin (P : Program) (rs : List ResultVar) (res : AV) (bx' : List (List AV)) (st : St) : Prop :=
  ∃ ns, (resLA P (frzs st ns) rs).map (fun l => (packA l).fin) = some res ∧ res.wf ioB (fun _ => false) = true ∧ boxesAre (frzs st ns) 0 bx'
def FinV (P : Program) (rs : List ResultVar) (res : AV) (bx' : List (List AV)) (vx' : List VS) (st : St) : Prop :=
  ∃ ns τ, (resLA P (frzs st ns) rs).map (fun l => (packA l).fin.outV τ) = some res ∧ res.wf ioB (fun _ => true) = true ∧ boxesAreV (frzs st ns) τ 0 bx' ∧ vecsAre (frzs st ns) τ vx' ∧ τ.Nodup
def FinVQ (P : Program) (rs : List ResultVar) (res : AV) (bx' : List (List AV)) (vx' : List VS) : Exit → St → Prop
  | .normal, st => FinV P rs res bx' vx' st
  | .ret, st => FinV P rs res bx' vx' st
  | _, _ => False
def FinQ (P : Program) (rs : List ResultVar) (res : AV) (bx' : List (List AV)) : Exit → St → Prop
  | .normal, st => Fin P rs res bx' st
  | .ret, st => Fin P rs res bx' st
  | _, _ => False

def numbered {α : Type} : Nat → List α → List (Nat × α)
  | _, [] => []
  | i, x :: l => (i, x) :: numbered (i + 1) l
theorem get_numbered {α : Type} : ∀ (l : List α) (i t : Nat), get (numbered i l) t = if i ≤ t then l[t - i]? else none
  | [], i, t => by simp [numbered, get]
  | x :: l, i, t => by
    simp only [numbered, get, get_numbered l (i + 1) t]
    by_cases h1 : i = t
    · subst h1; simp
    · rw [if_neg h1]
      by_cases h2 : i ≤ t
      · rw [if_pos h2, if_pos (by omega), show t - i = (t - (i + 1)) + 1 by omega]; simp
      · rw [if_neg h2, if_neg (by omega)]
def enterSt (nt : Nat) (args : List AV) (bx : List (List AV)) : St := { nt := nt, env := numbered 0 args, box := numbered 1000000 bx, vec := [] }
def enterStV (nt : Nat) (args : List AV) (bx : List (List AV)) (vx : List VS) : St := { nt := nt, env := numbered 0 args, box := numbered 1000000 bx, vec := numbered 2000000 vx }

section
variable {P : Program} {K : Ctx} {st : St} {a : Act} {w : World} {p : Pl}
theorem Rel.frzs (ns : List Nat) : ∀ {st : St} {p : Pl}, Rel K st a w p → ∃ p', Rel K (frzs st ns) a w p' := by
  induction ns with
  | nil => exact fun R => ⟨_, R⟩
  | cons n l ih => intro st p R; obtain ⟨p', R', _⟩ := R.frz n; exact ih R'

def resM (tmps : Array Value) : ResultVar → Sem Value
  | .tmp t => pure (tmps.getD t undef)
  | .cell q t => do loadVar t (← asAddr (tmps.getD q undef))

theorem resA_sound (R : Rel K st a w p) {r : ResultVar} {x : AV} (hr : resA P st r = some x) : ∃ v, (resM a.tmps r).run P w = .ok v w ∧ RA w (okc K w p) p x v := by
  cases r with
  | tmp t => simp [resA] at hr; subst hr; exact ⟨_, rfl, R.opd (.tmp t)⟩
  | cell q t =>
    simp only [resA] at hr
    have hq := R.opd (.tmp q)
    simp only [Vl.opd, Act.eval] at hq
    generalize hu : a.tmps.getD q undef = u at hq
    generalize st.look q = y at hq hr
    obtain ⟨v, g1, g2⟩ := loadA_sound R hr hq
    have hptr : ∃ b, u = .pointer (some b) := by
      cases hq <;> first | exact ⟨_, rfl⟩ | (simp [loadA] at hr)
    obtain ⟨b, rfl⟩ := hptr
    refine ⟨v, ?_, g2⟩
    simp only [resM, hu]
    simpa [Instr.loadAt, Instr.sureAddr, asAddr] using g1

theorem resLA_sound (R : Rel K st a w p) : ∀ {rs : List ResultVar} {xs : List AV}, resLA P st rs = some xs →
    ∃ vs : List Value, (rs.mapM (resM a.tmps)).run P w = .ok vs w ∧ vs.length = xs.length ∧
      ∀ (i : Nat) (x : AV) (v : Value), xs[i]? = some x → vs[i]? = some v → RA w (okc K w p) p x v
  | [], xs, h => by simp [resLA] at h; subst h; exact ⟨[], by simp, rfl, fun i x v hx => by simp at hx⟩
  | r :: rs, xs, h => by
    simp only [resLA] at h
    cases hr : resA P st r with
    | none => simp [hr] at h
    | some x =>
      cases hl : resLA P st rs with
      | none => simp [hr, hl] at h
      | some xs' =>
        simp [hr, hl] at h; subst h
        obtain ⟨vs, h1, h2, h3⟩ := resLA_sound R hl
        obtain ⟨v, g1, g2⟩ := resA_sound R hr
        refine ⟨v :: vs, ?_, by simp [h2], fun i y u hy hu => ?_⟩
        · rw [List.mapM_cons]
          simp only [Sem.run_bind, g1, Result.andThen_ok, h1, Sem.run_pure]
        · cases i with
          | zero => simp at hy hu; subst hy; subst hu; exact g2
          | succ i => exact h3 i y u (by simpa using hy) (by simpa using hu)

theorem results_eq (fn : Func) (tmps : Array Value) : results fn tmps = (do let vs ← fn.results.mapM (resM tmps); pure (if h : vs.size = 1 then vs[0] else .tuple vs)) := by
  unfold results
  congr 1

theorem results_run (R : Rel K st a w p) {fn : Func} {xs : List AV} (h : resLA P st fn.results.toList = some xs) : ∃ v, (results fn a.tmps).run P w = .ok v w ∧ RA w (okc K w p) p (packA xs) v := by
  obtain ⟨vs, h1, h2, h3⟩ := resLA_sound R h
  refine ⟨if h : vs.toArray.size = 1 then vs.toArray[0] else .tuple vs.toArray, ?_, ?_⟩
  · rw [results_eq, Array.mapM_eq_mapM_toList]
    simp [h1]
  · match xs, vs, h2 with
    | [], [], _ => simp [packA]; exact .tup rfl (fun i a v ha => by simp at ha)
    | [x], [v], _ => simp [packA]; exact h3 0 x v rfl rfl
    | x :: y :: xs, v :: u :: vs, h2 =>
      simp only [packA]
      rw [dif_neg (by simp)]
      exact .tup (by simpa using h2) (fun i a v ha hv => h3 i a v ha (by simpa using hv))

theorem boxesAre_get : ∀ {bx : List (List AV)} {i0 : Nat}, boxesAre st i0 bx → ∀ {i : Nat} {cs : List AV}, bx[i]? = some cs → ∃ cs0, get st.box (InO (i0 + i)) = some cs0 ∧ AV.finL cs0 = cs ∧ AV.wfL ioB (fun _ => false) cs = true
  | [], _, _, i, cs, h => by simp at h
  | c :: bx, i0, hb, i, cs, h => by
    cases i with
    | zero => simp at h; subst h; exact hb.1
    | succ i => have := boxesAre_get hb.2 (i := i) (by simpa using h); rwa [show i0 + 1 + i = i0 + (i + 1) by omega] at this

theorem boxesAreV_get {τ : List Nat} : ∀ {bx : List (List AV)} {i0 : Nat}, boxesAreV st τ i0 bx → ∀ {i : Nat} {cs : List AV}, bx[i]? = some cs → ∃ cs0, get st.box (InO (i0 + i)) = some cs0 ∧ AV.outVL τ (AV.finL cs0) = cs ∧ AV.wfL ioB (fun _ => true) cs = true
  | [], _, _, i, cs, h => by simp at h
  | c :: bx, i0, hb, i, cs, h => by
    cases i with
    | zero => simp at h; subst h; exact hb.1
    | succ i => have := boxesAreV_get hb.2 (i := i) (by simpa using h); rwa [show i0 + 1 + i = i0 + (i + 1) by omega] at this
theorem vecsAre_get : ∀ {τ : List Nat} {vx : List VS}, vecsAre st τ vx → τ.length = vx.length ∧ ∀ {i n : Nat} {s : VS}, τ[i]? = some n → vx[i]? = some s → get st.vec n = some s
  | [], [], _ => ⟨rfl, fun h => by simp at h⟩
  | n :: τ, s :: vx, h => by
    obtain ⟨h1, h2⟩ := vecsAre_get h.2
    refine ⟨by simp [h1], fun {i m s'} hm hs => ?_⟩
    cases i with
    | zero => simp at hm hs; subst hm; subst hs; exact h.1
    | succ i => exact h2 (by simpa using hm) (by simpa using hs)
  | [], _ :: _, h => h.elim
  | _ :: _, [], h => h.elim

theorem RA.outv {ok ok' : Nat → Prop} {io : List Nat} {p : Pl} {τ : List Nat} (ho : ∀ b, ok b → ok' b) (hb : ∀ n, 1000000 ≤ n → p.lb n → (ioPl io (τ.map p.rw)).lb n ∧ (ioPl io (τ.map p.rw)).bx n = p.bx n) {x : AV} {v : Value} (h : RA w ok p x v) :
    (x.outV τ).wf ioB (fun _ => true) = true → RA w ok' (ioPl io (τ.map p.rw)) (x.outV τ) v := by
  induction h with
  | undef => intro _; simp only [AV.outV]; exact .undef
  | d h => intro _; simp only [AV.outV]; exact .d (h.mono (fun _ _ => rfl) ho)
  | nilS => intro _; simp only [AV.outV]; exact .nilS
  | full h => intro _; simp only [AV.outV]; exact .full (h.mono (fun _ _ => rfl) ho)
  | agg hl _ h1 ih =>
    intro hw
    simp only [AV.outV, outVL_eq, AV.wf] at hw ⊢
    refine .agg (by simpa using hl) (fun i a v ha hv' => ?_) h1
    have hwa := AV.wfL_get hw ha
    simp only [List.getElem?_map, Option.map_eq_some_iff] at ha
    obtain ⟨q, hq, rfl⟩ := ha
    exact ih i q v hq hv' hwa
  | tup hl _ ih =>
    intro hw
    simp only [AV.outV, outVL_eq, AV.wf] at hw ⊢
    refine .tup (by simpa using hl) (fun i a v ha hv' => ?_)
    have hwa := AV.wfL_get hw ha
    simp only [List.getElem?_map, Option.map_eq_some_iff] at ha
    obtain ⟨q, hq, rfl⟩ := ha
    exact ih i q v hq hv' hwa
  | ptr hn =>
    intro hw
    simp only [AV.outV, AV.wf, ioB, decide_eq_true_eq] at hw ⊢
    obtain ⟨h1, h2⟩ := hb _ hw hn
    rw [← h2]; exact .ptr h1
  | cptr vs hok hcell h => intro _; simp only [AV.outV]; exact .cptr vs (ho _ hok) hcell (fun j x hx => (h j x hx).mono (fun _ _ => rfl) ho)
  | vec hn =>
    rename_i n
    intro _
    simp only [AV.outV]
    cases hi : idxOf τ n with
    | none => exact .undef
    | some i =>
      have h1 := idxOf_some hi
      have h2 : (τ.map p.rw)[i]? = some (p.rw n) := by simp [h1]
      exact RA.vec_at (io_lv.2 (List.getElem?_eq_some_iff.1 h2).1) (io_rw h2)
  | vptr hn hv => intro _; simp only [AV.outV]; exact .undef
  | cut _ _ _ _ => intro _; simp only [AV.outV]; exact .undef
  | cut0 _ _ => intro _; simp only [AV.outV]; exact .undef
  | slen => intro _; simp only [AV.outV]; exact .slen
  | fn hl _ ih =>
    intro hw
    simp only [AV.outV, outVL_eq, AV.wf] at hw ⊢
    refine .fn (by simpa using hl) (fun i a v ha hv' => ?_)
    have hwa := AV.wfL_get hw ha
    simp only [List.getElem?_map, Option.map_eq_some_iff] at ha
    obtain ⟨q, hq, rfl⟩ := ha
    exact ih i q v hq hv' hwa

/-- A contract, from a triple over the body. -/
theorem fn_okvK {f : FuncId} {fn : Func} {c : Code} {nt : Nat} {rs : List ResultVar} {bx : List (List AV)} {vx : List VS} {args : List AV} {res : AV} {bx' : List (List AV)} {vx' : List VS} (hf : P.funcs[f]? = some fn) (hb : fn.body = some c) (hnt : fn.ntmps = nt) (hrs : fn.results.toList = rs)
    (hna : args.length ≤ nt) (hn6 : nt ≤ 1000000) (hlb : bx.length = bx'.length) (h : ∀ K : Ctx, K.ios.length = bx.length → Tr P K c (enterStV nt args bx vx) (FinVQ P rs res bx' vx')) : FnOKv P f bx vx args res bx' vx' := by
  intro w ok io iv vs hpre hvs hargs
  let K : Ctx := ⟨w, ok, io, iv.filterMap Value.blk⟩
  have hivs : ∀ b, b ∈ K.ivs ↔ ∃ v ∈ iv, v.blk = some b := fun b => List.mem_filterMap
  refine calls_of_wp hf hb ?_
  have hokc : ∀ b, ok b → okc K w (ioPl io iv) b := fun b hb' => ⟨(hpre.okb b hb').1, .inl hb', fun n hn e => by
    obtain ⟨h1, h2⟩ := hn
    have : (ioPl io iv).bx n ∈ io := by simp [ioPl, List.getElem?_eq_getElem h2]
    exact (hpre.okb b hb').2.1 (e ▸ this), fun n hn => by
    obtain ⟨h1, h2⟩ := hn
    have : (ioPl io iv).rw n ∈ iv := by simp [ioPl, List.getElem?_eq_getElem h2]
    exact (hpre.okb b hb').2.2 _ this⟩
  have hra : ∀ {x : AV} {v : Value}, RA w ok (ioPl io iv) x v → RA w (okc K w (ioPl io iv)) (ioPl io iv) x v := fun h => h.mono (fun _ _ => rfl) hokc (fun _ h => ⟨h, rfl⟩) (fun _ h => ⟨h, rfl⟩)
  have hgn : ∀ {α : Type} (base : Nat) (l : List α) (n : Nat) (x : α), get (numbered base l) n = some x → base ≤ n ∧ l[n - base]? = some x := fun base l n x hg => by
    rw [get_numbered] at hg
    split at hg
    · exact ⟨‹_›, hg⟩
    · cases hg
  have R : Rel K (enterStV nt args bx vx) { tmps := vs ++ Array.replicate (fn.ntmps - vs.size) undef, defers := [] } w (ioPl io iv) := {
    lb := by
      funext n
      simp only [ioPl, St.lb, enterStV, get_numbered, eq_iff_iff, hpre.len]
      by_cases h : 1000000 ≤ n
      · simp [h]
      · simp [h]
    lv := by
      funext n
      simp only [ioPl, St.lv, enterStV, get_numbered, eq_iff_iff, hpre.lenv]
      by_cases h : 2000000 ≤ n
      · simp [h]
      · simp [h]
    dfr := rfl
    nt := by simp [enterStV, hnt, hvs]; omega
    ntl := hn6
    ion := fun i hi => by have := io_lb.1 hi; rw [io_bx (List.getElem?_eq_getElem this)]; exact List.getElem?_eq_getElem this
    size := Nat.le_refl _
    os := rfl
    tape := rfl
    output := rfl
    old := fun _ _ _ => rfl
    env := fun t x hx => by
      simp only [enterStV, get_numbered, Nat.zero_le, if_true, Nat.sub_zero] at hx
      have ht : t < vs.size := by have := (List.getElem?_eq_some_iff.1 hx).1; omega
      have : (vs ++ Array.replicate (fn.ntmps - vs.size) undef).getD t undef = vs[t] := by simp [Array.getElem?_append, ht]
      rw [this]
      exact hra (hargs t x _ hx (by simp [ht]))
    box := fun n cs hn => by
      obtain ⟨h1, h2⟩ := hgn _ _ n cs hn
      have hi : n - 1000000 < io.length := by rw [hpre.len]; exact (List.getElem?_eq_some_iff.1 h2).1
      obtain ⟨⟨us, ty, g1, g2, g3, g4⟩⟩ := hpre.at_ (n - 1000000) io[n - 1000000] cs (List.getElem?_eq_getElem hi) h2
      have hbx : (ioPl io iv).bx n = io[n - 1000000] := by simp [ioPl, List.getElem?_eq_getElem hi]
      exact ⟨⟨us, ty, by rw [hbx]; exact g1, g2, fun i c v hc hv => hra (g3 i c v hc hv), g4⟩, .inr (.inl (by rw [hbx]; exact List.getElem_mem hi))⟩
    vec := fun n s hn => by
      obtain ⟨h1, h2⟩ := hgn _ _ n s hn
      have hi : n - 2000000 < iv.length := by rw [hpre.lenv]; exact (List.getElem?_eq_some_iff.1 h2).1
      obtain ⟨g1, g3⟩ := hpre.vat (n - 2000000) iv[n - 2000000] s (List.getElem?_eq_getElem hi) h2
      have hrw : (ioPl io iv).rw n = iv[n - 2000000] := by simp [ioPl, List.getElem?_eq_getElem hi]
      exact ⟨by rw [hrw]; exact g1.mono (fun _ _ => rfl) hokc (fun _ _ => rfl), g3, fun g hg => .inr ((hivs g).2 ⟨_, List.getElem_mem hi, by rw [← hrw]; exact hg⟩)⟩
    dbb := fun n m hn hm hne e => by
      have hn' : 1000000 ≤ n ∧ n - 1000000 < io.length := hn
      have hm' : 1000000 ≤ m ∧ m - 1000000 < io.length := hm
      clear hn hm
      obtain ⟨n1, n2⟩ := hn'
      obtain ⟨m1, m2⟩ := hm'
      have e2 : ((io[n - 1000000]?).getD 0) = ((io[m - 1000000]?).getD 0) := e
      rw [List.getElem?_eq_getElem n2, List.getElem?_eq_getElem m2] at e2
      have := (List.getElem_inj hpre.nodup).1 e2
      omega
    dbv := fun n m hn hm => by
      have hn' : 1000000 ≤ n ∧ n - 1000000 < io.length := hn
      have hm' : 2000000 ≤ m ∧ m - 2000000 < iv.length := hm
      have e1 : (ioPl io iv).bx n ∈ io := by simp [ioPl, List.getElem?_eq_getElem hn'.2]
      have e2 : (ioPl io iv).rw m ∈ iv := by simp [ioPl, List.getElem?_eq_getElem hm'.2]
      exact hpre.vio _ e2 _ e1
    dvv := fun n m hn hm hne => by
      have hn' : 2000000 ≤ n ∧ n - 2000000 < iv.length := hn
      have hm' : 2000000 ≤ m ∧ m - 2000000 < iv.length := hm
      clear hn hm
      obtain ⟨n1, n2⟩ := hn'
      obtain ⟨m1, m2⟩ := hm'
      obtain ⟨v1, hv1⟩ : ∃ v, iv[n - 2000000]? = some v := ⟨_, List.getElem?_eq_getElem n2⟩
      obtain ⟨v2, hv2⟩ : ∃ v, iv[m - 2000000]? = some v := ⟨_, List.getElem?_eq_getElem m2⟩
      have hq : n - 2000000 ≠ m - 2000000 := by omega
      have e1 : (ioPl io iv).rw n = v1 := by show (iv[n - 2000000]?).getD undef = _; rw [hv1]; rfl
      have e2 : (ioPl io iv).rw m = v2 := by show (iv[m - 2000000]?).getD undef = _; rw [hv2]; rfl
      rw [e1, e2]
      exact hpre.vdis _ _ _ _ hv1 hv2 hq }
  refine wp_mono (h K hpre.len _ w _ R) fun e a' w' ⟨s, p', R', q⟩ => ?_
  have key : FinV P rs res bx' vx' s → a'.defers = [] ∧ ∃ v, (results fn a'.tmps).run P w' = .ok v w' ∧ (∃ u iv', Ending.returned v = .returned u ∧ RA w' (okn ok iv iv' w w') (ioPl io iv') res u ∧ FnPre w' (okn ok iv iv' w w') io iv' bx' vx' ∧ (∀ u ∈ iv', ∀ g, u.blk = some g → w.heap.size ≤ g ∨ ∃ v ∈ iv, v.blk = some g) ∧ Frm io iv w w') := by
    rintro ⟨ns, τ, hres, hwf, hbox, hvec, hnd⟩
    obtain ⟨p2, R2⟩ := R'.frzs ns
    obtain ⟨hvl, hvg⟩ := vecsAre_get hvec
    have hτl : ∀ n ∈ τ, p2.lv n := fun n hn => by
      obtain ⟨i, hi, rfl⟩ := List.getElem_of_mem hn
      exact (R2.lvi _).2 (by simp [St.lv, hvg (List.getElem?_eq_getElem hi) (List.getElem?_eq_getElem (by omega))])
    cases hrl : resLA P (frzs s ns) rs with
    | none => rw [hrl] at hres; cases hres
    | some xs =>
      rw [hrl] at hres
      simp only [Option.map_some, Option.some.injEq] at hres
      rw [← hrs] at hrl
      obtain ⟨v, g1, g2⟩ := results_run R2 hrl
      have hok2 : ∀ b, okc K w' p2 b → okn ok iv (τ.map p2.rw) w w' b := fun b hb' => ⟨by
        rcases hb'.2.1 with h1 | h1 | h1
        · exact .inl h1
        · exact .inr (.inl h1)
        · exact .inr (.inr ((hivs b).1 h1)), hb'.1, fun u hu e => by
        obtain ⟨n, hn, rfl⟩ := List.mem_map.1 hu
        exact hb'.2.2.2 n (hτl n hn) e⟩
      have hbl : ∀ n, 1000000 ≤ n → p2.lb n → (ioPl io (τ.map p2.rw)).lb n ∧ (ioPl io (τ.map p2.rw)).bx n = p2.bx n := fun n hn hl => by
        obtain ⟨i, rfl⟩ : ∃ i, n = InO i := ⟨n - 1000000, by unfold InO; omega⟩
        have h7 : io[i]? = some (p2.bx (InO i)) := R2.ion i hl
        exact ⟨io_lb.2 (List.getElem?_eq_some_iff.1 h7).1, io_bx h7⟩
      have hexit : ∀ {x : AV} {u : Value}, RA w' (okc K w' p2) p2 x u → (x.outV τ).wf ioB (fun _ => true) = true → RA w' (okn ok iv (τ.map p2.rw) w w') (ioPl io (τ.map p2.rw)) (x.outV τ) u := fun hx hw => hx.outv hok2 hbl hw
      have hpb : ∀ i b, io[i]? = some b → ∃ cs0 cs, get (frzs s ns).box (InO i) = some cs0 ∧ bx'[i]? = some cs ∧ AV.outVL τ (AV.finL cs0) = cs ∧ AV.wfL ioB (fun _ => true) cs = true ∧ p2.bx (InO i) = b := fun i b hi => by
        have hil : i < bx'.length := by rw [← hlb, ← hpre.len]; exact (List.getElem?_eq_some_iff.1 hi).1
        obtain ⟨cs0, k1, k2, k3⟩ := boxesAreV_get hbox (List.getElem?_eq_getElem hil)
        rw [Nat.zero_add] at k1
        have := R2.ion i ((R2.lbi _).2 (by simp [St.lb, k1]))
        rw [show K.ios[i]? = some b from hi] at this
        injection this with this
        exact ⟨cs0, _, k1, List.getElem?_eq_getElem hil, k2, k3, this.symm⟩
      refine ⟨R2.dfr, v, g1, v, τ.map p2.rw, rfl, by rw [← hres]; exact hexit g2.fin (by rw [hres]; exact hwf), ⟨hpre.len.trans hlb, hpre.nodup, fun b hb' => ⟨hb'.2.1, fun hm => ?_, hb'.2.2⟩, fun i b cs hi hc => ?_, by simp [hvl], fun i v s hv hs => ?_, fun i j v u hv hu hij => ?_, fun v hv b hb' => ?_⟩, fun u hu g hg => ?_, ⟨R2.size, R2.os, R2.tape, R2.output, fun b h1 h2 h3 => R2.old b h1 (fun h => h.elim h2 (fun h => by obtain ⟨v, hv, he⟩ := (hivs b).1 h; exact h3 v hv he))⟩⟩
      · obtain ⟨i, hi⟩ := List.mem_iff_getElem?.1 hm
        rcases hb'.1 with h1 | h1 | ⟨u, h1, h2⟩
        · exact (hpre.okb b h1).2.1 hm
        · have hil := (List.getElem?_eq_some_iff.1 hi).1
          obtain ⟨⟨us, ty, g1, _⟩⟩ := hpre.at_ i b _ hi (List.getElem?_eq_getElem (by rw [← hpre.len]; exact hil))
          have := (Array.getElem?_eq_some_iff.1 g1).1
          omega
        · exact hpre.vio u h1 b hm h2
      · obtain ⟨cs0, cs1, k1, k2, k3, k4, k5⟩ := hpb i b hi
        rw [hc] at k2; cases k2
        obtain ⟨⟨us, ty, g1, g2, g3, g4⟩, _⟩ := R2.box (InO i) cs0 k1
        refine ⟨⟨us, ty, by rw [← k5]; exact g1, by rw [g2, ← k3, outVL_eq, finL_eq]; simp, fun j c v hc' hv => ?_, g4⟩⟩
        have hw := AV.wfL_get k4 hc'
        rw [← k3, outVL_eq, finL_eq] at hc'
        simp only [List.getElem?_map, Option.map_eq_some_iff] at hc'
        obtain ⟨q', ⟨q, hq, rfl⟩, rfl⟩ := hc'
        exact hexit (g3 j q v hq hv).fin hw
      · rw [List.getElem?_map] at hv
        cases hn : τ[i]? with
        | none => rw [hn] at hv; cases hv
        | some n =>
          rw [hn] at hv; cases hv
          obtain ⟨a1, a3, _⟩ := R2.vec n s (hvg hn hs)
          exact ⟨a1.mono (fun _ _ => rfl) hok2 (fun _ _ => rfl), a3⟩
      · rw [List.getElem?_map] at hv hu
        cases hn : τ[i]? with
        | none => rw [hn] at hv; cases hv
        | some n =>
          cases hm : τ[j]? with
          | none => rw [hm] at hu; cases hu
          | some m =>
            rw [hn] at hv; rw [hm] at hu; cases hv; cases hu
            refine R2.dvv n m (hτl n (List.mem_of_getElem? hn)) (hτl m (List.mem_of_getElem? hm)) (fun e => hij ?_)
            subst e
            exact (List.getElem?_inj (List.getElem?_eq_some_iff.1 hn).1 hnd).1 (hn.trans hm.symm)
      · obtain ⟨n, hn, rfl⟩ := List.mem_map.1 hv
        obtain ⟨i, hi⟩ := List.mem_iff_getElem?.1 hb'
        obtain ⟨cs0, cs1, k1, _, _, _, k5⟩ := hpb i b hi
        rw [← k5]
        exact R2.dbv _ n ((R2.lbi _).2 (by simp [St.lb, k1])) (hτl n hn)
      · obtain ⟨n, hn, rfl⟩ := List.mem_map.1 hu
        rcases (R2.vlt (hτl n hn) hg).1 with h1 | h1
        · exact .inl h1
        · exact .inr ((hivs g).1 h1)
  cases e with
  | normal => exact key q
  | ret => exact key q
  | _ => exact q.elim

theorem fn_okv {f : FuncId} {fn : Func} {c : Code} {nt : Nat} {rs : List ResultVar} {bx : List (List AV)} {vx : List VS} {args : List AV} {res : AV} {bx' : List (List AV)} {vx' : List VS} (hf : P.funcs[f]? = some fn) (hb : fn.body = some c) (hnt : fn.ntmps = nt) (hrs : fn.results.toList = rs)
    (hna : args.length ≤ nt) (hn6 : nt ≤ 1000000) (hlb : bx.length = bx'.length) (h : ∀ K : Ctx, Tr P K c (enterStV nt args bx vx) (FinVQ P rs res bx' vx')) : FnOKv P f bx vx args res bx' vx' :=
  fn_okvK hf hb hnt hrs hna hn6 hlb fun K _ => h K

theorem outV_id (τ : List Nat) (x : AV) : x.wf ioB (fun _ => false) = true → x.outV τ = x := by
  refine AV.rec (motive_1 := fun x => x.wf ioB (fun _ => false) = true → x.outV τ = x) (motive_2 := fun l => AV.wfL ioB (fun _ => false) l = true → AV.outVL τ l = l) ?_ ?_ ?_ ?_ ?_ ?_ ?_ ?_ ?_ ?_ ?_ ?_ ?_ ?_ ?_ x
  all_goals intros
  all_goals simp_all [AV.wf, AV.wfL, AV.outV, AV.outVL]
theorem wf_more (x : AV) : x.wf ioB (fun _ => false) = true → x.wf ioB (fun _ => true) = true := by
  refine AV.rec (motive_1 := fun x => x.wf ioB (fun _ => false) = true → x.wf ioB (fun _ => true) = true) (motive_2 := fun l => AV.wfL ioB (fun _ => false) l = true → AV.wfL ioB (fun _ => true) l = true) ?_ ?_ ?_ ?_ ?_ ?_ ?_ ?_ ?_ ?_ ?_ ?_ ?_ ?_ ?_ x
  all_goals intros
  all_goals simp_all [AV.wf, AV.wfL]
theorem fin_v {rs : List ResultVar} {res : AV} {bx' : List (List AV)} {s : St} (h : Fin P rs res bx' s) : FinV P rs res bx' [] s := by
  obtain ⟨ns, h1, h2, h3⟩ := h
  refine ⟨ns, [], ?_, wf_more _ h2, ?_, trivial, List.nodup_nil⟩
  · cases hr : resLA P (frzs s ns) rs with
    | none => rw [hr] at h1; cases h1
    | some xs =>
      rw [hr] at h1
      simp only [Option.map_some, Option.some.injEq] at h1 ⊢
      rw [h1, outV_id _ _ h2]
  · have key : ∀ (bx : List (List AV)) (i : Nat), boxesAre (frzs s ns) i bx → boxesAreV (frzs s ns) [] i bx := fun bx => by
      induction bx with
      | nil => intro i _; trivial
      | cons cs bx ih =>
        intro i hb
        obtain ⟨⟨cs0, k1, k2, k3⟩, k4⟩ := hb
        have hw := wf_more (.agg cs) (by simpa only [AV.wf] using k3)
        refine ⟨⟨cs0, k1, ?_, by simpa only [AV.wf] using hw⟩, ih _ k4⟩
        have := outV_id [] (.agg cs) (by simpa only [AV.wf] using k3)
        simp only [AV.outV, AV.agg.injEq] at this
        rw [k2, this]
    exact key bx' 0 h3
theorem fn_ok {f : FuncId} {fn : Func} {c : Code} {nt : Nat} {rs : List ResultVar} {bx : List (List AV)} {args : List AV} {res : AV} {bx' : List (List AV)} (hf : P.funcs[f]? = some fn) (hb : fn.body = some c) (hnt : fn.ntmps = nt) (hrs : fn.results.toList = rs)
    (hna : args.length ≤ nt) (hn6 : nt ≤ 1000000) (hlb : bx.length = bx'.length) (h : ∀ K : Ctx, Tr P K c (enterSt nt args bx) (FinQ P rs res bx')) : FnOK P f bx args res bx' :=
  fn_okv hf hb hnt hrs hna hn6 hlb fun K a w p R => wp_mono (h K a w p R) fun e a' w' ⟨s, p', R', q⟩ => ⟨s, p', R', by
    cases e with
    | normal => exact fin_v q
    | ret => exact fin_v q
    | _ => exact q.elim⟩
end
end Go.Vl
