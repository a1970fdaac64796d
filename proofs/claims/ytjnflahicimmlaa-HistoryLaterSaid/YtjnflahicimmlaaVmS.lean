/- The value logic: a region that draws its order, taken in the order of the text: each operation is shown to hang only on those that must come before it. Conditions: none. -/
import Derived.Test.YtjnflahicimmlaaVmR
set_option linter.unusedSimpArgs false
set_option linter.unusedVariables false
namespace Go.Vl
open Go Go.RowKit

structure Eff where
  d : Option Nat
  v : AV
  al : Option (List AV)
  bs : List (Nat × List AV)
  nv : Option VS
  rm : Option Nat
instance : Inhabited Eff := ⟨⟨none, .undef, none, [], none, none⟩⟩

def envE (e : Eff) (l : List (Nat × AV)) : List (Nat × AV) := match e.d with | some d => (d, e.v) :: l | none => l
def alE (e : Eff) (l : List (Nat × List AV)) : List (Nat × List AV) := match e.al, e.d with | some cs, some d => (d, cs) :: l | _, _ => l
def nvE (e : Eff) (l : List (Nat × VS)) : List (Nat × VS) := match e.nv, e.d with | some s, some d => (d, s) :: l | _, _ => l
def scrO (g : Option Nat) (x : AV) : AV := match g with | some n => x.scrub n | none => x
def delO (g : Option Nat) (l : List (Nat × VS)) : List (Nat × VS) := match g with | some n => del l n | none => l
def Eff.on (e : Eff) (st : St) : St := { nt := st.nt, env := envE e (mapv (scrO e.rm) st.env), box := alE e (e.bs ++ st.box), vec := nvE e (delO e.rm st.vec) }
def delW : List Nat → List (Nat × List AV) → List (Nat × List AV)
  | [], l => l
  | n :: W, l => delW W (del l n)
/-- operation i stands in an order with all that turn boxes -/
def cmpB (As : List (List Nat)) (C : List Nat) (i : Nat) : Bool := C.all fun c => c == i || (As.getD i []).contains c || (As.getD c []).contains i
def befA (As : List (List Nat)) (C : List Nat) (i : Nat) : List Nat := (C.filter fun c => (As.getD i []).contains c).reverse
/-- operation i is ahead of the one that takes a row away, or it is that one -/
def befV (As : List (List Nat)) (V : Option (Nat × Nat)) (i : Nat) : Bool := match V with | some (c, _) => c == i || (As.getD c []).contains i | none => true
def atE (es : List Eff) (i : Nat) : Eff := es.getD i default
def chE (es : List Eff) : List Nat → List (Nat × List AV) → List (Nat × List AV)
  | [], b => b
  | c :: L, b => (atE es c).bs ++ chE es L b
def envL (es : List Eff) : List Nat → List (Nat × AV) → List (Nat × AV)
  | [], b => b
  | j :: A, b => envE (atE es j) (envL es A b)
def alL (es : List Eff) : List Nat → List (Nat × List AV) → List (Nat × List AV)
  | [], b => b
  | j :: A, b => alE (atE es j) (alL es A b)
def nvL (es : List Eff) : List Nat → List (Nat × VS) → List (Nat × VS)
  | [], b => b
  | j :: A, b => nvE (atE es j) (nvL es A b)
/-- the boxes that are turned, of which operation i does not know when -/
def hidW (As : List (List Nat)) (i : Nat) : List (Nat × List Nat) → List Nat
  | [] => []
  | q :: W => if cmpB As q.2 i = true then hidW As i W else q.1 :: hidW As i W
/-- the state that operation i sees -/
def locSt (As : List (List Nat)) (C : List Nat) (W : List (Nat × List Nat)) (V : Option (Nat × Nat)) (st0 : St) (es : List Eff) (i : Nat) : St :=
  { nt := st0.nt, env := envL es (As.getD i []) st0.env, box := alL es (As.getD i []) (delW (hidW As i W) (chE es (befA As C i) st0.box)),
    vec := nvL es (As.getD i []) (delO (if befV As V i = true then none else V.map (·.2)) st0.vec) }

/-- what one operation yields and turns, seen from S -/
inductive Loc (P : Program) (ops : Array Oper) (st0 S : St) (o : Oper) : Eff → Prop
  | val {x : AV} (hg : gdA ops S o = some true) (h : vstep P S o = some x) (hd : ∀ d, o.dst = some d → d < st0.nt) : Loc P ops st0 S o ⟨o.dst, x, none, [], none, none⟩
  | skip (hg : gdA ops S o = some false) (hd : ∀ d, o.dst = some d → d < st0.nt) : Loc P ops st0 S o ⟨o.dst, .tup [], none, [], none, none⟩
  | alloc {t : TypeId} {cs : List AV} {d : Nat} (hg : gdA ops S o = some true) (ho : o.op = .alloc t) (hz : zerOf P t = some cs) (hd : o.dst = some d) (hn : get st0.box d = none) (hdn : d < st0.nt) : Loc P ops st0 S o ⟨some d, .ptr d 0, some cs, [], none, none⟩
  | box {t : TypeId} {x : Operand} {cs : List AV} {d : Nat} (hg : gdA ops S o = some true) (ho : o.op = .box t x) (hz : cellsA (opd S x) = some cs) (hd : o.dst = some d) (hn : get st0.box d = none) (hdn : d < st0.nt) : Loc P ops st0 S o ⟨some d, .ptr d 0, some cs, [], none, none⟩
  | data {t : TypeId} {n d : Nat} {parts : Array (Nat × Operand)} {s : VS} (hg : gdA ops S o = some true) (ho : o.op = .buildSlice t n parts) (hd : o.dst = some d) (hv : get st0.vec d = none)
      (h : buildSA P S d t n (parts.toList.map fun x => (x.1, opd S x.2)) = some (St.put { S with vec := (d, s) :: S.vec } d (.vec d))) : Loc P ops st0 S o ⟨some d, .d (.slice s.rows), none, [], none, none⟩
  | app {t t' : TypeId} {x y : Operand} {d : Nat} {s : VS} {c : Call} (hg : gdA ops S o = some true) (ho : o.op = .call c) (hc : c.callee = .builtin .append) (ha : c.args.toList = [x, y]) (ht : c.argTypes.toList = [t, t']) (hd : o.dst = some d) (hx : opd S x = .nilS) (hv : get st0.vec d = none)
      (h : appA P S d t t' (opd S x) (opd S y) = some (St.put { S with vec := (d, s) :: S.vec } d (.vec d))) : Loc P ops st0 S o ⟨some d, .vec d, none, [], some s, none⟩
  | call {f : FuncId} {bx : List (List AV)} {cargs : List AV} {res : AV} {bx' : List (List AV)} {c : Call} {y : Operand} {d : Nat} (σ : List Nat) (F : FnOK P f bx cargs res bx') (hg : gdA ops S o = some true) (ho : o.op = .call c) (hc : c.callee = .value y) (hd : o.dst = some d)
      (hcall : ∀ (args : Array Value) (w : World), (callFunc f args).run P w = .ok (.enter f args) w) (hdn : d < st0.nt) (hσ : σ.Nodup) (hargs : ∃ caps, opd S y = .fn f caps ∧ (c.args.toList.map (opd S) ++ caps).map (AV.view [] [] σ) = cargs) (hbx : boxesIn S [] σ σ bx) (hl : bx.length = bx'.length) :
      Loc P ops st0 S o ⟨some d, res.back [] σ, none, boxesOut [] σ σ bx' [], none, none⟩
  | store {t : TypeId} {x y : Operand} {l cs : List AV} {m k : Nat} (hg : gdA ops S o = some true) (ho : o.op = .store t x y) (hd : o.dst = none) (hx : opd S x = .ptr m k) (hl : cellsA (opd S y) = some l) (hz : szOf P t = some l.length) (hb : get S.box m = some cs)
      (hle : k + l.length ≤ cs.length) : Loc P ops st0 S o ⟨none, .undef, none, [(m, setA cs l k)], none, none⟩
  | allocW {t : TypeId} {cs : List AV} {d : Nat} (hg : gdA ops S o = some true) (ho : o.op = .alloc t) (hz : zerOf P t = some cs) (hd : o.dst = some d) (hn : get S.box d = none) (hdn : d < st0.nt) : Loc P ops st0 S o ⟨some d, .ptr d 0, none, [(d, cs)], none, none⟩
  | boxW {t : TypeId} {x : Operand} {cs : List AV} {d : Nat} (hg : gdA ops S o = some true) (ho : o.op = .box t x) (hz : cellsA (opd S x) = some cs) (hd : o.dst = some d) (hn : get S.box d = none) (hdn : d < st0.nt) : Loc P ops st0 S o ⟨some d, .ptr d 0, none, [(d, cs)], none, none⟩
  | appv {t t' : TypeId} {x y : Operand} {d m : Nat} {s s' : VS} {bs : List (Nat × List AV)} {c : Call} (hg : gdA ops S o = some true) (ho : o.op = .call c) (hc : c.callee = .builtin .append) (ha : c.args.toList = [x, y]) (ht : c.argTypes.toList = [t, t']) (hd : o.dst = some d) (hx : opd S x = .vec m)
      (hs : get S.vec m = some s) (hv : get st0.vec d = none)
      (h : appA P S d t t' (opd S x) (opd S y) = some (St.put { nt := S.nt, env := mapv (AV.scrub m) S.env, box := mapv (List.map (AV.scrub m)) S.box, vec := (d, s') :: del S.vec m } d (.vec d))) : Loc P ops st0 S o ⟨some d, .vec d, none, bs, some s', some m⟩

section
variable {P : Program} {K : Ctx P} {ops : Array Oper} {st0 st S : St} {o : Oper} {e : Eff}

theorem boxesIn_mono {τ σ0 : List Nat} (hb : ∀ n cs, get S.box n = some cs → get st.box n = some cs) : ∀ {σ : List Nat} {bx : List (List AV)}, boxesIn S τ σ0 σ bx → boxesIn st τ σ0 σ bx
  | [], [], _ => trivial
  | n :: σ, cs :: bx, ⟨⟨cs0, h1, h2⟩, h3⟩ => ⟨⟨cs0, hb n cs0 h1, h2⟩, boxesIn_mono hb h3⟩
  | [], _ :: _, h => h.elim
  | _ :: _, [], h => h.elim

theorem get_app' {α : Type} : ∀ (l m : List (Nat × α)) (t : Nat), get (l ++ m) t = match get l t with | some x => some x | none => get m t
  | [], _, _ => rfl
  | (k, v) :: l, m, t => by
    simp only [List.cons_append, get]
    split
    · rfl
    · exact get_app' l m t
theorem OpR.eqv {st1 st2 : St} (h : OpR P K ops o st st1) (E : Eqv st1 st2) : OpR P K ops o st st2 := fun next Q a w p R H => h next Q a w p R fun a' w' p' R' => H a' w' p' (R'.eqv E)
theorem scrub_id {n : Nat} {x : AV} (h : x.wf (fun _ => true) (fun m => m != n) = true) : x.scrub n = x := by unfold AV.scrub; rw [if_pos h]
theorem scrubL_id {n : Nat} {cs : List AV} (h : AV.wfL (fun _ => true) (fun m => m != n) cs = true) : cs.map (AV.scrub n) = cs := by
  refine List.ext_getElem? fun i => ?_
  rw [List.getElem?_map]
  cases hc : cs[i]? with
  | none => rfl
  | some c => simp [scrub_id (AV.wfL_get h hc)]
theorem mapv_none : ∀ l : List (Nat × AV), mapv (scrO none) l = l
  | [] => rfl
  | (k, x) :: l => by simp only [mapv, mapv_none l]; rfl
theorem Loc.run (h : Loc P ops st0 S o e) (A : Agr ops o S st) (hnt : st.nt = st0.nt) (hvec : ∀ d, o.dst = some d → get st0.vec d = none → get st.vec d = none ∧ get S.vec d = none) (hal : ∀ d cs, e.al = some cs → e.d = some d → get st.box d = none)
    (hbs0 : ∀ n, e.rm = some n → ∀ m cs, get st.box m = some cs → get e.bs m = some (cs.map (AV.scrub n)) ∨ (get e.bs m = none ∧ cs.map (AV.scrub n) = cs)) (hbn0 : ∀ n, e.rm = some n → ∀ m, get st.box m = none → get e.bs m = none) (hsee : ∀ d cs, (d, cs) ∈ e.bs → get S.box d = none → get st.box d = none) : OpR P K ops o st (e.on st) := by
  cases h with
  | val hg h hd =>
    have := opr_val (K := K) (by rw [A.gd]; exact hg) (A.vstep h) (fun d h1 => by rw [hnt]; exact hd d h1)
    cases hq : o.dst with
    | none => simpa [Eff.on, mapv_none, delO, envE, alE, nvE, hq] using this
    | some d => simpa [Eff.on, mapv_none, delO, envE, alE, nvE, hq, St.put] using this
  | skip hg hd =>
    have := opr_skip (P := P) (K := K) (st := st) (by rw [A.gd]; exact hg) (fun d h1 => by rw [hnt]; exact hd d h1)
    cases hq : o.dst with
    | none => simpa [Eff.on, mapv_none, delO, envE, alE, nvE, hq] using this
    | some d => simpa [Eff.on, mapv_none, delO, envE, alE, nvE, hq, St.put] using this
  | alloc hg ho hz hd hn hdn =>
    rename_i t cs d
    refine opr_step (by rw [A.gd]; exact hg) ?_
    simp [step, ho, hd, hz, allocA, hal d cs rfl rfl, hnt, hdn, Eff.on, mapv_none, delO, envE, alE, nvE, St.put]
  | box hg ho hz hd hn hdn =>
    rename_i t x cs d
    refine opr_step (by rw [A.gd]; exact hg) ?_
    rw [← A.opd (x := x) (by simp [ho, Op.operands])] at hz
    simp [step, ho, hd, hz, allocA, hal d cs rfl rfl, hnt, hdn, Eff.on, mapv_none, delO, envE, alE, nvE, St.put]
  | data hg ho hd hv h =>
    rename_i t n d parts s
    have e1 : (parts.toList.map fun x => (x.1, opd st x.2)) = parts.toList.map fun x => (x.1, opd S x.2) := List.map_congr_left fun q hq => by
      rw [A.opd (x := q.2) (by simp only [ho, Op.operands]; exact List.mem_map.2 ⟨q, hq, rfl⟩)]
    have hvs : get st.vec d = none := (hvec d hd hv).1
    have hvS : get S.vec d = none := (hvec d hd hv).2
    have h2 : buildSA P st d t n (parts.toList.map fun x => (x.1, opd st x.2)) = some (St.put { st with vec := (d, s) :: st.vec } d (.vec d)) := by
      rw [e1]
      unfold buildSA at h ⊢
      split at h
      case h_2 => cases h
      rename_i e0 he
      cases hz : zerOf P e0 with
      | none => simp [hz] at h
      | some zs =>
        simp only [hz, Option.bind_some] at h ⊢
        split at h
        case isFalse => cases h
        rename_i hc
        rw [if_pos ⟨hc.1, hc.2.1, by rw [A.nt]; exact hc.2.2⟩]
        cases hr : fillA (fun i => some (i * zs.length, zs.length)) (List.replicate (n * zs.length) .undef) (parts.toList.map fun x => (x.1, opd S x.2)) with
        | none => simp [hr] at h
        | some r =>
          simp only [hr, Option.bind_some] at h ⊢
          cases hd2 : toDs r with
          | none => simp [hd2] at h
          | some ds =>
            simp only [hd2, Option.bind_some, hvs] at h ⊢
            simp only [hvS, Option.some.injEq, St.put, St.mk.injEq, List.cons.injEq, Prod.mk.injEq, true_and, and_true] at h ⊢
            exact h
    simpa [Eff.on, mapv_none, delO, envE, alE, nvE, St.put] using opr_data (K := K) (by rw [A.gd]; exact hg) ho hd h2 hvs
  | app hg ho hc ha ht hd hx hv h =>
    rename_i t t' x y d s c
    obtain ⟨hvs, hvS⟩ := hvec d hd hv
    have ex : opd st x = opd S x := A.opd (by simp [ho, Op.operands, Call.operands]; exact .inr (by rw [← Array.mem_toList_iff, ha]; simp))
    have ey : opd st y = opd S y := A.opd (by simp [ho, Op.operands, Call.operands]; exact .inr (by rw [← Array.mem_toList_iff, ha]; simp))
    refine opr_step (by rw [A.gd]; exact hg) ?_
    simp only [step, ho, hc, ha, ht, hd, Option.bind_some, ex, ey, hx] at h ⊢
    unfold appA at h ⊢
    rw [A.nt]
    split at h
    case isFalse => cases h
    rename_i h0
    rw [if_pos h0]
    split at h
    case h_2 => cases h
    rename_i e he
    cases hz : zerOf P e with
    | none => simp [hz] at h
    | some zs =>
      simp only [hz, Option.bind_some] at h ⊢
      cases hr : rowsOf S (opd S y) with
      | none => simp [hr] at h
      | some ys =>
        rw [A.rows hr]
        simp only [hr, Option.bind_some] at h ⊢
        split at h
        case isFalse => cases h
        rename_i h1
        rw [if_pos h1]
        split at h
        case isFalse => cases h
        rename_i h2
        rw [if_pos h2]
        simp only [hvS, hvs] at h ⊢
        simp only [Option.some.injEq, St.put, St.mk.injEq, List.cons.injEq, Prod.mk.injEq, true_and, and_true] at h
        simp [Eff.on, mapv_none, delO, envE, alE, nvE, St.put, h, A.nt]
  | call σ F hg ho hc hd hcall hdn hσ hargs hbx hl =>
    rename_i f bx cargs res bx' c y d
    have e2 : opd st y = opd S y := A.opd (by simp only [ho, Op.operands, Call.operands, hc, Array.toList_append, List.mem_append]; exact .inl (by simp))
    have e1 : c.args.toList.map (opd st) = c.args.toList.map (opd S) := List.map_congr_left fun q hq => A.opd (by simp only [ho, Op.operands, Call.operands, Array.toList_append, List.mem_append]; exact .inr hq)
    have := opr_call (K := K) (st := st) σ F (by rw [A.gd]; exact hg) ho hc hd hcall (by rw [hnt]; exact hdn) hσ (by rw [e1, e2]; exact hargs) (boxesIn_mono A.box hbx) hl
    rw [boxesOut_app] at this
    simpa [Eff.on, mapv_none, delO, envE, alE, nvE, St.put] using this

  | store hg ho hd hx hl hz hb hle =>
    rename_i t x y l cs m k
    have ex : opd st x = .ptr m k := by rw [A.opd (by simp [ho, Op.operands])]; exact hx
    have ey : cellsA (opd st y) = some l := by rw [A.opd (by simp [ho, Op.operands])]; exact hl
    refine opr_step (by rw [A.gd]; exact hg) ?_
    simp [step, ho, hd, storeA, ey, hz, ex, A.box m cs hb, hle, Eff.on, mapv_none, delO, envE, alE, nvE]
  | allocW hg ho hz hd hn hdn =>
    rename_i t cs d
    refine opr_step (by rw [A.gd]; exact hg) ?_
    simp [step, ho, hd, hz, allocA, hsee d cs (by simp) hn, hnt, hdn, Eff.on, mapv_none, delO, envE, alE, nvE, St.put]
  | boxW hg ho hz hd hn hdn =>
    rename_i t x cs d
    refine opr_step (by rw [A.gd]; exact hg) ?_
    rw [← A.opd (x := x) (by simp [ho, Op.operands])] at hz
    simp [step, ho, hd, hz, allocA, hsee d cs (by simp) hn, hnt, hdn, Eff.on, mapv_none, delO, envE, alE, nvE, St.put]
  | appv hg ho hc ha ht hd hx hs hv h =>
    rename_i t t' x y d m s s' bs c
    obtain ⟨hvs, hvS⟩ := hvec d hd hv
    have ex : opd st x = opd S x := A.opd (by simp [ho, Op.operands, Call.operands]; exact .inr (by rw [← Array.mem_toList_iff, ha]; simp))
    have ey : opd st y = opd S y := A.opd (by simp [ho, Op.operands, Call.operands]; exact .inr (by rw [← Array.mem_toList_iff, ha]; simp))
    have hst : get st.vec m = some s := A.vec m s hs
    have key : step P st o = some (St.put { nt := st.nt, env := mapv (AV.scrub m) st.env, box := mapv (List.map (AV.scrub m)) st.box, vec := (d, s') :: del st.vec m } d (.vec d)) := by
      simp only [step, ho, hc, ha, ht, hd, Option.bind_some, ex, ey, hx] at h ⊢
      unfold appA at h ⊢
      rw [A.nt]
      split at h
      case isFalse => cases h
      rename_i h0
      rw [if_pos h0]
      split at h
      case h_2 => cases h
      rename_i e he
      cases hz : zerOf P e with
      | none => simp [hz] at h
      | some zs =>
        simp only [hz, Option.bind_some] at h ⊢
        cases hr : rowsOf S (opd S y) with
        | none => simp [hr] at h
        | some ys =>
          rw [A.rows hr]
          simp only [hr, Option.bind_some] at h ⊢
          split at h
          case isFalse => cases h
          rename_i h1
          rw [if_pos h1]
          simp only [hs, hst, Option.bind_some] at h ⊢
          split at h
          case isFalse => cases h
          rename_i h2
          rw [if_pos ⟨h2.1, h2.2.1, h2.2.2.1, .inr (by simp [hvs])⟩]
          simp only [Option.some.injEq, St.put, St.mk.injEq, List.cons.injEq, Prod.mk.injEq, true_and, and_true] at h ⊢
          exact h
    have hm : ∀ (l : List (Nat × AV)), mapv (scrO (some m)) l = mapv (AV.scrub m) l := fun l => rfl
    refine (opr_step (by rw [A.gd]; exact hg) key).eqv ⟨rfl, fun t => rfl, fun b => ?_, fun b => rfl⟩
    simp only [Eff.on, alE, St.put, get_mapv]
    rw [get_app']
    cases hb : get st.box b with
    | none => rw [hbn0 m rfl b hb]; rfl
    | some cs =>
      rcases hbs0 m rfl b cs hb with h1 | ⟨h1, h2⟩
      · rw [h1]; rfl
      · rw [h1]; simp [h2]

/-! The order of a region -/
def edgesB (o : Oper) : List Nat := (o.after.toList.filter fun e => Region.binds .any e).map (·.on)
def ancB (ops : Array Oper) (As : List (List Nat)) : Bool :=
  (List.range ops.size).all fun i => match ops[i]? with
    | none => false
    | some o => (edgesB o).all (fun j => decide (j < i)) && (As.getD i []).all fun j => (edgesB o).any fun k => k == j || (As.getD k []).contains j
def tailB (ops : Array Oper) (As : List (List Nat)) (n : Nat) : Bool :=
  decide (n ≤ ops.size) && ((List.range ops.size).all fun k => decide (k < n) || (List.range n).all fun j => (As.getD k []).contains j) && Region.seqB .any ops (ops.size - n) n (Array.replicate n true ++ Array.replicate (ops.size - n) false)
def dstB (ops : Array Oper) (n : Nat) : Bool :=
  (List.range n).all fun i => (List.range n).all fun j => i == j || match ops[i]?.bind (·.dst), ops[j]?.bind (·.dst) with | some d, some d' => d != d' | _, _ => true
def seeB (ops : Array Oper) (As : List (List Nat)) (n : Nat) : Bool :=
  (List.range n).all fun i => match ops[i]? with
    | none => true
    | some o => (List.range n).all fun j => match ops[j]?.bind (·.dst) with
      | none => true
      | some d => !((o.looksAt ops).contains d) || (As.getD i []).contains j || i == j || (As.getD j []).contains i
def chainB (As : List (List Nat)) (C : List Nat) (n : Nat) : Bool :=
  C.all (fun c => decide (c < n)) && (match C with | [] => true | _ => true) && go C
where
  go : List Nat → Bool
    | [] => true
    | c :: C => C.all (fun c' => (As.getD c' []).contains c) && !C.contains c && go C
def goneB (ops : Array Oper) (As : List (List Nat)) (W : List (Nat × List Nat)) (V : Option (Nat × Nat)) (T : List Nat) (n : Nat) : Bool :=
  match V with
  | none => true
  | some (c, _) => (W.all fun q => q.2.contains c) && decide (c < n) && (List.range n).all fun i => befV As V i || match ops[i]? with
    | none => true
    | some o => (o.looksAt ops).all fun t => !T.contains t
/-- operation c turns the box m -/
def wrB (W : List (Nat × List Nat)) (m c : Nat) : Bool := W.any fun q => q.1 == m && q.2.contains c
def drawB (ops : Array Oper) (As : List (List Nat)) (C : List Nat) (W : List (Nat × List Nat)) (V : Option (Nat × Nat)) (T : List Nat) (n : Nat) : Bool := ancB ops As && tailB ops As n && dstB ops n && seeB ops As n && C.all (fun c => decide (c < n)) && goneB ops As W V T n && (W.all fun q => q.2.all fun c => C.contains c) && W.all fun q => chainB.go As (C.filter (wrB W q.1))
/-- what takes a row away finds its name only where it is known -/
def stV (V : Option (Nat × Nat)) (T : List Nat) (W : List (Nat × List Nat)) (st : St) : Bool :=
  match V with
  | none => true
  | some (_, m) => (st.env.all fun x => T.contains x.1 || x.2.wf (fun _ => true) (fun k => k != m)) && (st.box.all fun x => (W.any fun q => q.1 == x.1) || AV.wfL (fun _ => true) (fun k => k != m) x.2) && (get st.vec m).isSome

/-- what has been carried out, the last first -/
inductive Ex (n : Nat) (As : List (List Nat)) : List Nat → Prop
  | nil : Ex n As []
  | cons {L : List Nat} {i : Nat} (h : Ex n As L) (hi : i < n) (hn : i ∉ L) (ha : ∀ j ∈ As.getD i [], j ∈ L) : Ex n As (i :: L)

def confB (es : List Eff) (b : List (Nat × List AV)) : List Nat → List (Nat × List AV)
  | [] => b
  | i :: L => alE (atE es i) ((atE es i).bs ++ confB es b L)
def gone (V : Option (Nat × Nat)) (L : List Nat) : Option Nat := match V with | some (c, m) => if c ∈ L then some m else none | none => none
def conf (V : Option (Nat × Nat)) (es : List Eff) (st0 : St) (L : List Nat) : St :=
  { nt := st0.nt, env := mapv (scrO (gone V L)) (envL es L st0.env), box := confB es st0.box L, vec := nvL es L (delO (gone V L) st0.vec) }

variable {V : Option (Nat × Nat)} {T : List Nat}
variable {n : Nat} {As : List (List Nat)} {C : List Nat} {W : List (Nat × List Nat)} {es : List Eff}
theorem Ex.lt {L : List Nat} (h : Ex n As L) : ∀ i ∈ L, i < n := by
  induction h with
  | nil => intro i h; simp at h
  | cons _ hi _ _ ih => intro i h; rcases List.mem_cons.1 h with rfl | h; exact hi; exact ih i h
theorem Ex.nodup {L : List Nat} (h : Ex n As L) : L.Nodup := by
  induction h with
  | nil => exact List.nodup_nil
  | cons _ _ hn _ ih => exact List.nodup_cons.2 ⟨hn, ih⟩
theorem Ex.down {L : List Nat} (h : Ex n As L) : ∀ i ∈ L, ∀ j ∈ As.getD i [], j ∈ L := by
  induction h with
  | nil => intro i h; simp at h
  | cons _ _ _ ha ih =>
    intro i h j hj
    rcases List.mem_cons.1 h with rfl | h
    · exact List.mem_cons_of_mem _ (ha j hj)
    · exact List.mem_cons_of_mem _ (ih i h j hj)
theorem Ex.len {L : List Nat} (h : Ex n As L) : L.length ≤ n := by
  have := List.Nodup.length_le_of_subset' h.nodup (l' := List.range n) fun i hi => List.mem_range.2 (h.lt i hi)
  simpa using this
where
  List.Nodup.length_le_of_subset' {l l' : List Nat} (h : l.Nodup) (hs : ∀ i ∈ l, i ∈ l') : l.length ≤ l'.length := by
    induction l generalizing l' with
    | nil => simp
    | cons x l ih =>
      rw [List.nodup_cons] at h
      have hx : x ∈ l' := hs x (by simp)
      have := ih h.2 (l' := l'.erase x) fun i hi => (List.mem_erase_of_ne (fun e => h.1 (by rw [← e]; exact hi))).2 (hs i (by simp [hi]))
      rw [List.length_erase_of_mem hx] at this
      have : 0 < l'.length := List.length_pos_of_mem hx
      simp; omega
theorem Ex.full {L : List Nat} (h : Ex n As L) (hl : L.length = n) : ∀ i < n, i ∈ L := by
  intro i hi
  refine Classical.byContradiction fun hn => ?_
  have := Ex.len.List.Nodup.length_le_of_subset' (l := i :: L) (l' := List.range n) (List.nodup_cons.2 ⟨hn, h.nodup⟩) fun j hj => by
    rcases List.mem_cons.1 hj with rfl | hj
    · exact List.mem_range.2 hi
    · exact List.mem_range.2 (h.lt j hj)
  simp at this; omega

theorem conf_nt (L : List Nat) : (conf V es st0 L).nt = st0.nt := rfl
theorem conf_vec (L : List Nat) : (conf V es st0 L).vec = nvL es L (delO (gone V L) st0.vec) := rfl

theorem get_app {α : Type} : ∀ (l m : List (Nat × α)) (t : Nat), get (l ++ m) t = match get l t with | some x => some x | none => get m t
  | [], _, _ => rfl
  | (k, v) :: l, m, t => by
    simp only [List.cons_append, get]
    split
    · rfl
    · exact get_app l m t
theorem get_none {α : Type} : ∀ {l : List (Nat × α)} {t : Nat}, (∀ x ∈ l, x.1 ≠ t) → get l t = none
  | [], _, _ => rfl
  | (k, v) :: l, t, h => by
    simp only [get]
    rw [if_neg (h (k, v) (by simp)), get_none fun x hx => h x (by simp [hx])]
theorem get_delW : ∀ (W : List Nat) (l : List (Nat × List AV)) (n : Nat), get (delW W l) n = if n ∈ W then none else get l n
  | [], l, n => by simp [delW]
  | m :: W, l, n => by
    simp only [delW, get_delW W, get_del, List.mem_cons]
    by_cases h : n ∈ W
    · simp [h]
    · by_cases h2 : m = n
      · simp [h2]
      · simp [h, h2, Ne.symm h2]

theorem envL_a {t i : Nat} (hu : ∀ i j, (atE es i).d = some t → (atE es j).d = some t → i = j) (b : List (Nat × AV)) : ∀ {A : List Nat}, i ∈ A → (atE es i).d = some t → get (envL es A b) t = some (atE es i).v
  | j :: A, hi, hd => by
    simp only [envL, envE]
    by_cases e : (atE es j).d = some t
    · have := hu i j hd e; subst this; rw [e]; simp [get]
    · rcases List.mem_cons.1 hi with rfl | hi
      · exact absurd hd e
      · have ih := envL_a hu b hi hd
        cases hq : (atE es j).d with
        | none => exact ih
        | some d => simp only [get]; rw [if_neg (fun e2 => e (by rw [hq, e2]))]; exact ih
theorem envL_b {t : Nat} (b : List (Nat × AV)) : ∀ {A : List Nat}, (∀ j ∈ A, (atE es j).d ≠ some t) → get (envL es A b) t = get b t
  | [], _ => rfl
  | j :: A, h => by
    simp only [envL, envE]
    have ih := envL_b b (A := A) fun k hk => h k (by simp [hk])
    cases hq : (atE es j).d with
    | none => exact ih
    | some d => simp only [get]; rw [if_neg (fun e2 => h j (by simp) (by rw [hq, e2]))]; exact ih
theorem conf_env (L : List Nat) (t : Nat) : get (conf V es st0 L).env t = (get (envL es L st0.env) t).map (scrO (gone V L)) := get_mapv _ _ _
theorem get_envE {e : Eff} {l : List (Nat × AV)} {t : Nat} : get (envE e l) t = if e.d = some t then some e.v else get l t := by
  unfold envE
  cases hd : e.d with
  | none => simp
  | some d => simp only [get, Option.some.injEq]

/-- the box m is one that operation j makes -/
def makes (es : List Eff) (j m : Nat) : Prop := (atE es j).d = some m ∧ (atE es j).al.isSome = true
theorem alE_get {e : Eff} {l : List (Nat × List AV)} {m : Nat} : get (alE e l) m = if e.d = some m ∧ e.al.isSome = true then e.al else get l m := by
  unfold alE
  cases ha : e.al with
  | none => simp
  | some cs =>
    cases hd : e.d with
    | none => simp
    | some d =>
      simp only [get, Option.some.injEq, Option.isSome_some, and_true]
theorem alL_a {m i : Nat} (hu : ∀ i j, (atE es i).d = some m → (atE es j).d = some m → i = j) (b : List (Nat × List AV)) : ∀ {A : List Nat}, i ∈ A → makes es i m → get (alL es A b) m = (atE es i).al
  | j :: A, hi, hm => by
    simp only [alL, alE_get]
    by_cases e : makes es j m
    · have := hu i j hm.1 e.1; subst this; rw [if_pos (show (atE es _).d = some m ∧ (atE es _).al.isSome = true from e)]
    · rw [if_neg (show ¬ ((atE es j).d = some m ∧ (atE es j).al.isSome = true) from e)]
      rcases List.mem_cons.1 hi with rfl | hi
      · exact absurd hm e
      · exact alL_a hu b hi hm
theorem alL_b {m : Nat} (b : List (Nat × List AV)) : ∀ {A : List Nat}, (∀ j ∈ A, ¬ makes es j m) → get (alL es A b) m = get b m
  | [], _ => rfl
  | j :: A, h => by
    simp only [alL, alE_get]
    rw [if_neg (show ¬ ((atE es j).d = some m ∧ (atE es j).al.isSome = true) from h j (by simp)), alL_b b fun k hk => h k (by simp [hk])]

def makesV (es : List Eff) (j m : Nat) : Prop := (atE es j).d = some m ∧ (atE es j).nv.isSome = true
theorem nvE_get {e : Eff} {l : List (Nat × VS)} {m : Nat} : get (nvE e l) m = if e.d = some m ∧ e.nv.isSome = true then e.nv else get l m := by
  unfold nvE
  cases ha : e.nv with
  | none => simp
  | some cs =>
    cases hd : e.d with
    | none => simp
    | some d =>
      simp only [get, Option.some.injEq, Option.isSome_some, and_true]
theorem nvL_a {m i : Nat} (hu : ∀ i j, (atE es i).d = some m → (atE es j).d = some m → i = j) (b : List (Nat × VS)) : ∀ {A : List Nat}, i ∈ A → makesV es i m → get (nvL es A b) m = (atE es i).nv
  | j :: A, hi, hm => by
    simp only [nvL, nvE_get]
    by_cases e : makesV es j m
    · have := hu i j hm.1 e.1; subst this; rw [if_pos (show (atE es _).d = some m ∧ (atE es _).nv.isSome = true from e)]
    · rw [if_neg (show ¬ ((atE es j).d = some m ∧ (atE es j).nv.isSome = true) from e)]
      rcases List.mem_cons.1 hi with rfl | hi
      · exact absurd hm e
      · exact nvL_a hu b hi hm
theorem nvL_b {m : Nat} (b : List (Nat × VS)) : ∀ {A : List Nat}, (∀ j ∈ A, ¬ makesV es j m) → get (nvL es A b) m = get b m
  | [], _ => rfl
  | j :: A, h => by
    simp only [nvL, nvE_get]
    rw [if_neg (show ¬ ((atE es j).d = some m ∧ (atE es j).nv.isSome = true) from h j (by simp)), nvL_b b fun k hk => h k (by simp [hk])]

def okV (V : Option (Nat × Nat)) (x : AV) : Bool := match V with | some (_, m) => x.wf (fun _ => true) (fun k => k != m) | none => true
def okVL (V : Option (Nat × Nat)) (l : List AV) : Bool := match V with | some (_, m) => AV.wfL (fun _ => true) (fun k => k != m) l | none => true
def rmOf (V : Option (Nat × Nat)) (i : Nat) : Option Nat := match V with | some (c, m) => if c = i then some m else none | none => none
/-- what the certificates give -/
structure Cert (P : Program) (ops : Array Oper) (st0 : St) (As : List (List Nat)) (C : List Nat) (W : List (Nat × List Nat)) (V : Option (Nat × Nat)) (T : List Nat) (es : List Eff) : Prop where
  loc : ∀ i, i < es.length → ∃ o, ops[i]? = some o ∧ Loc P ops st0 (locSt As C W V st0 (es.take i) i) o (atE es i) ∧ (atE es i).d = o.dst ∧ (∀ d, (atE es i).al.isSome = true → (atE es i).d = some d → d ∉ W.map (·.1) ∧ get st0.box d = none) ∧ (∀ d, (atE es i).nv.isSome = true → (atE es i).d = some d → get st0.vec d = none) ∧
    (∀ x ∈ (atE es i).bs, ∃ q ∈ W, q.1 = x.1 ∧ i ∈ q.2) ∧ (i ∉ C → (atE es i).bs = [])
  rm : ∀ i, i < es.length → (atE es i).rm = rmOf V i
  ok : ∀ i, i < es.length → okV V (atE es i).v = true ∨ ∃ c m d, V = some (c, m) ∧ i ∈ As.getD c [] ∧ (atE es i).d = some d ∧ d ∈ T
  al : ∀ i, i < es.length → ∀ cs, (atE es i).al = some cs → okVL V cs = true
  bx : ∀ i, i < es.length → ∀ k, (atE es i).rm = some k → ∀ m ∈ W.map (·.1), ∀ cs, get (locSt As C W V st0 (es.take i) i).box m = some cs → get (atE es i).bs m = some (cs.map (AV.scrub k)) ∨ (get (atE es i).bs m = none ∧ cs.map (AV.scrub k) = cs)
  bn : ∀ i, i < es.length → ∀ k, (atE es i).rm = some k → ∀ m ∈ W.map (·.1), get (locSt As C W V st0 (es.take i) i).box m = none → get (atE es i).bs m = none
  un : ∀ i, i < es.length → ∀ x ∈ (atE es i).bs, ∀ q ∈ W, q.1 = x.1 → i ∈ q.2

theorem atE_none {i : Nat} (h : es.length ≤ i) : atE es i = default := by simp [atE, h]
theorem Cert.bsQ (H : Cert P ops st0 As C W V T es) (i : Nat) : ∀ x ∈ (atE es i).bs, ∃ q ∈ W, q.1 = x.1 ∧ i ∈ q.2 := by
  rcases Nat.lt_or_ge i es.length with h | h
  · obtain ⟨_, _, _, _, _, _, h1, _⟩ := H.loc i h; exact h1
  · rw [atE_none h]; intro x hx; exact absurd hx (by simp [default])
theorem Cert.bsW (H : Cert P ops st0 As C W V T es) (i : Nat) : ∀ x ∈ (atE es i).bs, x.1 ∈ W.map (·.1) := fun x hx => by
  obtain ⟨q, h1, h2, _⟩ := H.bsQ i x hx
  exact List.mem_map.2 ⟨q, h1, h2⟩
theorem Cert.bsC (H : Cert P ops st0 As C W V T es) {i : Nat} (hi : i ∉ C) : (atE es i).bs = [] := by
  rcases Nat.lt_or_ge i es.length with h | h
  · obtain ⟨_, _, _, _, _, _, _, h1⟩ := H.loc i h; exact h1 hi
  · rw [atE_none h]; rfl
theorem Cert.mkW (H : Cert P ops st0 As C W V T es) {i d : Nat} (h : makes es i d) : d ∉ W.map (·.1) ∧ get st0.box d = none := by
  rcases Nat.lt_or_ge i es.length with hl | hl
  · obtain ⟨_, _, _, _, h1, _⟩ := H.loc i hl; exact h1 d h.2 h.1
  · rw [makes, atE_none hl] at h; exact absurd h.1 (by simp [default])

theorem Cert.mkV (H : Cert P ops st0 As C W V T es) {i d : Nat} (h : makesV es i d) : get st0.vec d = none := by
  rcases Nat.lt_or_ge i es.length with hl | hl
  · obtain ⟨_, _, _, _, _, h1, _⟩ := H.loc i hl; exact h1 d h.2 h.1
  · rw [makesV, atE_none hl] at h; exact absurd h.1 (by simp [default])

theorem conf_box_out (H : Cert P ops st0 As C W V T es) {m : Nat} (hm : m ∉ W.map (·.1)) : ∀ L, get (confB es st0.box L) m = get (alL es L st0.box) m
  | [] => rfl
  | i :: L => by
    simp only [confB, alL, alE_get]
    rw [get_app, get_none (l := (atE es i).bs) fun x hx e => hm (by rw [← e]; exact H.bsW i x hx), conf_box_out H hm L]
theorem conf_box_in (H : Cert P ops st0 As C W V T es) {m : Nat} (hm : m ∈ W.map (·.1)) : ∀ L, get (confB es st0.box L) m = get (chE es (L.filter (C.contains ·)) st0.box) m
  | [] => rfl
  | i :: L => by
    simp only [confB, alE_get]
    rw [if_neg (show ¬ ((atE es i).d = some m ∧ (atE es i).al.isSome = true) from fun h => (H.mkW h).1 hm), get_app, conf_box_in H hm L, List.filter_cons]
    by_cases hi : i ∈ C
    · rw [if_pos (by simpa using hi)]; simp only [chE, get_app]
    · rw [if_neg (by simpa using hi), H.bsC hi]; rfl

theorem chain_spec : ∀ {C : List Nat}, chainB.go As C = true → C.Nodup ∧ C.Pairwise fun c c' => c ∈ As.getD c' []
  | [], _ => ⟨List.nodup_nil, .nil⟩
  | c :: C, h => by
    simp only [chainB.go, Bool.and_eq_true, Bool.not_eq_true', List.all_eq_true] at h
    obtain ⟨⟨h1, h2⟩, h3⟩ := h
    obtain ⟨g1, g2⟩ := chain_spec h3
    exact ⟨List.nodup_cons.2 ⟨by simpa using h2, g1⟩, .cons (fun c' hc => by simpa using h1 c' hc) g2⟩

theorem Ex.chain {L : List Nat} (hc : chainB.go As C = true) (h : Ex n As L) : ∃ m, L.filter (C.contains ·) = (C.take m).reverse := by
  obtain ⟨hnd, hpw⟩ := chain_spec hc
  induction h with
  | nil => exact ⟨0, by simp⟩
  | cons hL hi hn ha ih =>
    rename_i L i
    obtain ⟨m, hm⟩ := ih
    rw [List.filter_cons]
    by_cases hiC : i ∈ C
    · rw [if_pos (by simpa using hiC)]
      obtain ⟨pre, post, rfl⟩ := List.append_of_mem hiC
      have hpre : ∀ c ∈ pre, c ∈ L := fun c hcp => ha c ((List.pairwise_append.1 hpw).2.2 c hcp i (by simp))
      have hmem : ∀ c, c ∈ (pre ++ i :: post).take m ↔ (c ∈ L ∧ c ∈ pre ++ i :: post) := fun c => by
        rw [← List.mem_reverse, ← hm, List.mem_filter]; simp
      have hni : i ∉ (pre ++ i :: post).take m := fun h => hn ((hmem i).1 h).1
      have hipre : i ∉ pre := fun h => (List.nodup_append.1 hnd).2.2 i h i (by simp) rfl
      have hle : m ≤ pre.length := by
        refine Nat.le_of_not_lt fun hlt => hni ?_
        rw [List.mem_iff_getElem?]
        exact ⟨pre.length, by rw [List.getElem?_take_of_lt hlt]; simp⟩
      have hge : pre.length ≤ m := by
        refine Nat.le_of_not_lt fun hlt => ?_
        have hx : pre[m] ∈ (pre ++ i :: post).take m := (hmem _).2 ⟨hpre _ (List.getElem_mem hlt), by simp⟩
        obtain ⟨k, hk⟩ := List.mem_iff_getElem?.1 hx
        have hkm : k < m := by
          have := (List.getElem?_eq_some_iff.1 hk).1
          simp at this; omega
        rw [List.getElem?_take_of_lt hkm, List.getElem?_append_left (by omega)] at hk
        have hnp : pre.Nodup := (List.nodup_append.1 hnd).1
        have := (List.getElem?_inj (i := k) (j := m) (by omega) hnp).1 (by rw [hk]; simp [hlt])
        omega
      refine ⟨pre.length + 1, ?_⟩
      have : m = pre.length := by omega
      subst this
      rw [hm]
      simp [List.take_append, List.take_of_length_le (Nat.le_succ pre.length)]
    · rw [if_neg (by simpa using hiC)]; exact ⟨m, hm⟩

theorem filter_take {C : List Nat} (h : C.Nodup) (m : Nat) : C.filter (fun c => decide (c ∈ C.take m)) = C.take m := by
  have e : (C.take m ++ C.drop m).filter (fun c => decide (c ∈ C.take m)) = C.take m := by
    rw [List.filter_append, List.filter_eq_self.2 (fun a ha => by simpa using ha), List.filter_eq_nil_iff.2 (fun a ha => by
      have hnd : (C.take m ++ C.drop m).Nodup := by rw [List.take_append_drop]; exact h
      have := (List.nodup_append.1 hnd).2.2
      simpa using fun hc => this a hc a ha rfl), List.append_nil]
  rwa [List.take_append_drop] at e
theorem hidW_not {i m : Nat} : ∀ {W : List (Nat × List Nat)}, m ∉ hidW As i W → ∀ q ∈ W, q.1 = m → cmpB As q.2 i = true
  | [], _, q, hq, _ => by simp at hq
  | p :: W, h, q, hq, e => by
    simp only [hidW] at h
    rcases List.mem_cons.1 hq with rfl | hq
    · split at h
      · assumption
      · exact absurd (by simp [e]) h
    · split at h
      · exact hidW_not h q hq e
      · exact hidW_not (fun h' => h (by simp [h'])) q hq e
theorem hidW_mem {i m : Nat} : ∀ {W : List (Nat × List Nat)}, m ∈ hidW As i W → m ∈ W.map (·.1)
  | [], h => by simp [hidW] at h
  | p :: W, h => by
    simp only [hidW] at h
    split at h
    · have := hidW_mem h; simp only [List.map_cons, List.mem_cons]; exact .inr this
    · rcases List.mem_cons.1 h with rfl | h
      · simp
      · have := hidW_mem h; simp only [List.map_cons, List.mem_cons]; exact .inr this
/-- only those that turn the box count -/
theorem chE_only (H : Cert P ops st0 As C W V T es) {m : Nat} (p : Nat → Bool) (hp : ∀ c, (∃ q ∈ W, q.1 = m ∧ c ∈ q.2) → p c = true) (b : List (Nat × List AV)) : ∀ M : List Nat, get (chE es M b) m = get (chE es (M.filter p) b) m
  | [] => rfl
  | c :: M => by
    simp only [chE, get_app, List.filter_cons]
    by_cases h : p c = true
    · rw [if_pos h]; simp only [chE, get_app]; rw [chE_only H p hp b M]
    · rw [if_neg h, get_none (l := (atE es c).bs) fun x hx e => ?_]
      · exact chE_only H p hp b M
      · obtain ⟨q, h1, h2, h3⟩ := H.bsQ c x hx
        exact h (hp c ⟨q, h1, h2.trans e, h3⟩)
theorem Ex.at {C : List Nat} {L : List Nat} (hc : chainB.go As C = true) (h : Ex n As L) {i : Nat} (hiC : cmpB As C i = true) (hn : i ∉ L) (ha : ∀ j ∈ As.getD i [], j ∈ L) : L.filter (C.contains ·) = befA As C i := by
  obtain ⟨hnd, hpw⟩ := chain_spec hc
  obtain ⟨m, hm⟩ := h.chain hc
  have hmem : ∀ c, c ∈ C.take m ↔ (c ∈ L ∧ c ∈ C) := fun c => by
    rw [← List.mem_reverse, ← hm, List.mem_filter]; simp
  unfold befA
  rw [hm]
  congr 1
  rw [← filter_take hnd m]
  refine List.filter_congr fun c hcC => ?_
  simp only [cmpB, List.all_eq_true] at hiC
  have h1 := hiC c hcC
  simp only [Bool.or_eq_true, beq_iff_eq, List.contains_iff_mem] at h1
  rw [Bool.eq_iff_iff, decide_eq_true_eq, List.contains_iff_mem, hmem]
  constructor
  · rintro ⟨hL, _⟩
    rcases h1 with (h1 | h1) | h1
    · exact absurd (h1 ▸ hL) hn
    · exact h1
    · exact absurd (h.down c hL i h1) hn
  · exact fun h2 => ⟨ha c h2, hcC⟩
theorem wrB_iff {m c : Nat} : wrB W m c = true ↔ ∃ q ∈ W, q.1 = m ∧ c ∈ q.2 := by
  simp only [wrB, List.any_eq_true, Bool.and_eq_true, beq_iff_eq, List.contains_iff_mem]
theorem chE_wr (H : Cert P ops st0 As C W V T es) (m : Nat) (b : List (Nat × List AV)) (L : List Nat) : get (chE es (L.filter (C.contains ·)) b) m = get (chE es (L.filter ((C.filter (wrB W m)).contains ·)) b) m := by
  rw [chE_only H (wrB W m) (fun c h => wrB_iff.2 h), List.filter_filter]
  congr 2
  refine List.filter_congr fun c _ => ?_
  rw [Bool.eq_iff_iff, Bool.and_eq_true, List.contains_iff_mem, List.contains_iff_mem, List.mem_filter]
  exact ⟨fun h => ⟨h.2, h.1⟩, fun h => ⟨h.2, h.1⟩⟩
theorem Ex.seen (H : Cert P ops st0 As C W V T es) {L : List Nat} {i m : Nat} (hc : chainB.go As (C.filter (wrB W m)) = true) (h : Ex n As L) (hm : m ∉ hidW As i W) (hn : i ∉ L) (ha : ∀ j ∈ As.getD i [], j ∈ L) :
    get (chE es (L.filter (C.contains ·)) st0.box) m = get (chE es (befA As C i) st0.box) m := by
  have hcmp : cmpB As (C.filter (wrB W m)) i = true := by
    simp only [cmpB, List.all_eq_true]
    intro c hcc
    obtain ⟨q, h1, h2, h3⟩ := wrB_iff.1 (List.mem_filter.1 hcc).2
    have := hidW_not hm q h1 h2
    simp only [cmpB, List.all_eq_true] at this
    exact this c h3
  rw [chE_wr H, h.at hc hcmp hn ha, chE_only H (wrB W m) (fun c h => wrB_iff.2 h) _ (befA As C i)]
  unfold befA
  rw [List.filter_reverse, List.filter_filter, List.filter_filter]
  congr 2
  congr 1
  refine List.filter_congr fun c _ => ?_
  rw [Bool.and_comm]
end
end Go.Vl
