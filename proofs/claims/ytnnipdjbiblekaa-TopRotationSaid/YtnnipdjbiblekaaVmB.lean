/- The value logic, part 2: what an operation that writes nothing yields. Conditions: none. -/
import Derived.Test.YtnnipdjbiblekaaVmA
set_option linter.unusedSimpArgs false
set_option linter.unusedVariables false
namespace Go.Vl
open Go

/-! The rows of a slice, cell by cell -/
theorem flat_len {rows : List (List D)} {z : Nat} (hz : ∀ r ∈ rows, r.length = z) : rows.flatten.length = rows.length * z := by
  induction rows with
  | nil => simp
  | cons r rs ih =>
    simp only [List.flatten_cons, List.length_append, List.length_cons, hz r (by simp), ih fun r hr => hz r (by simp [hr]), Nat.add_mul]
    omega
theorem flat_get {rows : List (List D)} {z : Nat} (hz : ∀ r ∈ rows, r.length = z) : ∀ {i : Nat} {r : List D}, rows[i]? = some r → ∀ {j : Nat}, j < z → rows.flatten[i * z + j]? = r[j]? := by
  induction rows with
  | nil => intro i r h; simp at h
  | cons r0 rs ih =>
    intro i r h j hj
    have h0 : r0.length = z := hz r0 (by simp)
    rw [List.flatten_cons]
    cases i with
    | zero => simp at h; subst h; rw [List.getElem?_append_left (by omega)]; simp
    | succ i =>
      rw [List.getElem?_append_right (by rw [h0, Nat.add_mul]; omega), h0, show (i + 1) * z + j - z = i * z + j by rw [Nat.add_mul]; omega]
      exact ih (fun r hr => hz r (by simp [hr])) (by simpa using h) hj
theorem flat_drop {rows : List (List D)} {z : Nat} (hz : ∀ r ∈ rows, r.length = z) : ∀ l : Nat, (rows.drop l).flatten = rows.flatten.drop (l * z) := by
  induction rows with
  | nil => simp
  | cons r0 rs ih =>
    intro l
    have h0 : r0.length = z := hz r0 (by simp)
    cases l with
    | zero => simp
    | succ l =>
      have e : r0.drop ((l + 1) * z) = [] := List.drop_eq_nil_of_le (by rw [h0, Nat.add_mul]; omega)
      rw [List.drop_succ_cons, ih fun r hr => hz r (by simp [hr]), List.flatten_cons, List.drop_append, e, h0,
        show (l + 1) * z - z = l * z by rw [Nat.add_mul]; omega]
      rfl
theorem flat_take {rows : List (List D)} {z : Nat} (hz : ∀ r ∈ rows, r.length = z) (l : Nat) : (rows.take l).flatten = rows.flatten.take (l * z) := by
  induction rows generalizing l with
  | nil => simp
  | cons r0 rs ih =>
    have h0 : r0.length = z := hz r0 (by simp)
    cases l with
    | zero => simp
    | succ l =>
      have e : r0.take ((l + 1) * z) = r0 := List.take_of_length_le (by rw [h0, Nat.add_mul]; omega)
      rw [List.take_succ_cons, List.flatten_cons, List.flatten_cons, ih fun r hr => hz r (by simp [hr]), List.take_append, e, h0,
        show (l + 1) * z - z = l * z by rw [Nat.add_mul]; omega]

/-! Constants -/
def AV.ofCell : Value → AV
  | .int k n => .d (.int k n)
  | .bool b => .d (.bool b)
  | .string s => .d (.str s)
  | .pointer none => .d .nilp
  | .slice none 0 0 => .nilS
  | _ => .undef
def AV.ofConst : Value → AV
  | .agg cs => if cs.all Value.oneCell' then .agg (cs.toList.map AV.ofCell) else .undef
  | v => AV.ofCell v

theorem ofCell_ra (w : World) (ok : Nat → Prop) (p : Pl) (v : Value) : RA w ok p (AV.ofCell v) v := by
  unfold AV.ofCell
  split
  · exact .d .int
  · exact .d .bool
  · exact .d .str
  · exact .d .nilp
  · exact .nilS
  · exact .undef
theorem ofConst_ra (w : World) (ok : Nat → Prop) (p : Pl) (v : Value) : RA w ok p (AV.ofConst v) v := by
  unfold AV.ofConst
  split
  · rename_i cs
    split
    · rename_i h
      refine .agg (by simp) (fun i a v ha hv => ?_) (fun i v hv => ?_)
      · rw [List.getElem?_map, Array.getElem?_toList, hv] at ha
        simp at ha; subst ha
        exact ofCell_ra w ok p v
      · have := Array.all_eq_true_iff_forall_mem.1 h v (Array.mem_of_getElem? hv)
        exact this
    · exact .undef
  · exact ofCell_ra w ok p v

def opd (st : St) : Operand → AV
  | .tmp t => st.look t
  | .const v => AV.ofConst v
  | .global _ => .undef
  | .func f => .fn f []

theorem Rel.opd {K : Ctx} {st : St} {a : Act} {w : World} {p : Pl} (R : Rel K st a w p) (x : Operand) : RA w (okc K w p) p (opd st x) (a.eval x) := by
  cases x with
  | tmp t =>
    simp only [Vl.opd, St.look, Act.eval]
    cases h : get st.env t with
    | none => exact .undef
    | some x => exact R.env t x h
  | const v => exact ofConst_ra _ _ _ v
  | global g => exact .undef
  | func f => exact .fn (l := []) rfl (fun i a v h => by simp at h)

/-! Types -/
def szOf (P : Program) (t : TypeId) : Option Nat := (P.info? t).map (·.size)
def isAggB (P : Program) (t : TypeId) : Bool := match P.underlying t with | some (.struct _) | some (.array _ _) => true | _ => false
def zerOf (P : Program) (t : TypeId) : Option (List AV) := (P.info? t).bind fun i => i.zero.bind fun z => if z.cells.size = i.size ∧ z.cells.all Value.oneCell' then some (z.cells.toList.map AV.ofCell) else none

theorem run_szOf {P : Program} {t : TypeId} {k : Nat} (h : szOf P t = some k) (w : World) : (sizeOf t).run P w = .ok k w := by
  unfold szOf at h
  cases hi : P.info? t with
  | none => simp [hi] at h
  | some i => simp [hi] at h; subst h; simp [sizeOf, typeInfo, hi]

theorem run_isAggB {P : Program} {t : TypeId} (hu : (P.underlying t).isSome = true) (w : World) : (isAgg t).run P w = .ok (isAggB P t) w := by
  obtain ⟨d, hd⟩ := Option.isSome_iff_exists.1 hu
  unfold isAggB
  rw [hd]
  simp only [isAgg, Sem.run_bind, run_underlying hd, Result.andThen]
  cases d <;> rfl

theorem underlying_of_info {P : Program} {t : TypeId} {i : TypeInfo} (h : P.underlying t = some i.desc) : (P.underlying t).isSome = true := by simp [h]

/-- a part of a list of cells, at a type -/
def partA (P : Program) (t : TypeId) (cs : List AV) (o : Nat) : Option AV :=
  if (P.underlying t).isSome then
    if isAggB P t then (szOf P t).bind fun k => if o + k ≤ cs.length then some (.agg ((cs.drop o).take k)) else none
    else cs[o]?
  else none

theorem partA_load {P : Program} {t : TypeId} {cs : List AV} {o : Nat} {x : AV} (h : partA P t cs o = some x) {w : World} {ok : Nat → Prop} {p : Pl} {a : Addr} (vs : Nat → Value)
    (hcell : ∀ j, j < cs.length → w.cell? (a.add j) = some (vs j)) (hr : ∀ j c, cs[j]? = some c → RA w ok p c (vs j)) (h1 : ∀ j, j < cs.length → (vs j).oneCell' = true) :
    ∃ v, (loadVar t (a.add o)).run P w = .ok v w ∧ RA w ok p x v := by
  unfold partA at h
  split at h
  case isFalse => cases h
  rename_i hu
  simp only [loadVar, Sem.run_bind, run_isAggB hu, Result.andThen]
  split at h
  · rename_i hg
    cases hk : szOf P t with
    | none => simp [hk] at h
    | some k =>
      simp only [hk, Option.bind_some] at h
      split at h
      case isFalse => cases h
      rename_i hle
      cases h
      simp only [hg, if_true, Sem.run_bind, run_szOf hk, Result.andThen]
      rw [run_loadCells (P := P) w (a.add o) k (fun j => vs (o + j)) (fun j hj => by rw [add_add]; exact hcell _ (by omega))]
      refine ⟨_, rfl, .agg (by simp; omega) (fun i y v hy hv => ?_) (fun i v hv => ?_)⟩
      · simp only [List.getElem?_toArray, List.getElem?_map] at hv
        by_cases hi : i < k
        · rw [List.getElem?_range hi] at hv
          simp at hv; subst hv
          rw [List.getElem?_take_of_lt hi, List.getElem?_drop] at hy
          exact hr _ _ hy
        · rw [List.getElem?_eq_none (by simpa using hi)] at hv; simp at hv
      · simp only [List.getElem?_toArray, List.getElem?_map] at hv
        by_cases hi : i < k
        · rw [List.getElem?_range hi] at hv
          simp at hv; subst hv
          exact h1 _ (by omega)
        · rw [List.getElem?_eq_none (by simpa using hi)] at hv; simp at hv
  · rename_i hg
    have hlt : o < cs.length := (List.getElem?_eq_some_iff.1 h).1
    simp only [hg, Bool.false_eq_true, if_false]
    exact ⟨vs o, by simp [hcell o hlt], hr _ _ h⟩

theorem partA_part {P : Program} {t : TypeId} {cs : List AV} {o : Nat} {x : AV} (h : partA P t cs o = some x) {w : World} {ok : Nat → Prop} {p : Pl} {vs : Array Value}
    (hl : vs.size = cs.length) (hr : ∀ (i : Nat) (a : AV) (v : Value), cs[i]? = some a → vs[i]? = some v → RA w ok p a v) (h1 : ∀ (i : Nat) (v : Value), vs[i]? = some v → v.oneCell' = true) :
    ∃ v, (part t vs o).run P w = .ok v w ∧ RA w ok p x v := by
  unfold partA at h
  split at h
  case isFalse => cases h
  rename_i hu
  simp only [part, Sem.run_bind, run_isAggB hu, Result.andThen]
  split at h
  · rename_i hg
    cases hk : szOf P t with
    | none => simp [hk] at h
    | some k =>
      simp only [hk, Option.bind_some] at h
      split at h
      case isFalse => cases h
      rename_i hle
      cases h
      simp only [hg, if_true, Sem.run_bind, run_szOf hk, Result.andThen]
      refine ⟨_, rfl, .agg (by simp; omega) (fun i y v hy hv => ?_) (fun i v hv => ?_)⟩
      · rw [Array.getElem?_extract] at hv
        split at hv
        case isFalse => cases hv
        rename_i hi
        have hi' : i < k := by omega
        rw [List.getElem?_take_of_lt hi', List.getElem?_drop] at hy
        exact hr _ _ _ hy hv
      · rw [Array.getElem?_extract] at hv
        split at hv
        case isFalse => cases hv
        exact h1 _ _ hv
  · rename_i hg
    have hlt : o < cs.length := (List.getElem?_eq_some_iff.1 h).1
    simp only [hg, Bool.false_eq_true, if_false]
    have hv : vs[o]? = some (vs[o]'(by omega)) := Array.getElem?_eq_getElem (by omega)
    exact ⟨vs[o]'(by omega), by simp [hv], hr _ _ _ h hv⟩

def loadA (P : Program) (st : St) (t : TypeId) : AV → Option AV
  | .ptr n o => (get st.box n).bind fun cs => partA P t cs o
  | .cptr row o => partA P t (row.map .d) o
  | .vptr n z i o => (get st.vec n).bind fun s => if z = s.z then s.rows[i]?.bind fun row => partA P t (row.map .d) o else none
  | _ => none

theorem own_cells {w : World} {base : Nat} {e : TypeId} {z n : Nat} {g c len : Nat} {xs : List Value} (h : w.ownsRow base e z (.slice (some ⟨g, 0, none⟩) len c) n xs) :
    len = n ∧ ∀ j, j < n * z → w.cell? ⟨g, j, none⟩ = xs[j]? ∧ w.frozen? ⟨g, j, none⟩ = false := by
  obtain ⟨hl, hh⟩ := h
  rcases hh with ⟨h0, _⟩ | ⟨g', cap, cur, h0, _, hg, hn, hm, hs, hx⟩
  · cases h0
  · injection h0 with h1 h2 h3
    injection h1 with h1
    injection h1 with h1
    subst h1; subst h2; subst h3
    refine ⟨rfl, fun j hj => ⟨?_, frozen_of_row w g j cur e hg⟩⟩
    rw [cell_of_row w g j cur e (0, 0) hg, ← hx, List.getElem?_take_of_lt hj]
    simp

section
variable {K : Ctx} {st : St} {a : Act} {w : World} {p : Pl}

theorem loadA_sound (R : Rel K st a w p) {P : Program} {t : TypeId} {y x : AV} (h : loadA P st t y = some x) {u : Value} (hu : RA w (okc K w p) p y u) :
    ∃ v, (Instr.loadAt t u).run P w = .ok v w ∧ RA w (okc K w p) p x v := by
  cases hu with
  | ptr hn =>
    rename_i n o
    simp only [loadA] at h
    cases hb : get st.box n with
    | none => simp [hb] at h
    | some cs =>
      simp only [hb, Option.bind_some] at h
      obtain ⟨⟨vs, ty, hg, hl, hr, h1⟩, _⟩ := R.box n cs hb
      simp only [Instr.loadAt, Instr.sureAddr, Sem.run_bind, Sem.run_pure, Result.andThen]
      have := partA_load (a := ⟨p.bx n, 0, none⟩) h (w := w) (ok := okc K w p) (p := p) (fun j => vs.getD j undef) (fun j hj => by
        rw [add_blk, Nat.zero_add, cell_of_row w _ j vs ty _ hg]; simp [show j < vs.size by omega]) (fun j c hc => by
        have hj : j < vs.size := by have := (List.getElem?_eq_some_iff.1 hc).1; omega
        exact hr j c _ hc (by simp [hj])) (fun j hj => h1 j _ (by simp [show j < vs.size by omega]))
      rw [add_blk, Nat.zero_add] at this
      exact this
  | cptr vs hok hcell hd =>
    rename_i row o b
    simp only [loadA] at h
    simp only [Instr.loadAt, Instr.sureAddr, Sem.run_bind, Sem.run_pure, Result.andThen]
    refine partA_load h vs (fun j hj => hcell j (by simpa using hj)) (fun j c hc => ?_) (fun j hj => ?_)
    · rw [List.getElem?_map] at hc
      cases hx : row[j]? with
      | none => simp [hx] at hc
      | some x => simp [hx] at hc; subst hc; exact .d (hd j x hx)
    · have hj' : j < row.length := by simpa using hj
      exact (hd j row[j] (List.getElem?_eq_getElem hj')).one
  | vptr hn hv =>
    rename_i n z i o g c len
    simp only [loadA] at h
    cases hb : get st.vec n with
    | none => simp [hb] at h
    | some s =>
      simp only [hb, Option.bind_some] at h
      split at h
      case isFalse => cases h
      rename_i hz
      cases hrow : s.rows[i]? with
      | none => simp [hrow] at h
      | some row =>
        simp only [hrow, Option.bind_some] at h
        obtain ⟨hat, hzs, _⟩ := R.vec n s hb
        obtain ⟨xs, hown, hd⟩ := hat.row (hat.sl hv)
        rw [hv] at hown
        obtain ⟨hlen, hcl⟩ := own_cells hown
        have hrl : row.length = s.z := hzs row (List.mem_of_getElem? hrow)
        have hi : i < s.rows.length := (List.getElem?_eq_some_iff.1 hrow).1
        have hbd : ∀ j, j < s.z → i * s.z + j < s.rows.length * s.z := fun j hj => by
          have : (i + 1) * s.z ≤ s.rows.length * s.z := Nat.mul_le_mul_right _ hi
          rw [Nat.add_mul] at this; omega
        simp only [Instr.loadAt, Instr.sureAddr, Sem.run_bind, Sem.run_pure, Result.andThen]
        have := partA_load (a := ⟨g, i * z, none⟩) h (w := w) (ok := okc K w p) (p := p) (fun j => xs.getD (i * s.z + j) undef) (fun j hj => by
          have hj' : j < s.z := by simpa [hrl] using hj
          have hb' := hbd j hj'
          rw [add_blk, hz, (hcl _ hb').1]
          simp [List.getD, List.getElem?_eq_getElem (show i * s.z + j < xs.length by rw [hown.1]; exact hb')]) (fun j c hc => by
          rw [List.getElem?_map] at hc
          cases hx : row[j]? with
          | none => simp [hx] at hc
          | some x =>
            simp [hx] at hc; subst hc
            have hj' : j < s.z := by have := (List.getElem?_eq_some_iff.1 hx).1; omega
            have hxl : i * s.z + j < xs.length := by rw [hown.1]; exact hbd j hj'
            exact .d (hd (i * s.z + j) x _ (by rw [flat_get hzs hrow hj']; exact hx) (by simp [List.getD, List.getElem?_eq_getElem hxl]))) (fun j hj => by
          have hj' : j < s.z := by simpa [hrl] using hj
          have hxl : i * s.z + j < xs.length := by rw [hown.1]; exact hbd j hj'
          have hf : i * s.z + j < s.rows.flatten.length := by rw [flat_len hzs]; exact hbd j hj'
          exact (hd (i * s.z + j) _ _ (List.getElem?_eq_getElem hf) (by simp [List.getD, List.getElem?_eq_getElem hxl])).one)
        rw [add_blk] at this
        exact this
  | _ => simp [loadA] at h

end
end Go.Vl
