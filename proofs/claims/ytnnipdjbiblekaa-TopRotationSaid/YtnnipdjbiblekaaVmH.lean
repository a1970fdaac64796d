/- The value logic, part 8: the step of any operation but a call of a Go function, and its soundness. Conditions: none. -/
import Derived.Test.YtnnipdjbiblekaaVmG
set_option linter.unusedSimpArgs false
set_option linter.unusedVariables false
namespace Go.Vl
open Go Go.RowKit

def AV.toD : AV → Option D
  | .d x => some x
  | .nilS => some (.slice [])
  | .full rows => some (.slice rows)
  | _ => none
def toDs : List AV → Option (List D)
  | [] => some []
  | x :: l => x.toD.bind fun d => (toDs l).map fun r => d :: r
def chunk (z : Nat) : Nat → List D → List (List D)
  | 0, _ => []
  | n + 1, l => l.take z :: chunk z n (l.drop z)

theorem toD_rd {w : World} {ok : Nat → Prop} {p : Pl} {x : AV} {d : D} (h : x.toD = some d) {v : Value} (hv : RA w ok p x v) : RD w ok d v := by
  cases hv with
  | d hd => simp [AV.toD] at h; subst h; exact hd
  | nilS => simp [AV.toD] at h; subst h; exact .snil
  | full hd => simp [AV.toD] at h; subst h; exact hd
  | _ => simp [AV.toD] at h
theorem toDs_get : ∀ {l : List AV} {r : List D}, toDs l = some r → r.length = l.length ∧ ∀ (i : Nat) (d : D), r[i]? = some d → ∃ x, l[i]? = some x ∧ x.toD = some d
  | [], r, h => by simp [toDs] at h; subst h; exact ⟨rfl, fun i d hd => by simp at hd⟩
  | x :: l, r, h => by
    simp only [toDs] at h
    cases hx : x.toD with
    | none => simp [hx] at h
    | some d =>
      cases hl : toDs l with
      | none => simp [hx, hl] at h
      | some r' =>
        simp [hx, hl] at h; subst h
        obtain ⟨h1, h2⟩ := toDs_get hl
        refine ⟨by simp [h1], fun i d' hd => ?_⟩
        cases i with
        | zero => simp at hd; subst hd; exact ⟨x, rfl, hx⟩
        | succ i => simpa using h2 i d' (by simpa using hd)
theorem chunk_ok (z : Nat) : ∀ (n : Nat) (l : List D), l.length = n * z → (chunk z n l).length = n ∧ (chunk z n l).flatten = l ∧ ∀ r ∈ chunk z n l, r.length = z
  | 0, l, h => by have : l = [] := List.eq_nil_of_length_eq_zero (by simpa using h); subst this; simp [chunk]
  | n + 1, l, h => by
    rw [Nat.add_mul] at h
    obtain ⟨h1, h2, h3⟩ := chunk_ok z n (l.drop z) (by simp; omega)
    refine ⟨by simp [chunk, h1], by simp [chunk, h2], fun r hr => ?_⟩
    simp only [chunk, List.mem_cons] at hr
    rcases hr with rfl | hr
    · simp; omega
    · exact h3 r hr

theorem RA.names {w : World} {ok : Nat → Prop} {p : Pl} {lb lv : Nat → Bool} (hb : ∀ n, p.lb n → lb n = true) (hv : ∀ n, p.lv n → lv n = true) {x : AV} {v : Value} (h : RA w ok p x v) : x.wf lb lv = true := by
  have hL : ∀ (l : List AV), (∀ (i : Nat) (a : AV), l[i]? = some a → a.wf lb lv = true) → AV.wfL lb lv l = true := by
    intro l
    induction l with
    | nil => intro _; rfl
    | cons x l ih => intro h; simp only [AV.wfL, Bool.and_eq_true]; exact ⟨h 0 x rfl, ih fun i a ha => h (i + 1) a (by simpa using ha)⟩
  induction h with
  | agg hl hh _ ih =>
    simp only [AV.wf]
    refine hL _ fun i a ha => ?_
    exact ih i a _ ha (Array.getElem?_eq_getElem (by have := (List.getElem?_eq_some_iff.1 ha).1; omega))
  | tup hl hh ih =>
    simp only [AV.wf]
    refine hL _ fun i a ha => ?_
    exact ih i a _ ha (Array.getElem?_eq_getElem (by have := (List.getElem?_eq_some_iff.1 ha).1; omega))
  | fn hl hh ih =>
    simp only [AV.wf]
    refine hL _ fun i a ha => ?_
    exact ih i a _ ha (Array.getElem?_eq_getElem (by have := (List.getElem?_eq_some_iff.1 ha).1; omega))
  | ptr hn => simp only [AV.wf]; exact hb _ hn
  | vec hn => simp only [AV.wf]; exact hv _ hn
  | vptr hn _ => simp only [AV.wf]; exact hv _ hn
  | cut hn _ _ _ => simp only [AV.wf]; exact hv _ hn
  | cut0 hn _ => simp only [AV.wf]; exact hv _ hn
  | slen => simp [AV.wf]
  | _ => simp only [AV.wf]

section
variable {K : Ctx} {st : St} {a : Act} {w : World} {p : Pl}

/-- as setVec, where the name was not in use: nothing is scrubbed -/
theorem Rel.newVecG (R : Rel K st a w p) {d : Nat} {w' : World} {v' : Value} {s : VS} (hd : get st.vec d = none) (hg : w.grownBy w' none)
    (hat : ∀ ok' : Nat → Prop, (∀ q : Addr, okc K w p q.block → w'.cell? q = w.cell? q) → (∀ b, okc K w p b → ok' b) → VRow w' ok' s v') (hz : ∀ r ∈ s.rows, r.length = s.z)
    (hblk : v'.blk = none ∨ v'.blk = some w.heap.size) :
    Rel K { st with vec := (d, s) :: st.vec } a w' ⟨p.bx, upd p.rw d v', p.lb, fun m => m = d ∨ (m ≠ d ∧ p.lv m)⟩ := by
  have hnl : ¬ p.lv d := fun h => by have := (R.lvi d).1 h; simp [St.lv, hd] at this
  have H := R.setVecG (n := d) (d := d) (row := none) (by rw [get_del, if_pos rfl]) hg (.inl rfl) hat hz (by rcases hblk with h | h; exact .inl h; exact .inr (.inr h))
  have hsc : ∀ {x : AV} {v : Value}, RA w (okc K w p) p x v → AV.scrub d x = x := fun h => by
    unfold AV.scrub
    rw [if_pos (h.names (lb := fun _ => true) (fun _ _ => rfl) (fun n hn => by simp; intro e; exact hnl (e ▸ hn)))]
  have hdel : ∀ m, get ((d, s) :: del st.vec d) m = get ((d, s) :: st.vec) m := fun m => by
    simp only [get]
    split
    · rfl
    · rename_i e; rw [get_del, if_neg e]
  exact {
    lb := by rw [H.lb]; funext m; simp only [St.lb, get_mapv, Option.isSome_map]
    lv := by rw [H.lv]; funext m; simp only [St.lv, hdel]
    dfr := H.dfr
    nt := H.nt
    ntl := H.ntl
    ion := H.ion
    size := H.size
    os := H.os
    tape := H.tape
    output := H.output
    old := H.old
    env := fun t x h => H.env t x (by rw [get_mapv, h]; simp [hsc (R.env t x h)])
    box := fun m cs h => H.box m cs (by
      rw [get_mapv, h]
      simp only [Option.map_some]
      congr 1
      obtain ⟨⟨vs, ty, _, h2, h3, _⟩, _⟩ := R.box m cs h
      apply List.ext_getElem?
      intro i
      rw [List.getElem?_map]
      cases hc : cs[i]? with
      | none => rfl
      | some c =>
        have hi : i < vs.size := by have := (List.getElem?_eq_some_iff.1 hc).1; omega
        simp [hsc (h3 i c vs[i] hc (by simp [hi]))])
    vec := fun m s' h => H.vec m s' (by rw [hdel]; exact h)
    dbb := H.dbb
    dbv := H.dbv
    dvv := H.dvv }

theorem Rel.newVec (R : Rel K st a w p) {d : Nat} {w' : World} {v' : Value} {s : VS} {xs : List Value} (hM : s.isM = false) (hd : get st.vec d = none) (hg : w.grownBy w' none)
    (hown : w'.ownsRow 0 s.e s.z v' s.rows.length xs) (hz : ∀ r ∈ s.rows, r.length = s.z) (hrd : ∀ (j : Nat) (x : D) (v : Value), s.rows.flatten[j]? = some x → xs[j]? = some v → RD w (okc K w p) x v)
    (hblk : v'.blk = none ∨ v'.blk = some w.heap.size) :
    Rel K { st with vec := (d, s) :: st.vec } a w' ⟨p.bx, upd p.rw d v', p.lb, fun m => m = d ∨ (m ≠ d ∧ p.lv m)⟩ :=
  R.newVecG hd hg (fun _ h1 h2 => .of hM ⟨xs, hown, fun j x v hx hv => (hrd j x v hx hv).mono h1 h2⟩) hz hblk

/-- a source's cells -/
theorem src_cells (R : Rel K st a w p) {x : AV} {rows : List (List D)} (h : rowsOf st x = some rows) {v : Value} (hv : RA w (okc K w p) p x v) : ∃ b c, v = .slice b rows.length c ∧
    (rows = [] ∨ ∃ (ad : Addr) (z : Nat) (news : List Value), b = some ad ∧ news.length = rows.length * z ∧ (∀ r ∈ rows, r.length = z) ∧ (∀ (j : Nat) (u : Value), news[j]? = some u → w.cell? (ad.add j) = some u) ∧
      (∀ u ∈ news, u.oneCell' = true) ∧ ∀ (j : Nat) (d : D) (u : Value), rows.flatten[j]? = some d → news[j]? = some u → RD w (okc K w p) d u) := by
  have key : ∀ {v : Value} {b : Option Addr} {n c : Nat}, n = rows.length → RD w (okc K w p) (.slice rows) (.slice b n c) → (rows = [] ∨ ∃ (ad : Addr) (z : Nat) (news : List Value), b = some ad ∧ news.length = rows.length * z ∧ (∀ r ∈ rows, r.length = z) ∧ (∀ (j : Nat) (u : Value), news[j]? = some u → w.cell? (ad.add j) = some u) ∧
      (∀ u ∈ news, u.oneCell' = true) ∧ ∀ (j : Nat) (d : D) (u : Value), rows.flatten[j]? = some d → news[j]? = some u → RD w (okc K w p) d u) := by
    intro v b n c hn hd
    cases hd with
    | snil => exact .inl rfl
    | slice z vs hz hok hc hcell hdd =>
      rename_i ad
      have hfl := flat_len hz
      have hget : ∀ (j : Nat) (u : Value), ((List.range (rows.length * z)).map vs)[j]? = some u → j < rows.length * z ∧ u = vs j := fun j u hj => by
        rw [List.getElem?_map] at hj
        by_cases h0 : j < rows.length * z
        · rw [List.getElem?_range h0] at hj; simp at hj; exact ⟨h0, hj.symm⟩
        · rw [List.getElem?_eq_none (by simpa using h0)] at hj; simp at hj
      refine .inr ⟨ad, z, (List.range (rows.length * z)).map vs, rfl, by simp, hz, fun j u hj => ?_, fun u hu => ?_, fun j d u hd hj => ?_⟩
      · obtain ⟨h0, rfl⟩ := hget j u hj; exact hcell j (by omega)
      · obtain ⟨j, hj, rfl⟩ := List.mem_map.1 hu
        have hj' : j < rows.flatten.length := by rw [hfl]; simpa using hj
        exact (hdd j _ (List.getElem?_eq_getElem hj')).one
      · obtain ⟨h0, rfl⟩ := hget j u hj; exact hdd j d hd
  cases hv with
  | d hd =>
    rename_i x
    cases x <;> simp [rowsOf] at h
    subst h
    cases hd with
    | snil => exact ⟨_, _, rfl, .inl rfl⟩
    | slice z vs hz hok hc hcell hdd => exact ⟨_, _, rfl, key (v := .nilFunc) rfl (.slice z vs hz hok hc hcell hdd)⟩
  | nilS => simp [rowsOf] at h; subst h; exact ⟨_, _, rfl, .inl rfl⟩
  | full hd => simp [rowsOf] at h; subst h; exact ⟨_, _, rfl, key (v := .nilFunc) rfl hd⟩
  | vec hn =>
    rename_i n
    simp only [rowsOf] at h
    cases hs : get st.vec n with
    | none => simp [hs] at h
    | some s =>
      simp only [hs, Option.bind_some] at h
      split at h
      · cases h
      rename_i hM
      cases h
      obtain ⟨hat, hz, hmine⟩ := R.vec n s hs
      obtain ⟨xs, hown, hrd⟩ := hat.row (by simpa using hM)
      rcases hown.2 with ⟨h0, h1⟩ | ⟨g, cap, cur, h0, _, _, _, _, _, _⟩
      · exact ⟨none, 0, by rw [h0, h1], .inl (List.eq_nil_of_length_eq_zero h1)⟩
      · refine ⟨_, _, h0, .inr ⟨⟨g, 0, none⟩, s.z, xs, rfl, hown.1, hz, fun j u hu => ?_, fun u hu => ?_, hrd⟩⟩
        · rw [h0] at hown
          have hj : j < s.rows.length * s.z := by have := (List.getElem?_eq_some_iff.1 hu).1; rw [hown.1] at this; exact this
          rw [add_blk, Nat.zero_add, ((own_cells hown).2 j hj).1]; exact hu
        · obtain ⟨j, hj, rfl⟩ := List.getElem_of_mem hu
          have hj' : j < s.rows.flatten.length := by rw [flat_len hz, ← hown.1]; exact hj
          exact (hrd j _ _ (List.getElem?_eq_getElem hj') (List.getElem?_eq_getElem hj)).one
  | cut hn hv ho hle =>
    rename_i n z lo k o g c len
    simp only [rowsOf] at h
    cases hs : get st.vec n with
    | none => simp [hs] at h
    | some s =>
      simp only [hs, Option.bind_some] at h
      split at h
      · cases h
      rename_i hM
      split at h
      case isFalse => cases h
      rename_i hh
      obtain ⟨hlk, rfl⟩ := hh
      cases h
      obtain ⟨hat, hz, hmine⟩ := R.vec n s hs
      obtain ⟨xs, hown, hrd⟩ := hat.row (by simpa using hM)
      have hlen : ((s.rows.drop lo).take k).length = k := by rw [List.length_take, List.length_drop, Nat.min_eq_left (by omega)]
      rw [hlen]
      refine ⟨_, _, rfl, ?_⟩
      by_cases hk : k = 0
      · left; subst hk; simp
      right
      have ho' := ho.1.resolve_left hk
      subst ho'
      have hfl : ((s.rows.drop lo).take k).flatten = (s.rows.flatten.drop (lo * s.z)).take (k * s.z) := by rw [flat_take (fun r hr => hz r (List.mem_of_mem_drop hr)), flat_drop hz]
      rw [hv] at hown
      have hmul : (lo + k) * s.z ≤ s.rows.length * s.z := Nat.mul_le_mul_right _ hlk
      rw [Nat.add_mul] at hmul
      have hxl : xs.length = s.rows.length * s.z := hown.1
      refine ⟨⟨g, lo * s.z, none⟩, s.z, (xs.drop (lo * s.z)).take (k * s.z), rfl, by simp; omega, fun r hr => hz r (List.mem_of_mem_drop (List.mem_of_mem_take hr)), fun j u hu => ?_, fun u hu => ?_, fun j d u hd hu => ?_⟩
      · rw [List.getElem?_take] at hu
        split at hu
        case isFalse => cases hu
        rename_i hj
        rw [List.getElem?_drop] at hu
        rw [add_blk, ((own_cells hown).2 (lo * s.z + j) (by omega)).1]; exact hu
      · have hu' := List.mem_of_mem_drop (List.mem_of_mem_take hu)
        obtain ⟨j, hj, rfl⟩ := List.getElem_of_mem hu'
        have hj' : j < s.rows.flatten.length := by rw [flat_len hz, ← hown.1]; exact hj
        exact (hrd j _ _ (List.getElem?_eq_getElem hj') (List.getElem?_eq_getElem hj)).one
      · rw [hfl, List.getElem?_take] at hd
        rw [List.getElem?_take] at hu
        split at hd
        case isFalse => cases hd
        rename_i hj
        rw [if_pos hj, List.getElem?_drop] at hu
        rw [List.getElem?_drop] at hd
        exact hrd _ d u hd hu
  | cut0 hn hv =>
    rename_i n z
    simp only [rowsOf] at h
    cases hs : get st.vec n with
    | none => simp [hs] at h
    | some s =>
      simp only [hs, Option.bind_some] at h
      split at h
      · cases h
      split at h
      case isFalse => cases h
      cases h
      exact ⟨none, 0, by simp, .inl (by simp)⟩
  | _ => simp [rowsOf] at h

theorem append_zero {P : Program} {t ty e : TypeId} {z : Nat} (ht : P.underlying t = some (.slice e)) (hz : szOf P e = some z) (b0 b : Option Addr) (n0 c0 c : Nat) (h : n0 ≤ c0) (w : World) :
    (Builtin.append_ #[t, t] ty #[.slice b0 n0 c0, .slice b 0 c]).run P w = .ok (.slice b0 n0 c0) w := by
  have hi : ∃ i, P.info? e = some i := by
    unfold szOf at hz
    cases hi : P.info? e with
    | none => simp [hi] at hz
    | some i => exact ⟨i, rfl⟩
  obtain ⟨i, hi⟩ := hi
  cases b <;> cases b0 <;> simp [Builtin.append_, run_underlying ht, sizeOf, typeInfo, hi, Builtin.lenOf, Builtin.firstCells, h, loadCells, loadCellsFrom, storeCells]
end

/-! The step -/
def byOk (P : Program) (e : TypeId) : Bool := match P.info? e with | some i => i.bytes ≤ 65536 | none => false
def vput (P : Program) (st : St) (o : Oper) : Option St :=
  (vstep P st o).bind fun x => match o.dst with | some d => if d < st.nt then some (st.put d x) else none | none => some st
def allocA (P : Program) (st : St) (d : Nat) (cs : List AV) : Option St :=
  match get st.box d with
  | some _ => none
  | none => if d < st.nt then some (St.put { st with box := (d, cs) :: st.box } d (.ptr d 0)) else none
def buildSA (P : Program) (st : St) (d : Nat) (t : TypeId) (n : Nat) (parts : List (Nat × AV)) : Option St :=
  match P.underlying t with
  | some (.slice e) => (zerOf P e).bind fun zs => let z := zs.length
    if n * z ≤ 16777216 ∧ n ≤ 16777216 ∧ d < st.nt ∧ e < 1000000 then
      (fillA (fun i => some (i * z, z)) (List.replicate (n * z) .undef) parts).bind fun r => (toDs r).bind fun ds =>
        match get st.vec d with
        | none => some (St.put { st with vec := (d, ⟨e, z, chunk z n ds⟩) :: st.vec } d (.vec d))
        | some _ => none
    else none
  | _ => none
def setA (cs l : List AV) (o : Nat) : List AV := cs.take o ++ (l ++ cs.drop (o + l.length))
def storeA (P : Program) (st : St) (t : TypeId) (x y : AV) : Option St :=
  (cellsA y).bind fun l => if szOf P t = some l.length then match x with
    | .ptr n o => (get st.box n).bind fun cs => if o + l.length ≤ cs.length then some { st with box := (n, setA cs l o) :: st.box } else none
    | .vptr n z i o => (get st.vec n).bind fun s => (s.rows[i]?).bind fun row => (toDs l).bind fun ds =>
        if z = s.z ∧ o + ds.length ≤ row.length then some { st with vec := (n, { s with rows := s.rows.set i (row.take o ++ (ds ++ row.drop (o + ds.length))) }) :: st.vec } else none
    | _ => none else none
def appA (P : Program) (st : St) (d : Nat) (t t' : TypeId) (x y : AV) : Option St :=
  if t = t' ∧ d < st.nt then match P.underlying t with
    | some (.slice e) => (zerOf P e).bind fun zs => let z := zs.length
      (rowsOf st y).bind fun ys => if 0 < z ∧ byOk P e = true ∧ e < 1000000 ∧ ∀ r ∈ ys, r.length = z then
        match x with
        | .nilS => if ys.length ≤ 268435456 then (match get st.vec d with
          | none => some (St.put { st with vec := (d, ⟨e, z, ys⟩) :: st.vec } d (.vec d))
          | some _ => none) else none
        | .cut n z' lo k => if lo = 0 ∧ z' = z then (get st.vec n).bind fun s => if s.e = e ∧ s.z = z ∧ k ≤ s.rows.length ∧ k + ys.length ≤ 268435456 ∧ (d = n ∨ (get st.vec d).isNone = true) then
            some (St.put { nt := st.nt, env := mapv (AV.scrub n) st.env, box := mapv (List.map (AV.scrub n)) st.box, vec := (d, { s with rows := s.rows.take k ++ ys }) :: del st.vec n } d (.vec d)) else none else none
        | .vec n => (get st.vec n).bind fun s => if s.e = e ∧ s.z = z ∧ s.rows.length + ys.length ≤ 268435456 ∧ (d = n ∨ (get st.vec d).isNone = true) then
            some (St.put { nt := st.nt, env := mapv (AV.scrub n) st.env, box := mapv (List.map (AV.scrub n)) st.box, vec := (d, { s with rows := s.rows ++ ys }) :: del st.vec n } d (.vec d)) else none
        | .full xs => if xs.length + ys.length ≤ 268435456 ∧ 0 < ys.length ∧ ∀ r ∈ xs, r.length = z then (match get st.vec d with
          | none => some (St.put { st with vec := (d, ⟨e, z, xs ++ ys⟩) :: st.vec } d (.vec d))
          | some _ => none) else none
        | _ => none
      else none
    | _ => none
  else none
/- what a constant is as data -/
mutual
def AV.fin0 : AV → AV
  | .nilS => .d (.slice [])
  | .agg l => .agg (AV.fin0L l)
  | x => x
def AV.fin0L : List AV → List AV
  | [] => []
  | x :: l => AV.fin0 x :: AV.fin0L l
end
theorem fin0L_eq : ∀ l : List AV, AV.fin0L l = l.map AV.fin0
  | [] => rfl
  | x :: l => by simp [AV.fin0L, fin0L_eq l]
theorem RA.fin0 {w : World} {ok : Nat → Prop} {p : Pl} {x : AV} {v : Value} (h : RA w ok p x v) : RA w ok p x.fin0 v := by
  induction h with
  | undef => simp only [AV.fin0]; exact .undef
  | d h => simp only [AV.fin0]; exact .d h
  | nilS => simp only [AV.fin0]; exact .d .snil
  | full h => simp only [AV.fin0]; exact .full h
  | agg hl _ h1 ih =>
    simp only [AV.fin0, fin0L_eq]
    refine .agg (by simpa using hl) (fun i a v ha hv' => ?_) h1
    simp only [List.getElem?_map, Option.map_eq_some_iff] at ha
    obtain ⟨q, hq, rfl⟩ := ha
    exact ih i q v hq hv'
  | tup hl h => simp only [AV.fin0]; exact .tup hl h
  | ptr hm => simp only [AV.fin0]; exact .ptr hm
  | cptr vs h1 h2 h3 => simp only [AV.fin0]; exact .cptr vs h1 h2 h3
  | vec hm => simp only [AV.fin0]; exact .vec hm
  | vptr h1 h2 => simp only [AV.fin0]; exact .vptr h1 h2
  | cut h1 h2 h3 h4 => simp only [AV.fin0]; exact .cut h1 h2 h3 h4
  | cut0 h1 h2 => simp only [AV.fin0]; exact .cut0 h1 h2
  | slen => simp only [AV.fin0]; exact .slen
  | fn hl h => simp only [AV.fin0]; exact .fn hl h
/-! Maps -/
/-- two keys are one -/
def kEqA (P : Program) (kt : TypeId) (ka : Bool) (k : AV) (ds : List D) : Option Bool :=
  if ka = true then (match k with | .agg l => eqA P kt l (ds.map .d) | _ => none)
  else match ds with | [d] => eqCell P kt k (.d d) | _ => none
def isIntD : AV → Bool
  | .d (.int _ _) => true
  | _ => false
/-- a key that can be looked up: a number, a string, a truth value, an array of numbers -/
def keyB (P : Program) (kt : TypeId) (ka : Bool) (k : AV) : Bool :=
  if ka = true then (match P.underlying kt, k with
    | some (.array n e), .agg l => decide (l.length = n) && decide (szOf P e = some 1) && (match P.underlying e with | some (.int _) => true | _ => false) && l.all isIntD
    | _, _ => false)
  else match P.underlying kt, k with
    | some (.int _), .d (.int _ _) => true
    | some .string, .d (.str _) => true
    | some .bool, .d (.bool _) => true
    | _, _ => false
/-- the first entry with a key: its place and its value -/
def findM (P : Program) (kt : TypeId) (ka : Bool) (kz : Nat) (k : AV) : List (List D) → Option (Option (Nat × List D))
  | [] => some none
  | r :: rs => (kEqA P kt ka k (r.take kz)).bind fun b => if b = true then some (some (0, r.drop kz)) else (findM P kt ka kz k rs).map fun o => o.map fun q => (q.1 + 1, q.2)
def packMA (ag : Bool) (ds : List D) : Option AV := if ag = true then some (.agg (ds.map .d)) else match ds with | [d] => some (.d d) | _ => none
def unpackMA (ag : Bool) (x : AV) : Option (List D) := if ag = true then (match x with | .agg l => toDs l | _ => none) else match x with | .agg _ | .tup _ => none | x => x.toD.map fun d => [d]
def zeroV (P : Program) (t : TypeId) : Option AV := ((P.info? t).bind (·.zero)).map fun z => AV.fin0 (AV.ofConst z)
def lookR (P : Program) (et : TypeId) (va ok : Bool) (o : Option (Nat × List D)) : Option AV :=
  (match o with | some q => packMA va q.2 | none => zeroV P et).map fun v => if ok = true then .tup [v, .d (.bool o.isSome)] else v
def setR (rows : List (List D)) (row : List D) : Option (Nat × List D) → List (List D)
  | some q => rows.set q.1 row
  | none => rows ++ [row]
def delR (rows : List (List D)) : Option (Nat × List D) → List (List D)
  | some q => rows.eraseIdx q.1
  | none => rows
def lookA (P : Program) (st : St) (t : TypeId) (x k : AV) (ok : Bool) : Option AV :=
  match P.underlying t, x with
  | some (.map kt et), .vec n => (get st.vec n).bind fun s => if s.isM = true ∧ keyB P kt s.ka k = true then (findM P kt s.ka s.kz k s.rows).bind fun o =>
      lookR P et s.va ok o else none
  | _, _ => none
def updA (P : Program) (st : St) (t : TypeId) (x k v : AV) : Option St :=
  match P.underlying t, x with
  | some (.map kt _), .vec n => (get st.vec n).bind fun s => if s.isM = true ∧ keyB P kt s.ka k = true then (unpackMA s.ka k).bind fun kd => (unpackMA s.va v).bind fun vd =>
      if kd.length = s.kz ∧ s.kz + vd.length = s.z then (findM P kt s.ka s.kz k s.rows).bind fun o =>
        some { st with vec := (n, { s with rows := setR s.rows (kd ++ vd) o }) :: st.vec } else none else none
  | _, _ => none
def delA (P : Program) (st : St) (t : TypeId) (x k : AV) : Option St :=
  match P.underlying t, x with
  | some (.map kt _), .vec n => (get st.vec n).bind fun s => if s.isM = true ∧ keyB P kt s.ka k = true then (findM P kt s.ka s.kz k s.rows).bind fun o =>
        some { st with vec := (n, { s with rows := delR s.rows o }) :: st.vec } else none
  | _, _ => none
def lenM (P : Program) (st : St) (t : TypeId) (x : AV) : Option Int :=
  match P.underlying t, x with
  | some (.map _ _), .vec n => (get st.vec n).bind fun s => if s.isM = true then some (s.rows.length : Int) else none
  | _, _ => none
def hintB : Option AV → Bool
  | none => true
  | some x => (intOfA x).isSome
def mkMA (P : Program) (st : St) (d : Nat) (t : TypeId) (r : Option AV) : Option St :=
  match P.underlying t with
  | some (.map kt et) => (szOf P kt).bind fun kz => (szOf P et).bind fun vz =>
    if kz < 64 ∧ d < st.nt ∧ hintB r = true then
      match get st.vec d with
      | none => some (St.put { st with vec := (d, ⟨mTag t kz (isAggB P kt) (isAggB P et), kz + vz, []⟩) :: st.vec } d (.vec d))
      | some _ => none
    else none
  | _ => none
def putO (st : St) (dst : Option Nat) (x : AV) : Option St := match dst with | some d => if d < st.nt then some (st.put d x) else none | none => some st
/-- make of a slice -/
def mkSA (P : Program) (st : St) (d : Nat) (t : TypeId) (l c : AV) : Option St :=
  match P.underlying t with
  | some (.slice e) => (intOfA l).bind fun l => (intOfA c).bind fun c => (zerOf P e).bind fun zs => (toDs zs).bind fun ds =>
    if 0 ≤ l ∧ l = c ∧ c ≤ 268435456 ∧ 0 < zs.length ∧ byOk P e = true ∧ e < 1000000 ∧ d < st.nt then
      match get st.vec d with
      | none => some (St.put { st with vec := (d, ⟨e, zs.length, List.replicate l.toNat ds⟩) :: st.vec } d (.vec d))
      | some _ => none
    else none
  | _ => none
/-- copy into an owned row: the row's name, where, how many places -/
def cpTo (st : St) : AV → Option (Nat × Nat × Nat)
  | .vec n => (get st.vec n).map fun s => (n, 0, s.rows.length)
  | .cut n z lo k => (get st.vec n).bind fun s => if z = s.z then some (n, lo, k) else none
  | _ => none
def cpA (P : Program) (st : St) (dst : Option Nat) (t : TypeId) (x y : AV) : Option St :=
  match P.underlying t with
  | some (.slice e) => (cpTo st x).bind fun q => (get st.vec q.1).bind fun s => (rowsOf st y).bind fun ys =>
    if s.isM = true then none else if szOf P e = some s.z ∧ 0 < s.z ∧ q.2.1 + q.2.2 ≤ s.rows.length ∧ ∀ r ∈ ys, r.length = s.z then
      let m := min q.2.2 ys.length
      let st1 := { st with vec := (q.1, { s with rows := s.rows.take q.2.1 ++ (ys.take m ++ s.rows.drop (q.2.1 + m)) }) :: st.vec }
      match dst with
      | some d => if d < st.nt then some (St.put st1 d (.d (.int .i64 m))) else none
      | none => some st1
    else none
  | _ => none
def step (P : Program) (st : St) (o : Oper) : Option St :=
  match o.op with
  | .alloc t => o.dst.bind fun d => (zerOf P t).bind fun z => allocA P st d z
  | .box _ x => o.dst.bind fun d => (cellsA (opd st x)).bind fun l => allocA P st d l
  | .buildSlice t n parts => o.dst.bind fun d => buildSA P st d t n (parts.toList.map fun (i, x) => (i, opd st x))
  | .store t x y => match o.dst with | none => storeA P st t (opd st x) (opd st y) | some _ => none
  | .call c => match c.callee, c.args.toList, c.argTypes.toList with
    | .builtin .append, [x, y], [t, t'] => o.dst.bind fun d => appA P st d t t' (opd st x) (opd st y)
    | .builtin .copy, [x, y], [t, _] => cpA P st o.dst t (opd st x) (opd st y)
    | .builtin .delete, [x, y], [t, _] => (delA P st t (opd st x) (opd st y)).bind fun st => putO st o.dst (.tup [])
    | .builtin .len, [x], [t] => match lenM P st t (opd st x) with | some n => putO st o.dst (.d (.int .i64 n)) | none => vput P st o
    | _, _, _ => vput P st o
  | .makeSlice t l c => o.dst.bind fun d => mkSA P st d t (opd st l) (opd st c)
  | .makeMap t r => o.dst.bind fun d => mkMA P st d t (r.map (opd st))
  | .lookup t x k ok => (lookA P st t (opd st x) (opd st k) ok).bind fun v => putO st o.dst v
  | .mapUpdate t x k v => match o.dst with | none => updA P st t (opd st x) (opd st k) (opd st v) | some _ => none
  | .insert t x k v => match o.dst with | none => updA P st t (opd st x) (opd st k) (opd st v) | some _ => none
  | _ => vput P st o

section
variable {K : Ctx} {st : St} {a : Act} {w : World} {p : Pl} {P : Program}

/-- what a step leaves -/
def Stepped (P : Program) (K : Ctx) (st' : St) (o : Oper) (a : Act) (w : World) : Prop :=
  ∃ w' p', (∃ v, (execOp a.eval o).run P w = .ok (.value v) w' ∧ Rel K st' (a.put o.dst v) w' p') ∨ ((execOp a.eval o).run P w = .ok .skip w' ∧ Rel K st' (a.put o.dst undef) w' p')

theorem vput_sound (R : Rel K st a w p) {o : Oper} {st' : St} (h : vput P st o = some st') : Stepped P K st' o a w := by
  unfold vput at h
  cases hv : vstep P st o with
  | none => simp [hv] at h
  | some x =>
    simp only [hv, Option.bind_some] at h
    obtain ⟨v, h1, h2⟩ := vstep_sound R hv
    exact ⟨w, p, .inl ⟨v, h1, R.puto h2 h⟩⟩

theorem putPtr (R : Rel K st a w p) {d : Nat} {cs : List AV} {vs : Array Value} {ty : TypeId} {st' : St} (h : allocA P st d cs = some st') (hl : vs.size = cs.length) (hr : ∀ (i : Nat) (c : AV) (v : Value), cs[i]? = some c → vs[i]? = some v → RA w (okc K w p) p c v)
    (h1 : ∀ (i : Nat) (v : Value), vs[i]? = some v → v.oneCell' = true) : ∃ p', Rel K st' (a.put (some d) (.pointer (some ⟨w.heap.size, 0, none⟩))) (w.alloc (.cells vs ty)) p' := by
  unfold allocA at h
  cases hb : get st.box d with
  | some _ => simp [hb] at h
  | none =>
    simp only [hb] at h
    split at h
    case isFalse => cases h
    rename_i hd
    cases h
    have R' := R.newBox (ty := ty) (Nat.lt_of_lt_of_le hd R.ntl) hb hl hr h1
    exact ⟨_, R'.put (RA.ptr_at (Or.inl rfl) (upd_same _ _ _)) hd⟩

theorem setA_get {cs l : List AV} {o : Nat} (hle : o + l.length ≤ cs.length) (i : Nat) : (setA cs l o)[i]? = if i < o then cs[i]? else if i < o + l.length then l[i - o]? else cs[i]? := by
  simp only [setA, List.getElem?_append, List.length_take, List.getElem?_take, List.getElem?_drop]
  by_cases h1 : i < o
  · rw [if_pos (by omega), if_pos h1, if_pos h1]
  · rw [if_neg (by omega), if_neg h1]
    have e1 : i - min o cs.length = i - o := by omega
    rw [e1]
    by_cases h2 : i < o + l.length
    · rw [if_pos (by omega), if_pos h2]
    · rw [if_neg (by omega), if_neg h2]; congr 1; omega

end
end Go.Vl
