/- The value logic, part 9: the soundness of the step. Conditions: none. -/
import Derived.Test.YtnnipdjbiblekaaVmH
set_option linter.unusedSimpArgs false
set_option linter.unusedVariables false
namespace Go.Vl
open Go Go.RowKit

section
variable {K : Ctx} {st : St} {a : Act} {w : World} {p : Pl} {P : Program}

theorem allocOp_sound (R : Rel K st a w p) {o : Oper} {t : TypeId} (ho : o.op = .alloc t) {d : Nat} (hd : o.dst = some d) {z : List AV} (hz : zerOf P t = some z) {st' : St} (h : allocA P st d z = some st') : Stepped P K st' o a w := by
  obtain ⟨i, v, hi, hv, hsz, rfl, h1⟩ := zerOf_some hz
  obtain ⟨p', R'⟩ := putPtr (ty := t) R h (vs := v.cells) (by simp) (fun i c u hc hu => zer_ra v.cells i c u hc hu) h1
  refine ⟨_, p', .inl ⟨_, ?_, by rw [hd]; exact R'⟩⟩
  simp [execOp, ho, Instr.alloc, zeroValue, typeInfo, hi, hv, newVar, newRow]

theorem boxOp_sound (R : Rel K st a w p) {o : Oper} {t : TypeId} {x : Operand} (ho : o.op = .box t x) {d : Nat} (hd : o.dst = some d) {l : List AV} (hl : cellsA (opd st x) = some l) {st' : St} (h : allocA P st d l = some st') : Stepped P K st' o a w := by
  obtain ⟨g1, g2, g3⟩ := (R.opd x).one hl R.rwone
  obtain ⟨p', R'⟩ := putPtr (ty := t) R h (vs := (a.eval x).cells) g1 g2 g3
  refine ⟨_, p', .inl ⟨_, ?_, by rw [hd]; exact R'⟩⟩
  simp [execOp, ho, Instr.box, newVar, newRow]

theorem isM_lt {e z : Nat} {rows : List (List D)} (h : e < 1000000) : VS.isM ⟨e, z, rows⟩ = false := by
  unfold VS.isM
  exact decide_eq_false (Nat.not_le.2 h)
theorem get_top {α : Type} {l : List (Nat × α)} {n : Nat} {s : α} (h : get l n = some s) (m : Nat) : get ((n, s) :: l) m = get l m := by
  simp only [get]
  split
  · rename_i e; subst e; exact h.symm
  · rfl
theorem Rel.eqv' {st' : St} (R : Rel K st a w p) (he : ∀ t, get st'.env t = get st.env t) (hb : ∀ n, get st'.box n = get st.box n) (hv : ∀ n, get st'.vec n = get st.vec n) (hn : st'.nt = st.nt := by rfl) : Rel K st' a w p where
  lb := by rw [R.lb]; funext n; simp [St.lb, hb]
  lv := by rw [R.lv]; funext n; simp [St.lv, hv]
  dfr := R.dfr
  nt := by rw [R.nt, hn]
  ntl := by rw [hn]; exact R.ntl
  ion := R.ion
  size := R.size
  os := R.os
  tape := R.tape
  output := R.output
  old := R.old
  env := fun t x h => R.env t x (by rw [← he, h])
  box := fun n cs h => R.box n cs (by rw [← hb, h])
  vec := fun n s h => R.vec n s (by rw [← hv, h])
  dbb := R.dbb
  dbv := R.dbv
  dvv := R.dvv
theorem buildS_sound (R : Rel K st a w p) {o : Oper} {t : TypeId} {n : Nat} {parts : Array (Nat × Operand)} (ho : o.op = .buildSlice t n parts) {d : Nat} (hd : o.dst = some d) {st' : St}
    (h : buildSA P st d t n (parts.toList.map fun (i, x) => (i, opd st x)) = some st') : Stepped P K st' o a w := by
  unfold buildSA at h
  split at h
  case h_2 => cases h
  rename_i e hu
  cases hz : zerOf P e with
  | none => simp [hz] at h
  | some zs =>
    simp only [hz, Option.bind_some] at h
    split at h
    case isFalse => cases h
    rename_i hb
    obtain ⟨hb1, hb0, hb2, he6⟩ := hb
    obtain ⟨i, v, hi, hv, hsz, hzs, h1⟩ := zerOf_some hz
    have hzl : zs.length = i.size := by rw [hzs]; simp [hsz]
    cases hf : fillA (fun i => some (i * zs.length, zs.length)) (List.replicate (n * zs.length) .undef) (parts.toList.map fun (i, x) => (i, opd st x)) with
    | none => rw [hf] at h; simp at h
    | some r =>
      rw [hf] at h
      simp only [Option.bind_some] at h
      cases hds : toDs r with
      | none => simp [hds] at h
      | some ds =>
        simp only [hds, Option.bind_some] at h
        cases hvd : get st.vec d with
        | some _ => simp [hvd] at h
        | none =>
          simp only [hvd] at h
          cases h
          -- the cells before they are filled
          have hparts : ∀ (j : Nat) (i k : Nat) (x : AV) (v : Value), (parts.toList.map fun (i, x) => (i, opd st x))[j]? = some (i, x) → (parts.map fun (i, x) => (i, a.eval x)).toList[j]? = some (k, v) → i = k ∧ RA w (okc K w p) p x v := by
            intro j i k x v hj hk
            rw [Array.toList_map, List.getElem?_map] at hk
            rw [List.getElem?_map] at hj
            cases hq : parts.toList[j]? with
            | none => simp [hq] at hj
            | some q =>
              obtain ⟨q1, q2⟩ := q
              simp [hq] at hj hk
              obtain ⟨rfl, rfl⟩ := hj
              obtain ⟨rfl, rfl⟩ := hk
              exact ⟨rfl, R.opd _⟩
          let z0 : Array Value := if n * i.size = 0 then #[] else v.cells
          have hz1 : ∀ (j : Nat) (u : Value), ((Array.range (n * i.size)).map (fun x => z0[x % z0.size]!))[j]? = some u → u.oneCell' = true := by
            intro j u hj
            rw [Array.getElem?_map] at hj
            by_cases h0 : j < n * i.size
            · simp only [Array.getElem?_range, h0, if_true, Option.map_some] at hj
              cases hj
              have hne : ¬ (n * i.size = 0) := by omega
              have hpos : 0 < i.size := Nat.pos_of_ne_zero (fun e => hne (by rw [e, Nat.mul_zero]))
              have hz0 : z0 = v.cells := if_neg hne
              rw [hz0]
              have hlt : j % v.cells.size < v.cells.size := Nat.mod_lt _ (by omega)
              rw [getElem!_pos v.cells _ hlt]
              exact h1 _ _ (Array.getElem?_eq_getElem hlt)
            · simp only [Array.getElem?_range, h0, if_false, Option.map_none] at hj; cases hj
          obtain ⟨cs', c1, c2, c3, c4⟩ := fillA_sound (w := w) (ok := okc K w p) (p := p) R.rwone (cs := (Array.range (n * i.size)).map (fun x => z0[x % z0.size]!)) hf (vals := (parts.map fun (i, x) => (i, a.eval x)).toList) (by simp) hparts (by simp [hzl])
            (fun j a u ha hu => by
              rw [List.getElem?_replicate] at ha
              split at ha
              · cases ha; exact .undef
              · cases ha) hz1
          obtain ⟨t1, t2⟩ := toDs_get hds
          have hrl : r.length = n * zs.length := by
            have hfl : ∀ (pts : List (Nat × AV)) (cells r : List AV), fillA (fun i => some (i * zs.length, zs.length)) cells pts = some r → r.length = cells.length := by
              intro pts
              induction pts with
              | nil => intro cells r h; simp [fillA] at h; rw [h]
              | cons q pts ih =>
                intro cells r h
                obtain ⟨q1, q2⟩ := q
                simp only [fillA] at h
                cases hc : cellsA q2 with
                | none => simp [hc] at h
                | some l =>
                  simp only [hc, Option.bind_some] at h
                  split at h
                  · rename_i hh
                    have := ih _ _ h
                    rw [this]; simp; omega
                  · cases h
            have := hfl _ _ _ hf
            simpa using this
          obtain ⟨k1, k2, k3⟩ := chunk_ok zs.length n ds (by rw [t1, hrl])
          have hlen : cs'.size = n * zs.length := by rw [c2, hrl]
          have hown : (w.alloc (.cells cs' e)).ownsRow 0 e zs.length (.slice (some ⟨w.heap.size, 0, none⟩) n n) n cs'.toList :=
            World.ownsRow_lit w cs' n (Nat.zero_le _) (by simp only [maxLen]; omega) hlen
          have R' := R.newVec (d := d) (s := ⟨e, zs.length, chunk zs.length n ds⟩) (xs := cs'.toList) (isM_lt he6) hvd (World.grownBy_alloc w _ none) (by rw [k1]; exact hown) k3 (fun j x u hx hu => by
            rw [k2] at hx
            obtain ⟨y, hy, hyd⟩ := t2 j x hx
            exact toD_rd hyd (c3 j y u hy (by rw [← Array.getElem?_toList]; exact hu))) (.inr rfl)
          refine ⟨_, _, .inl ⟨.slice (some ⟨w.heap.size, 0, none⟩) n n, ?_, by rw [hd]; exact R'.put (RA.vec_at (Or.inl rfl) (upd_same _ _ _)) hb2⟩⟩
          have hnle : ¬ (n * i.size > 2 ^ 24) := by rw [← hzl]; omega
          have hc1 : Instr.fill (fun i_1 => some (i_1 * i.size, i.size)) ((Array.range (n * i.size)).map (fun x => z0[x % z0.size]!)) (parts.map fun (i, x) => (i, a.eval x)).toList = some cs' := by rw [← hzl] at c1 ⊢; exact c1
          by_cases h0 : n * i.size = 0
          · have hz0 : z0 = #[] := if_pos h0
            rw [hz0] at hc1
            simp only [execOp, ho, Instr.buildSlice, Sem.run_bind, run_underlying hu, Result.andThen_ok, run_szOf (show szOf P e = some i.size by simp [szOf, hi]), Sem.run_ite, if_neg hnle, if_pos h0, Sem.run_pure, hc1, newRow, run_newObj, World.alloc_eq]
          · have hz0 : z0 = v.cells := if_neg h0
            rw [hz0] at hc1
            simp only [execOp, ho, Instr.buildSlice, Sem.run_bind, run_underlying hu, Result.andThen_ok, run_szOf (show szOf P e = some i.size by simp [szOf, hi]), Sem.run_ite, if_neg hnle, if_neg h0, Sem.run_pure, zeroValue, typeInfo, run_program, hi, hv, hc1, newRow, run_newObj, World.alloc_eq]

theorem splice_get {α : Type} (l m : List α) {o : Nat} (h : o + m.length ≤ l.length) (j : Nat) : (l.take o ++ m ++ l.drop (o + m.length))[j]? = if j < o then l[j]? else if j < o + m.length then m[j - o]? else l[j]? := by
  rw [List.append_assoc]
  simp only [List.getElem?_append, List.length_take, List.getElem?_take, List.getElem?_drop]
  by_cases h1 : j < o
  · rw [if_pos (by omega), if_pos h1, if_pos h1]
  · rw [if_neg (by omega), if_neg h1]
    have e1 : j - min o l.length = j - o := by omega
    rw [e1]
    by_cases h2 : j < o + m.length
    · rw [if_pos (by omega), if_pos h2]
    · rw [if_neg (by omega), if_neg h2]; congr 1; omega

theorem store_sound (R : Rel K st a w p) {o : Oper} {t : TypeId} {x y : Operand} (ho : o.op = .store t x y) (hd : o.dst = none) {st' : St} (h : storeA P st t (opd st x) (opd st y) = some st') : Stepped P K st' o a w := by
  unfold storeA at h
  cases hl : cellsA (opd st y) with
  | none => simp [hl] at h
  | some l =>
    simp only [hl, Option.bind_some] at h
    split at h
    case isFalse => cases h
    rename_i hsz
    obtain ⟨g1, g2, g3⟩ := (R.opd y).one hl R.rwone
    have hx := R.opd x
    generalize hay : a.eval y = vy at *
    have hone : ∀ v ∈ vy.cells.toList, v.oneCell' = true := fun v hv => by
      obtain ⟨j, hj, rfl⟩ := List.getElem_of_mem hv
      exact g3 j _ (by simp at hj; simp [hj])
    split at h
    · rename_i n q hq
      rw [hq] at hx
      cases hb : get st.box n with
      | none => simp [hb] at h
      | some cs =>
        simp only [hb, Option.bind_some] at h
        split at h
        case isFalse => cases h
        rename_i hle
        cases h
        obtain ⟨⟨vs, ty, h1, h2, h3, h4⟩, h5⟩ := R.box n cs hb
        generalize hax : a.eval x = ax at *
        cases hx with | ptr hn =>
        have hst := run_storeCells_at P (p.bx n) q ty vy.cells.toList 0 vs w h1 (by simp; omega) hone
        simp only [Nat.add_zero] at hst
        have hget : ∀ i, (vs.toList.take q ++ vy.cells.toList ++ vs.toList.drop (q + vy.cells.toList.length))[i]? = if i < q then vs[i]? else if i < q + l.length then vy.cells[i - q]? else vs[i]? := fun i => by
          rw [splice_get _ _ (by simp; omega)]; simp [g1]
        have R' := R.setBox (cs' := setA cs l q) (vs' := (vs.toList.take q ++ vy.cells.toList ++ vs.toList.drop (q + vy.cells.toList.length)).toArray) hb h1 (by simp [setA]; omega) (fun i c v hc hv => by
          rw [List.getElem?_toArray, hget] at hv
          rw [setA_get hle] at hc
          split at hc
          · rw [if_pos ‹_›] at hv; exact h3 i c v hc hv
          · rw [if_neg ‹_›] at hv
            split at hc
            · rw [if_pos ‹_›] at hv; exact g2 _ c v hc hv
            · rw [if_neg ‹_›] at hv; exact h3 i c v hc hv) (fun i v hv => by
          rw [List.getElem?_toArray, hget] at hv
          split at hv
          · exact h4 i v hv
          · split at hv
            · exact g3 _ v hv
            · exact h4 i v hv)
        refine ⟨_, p, .inr ⟨?_, by rw [hd]; exact R'⟩⟩
        simp only [execOp, ho, hax, hay, Instr.storeAt, Instr.sureAddr, Sem.run_bind, Sem.run_pure, Result.andThen_ok, storeVar, run_szOf hsz, g1, ne_eq, not_true_eq_false, if_false, Sem.run_ite, hst]
    · rename_i n z i q hq
      rw [hq] at hx
      cases hb : get st.vec n with
      | none => simp [hb] at h
      | some s =>
        simp only [hb, Option.bind_some] at h
        cases hrow : s.rows[i]? with
        | none => simp [hrow] at h
        | some row =>
          simp only [hrow, Option.bind_some] at h
          cases hds : toDs l with
          | none => simp [hds] at h
          | some ds =>
            simp only [hds, Option.bind_some] at h
            split at h
            case isFalse => cases h
            rename_i hh
            obtain ⟨rfl, hle⟩ := hh
            cases h
            obtain ⟨t1, t2⟩ := toDs_get hds
            obtain ⟨hat, hz, hmine⟩ := R.vec n s hb
            generalize hax : a.eval x = ax at *
            cases hx with | vptr hn hv =>
            obtain ⟨xs, hown, hrd⟩ := hat.row (hat.sl hv)
            rename_i g c len
            have hrl : row.length = s.z := hz row (List.mem_of_getElem? hrow)
            have hi : i < s.rows.length := (List.getElem?_eq_some_iff.1 hrow).1
            rcases hown.2 with ⟨h0, _⟩ | ⟨g', cap, cur, h0, hb1, hg, hb2, hb3, hb4, hb5⟩
            · rw [hv] at h0; cases h0
            rw [hv] at h0
            injection h0 with h01 h02 h03
            injection h01 with h01
            injection h01 with h01
            subst h01; subst h02; subst h03
            have hbd : i * s.z + s.z ≤ s.rows.length * s.z := by
              have : (i + 1) * s.z ≤ s.rows.length * s.z := Nat.mul_le_mul_right _ hi
              rw [Nat.add_mul] at this; omega
            have hcap : s.rows.length * s.z ≤ c * s.z := Nat.mul_le_mul_right _ hb2
            have hfit : i * s.z + q + vy.cells.size ≤ s.rows.length * s.z := by omega
            have hst := run_storeCells_at P g (i * s.z + q) s.e vy.cells.toList 0 cur w hg (by simp; omega) hone
            simp only [Nat.add_zero] at hst
            let xs' := xs.take (i * s.z + q) ++ vy.cells.toList ++ xs.drop (i * s.z + q + vy.cells.toList.length)
            have hxl : xs.length = s.rows.length * s.z := hown.1
            have hget : ∀ j, xs'[j]? = if j < i * s.z + q then xs[j]? else if j < i * s.z + q + l.length then vy.cells[j - (i * s.z + q)]? else xs[j]? := fun j => by
              simp only [xs']
              rw [splice_get _ _ (by simp; omega)]; simp [g1]
            have hz' : ∀ r ∈ s.rows.set i (row.take q ++ (ds ++ row.drop (q + ds.length))), r.length = s.z := fun r hr => by
              rcases List.mem_or_eq_of_mem_set hr with hr | rfl
              · exact hz r hr
              · simp; omega
            have hown' : (w.setRow g (cur.toList.take (i * s.z + q) ++ vy.cells.toList ++ cur.toList.drop (i * s.z + q + vy.cells.toList.length)).toArray).ownsRow 0 s.e s.z (p.rw n) s.rows.length xs' := by
              refine ⟨by simp [xs']; omega, .inr ⟨g, c, _, hv, hb1, setRow_heap w g cur _ s.e _ hg, hb2, hb3, by simp; omega, ?_⟩⟩
              apply List.ext_getElem?
              intro j
              rw [hget, List.getElem?_take, splice_get _ _ (by simp; omega), ← hb5]
              simp only [Array.length_toList, g1, List.getElem?_take, Array.getElem?_toList]
              by_cases hj : j < s.rows.length * s.z
              · simp only [hj, if_true]
              · rw [if_neg hj, if_neg (by omega), if_neg (by omega), if_neg hj]
            have R' := R.setRows (rows' := s.rows.set i (row.take q ++ (ds ++ row.drop (q + ds.length)))) (xs' := xs') hb hv (by simp) hz' hown' (fun j x v hx hv => by
              rw [hget] at hv
              -- which row
              have hj : j < s.rows.length * s.z := by
                have := (List.getElem?_eq_some_iff.1 hx).1
                rw [flat_len hz'] at this; simpa using this
              have hsz0 : 0 < s.z := Nat.pos_of_ne_zero (fun e => by rw [e, Nat.mul_zero] at hj; omega)
              have hdm : j = (j / s.z) * s.z + j % s.z := by rw [Nat.mul_comm]; exact (Nat.div_add_mod j s.z).symm
              have hmod : j % s.z < s.z := Nat.mod_lt _ hsz0
              have hdv : j / s.z < s.rows.length := Nat.div_lt_of_lt_mul (by rw [Nat.mul_comm]; exact hj)
              by_cases hij : j / s.z = i
              · have hrs : (s.rows.set i (row.take q ++ (ds ++ row.drop (q + ds.length))))[i]? = some (row.take q ++ (ds ++ row.drop (q + ds.length))) := by simp [hi]
                rw [hdm, hij, flat_get hz' hrs hmod] at hx
                rw [hij] at hdm
                simp only [List.getElem?_append, List.length_take, List.getElem?_take, List.getElem?_drop] at hx
                by_cases h1 : j % s.z < q
                · rw [if_pos (by omega), if_pos h1] at hx
                  rw [if_pos (by omega)] at hv
                  exact hrd j x v (by rw [hdm, flat_get hz hrow hmod]; exact hx) hv
                · rw [if_neg (by omega)] at hx
                  rw [if_neg (by omega)] at hv
                  have e1 : j % s.z - min q row.length = j % s.z - q := by omega
                  rw [e1] at hx
                  by_cases h2 : j % s.z - q < ds.length
                  · rw [if_pos h2] at hx
                    rw [if_pos (by omega)] at hv
                    obtain ⟨y', hy', hyd⟩ := t2 _ _ hx
                    exact toD_rd hyd (g2 _ y' v hy' (by rw [show j % s.z - q = j - (i * s.z + q) by omega]; exact hv))
                  · rw [if_neg h2] at hx
                    rw [if_neg (by omega)] at hv
                    exact hrd j x v (by rw [hdm, flat_get hz hrow hmod, ← hx]; congr 1; omega) hv
              · have hrs : (s.rows.set i (row.take q ++ (ds ++ row.drop (q + ds.length))))[j / s.z]? = some s.rows[j / s.z] := by
                  rw [List.getElem?_set_ne (Ne.symm hij)]; exact List.getElem?_eq_getElem hdv
                rw [hdm, flat_get hz' hrs hmod, ← flat_get hz (List.getElem?_eq_getElem hdv) hmod, ← hdm] at hx
                have hne : ¬ (i * s.z ≤ j ∧ j < i * s.z + s.z) := fun ⟨h1, h2⟩ => hij (by
                  apply Nat.div_eq_of_lt_le
                  · exact h1
                  · rw [Nat.add_mul]; omega)
                by_cases h1 : j < i * s.z + q
                · rw [if_pos h1] at hv; exact hrd j x v hx hv
                · rw [if_neg h1, if_neg (by omega)] at hv; exact hrd j x v hx hv)
            refine ⟨_, p, .inr ⟨?_, by rw [hd]; exact R'⟩⟩
            simp only [execOp, ho, hax, hay, Instr.storeAt, Instr.sureAddr, Sem.run_bind, Sem.run_pure, Result.andThen_ok, storeVar, run_szOf hsz, g1, ne_eq, not_true_eq_false, if_false, Sem.run_ite, hst]
    · cases h


theorem mkS_sound (R : Rel K st a w p) {o : Oper} {t : TypeId} {l c : Operand} (ho : o.op = .makeSlice t l c) {d : Nat} (hd : o.dst = some d) {st' : St} (h : mkSA P st d t (opd st l) (opd st c) = some st') : Stepped P K st' o a w := by
  unfold mkSA at h
  split at h
  case h_2 => cases h
  rename_i e hu
  cases hl : intOfA (opd st l) with
  | none => simp [hl] at h
  | some n =>
    cases hc : intOfA (opd st c) with
    | none => simp [hl, hc] at h
    | some m =>
      cases hz : zerOf P e with
      | none => simp [hl, hc, hz] at h
      | some zs =>
        cases hds : toDs zs with
        | none => simp [hl, hc, hz, hds] at h
        | some ds =>
          simp only [hl, hc, hz, hds, Option.bind_some] at h
          split at h
          case isFalse => cases h
          rename_i hh
          obtain ⟨h0, rfl, hb, hpos, hby, he6, hdn⟩ := hh
          cases hvd : get st.vec d with
          | some _ => simp [hvd] at h
          | none =>
            simp only [hvd] at h
            cases h
            obtain ⟨kl, hl'⟩ := intOfA_some hl (R.opd l)
            obtain ⟨kc, hc'⟩ := intOfA_some hc (R.opd c)
            obtain ⟨i, zv, hi, hv, hsz, hzs, h1⟩ := zerOf_some hz
            have hzl : zs.length = i.size := by rw [hzs]; simp [hsz]
            have hbytes : i.bytes ≤ 65536 := by simpa [byOk, hi] using hby
            obtain ⟨k, rfl⟩ : ∃ k : Nat, n = (k : Int) := ⟨n.toNat, by omega⟩
            have hk : k ≤ 268435456 := by omega
            have hmul : i.bytes * k ≤ 65536 * 268435456 := Nat.mul_le_mul hbytes hk
            have hrun := run_make_full (P := P) w 0 t e i zv i.size hu hi hv rfl kl kc k (by omega) (by simp only [maxLen]; omega) (Nat.zero_le _)
            obtain ⟨w', g1, g2, g3⟩ := hrun
            obtain ⟨t1, t2⟩ := toDs_get hds
            have hdl : ds.length = zs.length := t1
            have hrow : ∀ r ∈ List.replicate k ds, r.length = zs.length := fun r hr => by rw [(List.mem_replicate.1 hr).2]; exact hdl
            have hfl : ∀ (k j : Nat) (x : D), (List.replicate k ds).flatten[j]? = some x → j < k * zs.length ∧ ds[j % zs.length]? = some x := fun k => by
              induction k with
              | zero => intro j x hx; simp at hx
              | succ k ih =>
                intro j x hx
                rw [List.replicate_succ, List.flatten_cons, List.getElem?_append] at hx
                split at hx
                · rename_i hj
                  rw [hdl] at hj
                  rw [Nat.mod_eq_of_lt hj, Nat.add_mul]
                  exact ⟨by omega, hx⟩
                · rename_i hj
                  rw [hdl] at hj hx
                  obtain ⟨a1, a2⟩ := ih _ _ hx
                  rw [Nat.add_mul]
                  refine ⟨by omega, ?_⟩
                  have : j % zs.length = (j - zs.length) % zs.length := by rw [Nat.mod_eq_sub_mod (by omega)]
                  rw [this]; exact a2
            have R' := R.newVec (d := d) (s := ⟨e, zs.length, List.replicate k ds⟩) (isM_lt he6) hvd g3 (by rw [List.length_replicate]; show w'.ownsRow 0 e zs.length _ k _; rw [hzl]; exact g2) hrow (fun j x u hx hu => by
              obtain ⟨a1, a2⟩ := hfl k j x hx
              obtain ⟨y, hy1, hy2⟩ := t2 _ _ a2
              rw [hzl] at a1 hy1
              rw [Array.getElem?_toList] at hu
              unfold madeCells at hu
              rw [Array.getElem?_map, Array.getElem?_range, if_pos a1] at hu
              simp only [Option.map_some, Option.some.injEq] at hu
              have hlt : j % i.size < zv.cells.size := by rw [hsz]; exact Nat.mod_lt _ (by omega)
              subst hu
              rw [hsz, getElem!_pos zv.cells (j % i.size) hlt]
              exact toD_rd hy2 (zer_ra (p := p) zv.cells (j % i.size) y _ (by rw [← hzs]; exact hy1) (Array.getElem?_eq_getElem hlt))) (.inr rfl)
            refine ⟨w', _, .inl ⟨_, ?_, by rw [hd]; exact R'.put (RA.vec_at (Or.inl rfl) (upd_same _ _ _)) hdn⟩⟩
            simp [execOp, ho, hl', hc', g1]

theorem copy_sound (R : Rel K st a w p) {o : Oper} {x y : Operand} {t t' : TypeId} (ho : o.op = .call { callee := .builtin .copy, args := #[x, y], argTypes := #[t, t'] }) {st' : St}
    (h : cpA P st o.dst t (opd st x) (opd st y) = some st') : Stepped P K st' o a w := by
  unfold cpA at h
  split at h
  case h_2 => cases h
  rename_i e hu
  cases hq : cpTo st (opd st x) with
  | none => simp [hq] at h
  | some q =>
    obtain ⟨n, lo, k⟩ := q
    simp only [hq, Option.bind_some] at h
    cases hs : get st.vec n with
    | none => simp [hs] at h
    | some s =>
      simp only [hs, Option.bind_some] at h
      cases hy : rowsOf st (opd st y) with
      | none => simp [hy] at h
      | some ys =>
        simp only [hy, Option.bind_some] at h
        split at h
        · cases h
        rename_i hM
        have hM : s.isM = false := by simpa using hM
        split at h
        case isFalse => cases h
        rename_i hh
        obtain ⟨hsz, hz0, hlk, hyz⟩ := hh
        obtain ⟨hat, hz, hmine⟩ := R.vec n s hs
        obtain ⟨xs, hown, hrd⟩ := hat.row hM
        have hxl : xs.length = s.rows.length * s.z := hown.1
        obtain ⟨b, c, hyv, hsrc⟩ := src_cells R hy (R.opd y)
        have hinfo : ∃ i, P.info? e = some i ∧ i.size = s.z := by
          unfold szOf at hsz
          cases hi : P.info? e with
          | none => simp [hi] at hsz
          | some i => simp [hi] at hsz; exact ⟨i, rfl, hsz⟩
        obtain ⟨ie, hie, hiz⟩ := hinfo
        -- the source's first cells
        have hnews : ∃ (news : List Value), news.length = min k ys.length * s.z ∧ ((loadCells ((b.getD ⟨0, 0, none⟩)) (min k ys.length * s.z)).run P w = .ok news.toArray w ∨ min k ys.length = 0) ∧ (min k ys.length = 0 ∨ ∃ ad, b = some ad) ∧
            (∀ u ∈ news, u.oneCell' = true) ∧ ∀ (j : Nat) (d : D) (u : Value), ys.flatten[j]? = some d → news[j]? = some u → RD w (okc K w p) d u := by
          rcases hsrc with rfl | ⟨ad, z', nw, rfl, hl, hz', hcell, hone, hrdn⟩
          · exact ⟨[], by simp, .inr (by simp), .inl (by simp), fun u hu => by simp at hu, fun j d u hd => by simp at hd⟩
          · by_cases h0 : min k ys.length = 0
            · exact ⟨[], by simp [h0], .inr h0, .inl h0, fun u hu => by simp at hu, fun j d u hd hu => by simp at hu⟩
            · have hne : ys ≠ [] := fun e => by subst e; simp at h0
              obtain ⟨r, hr⟩ := List.exists_mem_of_ne_nil _ hne
              have : z' = s.z := (hz' r hr).symm.trans (hyz r hr)
              subst this
              have hle : min k ys.length * s.z ≤ ys.length * s.z := Nat.mul_le_mul_right _ (Nat.min_le_right _ _)
              have hlen : (nw.take (min k ys.length * s.z)).length = min k ys.length * s.z := by simp; omega
              have hld := run_loadCells_list (P := P) w ad (nw.take (min k ys.length * s.z)) (fun j u hj => by
                rw [List.getElem?_take] at hj
                split at hj
                · exact hcell j u hj
                · cases hj)
              rw [hlen] at hld
              refine ⟨nw.take (min k ys.length * s.z), hlen, .inl hld, .inr ⟨ad, rfl⟩, fun u hu => hone u (List.mem_of_mem_take hu), fun j d u hd hj => ?_⟩
              rw [List.getElem?_take] at hj
              split at hj
              · exact hrdn j d u hd hj
              · cases hj
        obtain ⟨news, hnl, hld, hbb, hone, hnrd⟩ := hnews
        -- where it goes
        have hto : (∃ (g len c o : Nat), p.rw n = .slice (some ⟨g, 0, none⟩) len c ∧ a.eval x = .slice (some ⟨g, o, none⟩) k (c - lo) ∧ (k = 0 ∨ o = lo * s.z) ∧ p.lv n) ∨ (p.rw n = .slice none 0 0 ∧ a.eval x = .slice none 0 0 ∧ k = 0 ∧ p.lv n) := by
          have hxv := R.opd x
          generalize opd st x = xx at hxv hq
          generalize a.eval x = ax at hxv ⊢
          unfold cpTo at hq
          split at hq
          · rename_i n'
            rw [Option.map_eq_some_iff] at hq
            obtain ⟨s', hs', e1⟩ := hq
            cases e1
            rw [hs] at hs'; cases hs'
            cases hxv with | vec hn =>
            rcases hown.2 with ⟨h0, h1⟩ | ⟨g, cap, cur, h0, _⟩
            · exact .inr ⟨h0, by rw [h0], h1, hn⟩
            · exact .inl ⟨g, _, cap, 0, h0, by rw [h0]; simp, .inr (by simp), hn⟩
          · rename_i n' z' lo' k'
            cases hs' : get st.vec n' with
            | none => simp [hs'] at hq
            | some s' =>
              simp only [hs', Option.bind_some] at hq
              split at hq
              case isFalse => cases hq
              rename_i hzz
              cases hq
              rw [hs] at hs'; cases hs'
              subst hzz
              cases hxv with
              | cut hn hv ho hle => exact .inl ⟨_, _, _, _, hv, rfl, ho.1, hn⟩
              | cut0 hn hv => exact .inr ⟨hv, rfl, rfl, hn⟩
          · cases hq
        have hm1 : min k ys.length ≤ k := Nat.min_le_left _ _
        have hm2 : min k ys.length ≤ ys.length := Nat.min_le_right _ _
        have finish : ∀ {w' : World}, (Builtin.copy_ #[t, t'] o.type #[a.eval x, a.eval y]).run P w = .ok (goInt ((min k ys.length : Nat) : Int)) w' →
            Rel K { st with vec := (n, { s with rows := s.rows.take lo ++ (ys.take (min k ys.length) ++ s.rows.drop (lo + min k ys.length)) }) :: st.vec } a w' p → Stepped P K st' o a w := fun {w'} hrun R' => by
          refine ⟨w', p, .inl ⟨goInt ((min k ys.length : Nat) : Int), by simp [execOp, ho, resolve, invoke, builtin, hrun], ?_⟩⟩
          cases hdst : o.dst with
          | none => simp only [hdst] at h; cases h; exact R'
          | some d =>
            simp only [hdst] at h
            split at h
            case isFalse => cases h
            rename_i hdn
            cases h
            exact R'.put (.d .int) hdn
        have hz' : ∀ r ∈ s.rows.take lo ++ (ys.take (min k ys.length) ++ s.rows.drop (lo + min k ys.length)), r.length = s.z := fun r hr => by
          rcases List.mem_append.1 hr with hr | hr
          · exact hz r (List.mem_of_mem_take hr)
          · rcases List.mem_append.1 hr with hr | hr
            · exact hyz r (List.mem_of_mem_take hr)
            · exact hz r (List.mem_of_mem_drop hr)
        rcases hto with ⟨g, len, c', o', hrw, hax, ho', hn⟩ | ⟨hrw, hax, rfl, hn⟩
        · rw [hrw] at hown
          rcases hown.2 with ⟨h0, _⟩ | ⟨g', cap, cur, h0, hb1, hg, hb2, hb3, hb4, hb5⟩
          · cases h0
          injection h0 with h01 h02 h03
          injection h01 with h01
          injection h01 with h01
          subst h01; subst h02; subst h03
          have hmulk : (lo + k) * s.z ≤ s.rows.length * s.z := Nat.mul_le_mul_right _ hlk
          rw [Nat.add_mul] at hmulk
          have hmulm : min k ys.length * s.z ≤ k * s.z := Nat.mul_le_mul_right _ hm1
          have hcap : s.rows.length * s.z ≤ c' * s.z := Nat.mul_le_mul_right _ hb2
          by_cases hm0 : min k ys.length = 0
          · have hrows : s.rows.take lo ++ (ys.take (min k ys.length) ++ s.rows.drop (lo + min k ys.length)) = s.rows := by rw [hm0]; simp
            rw [hrows] at finish
            refine finish (w' := w) ?_ ?_
            · rw [hax, hyv, hm0]
              have hm0' : Nat.min ys.length k = 0 := (Nat.min_comm ys.length k).trans hm0
              cases b with
              | none => simp [Builtin.copy_, run_underlying hu, Builtin.lenOf, sizeOf, typeInfo, hie, hm0', Builtin.firstCells, storeCells]
              | some ad => simp [Builtin.copy_, run_underlying hu, Builtin.lenOf, sizeOf, typeInfo, hie, hm0', Builtin.firstCells, storeCells, loadCells, loadCellsFrom]
            · exact R.eqv' (fun _ => rfl) (fun _ => rfl) (get_top hs)
          · obtain ⟨ad, rfl⟩ := hbb.resolve_left hm0
            have hld := hld.resolve_right hm0
            have hk0 : k ≠ 0 := by omega
            have ho' := ho'.resolve_left hk0
            subst ho'
            have hst := run_storeCells_at P g (lo * s.z) s.e news 0 cur w hg (by omega) hone
            simp only [Nat.add_zero] at hst
            have hm' : Nat.min ys.length k = min k ys.length := Nat.min_comm ys.length k
            let xs' := xs.take (lo * s.z) ++ news ++ xs.drop (lo * s.z + news.length)
            have hfl : (s.rows.take lo ++ (ys.take (min k ys.length) ++ s.rows.drop (lo + min k ys.length))).flatten = s.rows.flatten.take (lo * s.z) ++ (ys.flatten.take (min k ys.length * s.z) ++ s.rows.flatten.drop ((lo + min k ys.length) * s.z)) := by
              rw [List.flatten_append, List.flatten_append, flat_take hz, flat_take hyz, flat_drop hz]
            have hsf : s.rows.flatten.length = s.rows.length * s.z := flat_len hz
            have hyf : ys.flatten.length = ys.length * s.z := flat_len hyz
            have hmuly : min k ys.length * s.z ≤ ys.length * s.z := Nat.mul_le_mul_right _ hm2
            refine finish (w' := w.setRow g (cur.toList.take (lo * s.z) ++ news ++ cur.toList.drop (lo * s.z + news.length)).toArray) ?_ (R.setRows (xs' := xs') hs hrw ?_ hz' ?_ ?_)
            · rw [hax, hyv]
              simp only [Option.getD_some] at hld
              simp only [Builtin.copy_, run_underlying hu, Builtin.lenOf, sizeOf, typeInfo, hie, hiz, hm', Builtin.firstCells, Sem.run_bind, Sem.run_pure, Result.andThen_ok, List.getElem?_toArray, List.getElem?_cons_zero, List.getElem?_cons_succ, hld, hst, run_program]
            · simp only [List.length_append, List.length_take, List.length_drop]; omega
            · refine ⟨?_, .inr ⟨g, c', _, hrw, hb1, setRow_heap w g cur _ s.e _ hg, hb2, hb3, ?_, ?_⟩⟩
              · simp only [xs', List.length_append, List.length_take, List.length_drop]; omega
              · simp; omega
              · simp only [xs']
                apply List.ext_getElem?
                intro j
                rw [List.getElem?_take, splice_get _ _ (by simp; omega), splice_get _ _ (by omega), ← hb5]
                simp only [List.getElem?_take]
                by_cases hj : j < s.rows.length * s.z
                · simp [hj]
                · have h1 : ¬ j < lo * s.z := by omega
                  have h2 : ¬ j < lo * s.z + news.length := by omega
                  simp [hj, h1, h2]
            · intro j d u hdj hu
              rw [hfl] at hdj
              simp only [xs'] at hu
              rw [splice_get _ _ (by omega)] at hu
              rw [List.getElem?_append, List.length_take, Nat.min_eq_left (by omega)] at hdj
              split at hdj
              · rename_i hj
                rw [if_pos hj] at hu
                rw [List.getElem?_take, if_pos hj] at hdj
                exact hrd j d u hdj hu
              · rename_i hj
                rw [if_neg hj] at hu
                rw [List.getElem?_append, List.length_take, Nat.min_eq_left (by omega)] at hdj
                split at hdj
                · rename_i hj2
                  rw [if_pos (by omega)] at hu
                  rw [List.getElem?_take, if_pos hj2] at hdj
                  exact hnrd _ d u hdj hu
                · rename_i hj2
                  rw [if_neg (by omega)] at hu
                  rw [List.getElem?_drop, Nat.add_mul] at hdj
                  have e1 : lo * s.z + min k ys.length * s.z + (j - lo * s.z - min k ys.length * s.z) = j := by omega
                  rw [e1] at hdj
                  exact hrd j d u hdj hu
        · have hm0 : min 0 ys.length = 0 := by simp
          have hrows : s.rows.take lo ++ (ys.take (min 0 ys.length) ++ s.rows.drop (lo + min 0 ys.length)) = s.rows := by rw [hm0]; simp
          rw [hrows] at finish
          refine finish (w' := w) ?_ ?_
          · rw [hax, hyv]
            have hm0' : Nat.min ys.length 0 = 0 := Nat.min_zero _
            cases b with
            | none => simp [Builtin.copy_, run_underlying hu, Builtin.lenOf, sizeOf, typeInfo, hie, hm0', Builtin.firstCells, storeCells]
            | some ad => simp [Builtin.copy_, run_underlying hu, Builtin.lenOf, sizeOf, typeInfo, hie, hm0', Builtin.firstCells, storeCells, loadCells, loadCellsFrom]
          · exact R.eqv' (fun _ => rfl) (fun _ => rfl) (get_top hs)
end
end Go.Vl
