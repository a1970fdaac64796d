/- The value logic, part 9: the soundness of the step. Conditions: none. -/
import Derived.Test.YtclmnpkhopioiaaVlH
set_option linter.unusedSimpArgs false
set_option linter.unusedVariables false
namespace Go.Vl
open Go Go.RowKit

section
variable {K : Ctx} {st : St} {a : Act} {w : World} {p : Pl} {P : Program}

theorem allocOp_sound (R : Rel K st a w p) {o : Oper} {t : TypeId} (ho : o.op = .alloc t) {d : Nat} (hd : o.dst = some d) {z : List AV} (hz : zerOf P t = some z) {st' : St} (h : allocA P st d z = some st') : Stepped P K st' o a w := by
  obtain ⟨i, v, hi, hv, hsz, rfl, h1⟩ := zerOf_some hz
  obtain ⟨p', R'⟩ := putPtr (ty := t) R h (vs := v.cells) (by simp) (fun i c u hc hu => zer_ra v.cells i c u hc hu) h1
  refine ⟨_, p', .inl ⟨_, ?_, by rw [hd]; exact R'⟩⟩
  simp [execOp, ho, Instr.alloc, zeroValue, typeInfo, hi, hv, newVar, newRow]

theorem boxOp_sound (R : Rel K st a w p) {o : Oper} {t : TypeId} {x : Operand} (ho : o.op = .box t x) {d : Nat} (hd : o.dst = some d) {l : List AV} (hl : cellsA (opd st x) = some l) {st' : St} (h : allocA P st d l = some st') : Stepped P K st' o a w := by
  obtain ⟨g1, g2, g3⟩ := (R.opd x).one hl R.rwone
  obtain ⟨p', R'⟩ := putPtr (ty := t) R h (vs := (a.eval x).cells) g1 g2 g3
  refine ⟨_, p', .inl ⟨_, ?_, by rw [hd]; exact R'⟩⟩
  simp [execOp, ho, Instr.box, newVar, newRow]

theorem buildS_sound (R : Rel K st a w p) {o : Oper} {t : TypeId} {n : Nat} {parts : Array (Nat × Operand)} (ho : o.op = .buildSlice t n parts) {d : Nat} (hd : o.dst = some d) {st' : St}
    (h : buildSA P st d t n (parts.toList.map fun (i, x) => (i, opd st x)) = some st') : Stepped P K st' o a w := by
  unfold buildSA at h
  split at h
  case h_2 => cases h
  rename_i e hu
  cases hz : zerOf P e with
  | none => simp [hz] at h
  | some zs =>
    simp only [hz, Option.bind_some] at h
    split at h
    case isFalse => cases h
    rename_i hb
    obtain ⟨hb1, hb0, hb2⟩ := hb
    obtain ⟨i, v, hi, hv, hsz, hzs, h1⟩ := zerOf_some hz
    have hzl : zs.length = i.size := by rw [hzs]; simp [hsz]
    cases hf : fillA (fun i => some (i * zs.length, zs.length)) (List.replicate (n * zs.length) .undef) (parts.toList.map fun (i, x) => (i, opd st x)) with
    | none => rw [hf] at h; simp at h
    | some r =>
      rw [hf] at h
      simp only [Option.bind_some] at h
      cases hds : toDs r with
      | none => simp [hds] at h
      | some ds =>
        simp only [hds, Option.bind_some] at h
        cases hvd : get st.vec d with
        | some _ => simp [hvd] at h
        | none =>
          simp only [hvd] at h
          cases h
          -- the cells before they are filled
          have hparts : ∀ (j : Nat) (i k : Nat) (x : AV) (v : Value), (parts.toList.map fun (i, x) => (i, opd st x))[j]? = some (i, x) → (parts.map fun (i, x) => (i, a.eval x)).toList[j]? = some (k, v) → i = k ∧ RA w (okc K w p) p x v := by
            intro j i k x v hj hk
            rw [Array.toList_map, List.getElem?_map] at hk
            rw [List.getElem?_map] at hj
            cases hq : parts.toList[j]? with
            | none => simp [hq] at hj
            | some q =>
              obtain ⟨q1, q2⟩ := q
              simp [hq] at hj hk
              obtain ⟨rfl, rfl⟩ := hj
              obtain ⟨rfl, rfl⟩ := hk
              exact ⟨rfl, R.opd _⟩
          let z0 : Array Value := if n * i.size = 0 then #[] else v.cells
          have hz1 : ∀ (j : Nat) (u : Value), ((Array.range (n * i.size)).map (fun x => z0[x % z0.size]!))[j]? = some u → u.oneCell' = true := by
            intro j u hj
            rw [Array.getElem?_map] at hj
            by_cases h0 : j < n * i.size
            · simp only [Array.getElem?_range, h0, if_true, Option.map_some] at hj
              cases hj
              have hne : ¬ (n * i.size = 0) := by omega
              have hpos : 0 < i.size := Nat.pos_of_ne_zero (fun e => hne (by rw [e, Nat.mul_zero]))
              have hz0 : z0 = v.cells := if_neg hne
              rw [hz0]
              have hlt : j % v.cells.size < v.cells.size := Nat.mod_lt _ (by omega)
              rw [getElem!_pos v.cells _ hlt]
              exact h1 _ _ (Array.getElem?_eq_getElem hlt)
            · simp only [Array.getElem?_range, h0, if_false, Option.map_none] at hj; cases hj
          obtain ⟨cs', c1, c2, c3, c4⟩ := fillA_sound (w := w) (ok := okc K w p) (p := p) R.rwone (cs := (Array.range (n * i.size)).map (fun x => z0[x % z0.size]!)) hf (vals := (parts.map fun (i, x) => (i, a.eval x)).toList) (by simp) hparts (by simp [hzl])
            (fun j a u ha hu => by
              rw [List.getElem?_replicate] at ha
              split at ha
              · cases ha; exact .undef
              · cases ha) hz1
          obtain ⟨t1, t2⟩ := toDs_get hds
          have hrl : r.length = n * zs.length := by
            have hfl : ∀ (pts : List (Nat × AV)) (cells r : List AV), fillA (fun i => some (i * zs.length, zs.length)) cells pts = some r → r.length = cells.length := by
              intro pts
              induction pts with
              | nil => intro cells r h; simp [fillA] at h; rw [h]
              | cons q pts ih =>
                intro cells r h
                obtain ⟨q1, q2⟩ := q
                simp only [fillA] at h
                cases hc : cellsA q2 with
                | none => simp [hc] at h
                | some l =>
                  simp only [hc, Option.bind_some] at h
                  split at h
                  · rename_i hh
                    have := ih _ _ h
                    rw [this]; simp; omega
                  · cases h
            have := hfl _ _ _ hf
            simpa using this
          obtain ⟨k1, k2, k3⟩ := chunk_ok zs.length n ds (by rw [t1, hrl])
          have hlen : cs'.size = n * zs.length := by rw [c2, hrl]
          have hown : (w.alloc (.cells cs' e)).ownsRow K.base e zs.length (.slice (some ⟨w.heap.size, 0, none⟩) n n) n cs'.toList :=
            World.ownsRow_lit w cs' n (Nat.zero_le _) (by simp only [maxLen]; omega) hlen
          have R' := R.newVec (d := d) (s := ⟨e, zs.length, chunk zs.length n ds⟩) (xs := cs'.toList) hvd (World.grownBy_alloc w _ none) (by rw [k1]; exact hown) k3 (fun j x u hx hu => by
            rw [k2] at hx
            obtain ⟨y, hy, hyd⟩ := t2 j x hx
            exact toD_rd hyd (c3 j y u hy (by rw [← Array.getElem?_toList]; exact hu))) (.inr rfl)
          refine ⟨_, _, .inl ⟨.slice (some ⟨w.heap.size, 0, none⟩) n n, ?_, by rw [hd]; exact R'.put (RA.vec_at (Or.inl rfl) (upd_same _ _ _)) hb2⟩⟩
          have hnle : ¬ (n * i.size > 2 ^ 24) := by rw [← hzl]; omega
          have hc1 : Instr.fill (fun i_1 => some (i_1 * i.size, i.size)) ((Array.range (n * i.size)).map (fun x => z0[x % z0.size]!)) (parts.map fun (i, x) => (i, a.eval x)).toList = some cs' := by rw [← hzl] at c1 ⊢; exact c1
          by_cases h0 : n * i.size = 0
          · have hz0 : z0 = #[] := if_pos h0
            rw [hz0] at hc1
            simp only [execOp, ho, Instr.buildSlice, Sem.run_bind, run_underlying hu, Result.andThen_ok, run_szOf (show szOf P e = some i.size by simp [szOf, hi]), Sem.run_ite, if_neg hnle, if_pos h0, Sem.run_pure, hc1, newRow, run_newObj, World.alloc_eq]
          · have hz0 : z0 = v.cells := if_neg h0
            rw [hz0] at hc1
            simp only [execOp, ho, Instr.buildSlice, Sem.run_bind, run_underlying hu, Result.andThen_ok, run_szOf (show szOf P e = some i.size by simp [szOf, hi]), Sem.run_ite, if_neg hnle, if_neg h0, Sem.run_pure, zeroValue, typeInfo, run_program, hi, hv, hc1, newRow, run_newObj, World.alloc_eq]

theorem splice_get {α : Type} (l m : List α) {o : Nat} (h : o + m.length ≤ l.length) (j : Nat) : (l.take o ++ m ++ l.drop (o + m.length))[j]? = if j < o then l[j]? else if j < o + m.length then m[j - o]? else l[j]? := by
  rw [List.append_assoc]
  simp only [List.getElem?_append, List.length_take, List.getElem?_take, List.getElem?_drop]
  by_cases h1 : j < o
  · rw [if_pos (by omega), if_pos h1, if_pos h1]
  · rw [if_neg (by omega), if_neg h1]
    have e1 : j - min o l.length = j - o := by omega
    rw [e1]
    by_cases h2 : j < o + m.length
    · rw [if_pos (by omega), if_pos h2]
    · rw [if_neg (by omega), if_neg h2]; congr 1; omega

theorem store_sound (R : Rel K st a w p) {o : Oper} {t : TypeId} {x y : Operand} (ho : o.op = .store t x y) (hd : o.dst = none) {st' : St} (h : storeA P st t (opd st x) (opd st y) = some st') : Stepped P K st' o a w := by
  unfold storeA at h
  cases hl : cellsA (opd st y) with
  | none => simp [hl] at h
  | some l =>
    simp only [hl, Option.bind_some] at h
    split at h
    case isFalse => cases h
    rename_i hsz
    obtain ⟨g1, g2, g3⟩ := (R.opd y).one hl R.rwone
    have hx := R.opd x
    generalize hay : a.eval y = vy at *
    have hone : ∀ v ∈ vy.cells.toList, v.oneCell' = true := fun v hv => by
      obtain ⟨j, hj, rfl⟩ := List.getElem_of_mem hv
      exact g3 j _ (by simp at hj; simp [hj])
    split at h
    · rename_i n q hq
      rw [hq] at hx
      cases hb : get st.box n with
      | none => simp [hb] at h
      | some cs =>
        simp only [hb, Option.bind_some] at h
        split at h
        case isFalse => cases h
        rename_i hle
        cases h
        obtain ⟨⟨vs, ty, h1, h2, h3, h4⟩, h5⟩ := R.box n cs hb
        generalize hax : a.eval x = ax at *
        cases hx with | ptr hn =>
        have hst := run_storeCells_at P (p.bx n) q ty vy.cells.toList 0 vs w h1 (by simp; omega) hone
        simp only [Nat.add_zero] at hst
        have hget : ∀ i, (vs.toList.take q ++ vy.cells.toList ++ vs.toList.drop (q + vy.cells.toList.length))[i]? = if i < q then vs[i]? else if i < q + l.length then vy.cells[i - q]? else vs[i]? := fun i => by
          rw [splice_get _ _ (by simp; omega)]; simp [g1]
        have R' := R.setBox (cs' := setA cs l q) (vs' := (vs.toList.take q ++ vy.cells.toList ++ vs.toList.drop (q + vy.cells.toList.length)).toArray) hb h1 (by simp [setA]; omega) (fun i c v hc hv => by
          rw [List.getElem?_toArray, hget] at hv
          rw [setA_get hle] at hc
          split at hc
          · rw [if_pos ‹_›] at hv; exact h3 i c v hc hv
          · rw [if_neg ‹_›] at hv
            split at hc
            · rw [if_pos ‹_›] at hv; exact g2 _ c v hc hv
            · rw [if_neg ‹_›] at hv; exact h3 i c v hc hv) (fun i v hv => by
          rw [List.getElem?_toArray, hget] at hv
          split at hv
          · exact h4 i v hv
          · split at hv
            · exact g3 _ v hv
            · exact h4 i v hv)
        refine ⟨_, p, .inr ⟨?_, by rw [hd]; exact R'⟩⟩
        simp only [execOp, ho, hax, hay, Instr.storeAt, Instr.sureAddr, Sem.run_bind, Sem.run_pure, Result.andThen_ok, storeVar, run_szOf hsz, g1, ne_eq, not_true_eq_false, if_false, Sem.run_ite, hst]
    · rename_i n z i q hq
      rw [hq] at hx
      cases hb : get st.vec n with
      | none => simp [hb] at h
      | some s =>
        simp only [hb, Option.bind_some] at h
        cases hrow : s.rows[i]? with
        | none => simp [hrow] at h
        | some row =>
          simp only [hrow, Option.bind_some] at h
          cases hds : toDs l with
          | none => simp [hds] at h
          | some ds =>
            simp only [hds, Option.bind_some] at h
            split at h
            case isFalse => cases h
            rename_i hh
            obtain ⟨rfl, hle⟩ := hh
            cases h
            obtain ⟨t1, t2⟩ := toDs_get hds
            obtain ⟨⟨xs, hown, hrd⟩, hz, hmine⟩ := R.vec n s hb
            generalize hax : a.eval x = ax at *
            cases hx with | vptr hn hv =>
            rename_i g c len
            have hrl : row.length = s.z := hz row (List.mem_of_getElem? hrow)
            have hi : i < s.rows.length := (List.getElem?_eq_some_iff.1 hrow).1
            rcases hown.2 with ⟨h0, _⟩ | ⟨g', cap, cur, h0, hb1, hg, hb2, hb3, hb4, hb5⟩
            · rw [hv] at h0; cases h0
            rw [hv] at h0
            injection h0 with h01 h02 h03
            injection h01 with h01
            injection h01 with h01
            subst h01; subst h02; subst h03
            have hbd : i * s.z + s.z ≤ s.rows.length * s.z := by
              have : (i + 1) * s.z ≤ s.rows.length * s.z := Nat.mul_le_mul_right _ hi
              rw [Nat.add_mul] at this; omega
            have hcap : s.rows.length * s.z ≤ c * s.z := Nat.mul_le_mul_right _ hb2
            have hfit : i * s.z + q + vy.cells.size ≤ s.rows.length * s.z := by omega
            have hst := run_storeCells_at P g (i * s.z + q) s.e vy.cells.toList 0 cur w hg (by simp; omega) hone
            simp only [Nat.add_zero] at hst
            let xs' := xs.take (i * s.z + q) ++ vy.cells.toList ++ xs.drop (i * s.z + q + vy.cells.toList.length)
            have hxl : xs.length = s.rows.length * s.z := hown.1
            have hget : ∀ j, xs'[j]? = if j < i * s.z + q then xs[j]? else if j < i * s.z + q + l.length then vy.cells[j - (i * s.z + q)]? else xs[j]? := fun j => by
              simp only [xs']
              rw [splice_get _ _ (by simp; omega)]; simp [g1]
            have hz' : ∀ r ∈ s.rows.set i (row.take q ++ (ds ++ row.drop (q + ds.length))), r.length = s.z := fun r hr => by
              rcases List.mem_or_eq_of_mem_set hr with hr | rfl
              · exact hz r hr
              · simp; omega
            have hown' : (w.setRow g (cur.toList.take (i * s.z + q) ++ vy.cells.toList ++ cur.toList.drop (i * s.z + q + vy.cells.toList.length)).toArray).ownsRow K.base s.e s.z (p.rw n) s.rows.length xs' := by
              refine ⟨by simp [xs']; omega, .inr ⟨g, c, _, hv, hb1, setRow_heap w g cur _ s.e _ hg, hb2, hb3, by simp; omega, ?_⟩⟩
              apply List.ext_getElem?
              intro j
              rw [hget, List.getElem?_take, splice_get _ _ (by simp; omega), ← hb5]
              simp only [Array.length_toList, g1, List.getElem?_take, Array.getElem?_toList]
              by_cases hj : j < s.rows.length * s.z
              · simp only [hj, if_true]
              · rw [if_neg hj, if_neg (by omega), if_neg (by omega), if_neg hj]
            have R' := R.setRows (rows' := s.rows.set i (row.take q ++ (ds ++ row.drop (q + ds.length)))) (xs' := xs') hb hv (by simp) hz' hown' (fun j x v hx hv => by
              rw [hget] at hv
              -- which row
              have hj : j < s.rows.length * s.z := by
                have := (List.getElem?_eq_some_iff.1 hx).1
                rw [flat_len hz'] at this; simpa using this
              have hsz0 : 0 < s.z := Nat.pos_of_ne_zero (fun e => by rw [e, Nat.mul_zero] at hj; omega)
              have hdm : j = (j / s.z) * s.z + j % s.z := by rw [Nat.mul_comm]; exact (Nat.div_add_mod j s.z).symm
              have hmod : j % s.z < s.z := Nat.mod_lt _ hsz0
              have hdv : j / s.z < s.rows.length := Nat.div_lt_of_lt_mul (by rw [Nat.mul_comm]; exact hj)
              by_cases hij : j / s.z = i
              · have hrs : (s.rows.set i (row.take q ++ (ds ++ row.drop (q + ds.length))))[i]? = some (row.take q ++ (ds ++ row.drop (q + ds.length))) := by simp [hi]
                rw [hdm, hij, flat_get hz' hrs hmod] at hx
                rw [hij] at hdm
                simp only [List.getElem?_append, List.length_take, List.getElem?_take, List.getElem?_drop] at hx
                by_cases h1 : j % s.z < q
                · rw [if_pos (by omega), if_pos h1] at hx
                  rw [if_pos (by omega)] at hv
                  exact hrd j x v (by rw [hdm, flat_get hz hrow hmod]; exact hx) hv
                · rw [if_neg (by omega)] at hx
                  rw [if_neg (by omega)] at hv
                  have e1 : j % s.z - min q row.length = j % s.z - q := by omega
                  rw [e1] at hx
                  by_cases h2 : j % s.z - q < ds.length
                  · rw [if_pos h2] at hx
                    rw [if_pos (by omega)] at hv
                    obtain ⟨y', hy', hyd⟩ := t2 _ _ hx
                    exact toD_rd hyd (g2 _ y' v hy' (by rw [show j % s.z - q = j - (i * s.z + q) by omega]; exact hv))
                  · rw [if_neg h2] at hx
                    rw [if_neg (by omega)] at hv
                    exact hrd j x v (by rw [hdm, flat_get hz hrow hmod, ← hx]; congr 1; omega) hv
              · have hrs : (s.rows.set i (row.take q ++ (ds ++ row.drop (q + ds.length))))[j / s.z]? = some s.rows[j / s.z] := by
                  rw [List.getElem?_set_ne (Ne.symm hij)]; exact List.getElem?_eq_getElem hdv
                rw [hdm, flat_get hz' hrs hmod, ← flat_get hz (List.getElem?_eq_getElem hdv) hmod, ← hdm] at hx
                have hne : ¬ (i * s.z ≤ j ∧ j < i * s.z + s.z) := fun ⟨h1, h2⟩ => hij (by
                  apply Nat.div_eq_of_lt_le
                  · exact h1
                  · rw [Nat.add_mul]; omega)
                by_cases h1 : j < i * s.z + q
                · rw [if_pos h1] at hv; exact hrd j x v hx hv
                · rw [if_neg h1, if_neg (by omega)] at hv; exact hrd j x v hx hv)
            refine ⟨_, p, .inr ⟨?_, by rw [hd]; exact R'⟩⟩
            simp only [execOp, ho, hax, hay, Instr.storeAt, Instr.sureAddr, Sem.run_bind, Sem.run_pure, Result.andThen_ok, storeVar, run_szOf hsz, g1, ne_eq, not_true_eq_false, if_false, Sem.run_ite, hst]
    · cases h

end
end Go.Vl
