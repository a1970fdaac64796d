/- The value logic, part 4: the step of an operation that writes nothing, and its soundness. Conditions: none. -/
import Derived.Test.YtnnipdjbiblekaaVmC
set_option linter.unusedSimpArgs false
set_option linter.unusedVariables false
namespace Go.Vl
open Go

/-! Struct and array literals -/
def cellsA : AV → Option (List AV)
  | .agg l => some l
  | .undef | .tup _ => none
  | x => some [x]
def fillA (place : Nat → Option (Nat × Nat)) (cells : List AV) : List (Nat × AV) → Option (List AV)
  | [] => some cells
  | (i, x) :: rest => match place i with
    | none => none
    | some (off, size) => (cellsA x).bind fun l => if l.length = size ∧ off + size ≤ cells.length then fillA place (cells.take off ++ (l ++ cells.drop (off + size))) rest else none

theorem RA.one {w : World} {ok : Nat → Prop} {p : Pl} {x : AV} {l : List AV} {v : Value} (h : RA w ok p x v) (hx : cellsA x = some l) (hp : ∀ n, p.lv n → (p.rw n).oneCell' = true) :
    v.cells.size = l.length ∧ (∀ (i : Nat) (a : AV) (u : Value), l[i]? = some a → v.cells[i]? = some u → RA w ok p a u) ∧ ∀ (i : Nat) (u : Value), v.cells[i]? = some u → u.oneCell' = true := by
  cases h with
  | agg hl h h1 => simp [cellsA] at hx; subst hx; exact ⟨hl, h, h1⟩
  | undef => simp [cellsA] at hx
  | tup => simp [cellsA] at hx
  | d h =>
    rename_i x
    simp [cellsA] at hx; subst hx
    have h1 := h.one
    have hc : v.cells = #[v] := by cases v <;> simp_all [Value.cells, Value.oneCell']
    rw [hc]
    exact ⟨rfl, fun i a u ha hu => by cases i <;> simp at ha hu; subst ha; subst hu; exact .d h, fun i u hu => by cases i <;> simp at hu; subst hu; exact h1⟩
  | vec hn =>
    rename_i n
    simp [cellsA] at hx; subst hx
    have h1 := hp n hn
    have hc : (p.rw n).cells = #[p.rw n] := by cases hh : p.rw n <;> simp_all [Value.cells, Value.oneCell']
    rw [hc]
    exact ⟨rfl, fun i a u ha hu => by cases i <;> simp at ha hu; subst ha; subst hu; exact .vec hn, fun i u hu => by cases i <;> simp at hu; subst hu; exact h1⟩
  | nilS => simp [cellsA] at hx; subst hx; exact ⟨rfl, fun i a u ha hu => by cases i <;> simp [Value.cells] at ha hu; subst ha; subst hu; exact .nilS, fun i u hu => by cases i <;> simp [Value.cells] at hu; subst hu; rfl⟩
  | full h => simp [cellsA] at hx; subst hx; exact ⟨rfl, fun i a u ha hu => by cases i <;> simp [Value.cells] at ha hu; subst ha; subst hu; exact .full h, fun i u hu => by cases i <;> simp [Value.cells] at hu; subst hu; rfl⟩
  | ptr h => simp [cellsA] at hx; subst hx; exact ⟨rfl, fun i a u ha hu => by cases i <;> simp [Value.cells] at ha hu; subst ha; subst hu; exact .ptr h, fun i u hu => by cases i <;> simp [Value.cells] at hu; subst hu; rfl⟩
  | cptr vs h1 h2 h3 => simp [cellsA] at hx; subst hx; exact ⟨rfl, fun i a u ha hu => by cases i <;> simp [Value.cells] at ha hu; subst ha; subst hu; exact .cptr vs h1 h2 h3, fun i u hu => by cases i <;> simp [Value.cells] at hu; subst hu; rfl⟩
  | vptr h1 h2 => simp [cellsA] at hx; subst hx; exact ⟨rfl, fun i a u ha hu => by cases i <;> simp [Value.cells] at ha hu; subst ha; subst hu; exact .vptr h1 h2, fun i u hu => by cases i <;> simp [Value.cells] at hu; subst hu; rfl⟩
  | cut h1 h2 h3 h4 => simp [cellsA] at hx; subst hx; exact ⟨rfl, fun i a u ha hu => by cases i <;> simp [Value.cells] at ha hu; subst ha; subst hu; exact .cut h1 h2 h3 h4, fun i u hu => by cases i <;> simp [Value.cells] at hu; subst hu; rfl⟩
  | cut0 h1 h2 => simp [cellsA] at hx; subst hx; exact ⟨rfl, fun i a u ha hu => by cases i <;> simp [Value.cells] at ha hu; subst ha; subst hu; exact .cut0 h1 h2, fun i u hu => by cases i <;> simp [Value.cells] at hu; subst hu; rfl⟩
  | slen => simp [cellsA] at hx; subst hx; exact ⟨rfl, fun i a u ha hu => by cases i <;> simp [Value.cells] at ha hu; subst ha; subst hu; exact .slen, fun i u hu => by cases i <;> simp [Value.cells] at hu; subst hu; rfl⟩
  | fn q1 q2 => simp [cellsA] at hx; subst hx; exact ⟨rfl, fun i a u ha hu => by cases i <;> simp [Value.cells] at ha hu; subst ha; subst hu; exact .fn q1 q2, fun i u hu => by cases i <;> simp [Value.cells] at hu; subst hu; rfl⟩

theorem foldl_set (off : Nat) : ∀ (l : List Value) (k : Nat) (cs : Array Value), off + k + l.length ≤ cs.size →
    ((l.zipIdx k).foldl (fun cs (x : Value × Nat) => cs.setIfInBounds (off + x.2) x.1) cs).toList = cs.toList.take (off + k) ++ (l ++ cs.toList.drop (off + k + l.length))
  | [], k, cs, _ => by simp
  | v :: l, k, cs, h => by
    simp only [List.zipIdx_cons, List.foldl_cons]
    simp only [List.length_cons] at h
    rw [foldl_set off l (k + 1) _ (by simp; omega)]
    have hlt : off + k < cs.size := by omega
    apply List.ext_getElem?
    intro i
    simp only [Array.toList_setIfInBounds, List.getElem?_append, List.getElem?_take, List.getElem?_drop, List.length_take, List.length_set, List.getElem?_set, Array.length_toList,
      List.length_cons]
    by_cases h1 : i < off + k
    · have : i < min (off + (k + 1)) cs.size := by omega
      have h3 : i < off + (k + 1) := by omega
      have h4 : i < min (off + k) cs.size := by omega
      simp only [this, h3, h4, h1, if_true, show ¬ (off + k = i) by omega, if_false]
    · by_cases h2 : i = off + k
      · subst h2
        have : off + k < min (off + (k + 1)) cs.size := by omega
        have h4 : ¬ (off + k < min (off + k) cs.size) := by omega
        simp only [this, if_true, h4, if_false]
        have h5 : off + k - min (off + k) cs.size = 0 := by omega
        simp [h5, hlt, show off + k < off + (k + 1) by omega]
      · have h3 : ¬ (i < min (off + (k + 1)) cs.size) := by omega
        have h4 : ¬ (i < min (off + k) cs.size) := by omega
        simp only [h3, h4, if_false]
        have e1 : i - min (off + (k + 1)) cs.size = i - (off + k + 1) := by omega
        have e2 : i - min (off + k) cs.size = (i - (off + k + 1)) + 1 := by omega
        rw [e1, e2, List.getElem?_cons_succ]
        by_cases h5 : i - (off + k + 1) < l.length
        · simp only [h5, show i - (off + k + 1) + 1 < l.length + 1 by omega, if_true]
        · simp only [h5, show ¬ (i - (off + k + 1) + 1 < l.length + 1) by omega, if_false, show ¬ (off + k = off + (k + 1) + l.length + (i - (off + k + 1) - l.length)) by omega]
          congr 1; omega

theorem fillA_sound {w : World} {ok : Nat → Prop} {p : Pl} (hp : ∀ n, p.lv n → (p.rw n).oneCell' = true) {place : Nat → Option (Nat × Nat)} : ∀ {parts : List (Nat × AV)} {vals : List (Nat × Value)} {cells r : List AV} {cs : Array Value},
    fillA place cells parts = some r → vals.length = parts.length → (∀ (j : Nat) (i k : Nat) (x : AV) (v : Value), parts[j]? = some (i, x) → vals[j]? = some (k, v) → i = k ∧ RA w ok p x v) → cs.size = cells.length →
    (∀ (i : Nat) (a : AV) (v : Value), cells[i]? = some a → cs[i]? = some v → RA w ok p a v) → (∀ (i : Nat) (v : Value), cs[i]? = some v → v.oneCell' = true) →
    ∃ cs', Instr.fill place cs vals = some cs' ∧ cs'.size = r.length ∧ (∀ (i : Nat) (a : AV) (v : Value), r[i]? = some a → cs'[i]? = some v → RA w ok p a v) ∧ ∀ (i : Nat) (v : Value), cs'[i]? = some v → v.oneCell' = true := by
  intro parts
  induction parts with
  | nil =>
    intro vals cells r cs h hl _ hs hr h1
    cases vals with
    | nil => simp [fillA] at h; subst h; exact ⟨cs, rfl, hs, hr, h1⟩
    | cons => simp at hl
  | cons part parts ih =>
    intro vals cells r cs h hl hv hs hr h1
    cases vals with
    | nil => simp at hl
    | cons val vals =>
      obtain ⟨i, x⟩ := part
      obtain ⟨k, v⟩ := val
      obtain ⟨hik, hxv⟩ := hv 0 i k x v rfl rfl
      subst hik
      simp only [fillA] at h
      cases hpl : place i with
      | none => simp [hpl] at h
      | some os =>
        obtain ⟨off, size⟩ := os
        simp only [hpl] at h
        cases hc : cellsA x with
        | none => simp [hc] at h
        | some l =>
          simp only [hc, Option.bind_some] at h
          split at h
          case isFalse => cases h
          rename_i hle
          obtain ⟨hl1, hl2⟩ := hle
          obtain ⟨g1, g2, g3⟩ := hxv.one hc hp
          have hsz : ¬ (v.cells.size ≠ size || decide (off + v.cells.size > cs.size)) = true := by simp; omega
          simp only [Instr.fill, hpl]
          rw [if_neg hsz]
          have hfold := foldl_set off v.cells.toList 0 cs (by simp; omega)
          rw [← Array.foldl_toList, Array.toList_zipIdx]
          generalize hW : (List.foldl (fun cs (x : Value × Nat) => cs.setIfInBounds (off + x.2) x.1) cs (v.cells.toList.zipIdx 0)) = cs1 at hfold ⊢
          have hcs1 : cs1.size = cells.length := by rw [← Array.length_toList, hfold]; simp; omega
          have hget : ∀ i, cs1[i]? = if i < off then cs[i]? else if i < off + size then v.cells[i - off]? else cs[i]? := fun i => by
            rw [← Array.getElem?_toList, hfold]
            simp only [List.getElem?_append, List.length_take, Array.length_toList, List.getElem?_take, Array.getElem?_toList, List.getElem?_drop, Nat.add_zero]
            by_cases h1 : i < off
            · rw [if_pos (by omega), if_pos h1, if_pos h1]
            · rw [if_neg (by omega), if_neg h1]
              have e1 : i - min off cs.size = i - off := by omega
              rw [e1]
              by_cases h2 : i < off + size
              · rw [if_pos (by omega), if_pos h2]
              · rw [if_neg (by omega), if_neg h2]; congr 1; omega
          have hgetA : ∀ i, (cells.take off ++ (l ++ cells.drop (off + size)))[i]? = if i < off then cells[i]? else if i < off + size then l[i - off]? else cells[i]? := fun i => by
            simp only [List.getElem?_append, List.length_take, List.getElem?_take, List.getElem?_drop]
            by_cases h1 : i < off
            · rw [if_pos (by omega), if_pos h1, if_pos h1]
            · rw [if_neg (by omega), if_neg h1]
              have e1 : i - min off cells.length = i - off := by omega
              rw [e1]
              by_cases h2 : i < off + size
              · rw [if_pos (by omega), if_pos h2]
              · rw [if_neg (by omega), if_neg h2]; congr 1; omega
          have hlen : cs1.size = (cells.take off ++ (l ++ cells.drop (off + size))).length := by rw [hcs1]; simp; omega
          refine ih h (by simpa using hl) (fun j i k x v hj hk => hv (j + 1) i k x v (by simpa using hj) (by simpa using hk)) hlen (fun i a u ha hu => ?_) (fun i u hu => ?_)
          · rw [hgetA] at ha; rw [hget] at hu
            split at ha
            · rename_i h1; rw [if_pos h1] at hu; exact hr i a u ha hu
            · rename_i h1; rw [if_neg h1] at hu
              split at ha
              · rename_i h2; rw [if_pos h2] at hu; exact g2 _ a u ha hu
              · rename_i h2; rw [if_neg h2] at hu; exact hr i a u ha hu
          · rw [hget] at hu
            split at hu
            · exact h1 i u hu
            · split at hu
              · exact g3 _ u hu
              · exact h1 i u hu

def buildA (P : Program) (t : TypeId) (parts : List (Nat × AV)) : Option (List AV) :=
  (zerOf P t).bind fun z => match P.underlying t with
    | some (.array _ e) => (szOf P e).bind fun k => fillA (fun i => some (i * k, k)) z parts
    | some (.struct fs) => (fs.toList.mapM fun f => (szOf P f.type).map fun k => (f.offset, k)).bind fun places => fillA (fun i => places[i]?) z parts
    | _ => none

theorem zerOf_some {P : Program} {t : TypeId} {z : List AV} (h : zerOf P t = some z) : ∃ i v, P.info? t = some i ∧ i.zero = some v ∧ v.cells.size = i.size ∧ z = v.cells.toList.map AV.ofCell ∧ ∀ (j : Nat) (u : Value), v.cells[j]? = some u → u.oneCell' = true := by
  unfold zerOf at h
  cases hi : P.info? t with
  | none => simp [hi] at h
  | some i =>
    cases hz : i.zero with
    | none => simp [hi, hz] at h
    | some v =>
      simp only [hi, hz, Option.bind_some] at h
      split at h
      case isFalse => cases h
      rename_i hh
      cases h
      exact ⟨i, v, rfl, hz, hh.1, rfl, fun j u hu => Array.all_eq_true_iff_forall_mem.1 hh.2 u (Array.mem_of_getElem? hu)⟩

theorem zer_ra {w : World} {ok : Nat → Prop} {p : Pl} (v : Array Value) (i : Nat) (a : AV) (u : Value) (ha : (v.toList.map AV.ofCell)[i]? = some a) (hu : v[i]? = some u) : RA w ok p a u := by
  rw [List.getElem?_map, Array.getElem?_toList, hu] at ha
  simp at ha; subst ha
  exact ofCell_ra w ok p u

theorem buildA_sound {P : Program} {w : World} {ok : Nat → Prop} {p : Pl} (hp : ∀ n, p.lv n → (p.rw n).oneCell' = true) {t : TypeId} {parts : Array (Nat × Operand)} {f : Operand → AV} {g : Operand → Value} (hfg : ∀ x, RA w ok p (f x) (g x)) {r : List AV}
    (h : buildA P t (parts.toList.map fun (i, x) => (i, f x)) = some r) : ∃ v, (Instr.build t (parts.map fun (i, x) => (i, g x))).run P w = .ok v w ∧ RA w ok p (.agg r) v := by
  unfold buildA at h
  cases hz : zerOf P t with
  | none => simp [hz] at h
  | some z =>
    simp only [hz, Option.bind_some] at h
    obtain ⟨i, v, hi, hv, hsz, rfl, h1⟩ := zerOf_some hz
    have hparts : ∀ (j : Nat) (i k : Nat) (x : AV) (v : Value), (parts.toList.map fun (i, x) => (i, f x))[j]? = some (i, x) → (parts.map fun (i, x) => (i, g x)).toList[j]? = some (k, v) → i = k ∧ RA w ok p x v := by
      intro j i k x v hj hk
      rw [Array.toList_map, List.getElem?_map] at hk
      rw [List.getElem?_map] at hj
      cases hq : parts.toList[j]? with
      | none => simp [hq] at hj
      | some q =>
        obtain ⟨q1, q2⟩ := q
        simp [hq] at hj hk
        obtain ⟨rfl, rfl⟩ := hj
        obtain ⟨rfl, rfl⟩ := hk
        exact ⟨rfl, hfg _⟩
    split at h
    · rename_i n e hu
      cases hk : szOf P e with
      | none => simp [hk] at h
      | some k =>
        simp only [hk, Option.bind_some] at h
        obtain ⟨cs', c1, c2, c3, c4⟩ := fillA_sound hp h (by simp) hparts (by simp) (fun i a u ha hu => zer_ra v.cells i a u ha hu) h1
        have he : ∃ ie, P.info? e = some ie ∧ ie.size = k := by
          unfold szOf at hk
          cases hie : P.info? e with
          | none => simp [hie] at hk
          | some ie => simp [hie] at hk; exact ⟨ie, rfl, hk⟩
        obtain ⟨ie, hie, rfl⟩ := he
        exact ⟨_, run_build w t _ cs' (by simp only [Program.built, hi, hu, hv, hie]; exact c1), .agg c2 c3 c4⟩
    · rename_i fs hu
      cases hk : (fs.toList.mapM fun f => (szOf P f.type).map fun k => (f.offset, k)) with
      | none => rw [hk] at h; simp at h
      | some places =>
        rw [hk] at h
        simp only [Option.bind_some] at h
        obtain ⟨cs', c1, c2, c3, c4⟩ := fillA_sound hp h (by simp) hparts (by simp) (fun i a u ha hu => zer_ra v.cells i a u ha hu) h1
        have hk' : (fs.toList.mapM fun f => (P.info? f.type).map fun i => (f.offset, i.size)) = some places := by
          rw [← hk]; congr 1; funext f; unfold szOf; cases P.info? f.type <;> rfl
        refine ⟨_, run_build w t _ cs' ?_, .agg c2 c3 c4⟩
        simp only [Program.built, hi, hu, hv, hk']
        have : (fun i : Nat => places[i]?) = (fun i : Nat => places.toArray[i]?) := by funext i; simp
        rw [this] at c1; exact c1
    · cases h

end Go.Vl
