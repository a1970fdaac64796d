/- The value logic: ranges over a map from which what comes may be taken out, entry by entry. Conditions: none. -/
import Derived.Test.YtjnflahicimmlaaDoorVmRg
import Derived.Test.YtjnflahicimmlaaDoorVmZm
set_option linter.unusedSimpArgs false
set_option linter.unusedVariables false
namespace Go.Vl
open Go Go.RowKit
section
variable {P : Program} {o : Oper} {ops : Array Oper} {rest : List Oper} {a : Act} {w : World} {Q : Exit → Act → World → Prop}
theorem wl_range (hg : o.guard = none) (m : Operand) (t : TypeId) (hop : o.op = Op.range t m) (k e : TypeId) (ht : P.underlying t = some (.map k e)) (b : Nat) (es : Array MapEntry) (clock : Nat)
    (hm : a.eval m = .map (some b)) (hb : w.heap[b]? = some (.map es clock)) (hK : wpList P ops Q rest (a.put o.dst (.pointer (some ⟨w.heap.size, 0, none⟩))) (w.alloc (.mapIter (some b) clock #[] clock))) : wpList P ops Q (o :: rest) a w :=
  run_val hg (by simp [execOp, hop, hm, run_range_map (P := P) w t k e b es clock ht hb]) hK
theorem wl_next (hg : o.guard = none) (it : Operand) (hop : o.op = Op.next it false) (r b since c0 : Nat) (seen : Array Nat) (es : Array MapEntry) (clock : Nat) (hit : a.eval it = .pointer (some ⟨r, 0, none⟩))
    (hr : w.heap[r]? = some (.mapIter (some b) since seen c0)) (hb : w.heap[b]? = some (.map es clock)) (hold : ∀ x ∈ es.toList, x.born < since) (hsc : since ≤ c0)
    (h0 : (leftOf es seen).size = 0 → wpList P ops Q rest (a.put o.dst (.tuple #[.bool false])) w)
    (h1 : ∀ (en : MapEntry) (w1 : World), en ∈ es.toList → seen.contains en.born = false → (w1 = w ∨ w1 = w.drew) → wpList P ops Q rest (a.put o.dst (.tuple #[.bool true, en.key, en.val])) (ChangeMaps.setBlock w1 r (.mapIter (some b) since (seen.push en.born) clock))) :
    wpList P ops Q (o :: rest) a w := by
  rcases run_next_at (P := P) w o.type r b since c0 seen es clock hr hb hold hsc with ⟨hz, hrun⟩ | ⟨en, hen, w1, hw1, hrun⟩
  · exact run_val hg (by simp [execOp, hop, hit, hrun]) (h0 hz)
  · have hmem : en ∈ es.toList ∧ seen.contains en.born = false := by
      unfold leftOf at hen
      simp only [Array.toList_filter, List.mem_filter, Bool.not_eq_true'] at hen
      exact hen
    exact run_val hg (by simp [execOp, hop, hit, hrun]) (h1 en w1 hmem.1 hmem.2 hw1)
theorem wl_entry (hg : o.guard = none) (it : Operand) (hop : o.op = Op.entry it) (r b since clock : Nat) (seen : Array Nat) (es : Array MapEntry) (en : MapEntry) (hit : a.eval it = .pointer (some ⟨r, 0, none⟩))
    (hr : w.heap[r]? = some (.mapIter (some b) since (seen.push en.born) clock)) (hb : w.heap[b]? = some (.map es clock)) (hen : en ∈ es.toList) (hn : (es.toList.map (·.born)).Nodup)
    (hK : wpList P ops Q rest (a.put o.dst (.tuple #[en.key, en.val])) w) : wpList P ops Q (o :: rest) a w :=
  run_val hg (by simp [execOp, hop, hit, run_entry_at (P := P) w r b since seen es clock en hr hb hen hn]) hK
/-- 'delete(m, k)' of a key that is there; the keys are integers -/
theorem wl_delete (hg : o.guard = none) (m k : Operand) (t tk kt et : TypeId) (hop : o.op = .call { callee := .builtin .delete, args := #[m, k], argTypes := #[t, tk] }) (hd : o.dst = none) (ht : P.underlying t = some (.map kt et)) (hkt : P.underlying kt = some (.int .i64))
    {ok : Nat → Prop} {s : VS} {ν : Type} {F : ν → List D} {l : List (Int × ν)} (hka : s.ka = false) (hkz : s.kz = 1) (hs : s.rows = rowsF (mRow (iRow .i64) F) l) (b : Nat) (es : Array MapEntry) (clock : Nat) (hM : MapR w ok s es clock) (x : Int) (i : Nat) (q : ν)
    (hm : a.eval m = .map (some b)) (hk : a.eval k = .int .i64 x) (hb : w.heap[b]? = some (.map es clock)) (hf : mfind inE x l = some (i, q))
    (hK : wpList P ops Q rest (a.put none (.tuple #[])) { w with heap := w.heap.setIfInBounds b (.map (es.eraseIdxIfInBounds i) clock) }) : wpList P ops Q (o :: rest) a w := by
  have hr : RA w ok ⟨fun _ => 0, fun _ => undef, fun _ => False, fun _ => False⟩ (.d (.int .i64 x)) (a.eval k) := by rw [hk]; exact .d .int
  have hkb := keyB_int hkt x
  have hck := checkKey_ok hkb hr es.isEmpty
  have hfm : findM P kt s.ka s.kz (.d (.int .i64 x)) s.rows = some (some (i, F q)) := by rw [hka, hkz, hs, findM_int hkt, hf]; rfl
  obtain ⟨r, f1, f2⟩ := findKey_ok (by rw [hka]; exact hkb) hr hM.key.1 hM.key.2 hfm
  obtain ⟨e, row, g1, g2, g3, g4, g5⟩ := f2
  subst g5
  refine run_val hg (v := .tuple #[]) (w' := { w with heap := w.heap.setIfInBounds b (.map (es.eraseIdxIfInBounds i) clock) }) ?_ (by rw [hd]; exact hK)
  rw [hk] at hck f1
  have hrun : (Builtin.delete_ #[t, tk] o.type #[.map (some b), .int .i64 x]).run P w = .ok (.tuple #[]) { w with heap := w.heap.setIfInBounds b (.map (es.eraseIdxIfInBounds i) clock) } := by
    simp [Builtin.delete_, run_underlying ht, Result.andThen, MapKept.run_getObj_map hb, hck, f1, MapKept.run_setObj_map _ hb]
  simp [execOp, hop, resolve, invoke, builtin, hm, hk, hrun]
/-- an operation that yields nothing -/
theorem run_skip {l : List Oper} {w' : World} {F : Exit → Act → World → Prop} (hg : o.guard = none) (hr : (execOp a.eval o).run P w = .ok .skip w') (H : wpList P ops F l (a.put o.dst undef) w') : wpList P ops F (o :: l) a w := by
  unfold wpList
  have hw : Region.wanted o (yielded ops a.tmps) = true := by unfold Region.wanted; rw [hg]
  rw [if_pos hw]
  left
  unfold Oper.wp
  rw [hr]
  exact H
theorem wl_store (hg : o.guard = none) (t : TypeId) (x y : Operand) (hop : o.op = .store t x y) (hd : o.dst = none) (g : Nat) (cur cs : Array Value) (ty : TypeId) (hx : a.eval x = .pointer (some ⟨g, 0, none⟩)) (hy : a.eval y = .agg cs) (hsz : szOf P t = some cs.size)
    (hw : w.heap[g]? = some (.cells cur ty (0, 0))) (hl : cur.size = cs.size) (h1 : ∀ v ∈ cs.toList, v.oneCell' = true) (hK : wpList P ops Q rest (a.put none undef) (w.setRow g cs)) : wpList P ops Q (o :: rest) a w := by
  have hst := run_storeCells_at P g 0 ty cs.toList 0 cur w hw (by simp; omega) h1
  have he : (cur.toList.take (0 + 0) ++ cs.toList ++ cur.toList.drop (0 + 0 + cs.toList.length)).toArray = cs := by
    rw [List.drop_eq_nil_of_le (by simp; omega)]; simp
  rw [he] at hst
  refine run_skip hg (w' := w.setRow g cs) ?_ (by rw [hd]; exact hK)
  simp only [execOp, hop, hx, hy, Instr.storeAt, Instr.sureAddr, Sem.run_bind, Sem.run_pure, Result.andThen_ok, storeVar, run_szOf hsz, Value.cells, ne_eq, not_true_eq_false, if_false, Sem.run_ite, hst]
theorem wl_load (hg : o.guard = none) (t : TypeId) (x : Operand) (hop : o.op = .load t x) (g : Nat) (cs : Array Value) (ty : TypeId) (fz : Nat × Nat) (hx : a.eval x = .pointer (some ⟨g, 0, none⟩)) (hu : (P.underlying t).isSome = true) (hag : isAggB P t = true) (hsz : szOf P t = some cs.size)
    (hw : w.heap[g]? = some (.cells cs ty fz)) (hK : wpList P ops Q rest (a.put o.dst (.agg cs)) w) : wpList P ops Q (o :: rest) a w := by
  refine run_val hg (v := .agg cs) (w' := w) ?_ hK
  have hc : ∀ j, j < cs.size → w.cell? ((⟨g, 0, none⟩ : Addr).add j) = some (cs.getD j undef) := fun j hj => by
    rw [add_blk]
    simp [World.cell?, hw, hj]
  have hr := run_loadCells (P := P) w ⟨g, 0, none⟩ cs.size (fun j => cs.getD j undef) hc
  have he : ((List.range cs.size).map fun j => cs.getD j undef).toArray = cs := by
    refine Array.ext (by simp) fun i h1 h2 => ?_
    simp [h2]
  rw [he] at hr
  simp only [execOp, hop, hx, Instr.loadAt, Instr.sureAddr, Sem.run_bind, Sem.run_pure, Result.andThen_ok, loadVar, run_isAggB hu, hag, if_true, run_szOf hsz, Result.andThen, hr]
theorem alloc_set (w : World) (zs cs : Array Value) (ty : TypeId) : ∃ w4, (w.alloc (.cells zs ty)).setRow w.heap.size cs = w4 ∧ w4.heap[w.heap.size]? = some (.cells cs ty (0, 0)) ∧ w.grownBy w4 none ∧ dr0 w ≤ dr0 w4 := by
  refine ⟨_, rfl, ?_, ⟨?_, ?_, ?_, ?_, fun j hj _ => ?_⟩, ?_⟩
  · unfold World.setRow
    simp only [Array.getElem?_modify, heap_alloc_new, if_true]
    simp
  · simp [World.setRow, World.alloc, -World.alloc_eq]
  · simp [World.setRow, World.alloc, -World.alloc_eq]
  · simp [World.setRow, World.alloc, -World.alloc_eq]
  · simp [World.setRow, World.alloc, -World.alloc_eq]
  · unfold World.setRow
    simp only [Array.getElem?_modify]
    rw [if_neg (by omega)]
    exact heap_alloc_old w _ hj
  · simp [World.setRow, World.alloc, -World.alloc_eq]
theorem iter_step {w wr w1 : World} {r b : Nat} {m0 : Option Nat} {s0 c0 clock : Nat} {q0 : Array Nat} {es : Array MapEntry} (hr : wr.heap[r]? = some (.mapIter m0 s0 q0 c0)) (hb : wr.heap[b]? = some (.map es clock)) (hw1 : w1 = wr ∨ w1 = wr.drew) (hg : w.grownBy wr (some b)) (hd : dr0 w ≤ dr0 wr) (hrw : w.heap.size ≤ r)
    (m1 : Option Nat) (s1 c1 : Nat) (q1 : Array Nat) : ∃ w2, ChangeMaps.setBlock w1 r (.mapIter m1 s1 q1 c1) = w2 ∧ w2.heap[r]? = some (.mapIter m1 s1 q1 c1) ∧ w2.heap[b]? = some (.map es clock) ∧ w.grownBy w2 (some b) ∧ dr0 w ≤ dr0 w2 := by
  have hlt : r < wr.heap.size := (Array.getElem?_eq_some_iff.1 hr).1
  have hbr : b ≠ r := fun e => by rw [e, hr] at hb; cases hb
  have h1 : w1.heap = wr.heap ∧ w1.os = wr.os ∧ w1.tape = wr.tape ∧ w1.output = wr.output ∧ dr0 wr ≤ dr0 w1 := by
    rcases hw1 with rfl | rfl
    · exact ⟨rfl, rfl, rfl, rfl, Nat.le_refl _⟩
    · exact ⟨rfl, rfl, rfl, rfl, Nat.le_refl _⟩
  obtain ⟨e1, e2, e3, e4, e5⟩ := h1
  obtain ⟨g1, g2, g3, g4, g5⟩ := hg
  have hne : ∀ k, k ≠ r → (ChangeMaps.setBlock w1 r (.mapIter m1 s1 q1 c1)).heap[k]? = wr.heap[k]? := fun k hk => by
    unfold ChangeMaps.setBlock
    simp [Array.getElem?_setIfInBounds, Ne.symm hk, e1]
  refine ⟨_, rfl, ?_, (hne b hbr).trans hb, ⟨?_, ?_, ?_, ?_, fun k hk hkb => (hne k (by omega)).trans (g5 k hk hkb)⟩, ?_⟩
  · unfold ChangeMaps.setBlock
    simp [Array.getElem?_setIfInBounds, e1, hlt]
  · unfold ChangeMaps.setBlock; first | exact e2.trans g1 | exact e3.trans g1 | exact e4.trans g1
  · unfold ChangeMaps.setBlock; first | exact e2.trans g2 | exact e3.trans g2 | exact e4.trans g2
  · unfold ChangeMaps.setBlock; first | exact e2.trans g3 | exact e3.trans g3 | exact e4.trans g3
  · unfold ChangeMaps.setBlock; simp [e1]; exact g4
  · unfold ChangeMaps.setBlock; exact Nat.le_trans hd e5
/-- how many entries have not come -/
def leftN (w : World) (b r : Nat) : Nat := match w.heap[r]?, w.heap[b]? with
  | some (.mapIter _ _ seen _), some (.map es _) => (es.toList.filter fun e => !seen.contains e.born).length
  | _, _ => 0
theorem leftN_at {w : World} {b r : Nat} {m : Option Nat} {s c clock : Nat} {seen : Array Nat} {es : Array MapEntry} (hr : w.heap[r]? = some (.mapIter m s seen c)) (hb : w.heap[b]? = some (.map es clock)) : leftN w b r = (es.toList.filter fun e => !seen.contains e.born).length := by
  unfold leftN; rw [hr, hb]
theorem left_push {l : List MapEntry} {seen : Array Nat} {en : MapEntry} (h1 : en ∈ l) (h2 : seen.contains en.born = false) : (l.filter fun e => !(seen.push en.born).contains e.born).length < (l.filter fun e => !seen.contains e.born).length := by
  have e : (l.filter fun e => !(seen.push en.born).contains e.born) = (l.filter fun e => !seen.contains e.born).filter fun e => !(e.born == en.born) := by
    rw [List.filter_filter]
    refine List.filter_congr fun x _ => ?_
    rw [Array.contains_push]
    cases seen.contains x.born <;> simp
  rw [e, List.length_filter_lt_length_iff_exists]
  exact ⟨en, List.mem_filter.2 ⟨h1, by rw [h2]; rfl⟩, by simp⟩
theorem left_sub {l l' : List MapEntry} (h : l'.Sublist l) (p : MapEntry → Bool) : (l'.filter p).length ≤ (l.filter p).length := (h.filter p).length_le
theorem kept_none {w w' : World} {b : Nat} {o : Obj} (h : w.heap[b]? = some o) (hg : w.grownBy w' none) : w'.heap[b]? = some o := by
  obtain ⟨_, _, _, _, g5⟩ := hg
  rw [g5 b (Array.getElem?_eq_some_iff.1 h).1 (by simp)]; exact h
theorem set_map {w : World} {b : Nat} {o o' : Obj} (hb : w.heap[b]? = some o) : ({ w with heap := w.heap.setIfInBounds b o' } : World).heap[b]? = some o' ∧ (∀ k, k ≠ b → ({ w with heap := w.heap.setIfInBounds b o' } : World).heap[k]? = w.heap[k]?) ∧ w.grownBy { w with heap := w.heap.setIfInBounds b o' } (some b) := by
  have hlt := (Array.getElem?_eq_some_iff.1 hb).1
  have hne : ∀ k, k ≠ b → ({ w with heap := w.heap.setIfInBounds b o' } : World).heap[k]? = w.heap[k]? := fun k hk => by simp [Array.getElem?_setIfInBounds, Ne.symm hk]
  exact ⟨by simp [Array.getElem?_setIfInBounds, hlt], hne, rfl, rfl, rfl, by simp, fun k _ hk => hne k (fun e => hk (by rw [e]))⟩
end
end Go.Vl
