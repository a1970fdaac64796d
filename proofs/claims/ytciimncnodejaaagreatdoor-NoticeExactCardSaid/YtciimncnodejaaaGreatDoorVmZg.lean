/- The value logic: an element of a package-level array of integers that nobody writes. Conditions: none. -/
import Derived.Test.YtciimncnodejaaaGreatDoorVmY
set_option linter.unusedSimpArgs false
set_option linter.unusedVariables false
namespace Go.Vl
open Go Go.RowKit
section
variable {P : Program} {K : Ctx P} {st : St} {ops : Array Oper} {Q : Exit → St → Prop}
theorem Rel.globP {a : Act} {w : World} {p : Pl} (R : Rel K st a w p) {g : Nat} (hg : 0 < (globOf P g).length) : RA w (okc K w p) p (.cptr ((globOf P g).map (D.int .i64)) 0) (a.eval (.global g)) := by
  have h0 := R.glob g 0 _ (List.getElem?_eq_getElem hg)
  have he : a.eval (.global g) = .pointer (some ((⟨g, 0, none⟩ : Addr).add 0)) := rfl
  rw [he]
  refine .cptr (fun j => .int .i64 ((globOf P g).getD j 0)) h0.1 (fun j hj => ?_) (fun j x hx => ?_)
  · have hj' : j < (globOf P g).length := by simpa using hj
    rw [add_blk, Nat.zero_add, (R.glob g j _ (List.getElem?_eq_getElem hj')).2]
    simp [List.getD, hj']
  · rw [List.getElem?_map] at hx
    simp only [Option.map_eq_some_iff] at hx
    obtain ⟨n, hn, rfl⟩ := hx
    simp only [List.getD, hn, Option.getD_some]
    exact .int
theorem tops_glob {l : List Oper} {o : Oper} {t : TypeId} {y : Operand} {g d : Nat} {k : IntKind} {i : Int} {x : AV} (hg : gdA ops st o = some true) (ho : o.op = .indexAddr t (.global g) y) (hd : o.dst = some d) (hdn : d < st.nt) (hl : 0 < (globOf P g).length) (hy : opd st y = .d (.int k i))
    (hx : indexPA P t (.cptr ((globOf P g).map (D.int .i64)) 0) i st = some x) (h : TOps P K ops l (st.put d x) Q) : TOps P K ops (o :: l) st Q := by
  intro a w p R
  have hyv := R.opd y
  rw [hy] at hyv
  obtain ⟨v, h1, h2⟩ := indexPA_sound (k := k) R hx (R.globP hl)
  have hyi : a.eval y = .int k i := by
    generalize a.eval y = u at hyv
    cases hyv with | d hyv => cases hyv; rfl
  unfold wpList
  rw [gd_sound R hg, if_pos rfl]
  refine .inl ?_
  unfold Oper.wp
  have hb : (execOp a.eval o).run P w = .ok (.value v) w := by
    simp only [execOp, ho, hyi]
    simp [h1]
  rw [hb]
  show wpList P ops (Pst K Q) l (a.put o.dst v) w
  rw [hd]
  exact h _ _ _ (R.put h2 hdn)
end
end Go.Vl
