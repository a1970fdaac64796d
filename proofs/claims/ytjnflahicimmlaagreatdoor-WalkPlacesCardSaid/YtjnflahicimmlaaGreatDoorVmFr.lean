/- The value logic: at the kit's wp, a region by its rules, with what it does not write; entries of a map that lies in frozen memory turned in their place. Conditions: none. -/
import Derived.Test.YtjnflahicimmlaaGreatDoorVmCc
import Derived.Test.YtjnflahicimmlaaGreatDoorVmRd
set_option linter.unusedSimpArgs false
set_option linter.unusedVariables false
namespace Go.Vl
open Go Go.RowKit
section
variable {P : Program} {K : Ctx P} {st : St} {a : Act} {w : World} {p : Pl}
theorem eval_put_ne {d : Option Nat} {t : Nat} {u : Value} (h : d ≠ some t) : (a.put d u).eval (.tmp t) = a.eval (.tmp t) := by
 cases d with
 | none => rfl
 | some k =>
   have hk : k ≠ t := fun e => h (by rw [e])
   simp [Act.put, Act.eval, Array.getElem?_setIfInBounds_ne hk]
theorem eval_put_eq {t : Nat} {u : Value} (h : t < a.tmps.size) : (a.put (some t) u).eval (.tmp t) = u := by
 simp [Act.put, Act.eval, h]
theorem wpl_frame {ops : Array Oper} {F : Exit → Act → World → Prop} {t : Nat} {v : Value} : ∀ (l : List Oper) (a : Act) (w : World), (∀ o ∈ l, o.dst ≠ some t) → a.eval (.tmp t) = v → wpList P ops F l a w → wpList P ops (fun e a w => F e a w ∧ (e = .normal → a.eval (.tmp t) = v)) l a w := by
 intro l
 induction l with
 | nil => exact fun a w _ hv h => ⟨h, fun _ => hv⟩
 | cons o l ih =>
   intro a w hd hv hh
   have hd1 := hd o (by simp)
   have hd2 : ∀ o ∈ l, o.dst ≠ some t := fun o h => hd o (by simp [h])
   have hp : ∀ u, (a.put o.dst u).eval (.tmp t) = v := fun u => (eval_put_ne hd1).trans hv
   unfold wpList at hh ⊢
   split
   · rename_i hw
     rw [if_pos hw] at hh
     rcases hh with hh | ⟨h1, a0, w0, q⟩
     · left
       unfold Oper.wp at hh ⊢
       generalize (execOp a.eval o).run P w = r at hh ⊢
       cases r with
       | ok n w' =>
         cases n <;> simp only [Oper.upon] at hh ⊢
         case value u => exact ih _ _ hd2 (hp _) hh
         case skip => exact ih _ _ hd2 (hp _) hh
         case defer d => exact ih _ _ hd2 ((eval_put_ne hd1).trans hv) hh
         case enter f args =>
           refine Calls.mono hh fun e w'' he => ?_
           cases e with
           | returned u => exact ih _ _ hd2 (hp _) he
           | panicked c => exact ⟨he, fun e => by cases e⟩
           | outgrown => obtain ⟨a0, w0, q⟩ := he; exact ⟨a0, w0, q, fun e => by cases e⟩
         case row row args => exact Rows.mono hh fun u w'' he => ih _ _ hd2 (hp _) he
       | halt x w' =>
         cases x <;> simp only [Oper.upon] at hh ⊢
         case panic u => exact ⟨hh, fun e => by cases e⟩
     · exact .inr ⟨h1, a0, w0, q, fun e => by cases e⟩
   · rename_i hw
     rw [if_neg hw] at hh
     exact ih _ _ hd2 (hp _) hh
def endQ (st1 : St) : Exit → St → Prop := fun e s => e = .normal ∧ s = st1
theorem wpl_reg {ops : Array Oper} {l : List Oper} {t : Nat} {v : Value} {st1 : St} {F : Exit → Act → World → Prop} (hT : TOps P K ops l st (endQ st1)) (hd : ∀ o ∈ l, o.dst ≠ some t) (R : Rel K st a w p) (hv : a.eval (.tmp t) = v)
   (H : ∀ a w p, Rel K st1 a w p → a.eval (.tmp t) = v → F .normal a w) : wpList P ops F l a w :=
 wpl_mono (fun e a w h => by
   obtain ⟨⟨s, p, R, rfl, rfl⟩, h2⟩ := h
   exact H a w p R (h2 rfl)) _ _ _ (wpl_frame _ _ _ hd hv (hT a w p R))
theorem wp_bool {t : Nat} {b : Bool} (R : Rel K st a w p) (h : st.look t = .d (.bool b)) : a.eval (.tmp t) = .bool b := by
 have := R.opd (.tmp t)
 have ho : opd st (.tmp t) = .d (.bool b) := h
 rw [ho] at this
 generalize a.eval (.tmp t) = v at this
 cases this with | d h => cases h; rfl
theorem then_exit {id : Nat} {N : Act → World → Prop} {Q : Exit → Act → World → Prop} (h : Q (.exit id) a w) : Exit.then N Q (.exit id) a w := h
theorem exit_in {id : Nat} {Q : Exit → Act → World → Prop} (h : Q .normal a w) : Exit.inBlock id Q (.exit id) a w := by
 unfold Exit.inBlock; simp only [if_true]; exact h
theorem norm_in {id : Nat} {Q : Exit → Act → World → Prop} (h : Q .normal a w) : Exit.inBlock id Q .normal a w := h
theorem then_norm {N : Act → World → Prop} {Q : Exit → Act → World → Prop} (h : N a w) : Exit.then N Q .normal a w := h
inductive PlainD : D → Prop
 | int {k : IntKind} {n : Int} : PlainD (.int k n)
 | bool {b : Bool} : PlainD (.bool b)
 | str {s : ByteArray} : PlainD (.str s)
 | nilp : PlainD .nilp
 | slice {rows : List (List D)} (h : rows = [] ∨ rows.flatten ≠ []) (hr : ∀ (j : Nat) (d : D), rows.flatten[j]? = some d → PlainD d) : PlainD (.slice rows)
theorem RD.set {w w' : World} {ok : Nat → Prop} {b : Nat} {es : Array MapEntry} {clock : Nat} (hb : w.heap[b]? = some (.map es clock)) (hne : ∀ k, k ≠ b → w'.heap[k]? = w.heap[k]?) {x : D} {v : Value} (h : RD w ok x v) : PlainD x → RD w' ok x v := by
 induction h with
 | int => exact fun _ => .int
 | bool => exact fun _ => .bool
 | str => exact fun _ => .str
 | nilp => exact fun _ => .nilp
 | snil => exact fun _ => .snil
 | @slice rows a c z vs hz hok hc hcell _ ih =>
   intro hp
   cases hp with
   | slice h1 h2 =>
     rcases h1 with rfl | h1
     · exact .snil
     · have hab : a.block ≠ b := fun e => by
         have hpos : 0 < rows.flatten.length := List.length_pos_iff.2 h1
         have := hcell 0 hpos
         rw [show a.add 0 = a from rfl] at this
         unfold World.cell? at this
         rw [e, hb] at this
         cases this
       exact .slice z vs hz hok hc (fun j hj => (World.cell?_of_block (by rw [block_add]; exact hne _ hab)).trans (hcell j hj)) fun j d hd => ih j d hd (h2 j d hd)
 | mp => exact fun hp => by cases hp
theorem PackD.set {w w' : World} {ok : Nat → Prop} {b : Nat} {es : Array MapEntry} {clock : Nat} (hb : w.heap[b]? = some (.map es clock)) (hne : ∀ k, k ≠ b → w'.heap[k]? = w.heap[k]?) {ag : Bool} {ds : List D} {v : Value} (h : PackD w ok ag ds v) (hp : ∀ d ∈ ds, PlainD d) : PackD w' ok ag ds v := by
 unfold PackD at h ⊢
 split at h
 · rename_i ha
   rw [if_pos ha]
   obtain ⟨cs, h1, h2, h3⟩ := h
   exact ⟨cs, h1, h2, fun i d u hd hu => (h3 i d u hd hu).set hb hne (hp d (List.mem_of_getElem? hd))⟩
 · rename_i ha
   rw [if_neg ha]
   obtain ⟨d, h1, h2⟩ := h
   exact ⟨d, h1, h2.set hb hne (hp d (by rw [h1]; simp))⟩
theorem pack_set {w w' : World} {ok : Nat → Prop} {b : Nat} {es : Array MapEntry} {clock : Nat} (hb : w.heap[b]? = some (.map es clock)) (hne : ∀ k, k ≠ b → w'.heap[k]? = w.heap[k]?) (f g : VS → Bool) (k : VS → Nat) (s : VS) {r : List D} {u v : Value} (hp : ∀ d ∈ r, PlainD d) (h : PackD w ok (f s) (r.take (k s)) u ∧ PackD w ok (g s) (r.drop (k s)) v) : PackD w' ok (f s) (r.take (k s)) u ∧ PackD w' ok (g s) (r.drop (k s)) v :=
 ⟨PackD.set hb hne h.1 fun d hd => hp d (List.mem_of_mem_take hd), PackD.set hb hne h.2 fun d hd => hp d (List.mem_of_mem_drop hd)⟩
theorem MapR.set {w w' : World} {ok : Nat → Prop} {b : Nat} {es0 : Array MapEntry} {clock0 : Nat} (hb : w.heap[b]? = some (.map es0 clock0)) (hne : ∀ k, k ≠ b → w'.heap[k]? = w.heap[k]?) {s : VS} {es : Array MapEntry} {clock : Nat} (hp : ∀ r ∈ s.rows, ∀ d ∈ r, PlainD d) (h : MapR w ok s es clock) : MapR w' ok s es clock :=
 { size := h.size
   row := fun j r e hr he => by
     exact pack_set hb hne VS.ka VS.va VS.kz s (hp r (List.mem_of_getElem? hr)) (h.row j r e hr he)
   born := h.born
   nodup := h.nodup }
theorem rel_new {nt : Nat} {env : List (Nat × AV)} {w' : World} {b : Nat} (R : Rel K { nt := nt, env := env, box := [], vec := [] } a w p) (hen : ∀ s y, get env s = some y → (∃ x, y = .d (.bool x)) ∨ ∃ r, y = .iter r) (hb : K.w0.heap.size ≤ b ∨ K.io b) (hs : w'.heap.size = w.heap.size) (ho : w'.os = w.os ∧ w'.tape = w.tape ∧ w'.output = w.output) (hne : ∀ k, k ≠ b → w'.heap[k]? = w.heap[k]?) :
   Rel K { nt := nt, env := env, box := [], vec := [] } a w' p where
 lb := R.lb
 lv := R.lv
 dfr := R.dfr
 nt := R.nt
 ntl := R.ntl
 ion := R.ion
 size := by rw [hs]; exact R.size
 os := ho.1.trans R.os
 tape := ho.2.1.trans R.tape
 dr := Nat.le_refl _
 output := ho.2.2.trans R.output
 old := fun k h1 h2 => (hne k (fun e => by
   subst e
   rcases hb with h | h
   · omega
   · exact h2 h)).trans (R.old k h1 h2)
 env := fun s y h => by
   have := R.env s y h
   generalize a.tmps.getD s undef = u at this ⊢
   rcases hen s y h with ⟨x, rfl⟩ | ⟨r, rfl⟩
   · cases this with | d h => cases h; exact .d .bool
   · cases this; exact .iter
 box := fun n cs h => by simp [get] at h
 vec := fun n s h => by simp [get] at h
 dbb := R.dbb
 dbv := R.dbv
 dvv := R.dvv
theorem Rel.also (R : Rel K st a w p) {t : Nat} {x : AV} (hx : RA w (okc K w p) p x (a.tmps.getD t undef)) : Rel K (st.put t x) a w p where
 lb := R.lb
 lv := R.lv
 dfr := R.dfr
 nt := R.nt
 ntl := R.ntl
 ion := R.ion
 size := R.size
 os := R.os
 tape := R.tape
 dr := R.dr
 output := R.output
 old := R.old
 env := fun s y h => by
   simp only [St.put, get] at h
   split at h
   · rename_i e; subst e; cases h; exact hx
   · exact R.env s y h
 box := R.box
 vec := R.vec
 dbb := R.dbb
 dbv := R.dbv
 dvv := R.dvv
theorem cptr_map {ok : Nat → Prop} {B b : Nat} {ty : TypeId} {fz : Nat × Nat} {e z : Nat} {rows : List (List D)} (hB : w.heap[B]? = some (.cells #[.map (some b)] ty fz)) (hok : ok B) (hm : RD w ok (.mp e z rows) (.map (some b))) : RA w ok p (.cptr [.mp e z rows] 0) (.pointer (some ⟨B, 0, none⟩)) := by
 have h := RA.cptr (p := p) (w := w) (ok := ok) (row := [.mp e z rows]) (o := 0) (a := ⟨B, 0, none⟩) (fun _ => .map (some b)) hok (fun j hj => by
   have : j = 0 := by simpa using hj
   subst this
   show w.cell? ⟨B, 0, none⟩ = _
   unfold World.cell?
   rw [hB]; rfl) (fun j x hx => by
   cases j with
   | zero => simp at hx; subst hx; exact hm
   | succ j => simp at hx)
 exact h
theorem tops_end {ops : Array Oper} : TOps P K ops [] st (endQ st) := tops_nil ⟨rfl, rfl⟩
theorem wpl_reg2 {ops : Array Oper} {l : List Oper} {t t' : Nat} {v v' : Value} {st1 : St} {F : Exit → Act → World → Prop} (hT : TOps P K ops l st (endQ st1)) (hd : ∀ o ∈ l, o.dst ≠ some t) (hd' : ∀ o ∈ l, o.dst ≠ some t') (R : Rel K st a w p) (hv : a.eval (.tmp t) = v) (hv' : a.eval (.tmp t') = v')
   (H : ∀ a w p, Rel K st1 a w p → a.eval (.tmp t) = v → a.eval (.tmp t') = v' → F .normal a w) : wpList P ops F l a w :=
 wpl_mono (fun e a w h => by
   obtain ⟨⟨⟨s, p, R, rfl, rfl⟩, h2⟩, h3⟩ := h
   exact H a w p R (h2 rfl) (h3 rfl)) _ _ _ (wpl_frame _ _ _ hd' hv' (wpl_frame _ _ _ hd hv (hT a w p R)))
def Kept {P : Program} (K : Ctx P) (w w' : World) (p p' : Pl) : Prop := ∀ b, okc K w p b → w'.heap[b]? = w.heap[b]? ∧ okc K w' p' b
theorem Kept.trans {w1 w2 w3 : World} {p1 p2 p3 : Pl} (h : Kept K w1 w2 p1 p2) (h' : Kept K w2 w3 p2 p3) : Kept K w1 w3 p1 p3 := fun b hb => ⟨(h' b (h b hb).2).1.trans (h b hb).1, (h' b (h b hb).2).2⟩
theorem Kept.mapR {w' : World} {p' : Pl} (h : Kept K w w' p p') {s : VS} {es : Array MapEntry} {clock : Nat} (hm : MapR w (okc K w p) s es clock) : MapR w' (okc K w' p') s es clock := hm.mono (fun q hq => see_of_block (h _ hq).1) fun k hk => (h k hk).2
theorem wpl_regF {ops : Array Oper} {l : List Oper} {t : Nat} {v : Value} {st1 : St} {F : Exit → Act → World → Prop} (hK : K.ios = []) (hT : ∀ K' : Ctx P, TOps P K' ops l st (endQ st1)) (hd : ∀ o ∈ l, o.dst ≠ some t) (R : Rel K st a w p) (hv : a.eval (.tmp t) = v)
   (H : ∀ a w' p', Rel K st1 a w' p' → Kept K w w' p p' → a.eval (.tmp t) = v → F .normal a w') : wpList P ops F l a w := by
 obtain ⟨K', _, R', back⟩ := R.freshH hK
 exact wpl_reg (hT K') hd R' hv fun a w' p' R2 hv => H a w' p' (back _ _ _ _ R2).1 (back _ _ _ _ R2).2 hv
theorem wpl_regF2 {ops : Array Oper} {l : List Oper} {t t' : Nat} {v v' : Value} {st1 : St} {F : Exit → Act → World → Prop} (hK : K.ios = []) (hT : ∀ K' : Ctx P, TOps P K' ops l st (endQ st1)) (hd : ∀ o ∈ l, o.dst ≠ some t) (hd' : ∀ o ∈ l, o.dst ≠ some t') (R : Rel K st a w p) (hv : a.eval (.tmp t) = v) (hv' : a.eval (.tmp t') = v')
   (H : ∀ a w' p', Rel K st1 a w' p' → Kept K w w' p p' → a.eval (.tmp t) = v → a.eval (.tmp t') = v' → F .normal a w') : wpList P ops F l a w := by
 obtain ⟨K', _, R', back⟩ := R.freshH hK
 exact wpl_reg2 (hT K') hd hd' R' hv hv' fun a w' p' R2 hv => H a w' p' (back _ _ _ _ R2).1 (back _ _ _ _ R2).2 hv
theorem wp_regF {id : Nat} {l : List Oper} {y : Code} {t : Nat} {v : Value} {st1 : St} {F : Exit → Act → World → Prop} (hK : K.ios = []) (hT : ∀ K' : Ctx P, TOps P K' l.toArray l st (endQ st1)) (hd : ∀ o ∈ l, o.dst ≠ some t) (R : Rel K st a w p) (hv : a.eval (.tmp t) = v)
   (H : ∀ a w' p', Rel K st1 a w' p' → Kept K w w' p p' → a.eval (.tmp t) = v → y.wp P F a w') : (Code.seq (.region id l.toArray false) y).wp P F a w :=
 wp_seq (wp_region_lit (wpl_regF hK hT hd R hv H))
theorem Rel.weak0 (R : Rel K st a w p) {st' : St} (W : Weak st st') : ∃ p', Rel K st' a w p' ∧ ∀ b, okc K w p b → okc K w p' b := by
 refine ⟨_, R.weak W, fun b h => ⟨h.1, h.2.1, fun n hn => h.2.2.1 n ?_, fun n hn => h.2.2.2 n ?_⟩⟩
 · obtain ⟨cs', hcs'⟩ := Option.isSome_iff_exists.1 hn
   obtain ⟨cs, hcs, _⟩ := leBox_get W.box hcs'
   exact (R.lbi n).2 (by simp [St.lb, hcs])
 · obtain ⟨q, hq⟩ := Option.isSome_iff_exists.1 hn
   exact (R.lvi n).2 (by simp [St.lv, leVec_get W.vec hq])
theorem Rel.alloc_quiet (R : Rel K st a w p) (o : Obj) : Rel K st a (w.alloc o) p ∧ (∀ k, okc K w p k → okc K (w.alloc o) p k) ∧ (∀ k, k < w.heap.size → (w.alloc o).heap[k]? = w.heap[k]?) ∧ (w.alloc o).heap[w.heap.size]? = some o ∧ okc K (w.alloc o) p w.heap.size := by
 have hsz := R.size
 have hnew : ∀ q : Addr, q.block < w.heap.size → see (w.alloc o) q = see w q := fun q hq => alloc_cell_old w _ q hq
 have hold : ∀ k, k < w.heap.size → (w.alloc o).heap[k]? = w.heap[k]? := fun k hk => heap_alloc_old w _ hk
 have hs1 : (w.alloc o).heap.size = w.heap.size + 1 := by unfold World.alloc; simp
 have hok : ∀ k, okc K w p k → okc K (w.alloc o) p k := fun k hk => okc_grow (by omega) hk
 exact ⟨R.evo ⟨by omega, rfl, rfl, rfl, fun k h1 _ => hold k (by omega), fun q hq => hnew q hq.1, hok, fun _ _ h => ⟨h, rfl⟩, fun _ _ h => ⟨h, rfl⟩, Nat.le_refl _⟩ (fun n hn => hold _ (R.blt hn)) (fun n g hn hg => hold _ (R.vlt hn hg).2), hok, hold, heap_alloc_new w _,
   ⟨by omega, .inr (.inl (by omega)), fun n hn e => by have := R.blt hn; omega, fun n hn e => by have := (R.vlt hn e).2; omega⟩⟩
theorem wl_load1 {o : Oper} {ops : Array Oper} {rest : List Oper} {Q : Exit → Act → World → Prop} (hg : o.guard = none) (t : TypeId) (x : Operand) (hop : o.op = .load t x) (g : Nat) (v : Value) (ty : TypeId) (fz : Nat × Nat) (hx : a.eval x = .pointer (some ⟨g, 0, none⟩)) (hu : (P.underlying t).isSome = true) (hag : isAggB P t = false)
   (hw : w.heap[g]? = some (.cells #[v] ty fz)) (hK : wpList P ops Q rest (a.put o.dst v) w) : wpList P ops Q (o :: rest) a w := by
 refine run_val hg (v := v) (w' := w) ?_ hK
 have hc : w.cell? ⟨g, 0, none⟩ = some v := by
   unfold World.cell?; rw [hw]; rfl
 simp [execOp, hop, hx, Instr.loadAt, Instr.sureAddr, loadVar, run_isAggB hu, hag, Result.andThen, hc]
theorem born_len {l l' : List MapEntry} (h : l'.map (·.born) = l.map (·.born)) (seen : Array Nat) : (l'.filter fun e => !seen.contains e.born).length = (l.filter fun e => !seen.contains e.born).length := by
 have k : ∀ l : List MapEntry, (l.filter fun e => !seen.contains e.born).length = ((l.map (·.born)).filter fun n => !seen.contains n).length := fun l => by
   rw [List.filter_map, List.length_map]; rfl
 rw [k, k, h]
attribute [local irreducible] VS.kz VS.va VS.ka tkz tka tva mTag
theorem wl_update {o : Oper} {ops : Array Oper} {rest : List Oper} {Q : Exit → Act → World → Prop} {ok : Nat → Prop} {s : VS} {t kt et : TypeId} {x k y : Operand} {kav yav : AV} {kd vd q : List D} {i b clock : Nat} {es : Array MapEntry}
   (hg : o.guard = none) (ho : o.op = .mapUpdate t x k y) (hd : o.dst = none) (hu : P.underlying t = some (.map kt et)) (hkb : keyB P kt s.ka kav = true) (hM : MapR w ok s es clock) (hx : a.eval x = .map (some b)) (hb : w.heap[b]? = some (.map es clock))
   (hk : RA w ok p kav (a.eval k)) (hy : RA w ok p yav (a.eval y)) (hkd : unpackMA s.ka kav = some kd) (hvd : unpackMA s.va yav = some vd) (hkz : kd.length = s.kz) (hf : findM P kt s.ka s.kz kav s.rows = some (some (i, q)))
   (hK : ∀ es' : Array MapEntry, es'.toList.map (·.born) = es.toList.map (·.born) → MapR w ok { s with rows := s.rows.set i (kd ++ vd) } es' clock → wpList P ops Q rest (a.put none undef) { w with heap := w.heap.setIfInBounds b (.map es' clock) }) : wpList P ops Q (o :: rest) a w := by
 have hck := checkKey_ok hkb hk false
 obtain ⟨r, f1, f2⟩ := findKey_ok hkb hk hM.key.1 hM.key.2 hf
 obtain ⟨e, row, g1, g2, g3, g4, g5⟩ := f2
 subst g5
 have g1' : es[i]? = some e := by rw [← Array.getElem?_toList]; exact g1
 have hsame := kEq_same hkb g4 hk (hM.row' g2 g1').1
 have hrun : (Instr.mapUpdate t (.map (some b)) (a.eval k) (a.eval y)).run P w = .ok () { w with heap := w.heap.setIfInBounds b (.map (es.modify i fun e => { e with key := a.eval k, val := a.eval y }) clock) } := by
   simp [Instr.mapUpdate, run_underlying hu, Result.andThen, MapKept.run_getObj_map hb, hck, f1, MapKept.run_setObj_map _ hb, Instr.keyThatStays, g1', hsame]
 refine run_skip hg (w' := { w with heap := w.heap.setIfInBounds b (.map (es.modify i fun e => { e with key := a.eval k, val := a.eval y }) clock) }) (by simp [execOp, ho, hx, hrun]) ?_
 rw [hd]
 refine hK _ ?_ (mapR_set (s' := { s with rows := s.rows.set i (kd ++ vd) }) hM rfl rfl hkz (unpackMA_pd hkd hk) (unpackMA_pd hvd hy))
 apply List.ext_getElem?
 intro j
 simp only [List.getElem?_map, Array.getElem?_toList, Array.getElem?_modify]
 by_cases hij : i = j
 · subst hij
   cases he : es[i]? with
   | none => simp
   | some e => simp
 · simp [hij]
theorem map_at {w : World} {ok : Nat → Prop} {p : Pl} {sM : VS} {es : Array MapEntry} {clock : Nat} (h : MapR w ok sM es clock) {j : Nat} {row : List D} {e : MapEntry} {kA vA : AV} (h1 : sM.rows[j]? = some row) (h2 : es[j]? = some e) (hk : packMA sM.ka (row.take sM.kz) = some kA) (hv : packMA sM.va (row.drop sM.kz) = some vA) : RA w ok p kA e.key ∧ RA w ok p vA e.val := by
 obtain ⟨r1, r2⟩ := h.row' h1 h2
 exact ⟨packMA_ra hk r1, packMA_ra hv r2⟩
end
end Go.Vl
