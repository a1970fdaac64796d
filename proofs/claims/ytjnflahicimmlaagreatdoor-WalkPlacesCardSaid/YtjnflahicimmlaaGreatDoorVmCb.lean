/- A call that turns rows in their place, which boxes name too. Conditions: none. -/
import Derived.Test.YtjnflahicimmlaaGreatDoorVmZb
set_option linter.unusedSimpArgs false
set_option linter.unusedVariables false
namespace Go.Vl
open Go
def setB (b i n : Nat) : List (Nat × List AV) → List (Nat × List AV)
 | [] => []
 | (k, cs) :: l => if k = b then (k, cs.set i (.vec n)) :: l else (k, cs) :: setB b i n l
theorem get_setB (b i n : Nat) : ∀ (l : List (Nat × List AV)) (t : Nat), get (setB b i n l) t = if t = b then (get l b).map (·.set i (.vec n)) else get l t
 | [], t => by simp [setB, get]
 | (k, cs) :: l, t => by
   rw [setB]
   by_cases h : k = b
   · rw [if_pos h]
     subst h
     simp only [get]
     by_cases e : t = k
     · subst e; simp
     · have e' : ¬ k = t := fun h => e h.symm
       simp only [if_neg e, if_neg e']
   · rw [if_neg h]
     simp only [get, get_setB b i n l t]
     by_cases e : t = b
     · subst e; simp [h]
     · simp [e]
def putsB : List (Nat × Nat × Nat) → St → St
 | [], st => st
 | (b, i, n) :: ts, st => let s := putsB ts st; { s with box := setB b i n s.box }
section
variable {P : Program} {K : Ctx P} {st : St}
theorem putsB_rel {st st' : St} {a : Act} {w w' : World} {p p' : Pl} (R : Rel K st a w p) : ∀ (ts : List (Nat × Nat × Nat)), Rel K st' a w' p' → (∀ q ∈ ts, (∃ cs, get st.box q.1 = some cs ∧ cs[q.2.1]? = some (.vec q.2.2)) ∧ p'.lv q.2.2 ∧ p'.rw q.2.2 = p.rw q.2.2 ∧ w'.heap[p'.bx q.1]? = w.heap[p.bx q.1]?) → Rel K (putsB ts st') a w' p' ∧ (putsB ts st').nt = st'.nt
 | [], R', _ => ⟨R', rfl⟩
 | (b, i, n) :: ts, R', h => by
   obtain ⟨R2, h2⟩ := putsB_rel R ts R' (fun q hq => h q (by simp [hq]))
   obtain ⟨⟨cs0, h1, h1'⟩, h3, h4, h5⟩ := h (b, i, n) (by simp)
   refine ⟨?_, h2⟩
   obtain ⟨⟨vs0, ty0, g1, g2, g3, _⟩, _⟩ := R.box b cs0 h1
   have hlb : (fun m => St.lb { putsB ts st' with box := setB b i n (putsB ts st').box } m = true) = fun m => St.lb (putsB ts st') m = true := by
     funext m
     simp only [St.lb, get_setB]
     by_cases e : m = b
     · subst e; simp
     · simp [e]
   exact {
     lb := by rw [R2.lb]; exact hlb.symm
     lv := R2.lv, dfr := R2.dfr, nt := R2.nt, ntl := R2.ntl, ion := R2.ion, size := R2.size, os := R2.os, tape := R2.tape, dr := R2.dr, output := R2.output, old := R2.old
     env := R2.env
     box := fun m cs hm => by
       have hm : get (setB b i n (putsB ts st').box) m = some cs := hm
       rw [get_setB] at hm
       by_cases e : m = b
       · subst e
         rw [if_pos rfl] at hm
         cases hg : get (putsB ts st').box m with
         | none => rw [hg] at hm; cases hm
         | some cs1 =>
           rw [hg] at hm
           cases hm
           obtain ⟨⟨vs, ty, k1, k2, k3, k4⟩, k5⟩ := R2.box m cs1 hg
           refine ⟨⟨vs, ty, k1, by rw [k2]; simp, fun j c v hj hv => ?_, k4⟩, k5⟩
           rw [List.getElem?_set] at hj
           split at hj
           · rename_i hij
             split at hj
             · cases hj
               subst hij
               have h9 := k1.symm.trans (h5.trans g1)
               cases h9
               have hra := g3 i _ v h1' hv
               cases hra
               exact RA.vec_at h3 h4
             · cases hj
           · exact k3 j c v hj hv
       · rw [if_neg e] at hm
         exact R2.box m cs hm
     vec := R2.vec, dbb := R2.dbb, dbv := R2.dbv, dvv := R2.dvv }
theorem kcallB {ops : Array Oper} {Q : Exit → St → Prop} {f : FuncId} {bx : List (List AV)} {vx : List VS} {cargs : List AV} {res : AV} {bx' : List (List AV)} {vx' : List VS} {o : Oper} {c : Call} {y : Operand} {l : List Oper} {d : Nat} {st1 : St} (ks σ τ : List Nat) (ts : List (Nat × Nat)) (bs : List (Nat × Nat × Nat)) (F : FnOKh P f bx vx cargs res bx' vx') (ho : o.op = .call c) (hc : c.callee = .value y) (hd : o.dst = some d)
   (hcall : ∀ (args : Array Value) (w : World), (callFunc f args).run P w = .ok (.enter f args) w)
   (hall : gdA ops st o = some true ∧ d < st.nt ∧ σ.Nodup ∧ τ.Nodup ∧ (∃ caps, opd st y = .fn f caps ∧ (c.args.toList.map (opd st) ++ caps).map (AV.view [] τ σ) = cargs) ∧ boxesIn st τ σ σ bx ∧ vecsAre st τ vx ∧ bx.length = bx'.length ∧ τ.length = vx'.length ∧ (∀ q ∈ ts, st.look q.1 = .vec q.2 ∧ q.2 ∈ τ))
   (hbs : ∀ q ∈ bs, (∃ cs, get st.box q.1 = some cs ∧ cs[q.2.1]? = some (.vec q.2.2)) ∧ q.2.2 ∈ τ ∧ q.1 ∉ σ)
   (hs : St.kp ks ((putsB bs (putsV ts (calledSt st σ τ τ bx' vx'))).put d (res.back τ σ)) = st1)
   (h : TOps P K ops l st1 Q) : TOps P K ops (o :: l) st Q := by
 obtain ⟨hg, hdn, hσ, hτ, hfn, hbx, hvx, hl, hlυ, hts⟩ := hall
 subst hs
 have h := tops_wk (wk_kp ks) h
 intro a w p R
 unfold wpList
 rw [gd_sound R hg, if_pos rfl]
 refine .inl ?_
 unfold Oper.wp
 obtain ⟨caps, hf, hargs⟩ := hfn
 obtain ⟨cs, hy, hcl, hh⟩ := eval_fn R hf
 rw [enter_run ho hc hy hcall]
 show Calls P f (c.args.map a.eval ++ cs) w _
 refine (call_coreG F R (υ := τ) ⟨hg, hdn, hσ, hτ, hτ, ⟨caps, hf, hargs⟩, hbx, hvx, hl, hlυ, fun n hn => .inl hn⟩ ⟨caps, hcl, hh, hargs⟩).mono fun e w' ⟨v, p', he, R', hv, iv', hG, hk, hB⟩ => ?_
 subst he
 subst hG
 have hkk : ∀ n ∈ τ, p'.lv n ∧ p'.rw n = p.rw n := fun n hn => by
   obtain ⟨i, hi⟩ := List.mem_iff_getElem?.1 hn
   obtain ⟨k1, k2⟩ := hk i n hi
   rw [List.getElem?_map, hi] at k2
   exact ⟨k1, by simpa using k2.symm⟩
 obtain ⟨R2, h2⟩ := putsV_rel R ts R' rfl (fun q hq => by
   obtain ⟨g1, g2⟩ := hts q hq
   exact ⟨g1, hkk _ g2⟩)
 obtain ⟨R3, h3⟩ := putsB_rel R bs R2 (fun q hq => by
   obtain ⟨g1, g2, g3⟩ := hbs q hq
   obtain ⟨k1, k2⟩ := hkk _ g2
   have g1' := g1
   obtain ⟨cs0, e1, _⟩ := g1'
   exact ⟨g1, k1, k2, hB q.1 ((R.lbi q.1).2 (by simp [St.lb, e1])) g3⟩)
 show wpList P ops (Pst K Q) l (a.put o.dst v) w'
 rw [hd]
 exact h _ _ _ (R3.put hv (by rw [h3, h2]; exact hdn))
end
attribute [simp] putsB setB
end Go.Vl
