/- The value logic: regions that draw their order, by hand: what may be taken first, and what that leaves alone. Conditions: none. -/
import Derived.Test.YtjnflahicimmlaaGreatDoorVmQq
set_option linter.unusedSimpArgs false
set_option linter.unusedVariables false
namespace Go.Vl
open Go Go.RowKit
section
attribute [local irreducible] VS.kz VS.va VS.ka tkz tka tva mTag
variable {P : Program} {K : Ctx P} {st : St} {a : Act} {w : World} {p : Pl}
theorem eval_put_other {d : Option Nat} {t : Nat} {u : Value} (h : d ≠ some t) : (a.put d u).eval (.tmp t) = a.eval (.tmp t) := by
 cases d with
 | none => rfl
 | some k =>
   have hk : k ≠ t := fun e => h (by rw [e])
   simp [Act.put, Act.eval, Array.getElem?_setIfInBounds_ne hk]
theorem look_still (R : Rel K st a w p) {o : Oper} {t kt et : TypeId} {x k : Operand} {e z : Nat} {rows : List (List D)} {v : AV} (ho : o.op = .lookup t x k false) (hu : P.underlying t = some (.map kt et)) (hx : opd st x = .d (.mp e z rows)) (hl : lookA P st t (opd st x) (opd st k) false = some v) :
   ∃ u, (∀ w' : World, (∀ g, okc K w p g → w'.heap[g]? = w.heap[g]?) → (execOp a.eval o).run P w' = .ok (.value u) w') ∧ RA w (okc K w p) p v u := by
 unfold lookA at hl
 rw [hu, hx] at hl
 simp only at hl
 split at hl
 case isFalse => cases hl
 rename_i hkb
 have h1 := R.opd x
 rw [hx] at h1
 generalize hv : a.eval x = u0 at h1
 cases h1 with
 | d h1 =>
   obtain ⟨b, es, clock, rfl, e3, okb, _, e4⟩ := h1.mp_inv
   have hm : ∀ w' : World, (∀ g, okc K w p g → w'.heap[g]? = w.heap[g]?) → w'.heap[b]? = some (.map es clock) := fun w' h => (h b okb).trans e3
   have hkr : ∀ w' : World, (∀ g, okc K w p g → w'.heap[g]? = w.heap[g]?) → RA w' (okc K w p) p (opd st k) (a.eval k) := fun w' h => (R.opd k).mono (fun q hq => see_of_block (h _ hq)) (fun _ h => h) (fun _ h => ⟨h, rfl⟩) (fun _ h => ⟨h, rfl⟩)
   have hmr : ∀ w' : World, (∀ g, okc K w p g → w'.heap[g]? = w.heap[g]?) → MapR w' (okc K w p) ⟨e, z, rows⟩ es clock := fun w' h => e4.mono (fun q hq => see_of_block (h _ hq)) fun _ h => h
   cases hf : findM P kt (VS.mk e z rows).ka (VS.mk e z rows).kz (opd st k) rows with
   | none => rw [hf, Option.bind_none] at hl; cases hl
   | some q =>
     simp only [hf, Option.bind_some, lookR] at hl
     cases q with
     | none =>
       simp only [Option.map_eq_some_iff] at hl
       obtain ⟨zz, hz, hl⟩ := hl
       simp only [Bool.false_eq_true, if_false] at hl
       subst hl
       have hz0 := hz
       unfold zeroV at hz
       cases hi : P.info? et with
       | none => simp [hi] at hz
       | some i =>
         cases hz' : i.zero with
         | none => simp [hi, hz'] at hz
         | some zv =>
           refine ⟨zv, fun w' h => ?_, ?_⟩
           · obtain ⟨r, f1, f2⟩ := findKey_ok hkb (hkr w' h) (hmr w' h).key.1 (hmr w' h).key.2 hf
             have hr : r = none := f2
             subst hr
             have z1 : (zeroValue et).run P w' = .ok zv w' := by simp [zeroValue, typeInfo, hi, hz']
             have hck := checkKey_ok hkb (hkr w' h) es.isEmpty
             have : (Instr.lookup t (.map (some b)) (a.eval k) false).run P w' = .ok zv w' := by
               simp [Instr.lookup, run_underlying hu, Result.andThen, MapKept.run_getObj_map (hm w' h), hck, f1, z1]
             simp [execOp, ho, hv, this]
           · obtain ⟨u, z1, z2⟩ := zeroV_ok (P := P) (w := w) (ok := okc K w p) (p := p) (t := et) (x := zz) hz0
             have : (zeroValue et).run P w = .ok zv w := by simp [zeroValue, typeInfo, hi, hz']
             rw [this] at z1
             cases z1; exact z2
     | some q =>
       simp only [Option.map_eq_some_iff] at hl
       obtain ⟨zz, hz, hl⟩ := hl
       simp only [Bool.false_eq_true, if_false] at hl
       subst hl
       obtain ⟨r, f1, f2⟩ := findKey_ok hkb (R.opd k) e4.key.1 e4.key.2 hf
       obtain ⟨en, row, g1, g2, g3, g4, g5⟩ := f2
       refine ⟨en.val, fun w' h => ?_, ?_⟩
       · obtain ⟨r', f1', f2'⟩ := findKey_ok hkb (hkr w' h) (hmr w' h).key.1 (hmr w' h).key.2 hf
         obtain ⟨en', row', g1', g2', g3', g4', g5'⟩ := f2'
         have e0 : en' = en := by rw [g1] at g1'; exact (Option.some.inj g1').symm
         subst e0
         subst g5'
         have hck := checkKey_ok hkb (hkr w' h) es.isEmpty
         have : (Instr.lookup t (.map (some b)) (a.eval k) false).run P w' = .ok en'.val w' := by
           simp [Instr.lookup, run_underlying hu, Result.andThen, MapKept.run_getObj_map (hm w' h), hck, f1']
         simp [execOp, ho, hv, this]
       · rw [g3] at hz
         have hp := e4.val g2 g1
         exact packMA_ra (p := p) hz hp
theorem stills_runK {ops : Array Oper} {F : Exit → Act → World → Prop} {S : World → Prop} (T : List Nat) (hs : Region.noSelect ops = true) (hF : ∀ c a w, ¬ F (.panic c) a w) (hS : ∀ w', S w' → Agree K p w w') (hS0 : S w) {n : Nat} {st1 : St} : ∀ (is : List Nat) (listed : Array Bool) (st : St) (a : Act), takeB ops is listed = true →
   (∀ i ∈ is, ∀ o, ops[i]? = some o → ∀ t ∈ T, o.dst ≠ some t) → Rel K st a w p → stills P ops is st = some st1 → (∀ a1, Rel K st1 a1 w p → (∀ t ∈ T, a1.eval (.tmp t) = a.eval (.tmp t)) → wpAnyH P .any ops F S n (listAll is listed) a1 w) → wpAnyH P .any ops F S (is.length + n) listed a w
 | [], listed, st, a, _, _, R, h, H => by
   simp [stills] at h; subst h
   simpa [listAll] using H a R (fun _ _ => rfl)
 | i :: is, listed, st, a, ht, hT, R, h, H => by
   simp only [takeB, Bool.and_eq_true] at ht
   obtain ⟨⟨hr, hf⟩, ht'⟩ := ht
   simp only [stills] at h
   cases h0 : ops[i]? with
   | none => simp [h0] at h
   | some o =>
     simp only [h0, Option.bind_some] at h
     split at h
     case isFalse => cases h
     rename_i hst
     cases hv : vput P st o with
     | none => simp [hv] at h
     | some st2 =>
       simp only [hv, Option.bind_some] at h
       unfold vput at hv
       cases hx : vstep P st o with
       | none => simp [hx] at hv
       | some x =>
         simp only [hx, Option.bind_some] at hv
         obtain ⟨v, g1, g2⟩ := still_sound R hst.2 hx
         rw [List.length_cons, show is.length + 1 + n = (is.length + n) + 1 by omega]
         exact wpAnyH_take h0 hs hf hr (fun c a w q => absurd q (hF c _ w)) (.inl ⟨gd_sound R hst.1, fun w' hw' => g1 w' (hS w' hw')⟩) hS0
           (stills_runK T hs hF hS hS0 is _ st2 _ ht' (fun j hj => hT j (List.mem_cons_of_mem _ hj)) (R.puto g2 hv) h fun a1 R1 hk => H a1 R1 fun t ht2 => (hk t ht2).trans (eval_put_other (hT i (List.mem_cons_self ..) o h0 t ht2)))
theorem kheldE {id : Nat} {l : List Oper} {y : Code} {Q : Exit → St → Prop} {ν : Type} {S0 : ν → St} {G : ν → Prop} {st1 : St} (is : List Nat) (n : Nat) (hK : K.ios.length = 0) (hm : P.follows .mixedOrders = true) (hB : (Region.noSelect l.toArray && decide (is.length + n = l.toArray.size) && takeB l.toArray is (Array.replicate l.toArray.size false)) = true)
   {ol : List (Option Oper)} (hol : is.map (l.toArray[·]?) = ol) {os : List Oper} (hoo : ol.filterMap (fun x => x) = os) (hos : ol = os.map some) (h' : stillsL P l.toArray os st = some st1)
   (H : ∀ K' S F, HCtx K' S F (fun e s => e = .normal ∧ ∃ m, G m ∧ Weak s (S0 m)) → HOps P K' S F l.toArray n (listAll is (Array.replicate l.toArray.size false)) st1) (h2 : ∀ m, G m → Tr P K y (S0 m) Q) : Tr P K (.seq (.region id l.toArray true) y) st Q :=
 tr_seq fun a w p R => wp_mono (ho_start is n hK hm hB (fun c s h => by cases h.1) hol hoo hos h' H a w p R) fun e a' w' ⟨s, p', R', he, m, hg, hw⟩ => by
   subst he
   exact ⟨s, p', R', tr_weak hw (h2 m hg)⟩
end
end Go.Vl
