/- A row that lies in frozen memory of one's own, turned in its place; regions by their rules with two slots told as they were. Conditions: none. -/
import Derived.Test.YthpiljonjcfgcaaDoorVmHk
import Derived.Deep.Upon
set_option linter.unusedSimpArgs false
set_option linter.unusedVariables false
namespace Go.Vl
open Go Go.RowKit
section
variable {P:Program} {K:Ctx P} {st:St} {a:Act} {w:World} {p:Pl}
theorem wpOp_frame {ops:Array Oper} {F:Exit→Act→World→Prop} {K1 K2:Act→World→Prop} {i t:Nat} {v:Value} (ho:∀o,ops[i]? =some o→o.dst≠some t) (hv:a.eval (.tmp t)=v) (hK:∀a w,a.eval (.tmp t)=v→K1 a w→K2 a w) (h:wpOp P ops F i K1 a w):
  wpOp P ops (fun e a w=>F e a w∧(e=.normal→a.eval (.tmp t)=v)) i K2 a w:=by
 unfold wpOp at h ⊢
 cases h0:ops[i]? with
 |none=>simp only[h0] at h ⊢;exact hK _ _ hv h
 |some o=>
  simp only[h0] at h ⊢
  have hd1:=ho o h0
  have hp:∀u,(a.put o.dst u).eval (.tmp t)=v:=fun u=>(eval_put_ne hd1).trans hv
  split
  ·rename_i hw
   rw[if_pos hw] at h
   rcases h with h |⟨h1,a0,w0,q⟩
   ·left
    unfold Oper.wp at h ⊢
    generalize (execOp a.eval o).run P w=r at h ⊢
    cases r with
    |ok n w'=>
     cases n <;> simp only[Oper.upon] at h ⊢
     case value u=>exact hK _ _ (hp _) h
     case skip=>exact hK _ _ (hp _) h
     case defer d=>exact hK _ _ ((eval_put_ne hd1).trans hv) h
     case enter f args=>
      refine Calls.mono h fun e w'' he=>?_
      cases e with
      |returned u=>exact hK _ _ (hp _) he
      |panicked c=>exact⟨he,fun e=>by cases e⟩
      |outgrown=>obtain⟨a0,w0,q⟩:=he;exact⟨a0,w0,q,fun e=>by cases e⟩
     case row row args=>exact Rows.mono h fun u w'' he=>hK _ _ (hp _) he
    |halt x w'=>
     cases x <;> simp only[Oper.upon] at h ⊢
     case panic u=>exact⟨h,fun e=>by cases e⟩
   ·exact .inr ⟨h1,a0,w0,q,fun e=>by cases e⟩
  ·rename_i hw
   rw[if_neg hw] at h
   exact hK _ _ (hp _) h
theorem anyH_frame {md:Region.Mode} {ops:Array Oper} {F:Exit→Act→World→Prop} {S:World→Prop} {t:Nat} {v:Value} (hd:∀(i:Nat) (o:Oper),ops[i]? =some o→o.dst≠some t):∀(n:Nat) (listed:Array Bool) (a:Act) (w:World),a.eval (.tmp t)=v→wpAnyH P md ops F S n listed a w→
  wpAnyH P md ops (fun e a w=>F e a w∧(e=.normal→a.eval (.tmp t)=v)) S n listed a w
 |0,_,_,_,hv,h=>⟨h.1,h.2,fun _=>hv⟩
 |n+1,listed,a,w,hv,h=>⟨fun hr=>⟨h.1 hr,fun _=>hv⟩,fun i hi=>wpOp_frame (hd i) hv (fun a' w' hv' hq=>⟨hq.1,anyH_frame hd n _ a' w' hv' hq.2⟩) (h.2 i hi)⟩
def cmpOp:BinOp→Bool
 | .eql | .neq | .lss | .leq | .gtr | .geq=>true
 |_=>false
theorem cmp_int {op:BinOp} (hop:cmpOp op=true) {t:TypeId} {k k':IntKind} {x y:Int} {z:AV} (h:binA P op t (.d (.int k x)) (.d (.int k' y))=some z):∃c,z=.d (.bool c):=by
 cases op <;> simp[cmpOp] at hop <;> (simp only[binA] at h;split at h <;> simp[intBin] at h;exact⟨_,h.symm⟩)
theorem cmp_str {op:BinOp} (hop:cmpOp op=true) {t:TypeId} {x y:ByteArray} {z:AV} (h:binA P op t (.d (.str x)) (.d (.str y))=some z):∃c,z=.d (.bool c):=by
 cases op <;> simp[cmpOp] at hop <;> (simp [binA,strBin] at h;exact⟨_,h.symm⟩)
def stillC (P:Program) (st:St) (o:Oper):Bool:=
 stillB P st o||match o.op with
 | .binOp op _ x y _=>cmpOp op&&(match opd st x with | .d (.int _ _)=>(match opd st y with | .d (.int _ _)=>true |_=>false) | .d (.str _)=>(match opd st y with | .d (.str _)=>true |_=>false) |_=>false)
 | .pick _ _ _=>true
 |_=>false
theorem stillC_sound (R:Rel K st a w p) {o:Oper} {x:AV} (hp:stillC P st o=true) (h:vstep P st o=some x):
  ∃v,(∀w',Agree K p w w'→(execOp a.eval o).run P w'=.ok (.value v) w')∧RA w (okc K w p) p x v:=by
 unfold stillC at hp
 cases hq:stillB P st o with
 |true=>exact still_sound R hq h
 |false=>
  rw[hq,Bool.false_or] at hp
  have close:∀{s:Sem Value} {v:Value} {w:World},s.run P w=.ok v w→(do pure (Next.value (← s)):Sem Next).run P w=.ok (.value v) w:=fun h1=>by simp[h1]
  split at hp
  ·rename_i op t y z rt ho
   simp only[Bool.and_eq_true] at hp
   obtain⟨hop,hp⟩:=hp
   simp only[vstep,ho] at h
   have hy:=R.opd y
   have hz:=R.opd z
   split at hp
   ·rename_i k1 n1 e1
    split at hp
    case h_2=>cases hp
    rename_i k2 n2 e2
    rw[e1,e2] at h
    rw[e1] at hy
    rw[e2] at hz
    obtain⟨c,rfl⟩:=cmp_int hop h
    refine⟨.bool c,fun w' _=>?_,.d .bool⟩
    generalize hu:a.eval y=u at hy
    generalize hv:a.eval z=v at hz
    cases hy with |d hy=>cases hy with |int=>
    cases hz with |d hz=>cases hz with |int=>
    obtain⟨r,h1,h2⟩:=binA_sound (w:=w') (ok:=fun _=>False) (p:=p) h (.d .int) (.d .int) y z
    cases h2 with |d h2=>cases h2 with |bool=>
    unfold execOp
    simp only[ho,hu,hv]
    exact close h1
   ·rename_i s1 e1
    split at hp
    case h_2=>cases hp
    rename_i s2 e2
    rw[e1,e2] at h
    rw[e1] at hy
    rw[e2] at hz
    obtain⟨c,rfl⟩:=cmp_str hop h
    refine⟨.bool c,fun w' _=>?_,.d .bool⟩
    generalize hu:a.eval y=u at hy
    generalize hv:a.eval z=v at hz
    cases hy with |d hy=>cases hy with |str=>
    cases hz with |d hz=>cases hz with |str=>
    obtain⟨r,h1,h2⟩:=binA_sound (w:=w') (ok:=fun _=>False) (p:=p) h (.d .str) (.d .str) y z
    cases h2 with |d h2=>cases h2 with |bool=>
    unfold execOp
    simp only[ho,hu,hv]
    exact close h1
   ·cases hp
  ·rename_i c y z ho
   obtain⟨v,h1,h2⟩:=vstep_sound R h
   refine⟨v,fun w' _=>?_,h2⟩
   simp only[vstep,ho] at h
   have hc:=R.opd c
   unfold pickA at h
   split at h
   ·rename_i b e1
    rw[e1] at hc
    generalize hu:a.eval c=u at hc
    cases hc with |d hd=>cases hd with |bool=>
    simp[execOp,ho,hu,asBool] at h1 ⊢
    exact h1
   ·cases h
  ·cases hp
def stillsG (P:Program) (ops:Array Oper):List Oper→St→Option St
 |[],st=>some st
 |o::os,st=>if gdA ops st o=some true∧stillC P st o=true then(vput P st o).bind (stillsG P ops os)
  else if gdA ops st o=some false then(match o.dst with |some d=>if d < st.nt then stillsG P ops os (st.put d (.tup [])) else none |none=>none) else none
theorem stillsG_run {ops:Array Oper} {F:Exit→Act→World→Prop} {S:World→Prop} (hs:Region.noSelect ops=true) (hF:∀c a w,¬F (.panic c) a w) (hS:∀w',S w'→Agree K p w w') (hS0:S w) {n:Nat} {st1:St}:∀(is:List Nat) (os:List Oper) (listed:Array Bool) (st:St) (a:Act),is.map (ops[·]?)=os.map some→takeB ops is listed=true→
  Rel K st a w p→stillsG P ops os st=some st1→(∀a1,Rel K st1 a1 w p→wpAnyH P .any ops F S n (listAll is listed) a1 w)→wpAnyH P .any ops F S (is.length+n) listed a w
 |[],[],listed,st,a,_,_,R,h,H=>by
  simp[stillsG] at h;subst h
  simpa[listAll] using H a R
 |[],_::_,_,_,_,h,_,_,_,_=>by simp at h
 |_::_,[],_,_,_,h,_,_,_,_=>by simp at h
 |i::is,o::os,listed,st,a,hio,ht,R,h,H=>by
  simp only[List.map_cons,List.cons.injEq] at hio
  obtain⟨h0,hio⟩:=hio
  simp only[takeB,Bool.and_eq_true] at ht
  obtain⟨⟨hr,hf⟩,ht'⟩:=ht
  simp only[stillsG] at h
  rw[List.length_cons,show is.length+1+n=(is.length+n)+1 by omega]
  split at h
  ·rename_i hst
   cases hv:vput P st o with
   |none=>rw[hv] at h;cases h
   |some st2=>
    rw[hv,Option.bind_some] at h
    unfold vput at hv
    cases hx:vstep P st o with
    |none=>rw[hx] at hv;cases hv
    |some x=>
     rw[hx,Option.bind_some] at hv
     obtain⟨v,g1,g2⟩:=stillC_sound R hst.2 hx
     exact wpAnyH_take h0 hs hf hr (fun c a w q=>absurd q (hF c _ w)) (.inl ⟨gd_sound R hst.1,fun w' hw'=>g1 w' (hS w' hw')⟩) hS0
      (stillsG_run hs hF hS hS0 is os _ st2 _ hio ht' (R.puto g2 hv) h H)
  ·split at h
   case isFalse=>cases h
   rename_i hg
   cases hd:o.dst with
   |none=>simp[hd] at h
   |some d=>
    simp only[hd] at h
    split at h
    case isFalse=>cases h
    rename_i hdn
    refine wpAnyH_take (v:=undef) h0 hs hf hr (fun c a w q=>absurd q (hF c _ w)) (.inr ⟨gd_sound R hg,rfl⟩) hS0 ?_
    rw[hd]
    exact stillsG_run hs hF hS hS0 is os _ _ _ hio ht' (R.put (RA.tup (l:=[]) (cs:=#[]) rfl (fun i a v ha=>by simp at ha)) hdn) h H
theorem wp_heldT {id:Nat} {l:List Oper} {st1 S0:St} {t t':Nat} {v v':Value} {F:Exit→Act→World→Prop} (is:List Nat) (n:Nat) (hK:K.ios=[]) (hm:P.follows .mixedOrders=true) (hB:(Region.noSelect l.toArray&&decide (is.length+n=l.toArray.size)&&takeB l.toArray is (Array.replicate l.toArray.size false))=true)
  {ol:List (Option Oper)} (hol:is.map (l.toArray[·]?)=ol) {os:List Oper} (hoo:ol.filterMap (fun x=>x)=os) (hos:ol=os.map some) (h':stillsG P l.toArray os st=some st1)
  (H:∀K' S F,HCtx K' S F (fun e s=>e=.normal∧Weak s S0)→HOps P K' S F l.toArray n (listAll is (Array.replicate l.toArray.size false)) st1) (hd:∀o∈l,o.dst≠some t) (hd':∀o∈l,o.dst≠some t') (R:Rel K st a w p) (hv:a.eval (.tmp t)=v) (hv':a.eval (.tmp t')=v')
  (G:∀a w' p',Rel K S0 a w' p'→Kept K w w' p p'→a.eval (.tmp t)=v→a.eval (.tmp t')=v'→F .normal a w'):(Code.region id l.toArray true).wp P F a w:=by
 simp only[Bool.and_eq_true,decide_eq_true_eq] at hB
 obtain⟨⟨hs,hn⟩,ht⟩:=hB
 have hdo:∀{t:Nat},(∀o∈l,o.dst≠some t)→∀(i:Nat) (o:Oper),l.toArray[i]? =some o→o.dst≠some t:=fun hd i o ho=>hd o (by rw[List.getElem?_toArray] at ho;exact List.mem_of_getElem? ho)
 have key:wpAnyH P .any l.toArray (fun e a w'=>e=.normal∧∃p',Rel K S0 a w' p'∧Kept K w w' p p') (Agree K p { w with drawn:=w.drawn+1 }) (is.length+n) (Array.replicate l.toArray.size false) a { w with drawn:=w.drawn+1 }:=by
  refine stillsG_run hs (fun c a w h=>by cases h.1) (fun _ h=>h) (fun _ _=>rfl) is os _ st a (hol.trans hos) ht R.drew h' fun a1 R1=>?_
  obtain⟨K',_,R2,hb⟩:=R1.freshH hK
  refine H K' _ _ ⟨fun st a w p R=>fun q hq=>see_of_block ((hb _ _ _ _ R).2 _ hq).1,fun e s a w2 p2 R q=>?_,fun c a w h=>by cases h.1⟩ a1 _ p R2
  obtain⟨he,hw⟩:=q
  obtain⟨p3,R3,h3⟩:=(hb _ _ _ _ R).1.weak0 hw
  exact⟨he,p3,R3,fun b hq=>⟨((hb _ _ _ _ R).2 b hq).1,h3 _ ((hb _ _ _ _ R).2 b hq).2⟩⟩
 have key:=anyH_frame (hdo hd') _ _ _ _ hv' (anyH_frame (hdo hd) _ _ _ _ hv key)
 rw[hn] at key
 exact wp_mono (wp_region_held hm key) fun e a w ⟨⟨⟨he,p',R',kp⟩,h1⟩,h2⟩=>by subst he;exact G a w p' R' kp (h1 rfl) (h2 rfl)
theorem wpl_app {ops:Array Oper} {F:Exit→Act→World→Prop} {G:Act→World→Prop} {l2:List Oper} (H:∀a w,G a w→wpList P ops F l2 a w):∀(l1:List Oper) (a:Act) (w:World),wpList P ops (fun e a w=>e=.normal∧G a w) l1 a w→wpList P ops F (l1++l2) a w
 |[],a,w,h=>H a w h.2
 |o::l,a,w,hh=>by
  rw[List.cons_append]
  unfold wpList at hh ⊢
  split
  ·rename_i hw
   rw[if_pos hw] at hh
   rcases hh with hh |⟨h1,a0,w0,q,_⟩
   ·left
    unfold Oper.wp at hh ⊢
    generalize (execOp a.eval o).run P w=r at hh ⊢
    cases r with
    |ok n w'=>
     cases n <;> simp only[Oper.upon] at hh ⊢
     case value u=>exact wpl_app H l _ _ hh
     case skip=>exact wpl_app H l _ _ hh
     case defer d=>exact wpl_app H l _ _ hh
     case enter f args=>
      refine Calls.mono hh fun e w'' he=>?_
      cases e with
      |returned u=>exact wpl_app H l _ _ he
      |panicked c=>cases he.1
      |outgrown=>obtain⟨a0,w0,q,_⟩:=he;cases q
     case row row args=>exact Rows.mono hh fun u w'' he=>wpl_app H l _ _ he
    |halt x w'=>
     cases x <;> simp only[Oper.upon] at hh ⊢
     case panic u=>cases hh.1
   ·cases q
  ·rename_i hw
   rw[if_neg hw] at hh
   exact wpl_app H l _ _ hh
variable {t2 t7 z:Nat} {v2 v7:Value} {rows:List (List D)} {F:Exit→Act→World→Prop}
theorem wpl_take {ops:Array Oper} {F:Exit→Act→World→Prop} {G:Act→World→Prop} {l:List Oper} (k:Nat) (h:wpList P ops (fun e a w=>e=.normal∧G a w) (l.take k) a w) (H:∀a w,G a w→wpList P ops F (l.drop k) a w):wpList P ops F l a w:=by
 have:=wpl_app H _ _ _ h
 rwa [List.take_append_drop] at this
end
end Go.Vl
