/- A row that lies in frozen memory of one's own, turned in its place; regions by their rules with two slots told as they were. Conditions: none. -/
import Derived.Test.YtjnflahicimmlaaGreatVmHk
import Derived.Deep.Upon
set_option linter.unusedSimpArgs false
set_option linter.unusedVariables false
namespace Go.Vl
open Go Go.RowKit
section
variable {P:Program} {K:Ctx P} {st:St} {a:Act} {w:World} {p:Pl}
theorem wpOp_frame {ops:Array Oper} {F:Exit→Act→World→Prop} {K1 K2:Act→World→Prop} {i t:Nat} {v:Value} (ho:∀o,ops[i]? =some o→o.dst≠some t) (hv:a.eval (.tmp t)=v) (hK:∀a w,a.eval (.tmp t)=v→K1 a w→K2 a w) (h:wpOp P ops F i K1 a w):
  wpOp P ops (fun e a w=>F e a w∧(e=.normal→a.eval (.tmp t)=v)) i K2 a w:=by
 unfold wpOp at h ⊢
 cases h0:ops[i]? with
 |none=>simp only[h0] at h ⊢;exact hK _ _ hv h
 |some o=>
  simp only[h0] at h ⊢
  have hd1:=ho o h0
  have hp:∀u,(a.put o.dst u).eval (.tmp t)=v:=fun u=>(eval_put_ne hd1).trans hv
  split
  ·rename_i hw
   rw[if_pos hw] at h
   rcases h with h |⟨h1,a0,w0,q⟩
   ·left
    unfold Oper.wp at h ⊢
    generalize (execOp a.eval o).run P w=r at h ⊢
    cases r with
    |ok n w'=>
     cases n <;> simp only[Oper.upon] at h ⊢
     case value u=>exact hK _ _ (hp _) h
     case skip=>exact hK _ _ (hp _) h
     case defer d=>exact hK _ _ ((eval_put_ne hd1).trans hv) h
     case enter f args=>
      refine Calls.mono h fun e w'' he=>?_
      cases e with
      |returned u=>exact hK _ _ (hp _) he
      |panicked c=>exact⟨he,fun e=>by cases e⟩
      |outgrown=>obtain⟨a0,w0,q⟩:=he;exact⟨a0,w0,q,fun e=>by cases e⟩
     case row row args=>exact Rows.mono h fun u w'' he=>hK _ _ (hp _) he
    |halt x w'=>
     cases x <;> simp only[Oper.upon] at h ⊢
     case panic u=>exact⟨h,fun e=>by cases e⟩
   ·exact .inr ⟨h1,a0,w0,q,fun e=>by cases e⟩
  ·rename_i hw
   rw[if_neg hw] at h
   exact hK _ _ (hp _) h
theorem anyH_frame {md:Region.Mode} {ops:Array Oper} {F:Exit→Act→World→Prop} {S:World→Prop} {t:Nat} {v:Value} (hd:∀(i:Nat) (o:Oper),ops[i]? =some o→o.dst≠some t):∀(n:Nat) (listed:Array Bool) (a:Act) (w:World),a.eval (.tmp t)=v→wpAnyH P md ops F S n listed a w→
  wpAnyH P md ops (fun e a w=>F e a w∧(e=.normal→a.eval (.tmp t)=v)) S n listed a w
 |0,_,_,_,hv,h=>⟨h.1,h.2,fun _=>hv⟩
 |n+1,listed,a,w,hv,h=>⟨fun hr=>⟨h.1 hr,fun _=>hv⟩,fun i hi=>wpOp_frame (hd i) hv (fun a' w' hv' hq=>⟨hq.1,anyH_frame hd n _ a' w' hv' hq.2⟩) (h.2 i hi)⟩
def cmpOp:BinOp→Bool
 | .eql | .neq | .lss | .leq | .gtr | .geq=>true
 |_=>false
theorem cmp_int {op:BinOp} (hop:cmpOp op=true) {t:TypeId} {k k':IntKind} {x y:Int} {z:AV} (h:binA P op t (.d (.int k x)) (.d (.int k' y))=some z):∃c,z=.d (.bool c):=by
 cases op <;> simp[cmpOp] at hop <;> (simp only[binA] at h;split at h <;> simp[intBin] at h;exact⟨_,h.symm⟩)
theorem cmp_str {op:BinOp} (hop:cmpOp op=true) {t:TypeId} {x y:ByteArray} {z:AV} (h:binA P op t (.d (.str x)) (.d (.str y))=some z):∃c,z=.d (.bool c):=by
 cases op <;> simp[cmpOp] at hop <;> (simp [binA,strBin] at h;exact⟨_,h.symm⟩)
def stillC (P:Program) (st:St) (o:Oper):Bool:=
 stillB P st o||match o.op with
 | .binOp op _ x y _=>cmpOp op&&(match opd st x with | .d (.int _ _)=>(match opd st y with | .d (.int _ _)=>true |_=>false) | .d (.str _)=>(match opd st y with | .d (.str _)=>true |_=>false) |_=>false)
 | .pick _ _ _=>true
 |_=>false
theorem stillC_sound (R:Rel K st a w p) {o:Oper} {x:AV} (hp:stillC P st o=true) (h:vstep P st o=some x):
  ∃v,(∀w',Agree K p w w'→(execOp a.eval o).run P w'=.ok (.value v) w')∧RA w (okc K w p) p x v:=by
 unfold stillC at hp
 cases hq:stillB P st o with
 |true=>exact still_sound R hq h
 |false=>
  rw[hq,Bool.false_or] at hp
  have close:∀{s:Sem Value} {v:Value} {w:World},s.run P w=.ok v w→(do pure (Next.value (← s)):Sem Next).run P w=.ok (.value v) w:=fun h1=>by simp[h1]
  split at hp
  ·rename_i op t y z rt ho
   simp only[Bool.and_eq_true] at hp
   obtain⟨hop,hp⟩:=hp
   simp only[vstep,ho] at h
   have hy:=R.opd y
   have hz:=R.opd z
   split at hp
   ·rename_i k1 n1 e1
    split at hp
    case h_2=>cases hp
    rename_i k2 n2 e2
    rw[e1,e2] at h
    rw[e1] at hy
    rw[e2] at hz
    obtain⟨c,rfl⟩:=cmp_int hop h
    refine⟨.bool c,fun w' _=>?_,.d .bool⟩
    generalize hu:a.eval y=u at hy
    generalize hv:a.eval z=v at hz
    cases hy with |d hy=>cases hy with |int=>
    cases hz with |d hz=>cases hz with |int=>
    obtain⟨r,h1,h2⟩:=binA_sound (w:=w') (ok:=fun _=>False) (p:=p) h (.d .int) (.d .int) y z
    cases h2 with |d h2=>cases h2 with |bool=>
    unfold execOp
    simp only[ho,hu,hv]
    exact close h1
   ·rename_i s1 e1
    split at hp
    case h_2=>cases hp
    rename_i s2 e2
    rw[e1,e2] at h
    rw[e1] at hy
    rw[e2] at hz
    obtain⟨c,rfl⟩:=cmp_str hop h
    refine⟨.bool c,fun w' _=>?_,.d .bool⟩
    generalize hu:a.eval y=u at hy
    generalize hv:a.eval z=v at hz
    cases hy with |d hy=>cases hy with |str=>
    cases hz with |d hz=>cases hz with |str=>
    obtain⟨r,h1,h2⟩:=binA_sound (w:=w') (ok:=fun _=>False) (p:=p) h (.d .str) (.d .str) y z
    cases h2 with |d h2=>cases h2 with |bool=>
    unfold execOp
    simp only[ho,hu,hv]
    exact close h1
   ·cases hp
  ·rename_i c y z ho
   obtain⟨v,h1,h2⟩:=vstep_sound R h
   refine⟨v,fun w' _=>?_,h2⟩
   simp only[vstep,ho] at h
   have hc:=R.opd c
   unfold pickA at h
   split at h
   ·rename_i b e1
    rw[e1] at hc
    generalize hu:a.eval c=u at hc
    cases hc with |d hd=>cases hd with |bool=>
    simp[execOp,ho,hu,asBool] at h1 ⊢
    exact h1
   ·cases h
  ·cases hp
def stillsG (P:Program) (ops:Array Oper):List Oper→St→Option St
 |[],st=>some st
 |o::os,st=>if gdA ops st o=some true∧stillC P st o=true then(vput P st o).bind (stillsG P ops os)
  else if gdA ops st o=some false then(match o.dst with |some d=>if d < st.nt then stillsG P ops os (st.put d (.tup [])) else none |none=>none) else none
theorem stillsG_run {ops:Array Oper} {F:Exit→Act→World→Prop} {S:World→Prop} (hs:Region.noSelect ops=true) (hF:∀c a w,¬F (.panic c) a w) (hS:∀w',S w'→Agree K p w w') (hS0:S w) {n:Nat} {st1:St}:∀(is:List Nat) (os:List Oper) (listed:Array Bool) (st:St) (a:Act),is.map (ops[·]?)=os.map some→takeB ops is listed=true→
  Rel K st a w p→stillsG P ops os st=some st1→(∀a1,Rel K st1 a1 w p→wpAnyH P .any ops F S n (listAll is listed) a1 w)→wpAnyH P .any ops F S (is.length+n) listed a w
 |[],[],listed,st,a,_,_,R,h,H=>by
  simp[stillsG] at h;subst h
  simpa[listAll] using H a R
 |[],_::_,_,_,_,h,_,_,_,_=>by simp at h
 |_::_,[],_,_,_,h,_,_,_,_=>by simp at h
 |i::is,o::os,listed,st,a,hio,ht,R,h,H=>by
  simp only[List.map_cons,List.cons.injEq] at hio
  obtain⟨h0,hio⟩:=hio
  simp only[takeB,Bool.and_eq_true] at ht
  obtain⟨⟨hr,hf⟩,ht'⟩:=ht
  simp only[stillsG] at h
  rw[List.length_cons,show is.length+1+n=(is.length+n)+1 by omega]
  split at h
  ·rename_i hst
   cases hv:vput P st o with
   |none=>rw[hv] at h;cases h
   |some st2=>
    rw[hv,Option.bind_some] at h
    unfold vput at hv
    cases hx:vstep P st o with
    |none=>rw[hx] at hv;cases hv
    |some x=>
     rw[hx,Option.bind_some] at hv
     obtain⟨v,g1,g2⟩:=stillC_sound R hst.2 hx
     exact wpAnyH_take h0 hs hf hr (fun c a w q=>absurd q (hF c _ w)) (.inl ⟨gd_sound R hst.1,fun w' hw'=>g1 w' (hS w' hw')⟩) hS0
      (stillsG_run hs hF hS hS0 is os _ st2 _ hio ht' (R.puto g2 hv) h H)
  ·split at h
   case isFalse=>cases h
   rename_i hg
   cases hd:o.dst with
   |none=>simp[hd] at h
   |some d=>
    simp only[hd] at h
    split at h
    case isFalse=>cases h
    rename_i hdn
    refine wpAnyH_take (v:=undef) h0 hs hf hr (fun c a w q=>absurd q (hF c _ w)) (.inr ⟨gd_sound R hg,rfl⟩) hS0 ?_
    rw[hd]
    exact stillsG_run hs hF hS hS0 is os _ _ _ hio ht' (R.put (RA.tup (l:=[]) (cs:=#[]) rfl (fun i a v ha=>by simp at ha)) hdn) h H
theorem wp_heldT {id:Nat} {l:List Oper} {st1 S0:St} {t t':Nat} {v v':Value} {F:Exit→Act→World→Prop} (is:List Nat) (n:Nat) (hK:K.ios=[]) (hm:P.follows .mixedOrders=true) (hB:(Region.noSelect l.toArray&&decide (is.length+n=l.toArray.size)&&takeB l.toArray is (Array.replicate l.toArray.size false))=true)
  {ol:List (Option Oper)} (hol:is.map (l.toArray[·]?)=ol) {os:List Oper} (hoo:ol.filterMap (fun x=>x)=os) (hos:ol=os.map some) (h':stillsG P l.toArray os st=some st1)
  (H:∀K' S F,HCtx K' S F (fun e s=>e=.normal∧Weak s S0)→HOps P K' S F l.toArray n (listAll is (Array.replicate l.toArray.size false)) st1) (hd:∀o∈l,o.dst≠some t) (hd':∀o∈l,o.dst≠some t') (R:Rel K st a w p) (hv:a.eval (.tmp t)=v) (hv':a.eval (.tmp t')=v')
  (G:∀a w' p',Rel K S0 a w' p'→Kept K w w' p p'→a.eval (.tmp t)=v→a.eval (.tmp t')=v'→F .normal a w'):(Code.region id l.toArray true).wp P F a w:=by
 simp only[Bool.and_eq_true,decide_eq_true_eq] at hB
 obtain⟨⟨hs,hn⟩,ht⟩:=hB
 have hdo:∀{t:Nat},(∀o∈l,o.dst≠some t)→∀(i:Nat) (o:Oper),l.toArray[i]? =some o→o.dst≠some t:=fun hd i o ho=>hd o (by rw[List.getElem?_toArray] at ho;exact List.mem_of_getElem? ho)
 have key:wpAnyH P .any l.toArray (fun e a w'=>e=.normal∧∃p',Rel K S0 a w' p'∧Kept K w w' p p') (Agree K p { w with drawn:=w.drawn+1 }) (is.length+n) (Array.replicate l.toArray.size false) a { w with drawn:=w.drawn+1 }:=by
  refine stillsG_run hs (fun c a w h=>by cases h.1) (fun _ h=>h) (fun _ _=>rfl) is os _ st a (hol.trans hos) ht R.drew h' fun a1 R1=>?_
  obtain⟨K',_,R2,hb⟩:=R1.freshH hK
  refine H K' _ _ ⟨fun st a w p R=>fun q hq=>see_of_block ((hb _ _ _ _ R).2 _ hq).1,fun e s a w2 p2 R q=>?_,fun c a w h=>by cases h.1⟩ a1 _ p R2
  obtain⟨he,hw⟩:=q
  obtain⟨p3,R3,h3⟩:=(hb _ _ _ _ R).1.weak0 hw
  exact⟨he,p3,R3,fun b hq=>⟨((hb _ _ _ _ R).2 b hq).1,h3 _ ((hb _ _ _ _ R).2 b hq).2⟩⟩
 have key:=anyH_frame (hdo hd') _ _ _ _ hv' (anyH_frame (hdo hd) _ _ _ _ hv key)
 rw[hn] at key
 exact wp_mono (wp_region_held hm key) fun e a w ⟨⟨⟨he,p',R',kp⟩,h1⟩,h2⟩=>by subst he;exact G a w p' R' kp (h1 rfl) (h2 rfl)
def FlatAV:AV→Prop
 | .undef=>True
 | .d x=>FlatD x
 | .ptr _ _=>True
 |_=>False
theorem FlatAV.ra {w w':World} {ok ok':Nat→Prop} {x:AV} {v:Value} (h:FlatAV x) (hr:RA w ok p x v):RA w' ok' p x v:=by
 cases hr with
 |undef=>exact .undef
 |d hd=>exact .d (FlatD.rd h hd)
 |ptr hn=>exact .ptr hn
 |_=>exact h.elim
theorem Rel.turnFlat (R:Rel K st a w p) (hen:∀s y,get st.env s=some y→FlatAV y) (hbx:∀n cs,get st.box n=some cs→∀c∈cs,FlatAV c) (hvc:st.vec=[]) {w':World} {g:Nat} (hg:K.w0.heap.size≤g∨g∈K.ivs) (hs:w'.heap.size=w.heap.size) (ho:w'.os=w.os∧w'.tape=w.tape∧w'.output=w.output) (hd:dr0 w≤dr0 w')
  (hne:∀k,k≠g→w'.heap[k]? =w.heap[k]?) (hpg:∀n,p.lb n→p.bx n≠g):Rel K st a w' p where
 lb:=R.lb
 lv:=R.lv
 dfr:=R.dfr
 nt:=R.nt
 ntl:=R.ntl
 ion:=R.ion
 size:=by rw[hs];exact R.size
 os:=ho.1.trans R.os
 tape:=ho.2.1.trans R.tape
 dr:=Nat.le_trans R.dr hd
 output:=ho.2.2.trans R.output
 old:=fun k h1 h2=>(hne k (fun e=>by
  subst e
  rcases hg with h |h
  ·omega
  ·exact h2 (.inr h))).trans (R.old k h1 h2)
 env:=fun s y h=>(hen s y h).ra (R.env s y h)
 box:=fun n cs h=>by
  obtain⟨⟨vs,ty,g1,g2,g3,g4⟩,hm⟩:=R.box n cs h
  have hn:p.lb n:=(R.lbi n).2 (by simp[St.lb,h])
  exact⟨⟨vs,ty,(hne _ (hpg n hn)).trans g1,g2,fun i c v hc hv=>(hbx n cs h c (List.mem_of_getElem? hc)).ra (g3 i c v hc hv),g4⟩,hm⟩
 vec:=fun n s h=>by rw[hvc] at h;simp[get] at h
 dbb:=R.dbb
 dbv:=R.dbv
 dvv:=R.dvv
def SL (K:Ctx P) (w:World) (p:Pl) (z:Nat) (rows:List (List D)) (v:Value):Prop:=
 (rows=[]∧∃a c,v=.slice a 0 c)∨∃(g c:Nat) (cs:Array Value) (ty:TypeId),v=.slice (some ⟨g,0,none⟩) rows.length c∧rows.length≤c∧w.heap[g]? =some (.cells cs ty (0,0))∧rows.length * z≤cs.size∧
  (∀(j:Nat) (d:D) (u:Value),rows.flatten[j]? =some d→cs[j]? =some u→RD w (okc K w p) d u)∧okc K w p g∧(K.w0.heap.size≤g∨g∈K.ivs)
theorem SL.data {z:Nat} {rows:List (List D)} {v:Value} (hz:∀r∈rows,r.length=z) (h:SL K w p z rows v):RA w (okc K w p) p (.d (.slice rows)) v:=by
 rcases h with ⟨rfl,a,c,rfl⟩ |⟨g,c,cs,ty,rfl,h1,h2,h3,h4,h5,h6⟩
 ·exact .d .snil
 ·refine .d (.slice z (fun j=>cs.getD j undef) hz h5 h1 (fun j hj=>?_) fun j d hd=>?_)
  ·rw[flat_len hz] at hj
   rw[add_blk]
   have:j < cs.size:=by omega
   simp[World.cell?,h2,this]
  ·have hj:j < rows.flatten.length:=(List.getElem?_eq_some_iff.1 hd).1
   rw[flat_len hz] at hj
   have:j < cs.size:=by omega
   exact h4 j d _ hd (by simp[this])
theorem SL.kept {z:Nat} {rows:List (List D)} {v:Value} {w':World} {p':Pl} (h:SL K w p z rows v) (k:Kept K w w' p p'):SL K w' p' z rows v:=by
 rcases h with h |⟨g,c,cs,ty,h0,h1,h2,h3,h4,h5,h6⟩
 ·exact .inl h
 ·exact .inr ⟨g,c,cs,ty,h0,h1,(k g h5).1.trans h2,h3,fun j d u hd hu=>(h4 j d u hd hu).mono (fun q hq=>see_of_block (k _ hq).1) fun b hb=>(k b hb).2,(k g h5).2,h6⟩
theorem SL.wk {z:Nat} {rows:List (List D)} {v:Value} {p':Pl} (h:SL K w p z rows v) (k:∀b,okc K w p b→okc K w p' b):SL K w p' z rows v:=h.kept fun b hb=>⟨rfl,k b hb⟩
theorem SL.of_vec (R:Rel K st a w p) {n e z t:Nat} {rows:List (List D)} (hn:get st.vec n=some ⟨e,z,rows⟩) (he:e < 1000000) (ht:get st.env t=some (.vec n)) {st':St} (W:Weak st st') (hl:st'.lv n=false):∃p',Rel K st' a w p'∧SL K w p' z rows (a.eval (.tmp t))∧∀b,okc K w p b→okc K w p' b:=by
 have hb:∀n,st'.lb n=true→p.lb n:=fun n hn=>by
  obtain⟨cs',hcs'⟩:=Option.isSome_iff_exists.1 hn
  obtain⟨cs,hcs,_⟩:=leBox_get W.box hcs'
  exact(R.lbi n).2 (by simp[St.lb,hcs])
 have hv:∀n,st'.lv n=true→p.lv n:=fun n hn=>by
  obtain⟨s,hs⟩:=Option.isSome_iff_exists.1 hn
  exact(R.lvi n).2 (by simp[St.lv,leVec_get W.vec hs])
 have hok:∀b,okc K w p b→okc K w ⟨p.bx,p.rw,fun n=>st'.lb n=true,fun n=>st'.lv n=true⟩ b:=fun b h=>⟨h.1,h.2.1,fun n hn=>h.2.2.1 n (hb n hn),fun n hn=>h.2.2.2 n (hv n hn)⟩
 refine⟨_,R.weak W,?_,hok⟩
 have hnl:p.lv n:=(R.lvi n).2 (by simp[St.lv,hn])
 have hreg:a.eval (.tmp t)=p.rw n:=by
  have:=R.env t (.vec n) ht
  simp only[Act.eval]
  generalize a.tmps.getD t undef=u at this
  cases this;rfl
 rw[hreg]
 obtain⟨hat,hz,hmine⟩:=R.vec n _ hn
 obtain⟨xs,hown,hrd⟩:=hat.row (by simp[VS.isM];omega)
 rcases hown.2 with ⟨h0,h1⟩ |⟨g,cap,cur,h0,_,hg,hb2,hb3,hb4,hb5⟩
 ·exact .inl ⟨List.eq_nil_of_length_eq_zero h1,_,_,by rw[h0]⟩
 ·have hgb:(p.rw n).blk=some g:=by rw[h0];rfl
  have hrl:rows.length * z≤cap * z:=Nat.mul_le_mul_right _ hb2
  refine .inr ⟨g,cap,cur,e,h0,hb2,hg,by rw[hb4];exact hrl,fun j d u hd hu=>?_,⟨(Array.getElem?_eq_some_iff.1 hg).1,.inr (hmine g hgb),fun m hm he=>?_,fun m hm he=>?_⟩,hmine g hgb⟩
  ·have hj:j < rows.flatten.length:=(List.getElem?_eq_some_iff.1 hd).1
   rw[flat_len hz] at hj
   have hj:j < rows.length * z:=hj
   refine(hrd j d u hd ?_).mono (fun _ _=>rfl) hok
   rw[← hb5,List.getElem?_take_of_lt hj,Array.getElem?_toList];exact hu
  ·exact R.dbv m n (hb m hm) hnl (by rw[hgb,he])
  ·have hmn:m≠n:=fun e=>by subst e;rw[show st'.lv m=true from hm] at hl;cases hl
   rcases R.dvv m n (hv m hm) hnl hmn with q |q
   ·rw[he] at q;cases q
   ·exact q (he.trans hgb.symm)
theorem SL.take {z n c k:Nat} {b:Option Addr} {rows:List (List D)} (h:SL K w p z rows (.slice b rows.length k)) (hn:n≤rows.length) (hc:n≤c):SL K w p z (rows.take n) (.slice b n c):=by
 rcases h with ⟨rfl,_⟩ |⟨g,c0,cs,ty,h0,h1,h2,h3,h4,h5,h6⟩
 ·have:n=0:=by simpa using hn
  subst this
  exact .inl ⟨rfl,_,_,rfl⟩
 ·injection h0 with h01 _ _
  subst h01
  have hl:(rows.take n).length=n:=by simp[hn]
  refine .inr ⟨g,c,cs,ty,by rw[hl],by rw[hl];exact hc,h2,?_,fun j d u hd hu=>?_,h5,h6⟩
  ·have:n * z≤rows.length * z:=Nat.mul_le_mul_right _ hn
   rw[hl];omega
  ·refine h4 j d u ?_ hu
   have:rows.flatten=(rows.take n).flatten++(rows.drop n).flatten:=by rw[← List.flatten_append,List.take_append_drop]
   rw[this,List.getElem?_append_left (List.getElem?_eq_some_iff.1 hd).1];exact hd
theorem SL.set (R:Rel K st a w p) (hen:∀s y,get st.env s=some y→FlatAV y) (hbx:∀n cs,get st.box n=some cs→∀c∈cs,FlatAV c) (hvc:st.vec=[]) {z i o g c:Nat} {rows:List (List D)} {row:List D} (hz:∀r∈rows,r.length=z) (hfl:∀r∈rows,∀d∈r,FlatD d)
  (h:SL K w p z rows (.slice (some ⟨g,0,none⟩) rows.length c)) (hi:rows[i]? =some row) (ho:o < z) {d:D} {u:Value} (hd:FlatD d) (hu:RD w (okc K w p) d u) (h1:u.oneCell'=true):
  ∃cs ty w',w.heap[g]? =some (.cells cs ty (0,0))∧i * z+o < cs.size∧w'=w.setRow g (cs.setIfInBounds (i * z+o) u)∧Rel K st a w' p∧SL K w' p z (rows.set i (row.set o d)) (.slice (some ⟨g,0,none⟩) rows.length c):=by
 have hil:=(List.getElem?_eq_some_iff.1 hi).1
 rcases h with ⟨rfl,_⟩ |⟨g',c',cs,ty,h0,h2,h3,h4,h5,h6,h7⟩
 ·simp at hil
 injection h0 with h01 h02 h03
 injection h01 with h01
 injection h01 with h01
 subst h01;subst h03
 have hbd:(i+1) * z≤rows.length * z:=Nat.mul_le_mul_right _ hil
 rw[Nat.add_mul] at hbd
 have hlt:i * z+o < cs.size:=by omega
 have hglt:=(Array.getElem?_eq_some_iff.1 h3).1
 have hne:∀k,k≠g→(w.setRow g (cs.setIfInBounds (i * z+o) u)).heap[k]? =w.heap[k]? :=fun k hk=>by
  unfold World.setRow
  simp only[Array.getElem?_modify]
  rw[if_neg (Ne.symm hk)]
 have hgg:(w.setRow g (cs.setIfInBounds (i * z+o) u)).heap[g]? =some (.cells (cs.setIfInBounds (i * z+o) u) ty (0,0)):=by
  unfold World.setRow
  simp only[Array.getElem?_modify,h3,if_true]
  simp
 have hsz:(w.setRow g (cs.setIfInBounds (i * z+o) u)).heap.size=w.heap.size:=by simp[World.setRow]
 refine⟨cs,ty,_,h3,hlt,rfl,R.turnFlat hen hbx hvc h7 hsz ⟨by simp[World.setRow],by simp[World.setRow],by simp[World.setRow]⟩ (by simp[World.setRow,dr0]) hne fun n hn e=>h6.2.2.1 n hn e.symm,?_⟩
 have hrz:row.length=z:=hz row (List.mem_of_getElem? hi)
 have hz2:∀r∈rows.set i (row.set o d),r.length=z:=fun r hr=>by
  rcases List.mem_or_eq_of_mem_set hr with hr |rfl
  ·exact hz r hr
  ·simp[hrz]
 have hok:∀b,okc K w p b→okc K (w.setRow g (cs.setIfInBounds (i * z+o) u)) p b:=fun b hb=>⟨by rw[hsz];exact hb.1,hb.2⟩
 refine .inr ⟨g,c,_,ty,by simp,by simpa using h2,hgg,by simpa using h4,fun j e x he hx=>?_,hok g h6,h7⟩
 have hj:j < (rows.set i (row.set o d)).flatten.length:=(List.getElem?_eq_some_iff.1 he).1
 rw[flat_len hz2,List.length_set] at hj
 have hzp:0 < z:=by omega
 obtain⟨r1,hr1⟩:∃r1,(rows.set i (row.set o d))[j / z]? =some r1:=⟨_,List.getElem?_eq_getElem (by rw[List.length_set];exact(Nat.div_lt_iff_lt_mul hzp).2 hj)⟩
 have hjm:j % z < z:=Nat.mod_lt _ hzp
 have hjd:j / z * z+j % z=j:=by rw[Nat.mul_comm];exact Nat.div_add_mod j z
 have e1:=flat_get hz2 hr1 hjm
 rw[hjd,he] at e1
 by_cases hji:j / z=i
 ·have hr2:r1=row.set o d:=by
   rw[hji,List.getElem?_set_self hil] at hr1
   exact(Option.some.inj hr1).symm
  subst hr2
  by_cases hjo:j % z=o
  ·have hjj:i * z+o=j:=by rw[← hji,←hjo];exact hjd
   rw[hjo,List.getElem?_set_self (by omega)] at e1
   cases e1
   rw[hjj,Array.getElem?_setIfInBounds_self_of_lt (by omega)] at hx
   cases hx
   exact FlatD.rd hd hu
  ·rw[List.getElem?_set_ne (Ne.symm hjo)] at e1
   have hjj:i * z+o≠j:=fun e=>hjo (by rw[← e,Nat.mul_comm,Nat.mul_add_mod,Nat.mod_eq_of_lt ho])
   rw[Array.getElem?_setIfInBounds_ne hjj] at hx
   have e2:=flat_get hz hi hjm
   rw[← hji,hjd,←e1] at e2
   exact FlatD.rd (hfl row (List.mem_of_getElem? hi) e (List.mem_of_getElem? e1.symm)) (h5 j e x e2 hx)
 ·rw[List.getElem?_set_ne (Ne.symm hji)] at hr1
  have hjj:i * z+o≠j:=fun e=>hji (by rw[← e,Nat.mul_comm,Nat.mul_add_div hzp,Nat.div_eq_of_lt ho];rfl)
  rw[Array.getElem?_setIfInBounds_ne hjj] at hx
  have e2:=flat_get hz hr1 hjm
  rw[hjd,←e1] at e2
  exact FlatD.rd (hfl r1 (List.mem_of_getElem? hr1) e (List.mem_of_getElem? e1.symm)) (h5 j e x e2 hx)
theorem wpl_app {ops:Array Oper} {F:Exit→Act→World→Prop} {G:Act→World→Prop} {l2:List Oper} (H:∀a w,G a w→wpList P ops F l2 a w):∀(l1:List Oper) (a:Act) (w:World),wpList P ops (fun e a w=>e=.normal∧G a w) l1 a w→wpList P ops F (l1++l2) a w
 |[],a,w,h=>H a w h.2
 |o::l,a,w,hh=>by
  rw[List.cons_append]
  unfold wpList at hh ⊢
  split
  ·rename_i hw
   rw[if_pos hw] at hh
   rcases hh with hh |⟨h1,a0,w0,q,_⟩
   ·left
    unfold Oper.wp at hh ⊢
    generalize (execOp a.eval o).run P w=r at hh ⊢
    cases r with
    |ok n w'=>
     cases n <;> simp only[Oper.upon] at hh ⊢
     case value u=>exact wpl_app H l _ _ hh
     case skip=>exact wpl_app H l _ _ hh
     case defer d=>exact wpl_app H l _ _ hh
     case enter f args=>
      refine Calls.mono hh fun e w'' he=>?_
      cases e with
      |returned u=>exact wpl_app H l _ _ he
      |panicked c=>cases he.1
      |outgrown=>obtain⟨a0,w0,q,_⟩:=he;cases q
     case row row args=>exact Rows.mono hh fun u w'' he=>wpl_app H l _ _ he
    |halt x w'=>
     cases x <;> simp only[Oper.upon] at hh ⊢
     case panic u=>cases hh.1
   ·cases q
  ·rename_i hw
   rw[if_neg hw] at hh
   exact wpl_app H l _ _ hh
theorem see_cptr {row:List D} {o:Nat} {v:Value} {w0:World} {p0:Pl} (hw:w0=K.w0) (h:RA w0 (SeeB K) p0 (.cptr row o) v) (hK:K.ios=[]) (R:Rel K st a w p):RA w (okc K w p) p (.cptr row o) v:=by
 subst hw
 cases h with |cptr vs hok hcell hd=>
 exact .cptr vs (hok.okc hK R) (fun j hj=>(World.cell?_of_block (by rw[block_add];exact hok.heap hK R)).trans (hcell j hj)) fun j x hx=>(hd j x hx).mono (fun q hq=>see_of_block (SeeB.heap hK hq R)) fun b hb=>SeeB.okc hK hb R
def NI (K:Ctx P) (t2 t7:Nat) (v2 v7:Value) (z:Nat) (rows:List (List D)) (st:St) (a:Act) (w:World):Prop:=
 ∃p,Rel K st a w p∧a.eval (.tmp t2)=v2∧a.eval (.tmp t7)=v7∧SL K w p z rows v7
variable {t2 t7 z:Nat} {v2 v7:Value} {rows:List (List D)} {F:Exit→Act→World→Prop}
theorem NI.weak (h:NI K t2 t7 v2 v7 z rows st a w) {st':St} (W:Weak st st'):NI K t2 t7 v2 v7 z rows st' a w:=by
 obtain⟨p,R,h2,h7,S⟩:=h
 obtain⟨p',R',hk⟩:=R.weak0 W
 exact⟨p',R',h2,h7,S.wk hk⟩
theorem NI.bool (h:NI K t2 t7 v2 v7 z rows st a w) {s:Nat} {c:Bool} (hs:st.look s=.d (.bool c)):a.eval (.tmp s)=.bool c:=by
 obtain⟨p,R,h2,h7,S⟩:=h
 exact wp_bool R hs
theorem NI.show {row:List D} {o:Nat} {w0:World} {p0:Pl} (hw:w0=K.w0) (hv:RA w0 (SeeB K) p0 (.cptr row o) v2) (hK:K.ios=[]) (hz:∀r∈rows,r.length=z) (h:NI K t2 t7 v2 v7 z rows st a w) {st':St} (W:Weak ((st.put t2 (.cptr row o)).put t7 (.d (.slice rows))) st'):NI K t2 t7 v2 v7 z rows st' a w:=by
 obtain⟨p,R,h2,h7,S⟩:=h
 have R1:=R.also (t:=t2) (x:=.cptr row o) (by have:=see_cptr hw hv hK R;rw[← h2] at this;exact this)
 have R2:=R1.also (t:=t7) (x:=.d (.slice rows)) (by have:=S.data hz;rw[← h7] at this;exact this)
 obtain⟨p',R',hk⟩:=R2.weak0 W
 exact⟨p',R',h2,h7,S.wk hk⟩
theorem NI.regL (hK:K.ios=[]) (h:NI K t2 t7 v2 v7 z rows st a w) {id:Nat} {l:List Oper} {st1:St} (hT:∀K':Ctx P,TOps P K' l.toArray l st (endQ st1)) (hd:∀o∈l,o.dst≠some t2) (hd':∀o∈l,o.dst≠some t7) (H:∀a w,NI K t2 t7 v2 v7 z rows st1 a w→F .normal a w):(Code.region id l.toArray false).wp P F a w:=by
 obtain⟨p,R,h2,h7,S⟩:=h
 exact wp_region_lit (wpl_regF2 hK hT hd hd' R h2 h7 fun a w' p' R' kp h2 h7=>H a w' ⟨p',R',h2,h7,S.kept kp⟩)
theorem NI.reg (hK:K.ios=[]) (h:NI K t2 t7 v2 v7 z rows st a w) {id:Nat} {l:List Oper} {y:Code} {st1:St} (hT:∀K':Ctx P,TOps P K' l.toArray l st (endQ st1)) (hd:∀o∈l,o.dst≠some t2) (hd':∀o∈l,o.dst≠some t7) (H:∀a w,NI K t2 t7 v2 v7 z rows st1 a w→y.wp P F a w):(Code.seq (.region id l.toArray false) y).wp P F a w:=
 wp_seq (h.regL hK hT hd hd' H)
theorem NI.frzB (hK:K.ios=[]) (h:NI K t2 t7 v2 v7 z rows st a w) {n:Nat} {cs:List AV} {row:List D} (hb:get st.box n=some cs) (hd:toDs cs=some row) (hn:n < 1000000) {st':St} (W:Weak (st.frzB n row) st'):NI K t2 t7 v2 v7 z rows st' a w:=by
 obtain⟨p,R,h2,h7,S⟩:=h
 obtain⟨K',hK',R1,back⟩:=R.freshH hK
 obtain⟨p',R'⟩:=R1.frzB hb hd (by rw[hK'];rfl) hn (fun i hi=>absurd hi (Nat.not_lt_zero i))
 obtain⟨p2,R2,hk2⟩:=(back _ _ _ _ R').1.weak0 W
 exact⟨p2,R2,h2,h7,S.wk fun b hb=>hk2 b ((back _ _ _ _ R').2 b hb).2⟩
theorem NI.held (hK:K.ios=[]) (h:NI K t2 t7 v2 v7 z rows st a w) {id:Nat} {l:List Oper} {st1 S0:St} (is:List Nat) (n:Nat) (hm:P.follows .mixedOrders=true) (hB:(Region.noSelect l.toArray&&decide (is.length+n=l.toArray.size)&&takeB l.toArray is (Array.replicate l.toArray.size false))=true)
  {ol:List (Option Oper)} (hol:is.map (l.toArray[·]?)=ol) {os:List Oper} (hoo:ol.filterMap (fun x=>x)=os) (hos:ol=os.map some) (h':stillsG P l.toArray os st=some st1)
  (H:∀K' S F,HCtx K' S F (fun e s=>e=.normal∧Weak s S0)→HOps P K' S F l.toArray n (listAll is (Array.replicate l.toArray.size false)) st1) (hd:∀o∈l,o.dst≠some t2) (hd':∀o∈l,o.dst≠some t7) (G:∀a w,NI K t2 t7 v2 v7 z rows S0 a w→F .normal a w):(Code.region id l.toArray true).wp P F a w:=by
 obtain⟨p,R,h2,h7,S⟩:=h
 exact wp_heldT is n hK hm hB hol hoo hos h' H hd hd' R h2 h7 fun a w' p' R' kp h2 h7=>G a w' ⟨p',R',h2,h7,S.kept kp⟩
theorem NI.newL (hK:K.ios=[]) (h:NI K t2 t7 v2 v7 z rows st a w) {id n e:Nat} {rows':List (List D)} {l:List Oper} {st1 st2:St} (hT:∀K':Ctx P,TOps P K' l.toArray l st (endQ st1)) (hd:∀o∈l,o.dst≠some t2) (hn:get st1.vec n=some ⟨e,z,rows'⟩) (he:e < 1000000) (ht:get st1.env t7=some (.vec n)) (W:Weak st1 st2) (hl:st2.lv n=false)
  (H:∀a w v',NI K t2 t7 v2 v' z rows' st2 a w→F .normal a w):(Code.region id l.toArray false).wp P F a w:=by
 obtain⟨p,R,h2,h7,S⟩:=h
 refine wp_region_lit (wpl_regF hK hT hd R h2 fun a w' p' R' kp h2=>?_)
 obtain⟨p2,R2,S2,_⟩:=SL.of_vec R' hn he ht W hl
 exact H a w' _ ⟨p2,R2,h2,rfl,S2⟩
theorem NI.newH (hK:K.ios=[]) (h:NI K t2 t7 v2 v7 z rows st a w) {id n e:Nat} {rows':List (List D)} {l:List Oper} {st1 S0 st2:St} (is:List Nat) (n0:Nat) (hm:P.follows .mixedOrders=true) (hB:(Region.noSelect l.toArray&&decide (is.length+n0=l.toArray.size)&&takeB l.toArray is (Array.replicate l.toArray.size false))=true)
  {ol:List (Option Oper)} (hol:is.map (l.toArray[·]?)=ol) {os:List Oper} (hoo:ol.filterMap (fun x=>x)=os) (hos:ol=os.map some) (h':stillsG P l.toArray os st=some st1)
  (H:∀K' S F,HCtx K' S F (fun e s=>e=.normal∧Weak s S0)→HOps P K' S F l.toArray n0 (listAll is (Array.replicate l.toArray.size false)) st1) (hd:∀o∈l,o.dst≠some t2) (hn:get S0.vec n=some ⟨e,z,rows'⟩) (he:e < 1000000) (ht:get S0.env t7=some (.vec n)) (W:Weak S0 st2) (hl:st2.lv n=false)
  (G:∀a w v',NI K t2 t7 v2 v' z rows' st2 a w→F .normal a w):(Code.region id l.toArray true).wp P F a w:=by
 obtain⟨p,R,h2,h7,S⟩:=h
 refine wp_heldT is n0 hK hm hB hol hoo hos h' H hd hd R h2 h2 fun a w' p' R' kp h2 _=>?_
 obtain⟨p2,R2,S2,_⟩:=SL.of_vec R' hn he ht W hl
 exact G a w' _ ⟨p2,R2,h2,rfl,S2⟩
theorem wpl_take {ops:Array Oper} {F:Exit→Act→World→Prop} {G:Act→World→Prop} {l:List Oper} (k:Nat) (h:wpList P ops (fun e a w=>e=.normal∧G a w) (l.take k) a w) (H:∀a w,G a w→wpList P ops F (l.drop k) a w):wpList P ops F l a w:=by
 have:=wpl_app H _ _ _ h
 rwa [List.take_append_drop] at this
theorem wl_store1 {o:Oper} {ops:Array Oper} {rest:List Oper} {Q:Exit→Act→World→Prop} (hg:o.guard=none) (t:TypeId) (x y:Operand) (hop:o.op=.store t x y) (hd:o.dst=none) (g off:Nat) (cur:Array Value) (ty:TypeId) {k:IntKind} {n:Int} (hx:a.eval x=.pointer (some ⟨g,off,none⟩)) (hy:a.eval y=.int k n) (hsz:szOf P t=some 1)
  (hw:w.heap[g]? =some (.cells cur ty (0,0))) (hl:off < cur.size) (hK:wpList P ops Q rest (a.put none undef) (w.setRow g (cur.setIfInBounds off (.int k n)))):wpList P ops Q (o::rest) a w:=by
 have hst:=run_storeCells_at P g off ty [Value.int k n] 0 cur w hw (by simp;omega) (by simp[Value.oneCell'])
 have he:(cur.toList.take (off+0)++[Value.int k n]++cur.toList.drop (off+0+[Value.int k n].length)).toArray=cur.setIfInBounds off (.int k n):=by
  apply Array.ext'
  rw[Array.toList_setIfInBounds]
  simp only[Nat.add_zero,List.length_singleton]
  rw[List.set_eq_take_append_cons_drop,if_pos (by simpa using hl)]
  simp
 rw[he] at hst
 refine run_skip hg (w':=w.setRow g (cur.setIfInBounds off (.int k n))) ?_ (by rw[hd];exact hK)
 have hc:(Value.int k n).cells= #[Value.int k n]:=by simp[Value.cells]
 simp only[execOp,hop,hx,hy,Instr.storeAt,Instr.sureAddr,Sem.run_bind,Sem.run_pure,Result.andThen_ok,storeVar,run_szOf hsz,hc,ne_eq,Array.size_singleton,List.size_toArray,List.length_singleton,not_true_eq_false,if_false,Sem.run_ite,hst]
theorem run_app0 {t ty e:TypeId} {zs:List AV} (hu:P.underlying t=some (.slice e)) (hz:zerOf P e=some zs) {a b:Option Addr} {n m c:Nat} (hle:n≤m) (w:World):(Builtin.append_ #[t,t] ty #[.slice b n m,.slice a 0 c]).run P w=.ok (.slice b n m) w:=by
 obtain⟨i,zv,hi,_⟩:=zerOf_some hz
 refine run_append_nothing w t t ty e i hu hi b n m hle _ ?_
 cases a with
 |none=>exact Src.ofNil w hu c
 |some a=>exact Src.ofSlice w hu a 0 c [] (by simp) (fun j u h=>by simp at h) (fun u h=>by cases h)
theorem run_slice_kk {t e:TypeId} {z:Nat} (hu:P.underlying t=some (.slice e)) (hz:szOf P e=some z) {g n c k:Nat} {k1 k2:IntKind} (h:k≤c) (w:World):(Instr.sliceAt t (.slice (some ⟨g,0,none⟩) n c) none (some (.int k1 (k:Int))) (some (.int k2 (k:Int)))).run P w=.ok (.slice (some ⟨g,0,none⟩) k k) w:=by
 have hb:=bounds_run3 (P:=P) (w:=w) (len:=n) (cap:=c) (lo:=none) (vl:=none) (k:=k1) (k':=k2) (h:=(k:Int)) (m:=(k:Int)) (.inl ⟨rfl,rfl⟩) (by simp) (by simp) (Int.le_refl _) (by omega)
 simp only[Instr.sliceAt,Instr.slice,Sem.run_bind,run_underlying hu,Result.andThen_ok,hb,run_szOf hz,Sem.run_pure]
 simp
 intro _
 rfl
end
end Go.Vl
