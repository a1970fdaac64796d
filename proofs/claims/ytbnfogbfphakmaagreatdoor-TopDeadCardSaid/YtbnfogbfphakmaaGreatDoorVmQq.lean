/- The value logic: a region that draws its order, where what only looks at what nobody writes is taken first, and what is left in every order. Conditions: none. -/
import Derived.Test.YtbnfogbfphakmaaGreatDoorVmOa
import Derived.OrdersHeld
set_option linter.unusedSimpArgs false
set_option linter.unusedVariables false
namespace Go.Vl
open Go Go.RowKit
section
variable {P:Program} {K:Ctx P} {st:St} {a:Act} {w:World} {p:Pl} {ops:Array Oper} {Q:Exit→St→Prop}
def LY (P:Program) (t:TypeId) (vs:Nat→Value) (o:Nat):Value:=
 if Ao P t then .agg ((List.range ((Ad P t).getD 0)).map fun j=>vs (o+j)).toArray else vs o
theorem Me {t:TypeId} {cs:List AV} {o:Nat} {x:AV} (h:Em P t cs o=some x) {w:World} {b:Addr} (vs:Nat→Value)
  (hcell:∀j,j < cs.length→w.cell? (b.add j)=some (vs j)):(loadVar t (b.add o)).run P w=.ok (LY P t vs o) w:=by
 unfold Em at h
 split at h
 case isFalse=>cases h
 rename_i hu
 simp only[loadVar,Sem.run_bind,Be hu,Result.andThen]
 split at h
 ·rename_i hg
  cases hk:Ad P t with
  |none=>simp[hk] at h
  |some k=>
   simp only[hk,Option.bind_some] at h
   split at h
   case isFalse=>cases h
   rename_i hle
   simp only[hg,if_true,Sem.run_bind,AU hk,Result.andThen]
   rw[run_loadCells (P:=P) w (b.add o) k (fun j=>vs (o+j)) (fun j hj=>by rw[add_add];exact hcell _ (by omega))]
   simp[LY,hg,hk]
 ·rename_i hg
  have hlt:o < cs.length:=(List.getElem?_eq_some_iff.1 h).1
  simp only[hg,Bool.false_eq_true,if_false]
  simp[hcell o hlt,LY,hg]
def Ef (P:Program) (st:St) (o:Oper):Bool:=
 Bw P o||match o.op with
 | .load _ x=>match opd st x with | .cptr _ _=>true |_=>false
 |_=>false
def Agree {P:Program} (K:Ctx P) (p:Pl) (w w':World):Prop:=∀q:Addr,okc K w p q.block→see w' q=see w q
theorem IC (R:Rel K st a w p) {o:Oper} {x:AV} (hp:Ef P st o=true) (h:vstep P st o=some x):
  ∃v,(∀w',Agree K p w w'→(execOp a.eval o).run P w'=.ok (.value v) w')∧RA w (okc K w p) p x v:=by
 unfold Ef at hp
 cases hq:Bw P o with
 |true=>obtain⟨v,h1,h2⟩:=Hv R hq h;exact⟨v,fun w' _=>h1 w',h2⟩
 |false=>
  rw[hq,Bool.false_or] at hp
  split at hp
  ·rename_i t y ho
   split at hp
   ·rename_i row off hy
    simp only[vstep,ho] at h
    have hr:=R.opd y
    rw[hy] at h hr
    obtain⟨v,h1,h2⟩:=E2 R h hr
    generalize hu:a.eval y=u at *
    cases hr with |cptr vs hok hcell hd=>
    rename_i b
    simp only[DG] at h
    refine⟨v,fun w' ag=>?_,h2⟩
    have r1:=Me h (w:=w) (b:=b) vs (fun j hj=>hcell j (by simpa using hj))
    have r2:=Me h (w:=w') (b:=b) vs (fun j hj=>by rw[GI (ag _ (by rw[block_add];exact hok))];exact hcell j (by simpa using hj))
    simp only[Instr.loadAt,Instr.sureAddr,Sem.run_bind,Sem.run_pure,Result.andThen,r1] at h1
    cases h1
    simp[execOp,ho,hu,Instr.loadAt,Instr.sureAddr,r2]
   ·cases hp
  ·cases hp
def takeB (ops:Array Oper):List Nat→Array Bool→Bool
 |[],_=>true
 |i::is,l=>(Region.ready .any ops l).contains i&&Region.free .any ops l i&&takeB ops is (l.setIfInBounds i true)
def Eg (is:List Nat) (l:Array Bool):Array Bool:=is.foldl (fun l i=>l.setIfInBounds i true) l
def Cv (P:Program) (ops:Array Oper):List Nat→St→Option St
 |[],st=>some st
 |i::is,st=>(ops[i]?).bind fun o=>if gdA ops st o=some true∧Ef P st o=true then(EY P st o).bind (Cv P ops is) else none
def Bz (P:Program) (ops:Array Oper):List Oper→St→Option St
 |[],st=>some st
 |o::os,st=>if gdA ops st o=some true∧Ef P st o=true then(EY P st o).bind (Bz P ops os) else none
theorem Hb:∀{is:List Nat} {os:List Oper} {st:St},is.map (ops[·]?)=os.map some→Bz P ops os st=Cv P ops is st
 |[],[],_,_=>rfl
 |[],_::_,_,h=>by simp at h
 |_::_,[],_,h=>by simp at h
 |i::is,o::os,st,h=>by
  simp only[List.map_cons,List.cons.injEq] at h
  simp only[Bz,Cv,h.1,Option.bind_some]
  have ih:∀s,Bz P ops os s=Cv P ops is s:=fun s=>Hb h.2
  have e:Bz P ops os=Cv P ops is:=funext ih
  rw[e]
theorem Jm {F:Exit→Act→World→Prop} {S:World→Prop} (hs:Region.noSelect ops=true) (hF:∀c a w,¬F (.panic c) a w) (hS:∀w',S w'→Agree K p w w') (hS0:S w) {n:Nat} {st1:St}:∀(is:List Nat) (listed:Array Bool) (st:St) (a:Act),takeB ops is listed=true→
  Rel K st a w p→Cv P ops is st=some st1→(∀a1,Rel K st1 a1 w p→wpAnyH P .any ops F S n (Eg is listed) a1 w)→wpAnyH P .any ops F S (is.length+n) listed a w
 |[],listed,st,a,_,R,h,H=>by
  simp[Cv] at h;subst h
  simpa[Eg] using H a R
 |i::is,listed,st,a,ht,R,h,H=>by
  simp only[takeB,Bool.and_eq_true] at ht
  obtain⟨⟨hr,hf⟩,ht'⟩:=ht
  simp only[Cv] at h
  cases h0:ops[i]? with
  |none=>simp[h0] at h
  |some o=>
   simp only[h0,Option.bind_some] at h
   split at h
   case isFalse=>cases h
   rename_i hst
   cases hv:EY P st o with
   |none=>simp[hv] at h
   |some st2=>
    simp only[hv,Option.bind_some] at h
    unfold EY at hv
    cases hx:vstep P st o with
    |none=>simp[hx] at hv
    |some x=>
     simp only[hx,Option.bind_some] at hv
     obtain⟨v,g1,g2⟩:=IC R hst.2 hx
     rw[List.length_cons,show is.length+1+n=(is.length+n)+1 by omega]
     exact wpAnyH_take h0 hs hf hr (fun c a w q=>absurd q (hF c _ w)) (.inl ⟨A9 R hst.1,fun w' hw'=>g1 w' (hS w' hw')⟩) hS0
      (Jm hs hF hS hS0 is _ st2 _ ht' (R.puto g2 hv) h H)
theorem Rel.freshH (R:Rel K st a w p) (hK:K.ios=[]):∃K':Ctx P,K'.ios=[]∧Rel K' st a w p∧∀st' a' w' p',Rel K' st' a' w' p'→Rel K st' a' w' p'∧∀b,okc K w p b→w'.heap[b]? =w.heap[b]?∧okc K w' p' b:=by
 classical
 let L:=(List.range w.heap.size).filter fun b=>decide (((∃n,p.lb n∧p.bx n=b)∨(∃n,p.lv n∧(p.rw n).blk=some b)∨b∈K.ivs)∧¬okc K w p b)
 have memL:∀b,b∈L↔b < w.heap.size∧((∃n,p.lb n∧p.bx n=b)∨(∃n,p.lv n∧(p.rw n).blk=some b)∨b∈K.ivs)∧¬okc K w p b:=fun b=>by
  simp only[L,List.mem_filter,List.mem_range,decide_eq_true_eq]
 let K':Ctx P:=⟨w,okc K w p,[],L,fun b i x h=>by
  obtain⟨h1,h2⟩:=R.glob b i x h
  exact⟨⟨h1.1,h1,by simp,fun hm=>((memL b).1 hm).2.2 h1⟩,h2⟩⟩
 have hL:∀b,b∈L→K.w0.heap.size≤b∨b∈K.ivs:=fun b hb=>by
  obtain⟨_,⟨n,hn,e⟩ |⟨n,hn,e⟩ |h,_⟩:=(memL b).1 hb
  ·obtain⟨cs,hcs⟩:=Option.isSome_iff_exists.1 ((R.lbi n).1 hn)
   rcases(R.box n cs hcs).mine with h |h
   ·exact .inl (e▸h)
   ·rcases h with h |h
    ·rw[hK] at h;cases h
    ·exact .inr (e▸h)
  ·exact(R.vlt hn e).1
  ·exact .inr h
 have hok:∀b,okc K w p b→okc K' w p b:=fun b h=>⟨h.1,.inl h,h.2.2.1,h.2.2.2⟩
 refine⟨K',rfl,?_,fun st' a' w' p' R'=>?_⟩
 ·exact {
   lb:=R.lb,lv:=R.lv,dfr:=R.dfr,nt:=R.nt,ntl:=R.ntl
   ion:=fun i h=>by have:=R.ion i h;rw[hK] at this;simp at this
   size:=Nat.le_refl _,os:=rfl,tape:=rfl,dr:=Nat.le_refl _,output:=rfl,old:=fun _ _ _=>rfl
   env:=fun t x hx=>(R.env t x hx).mono (fun _ _=>rfl) hok (fun _ h=>⟨h,rfl⟩) (fun _ h=>⟨h,rfl⟩)
   box:=fun n cs hcs=>by
    obtain⟨⟨vs,ty,h1,h2,h3,h4⟩,_⟩:=R.box n cs hcs
    have hn:p.lb n:=(R.lbi n).2 (by simp[St.lb,hcs])
    exact⟨⟨vs,ty,h1,h2,fun i c v hc hv=>(h3 i c v hc hv).mono (fun _ _=>rfl) hok (fun _ h=>⟨h,rfl⟩) (fun _ h=>⟨h,rfl⟩),h4⟩,.inr (.inr ((memL _).2 ⟨R.blt hn,.inl ⟨n,hn,rfl⟩,fun h=>h.2.2.1 n hn rfl⟩))⟩
   vec:=fun n s hs=>by
    obtain⟨h1,h2,_⟩:=R.vec n s hs
    have hn:p.lv n:=(R.lvi n).2 (by simp[St.lv,hs])
    exact⟨h1.mono (fun _ _=>rfl) hok (fun _ _=>rfl),h2,fun g hg=>.inr ((memL _).2 ⟨(R.vlt hn hg).2,.inr (.inl ⟨n,hn,hg⟩),fun h=>h.2.2.2 n hn hg⟩)⟩
   dbb:=R.dbb,dbv:=R.dbv,dvv:=R.dvv }
 ·have hback:∀b,okc K' w' p' b→okc K w' p' b:=fun b h=>⟨h.1,by
   rcases h.2.1 with h1 |h1 |h1
   ·exact h1.2.1
   ·exact .inr (.inl (Nat.le_trans R.size h1))
   ·rcases hL b h1 with h2 |h2
    ·exact .inr (.inl h2)
    ·exact .inr (.inr h2),h.2.2.1,h.2.2.2⟩
  have hsame:∀b,okc K w p b→w'.heap[b]? =w.heap[b]? :=fun b hb=>R'.old b hb.1 fun h=>by
   rcases h with h |h
   ·cases h
   ·exact((memL b).1 h).2.2 hb
  refine⟨?_,fun b hb=>⟨hsame b hb,Nat.lt_of_lt_of_le hb.1 R'.size,hb.2.1,fun n hn e=>?_,fun n hn e=>?_⟩⟩
  rotate_left
  ·obtain⟨cs,hcs⟩:=Option.isSome_iff_exists.1 ((R'.lbi n).1 hn)
   rcases(R'.box n cs hcs).mine with h |h |h
   ·have:=hb.1;have h2:w.heap.size≤p'.bx n:=h;omega
   ·cases h
   ·exact((memL _).1 h).2.2 (e▸hb)
  ·obtain⟨s,hs⟩:=Option.isSome_iff_exists.1 ((R'.lvi n).1 hn)
   rcases(R'.vec n s hs).mine b e with h |h
   ·have:=hb.1;have h2:w.heap.size≤b:=h;omega
   ·exact((memL _).1 h).2.2 hb
  exact {
   lb:=R'.lb,lv:=R'.lv,dfr:=R'.dfr,nt:=R'.nt,ntl:=R'.ntl
   ion:=fun i h=>by have:=R'.ion i h;simp[K'] at this
   size:=Nat.le_trans R.size R'.size,os:=R'.os.trans R.os,tape:=R'.tape.trans R.tape,dr:=Nat.le_trans R.dr R'.dr,output:=R'.output.trans R.output
   old:=fun b hb hio=>(R'.old b (Nat.lt_of_lt_of_le hb R.size) fun h=>by
    rcases h with h |h
    ·cases h
    ·rcases hL b h with h2 |h2
     ·omega
     ·exact hio (.inr h2)).trans (R.old b hb hio)
   env:=fun t x hx=>(R'.env t x hx).mono (fun _ _=>rfl) hback (fun _ h=>⟨h,rfl⟩) (fun _ h=>⟨h,rfl⟩)
   box:=fun n cs hcs=>by
    obtain⟨⟨vs,ty,h1,h2,h3,h4⟩,hm⟩:=R'.box n cs hcs
    refine⟨⟨vs,ty,h1,h2,fun i c v hc hv=>(h3 i c v hc hv).mono (fun _ _=>rfl) hback (fun _ h=>⟨h,rfl⟩) (fun _ h=>⟨h,rfl⟩),h4⟩,?_⟩
    rcases hm with hm |hm |hm
    ·exact .inl (Nat.le_trans R.size hm)
    ·cases hm
    ·rcases hL _ hm with h5 |h5
     ·exact .inl h5
     ·exact .inr (.inr h5)
   vec:=fun n s hs=>by
    obtain⟨h1,h2,h3⟩:=R'.vec n s hs
    refine⟨h1.mono (fun _ _=>rfl) hback (fun _ _=>rfl),h2,fun g hg=>?_⟩
    rcases h3 g hg with h5 |h5
    ·exact .inl (Nat.le_trans R.size h5)
    ·exact hL g h5
   dbb:=R'.dbb,dbv:=R'.dbv,dvv:=R'.dvv }
theorem Rel.fresh (R:Rel K st a w p) (hK:K.ios=[]):∃K':Ctx P,Rel K' st a w p∧∀st' a' w' p',Rel K' st' a' w' p'→Rel K st' a' w' p'∧Agree K p w w':=by
 obtain⟨K',_,h1,h2⟩:=R.freshH hK
 exact⟨K',h1,fun st' a' w' p' R'=>⟨(h2 _ _ _ _ R').1,fun q hq=>Aq ((h2 _ _ _ _ R').2 _ hq).1⟩⟩
def FP (P:Program) (K:Ctx P) (S:World→Prop) (F:Exit→Act→World→Prop) (ops:Array Oper) (n:Nat) (listed:Array Bool) (st:St):Prop:=
 ∀a w p,Rel K st a w p→wpAnyH P .any ops F S n listed a w
structure Nq {P:Program} (K:Ctx P) (S:World→Prop) (F:Exit→Act→World→Prop) (Q:Exit→St→Prop):Prop where
 s:∀st a w p,Rel K st a w p→S w
 f:∀e st a w p,Rel K st a w p→Q e st→F e a w
 np:∀c a w,¬F (.panic c) a w
theorem Mf {id:Nat} {l:List Oper} {st1:St} (is:List Nat) (n:Nat) (hK:K.ios.length=0) (hm:P.follows .mixedOrders=true) (hB:(Region.noSelect l.toArray&&decide (is.length+n=l.toArray.size)&&takeB l.toArray is (Array.replicate l.toArray.size false))=true) (hQ:NoPanic Q)
  {ol:List (Option Oper)} (hol:is.map (l.toArray[·]?)=ol) {os:List Oper} (hoo:ol.filterMap (fun x=>x)=os) (hos:ol=os.map some) (h':Bz P l.toArray os st=some st1)
  (H:∀K' S F,Nq K' S F Q→FP P K' S F l.toArray n (Eg is (Array.replicate l.toArray.size false)) st1):Tr P K (.region id l.toArray true) st Q:=by
 have h:Cv P l.toArray is st=some st1:=(Hb (hol.trans hos)).symm.trans h'
 have hK0:K.ios=[]:=List.eq_nil_of_length_eq_zero hK
 intro a w p R
 simp only[Bool.and_eq_true,decide_eq_true_eq] at hB
 obtain⟨⟨hs,hn⟩,ht⟩:=hB
 have key:wpAnyH P .any l.toArray (Pst K Q) (Agree K p { w with drawn:=w.drawn+1 }) (is.length+n) (Array.replicate l.toArray.size false) a { w with drawn:=w.drawn+1 }:=by
  refine Jm hs (fun c a w ⟨s,_,_,q⟩=>hQ c s q) (fun _ h=>h) (fun _ _=>rfl) is _ st a ht R.drew h fun a1 R1=>?_
  obtain⟨K',R2,hb⟩:=R1.fresh hK0
  exact H K' _ _ ⟨fun st a w p R=>(hb _ _ _ _ R).2,fun e st a w p R q=>⟨st,p,(hb _ _ _ _ R).1,q⟩,fun c a w ⟨s,_,_,q⟩=>hQ c s q⟩ a1 _ p R2
 rw[hn] at key
 exact wp_region_held hm key
section
variable {S:World→Prop} {F:Exit→Act→World→Prop} {n:Nat} {listed:Array Bool} {st1:St}
def WS (P:Program) (K:Ctx P) (S:World→Prop) (F:Exit→Act→World→Prop) (ops:Array Oper) (n:Nat) (listed:Array Bool) (st:St) (i:Nat):Prop:=
 ∃o st1,ops[i]? =some o∧(gdA ops st o=some true∧step P st o=some st1)∧FP P K S F ops n (listed.setIfInBounds i true) st1
def SL (P:Program) (K:Ctx P) (S:World→Prop) (F:Exit→Act→World→Prop) (ops:Array Oper) (n:Nat) (listed:Array Bool) (st:St):List Nat→Prop
 |[]=>True
 |i::l=>WS P K S F ops n listed st i∧SL P K S F ops n listed st l
theorem Mg:∀{l:List Nat},SL P K S F ops n listed st l→∀i∈l,WS P K S F ops n listed st i
 |[],_,i,hi=>by cases hi
 |j::l,h,i,hi=>by
  rcases List.mem_cons.1 hi with rfl |hi
  ·exact h.1
  ·exact Mg h.2 i hi
theorem Ae (C:Nq K S F Q) (rs:List Nat) (hr:Region.ready .any ops listed=rs) (hne:rs≠[]) (H:SL P K S F ops n listed st rs):FP P K S F ops (n+1) listed st:=by
 intro a w p R
 refine wpAnyH_all hr hne fun i hi=>?_
 obtain⟨o,st1,ho,⟨hg,hs⟩,H1⟩:=Mg H i hi
 unfold wpOp
 simp only[ho]
 rw[A9 R hg,if_pos rfl]
 refine .inl ?_
 unfold Oper.wp
 obtain⟨w',p',h |h⟩:=F5 R hs
 ·obtain⟨v,e,R'⟩:=h
  rw[e];exact⟨C.s _ _ _ _ R',H1 _ _ _ R'⟩
 ·obtain⟨e,R'⟩:=h
  rw[e];exact⟨C.s _ _ _ _ R',H1 _ _ _ R'⟩
theorem hlC {i:Nat} {l:List Nat} {o:Oper} (ho:ops[i]? =some o) (hg:gdA ops st o=some true∧step P st o=some st1) (h:FP P K S F ops n (listed.setIfInBounds i true) st1) (t:SL P K S F ops n listed st l):SL P K S F ops n listed st (i::l):=⟨⟨o,st1,ho,hg,h⟩,t⟩
theorem B1 (C:Nq K S F Q) (k:Nat) {o:Oper} (ho:ops[k]? =some o) (hs:Region.noSelect ops=true) (hf:((Region.ready .any ops listed).contains k&&Region.free .any ops listed k&&true)=true) (hp:Bw P o=true) (hg:gdA ops st o=some true∧EY P st o=some st1)
  (H:FP P K S F ops n (listed.setIfInBounds k true) st1):FP P K S F ops (n+1) listed st:=by
 intro a w p R
 simp only[Bool.and_eq_true] at hf
 obtain⟨⟨hr,hfr⟩,_⟩:=hf
 obtain⟨hg,hv⟩:=hg
 unfold EY at hv
 cases hx:vstep P st o with
 |none=>simp[hx] at hv
 |some x=>
  simp only[hx,Option.bind_some] at hv
  obtain⟨v,g1,g2⟩:=Hv R hp hx
  exact wpAnyH_take ho hs hfr hr (fun c a w q=>absurd q (C.np c _ w)) (.inl ⟨A9 R hg,fun w' _=>g1 w'⟩) (C.s _ _ _ _ R) (H _ w p (R.puto g2 hv))
theorem LZ (C:Nq K S F Q) (hr:Region.ready .any ops listed=[]) (H:Q .normal st):FP P K S F ops 0 listed st:=fun a w p R=>⟨hr,C.f _ _ _ _ _ R H⟩
end
theorem ZP {id:Nat} {l:List Oper} {y:Code} {S0:St} {st1:St} (is:List Nat) (n:Nat) (hK:K.ios.length=0) (hm:P.follows .mixedOrders=true) (hB:(Region.noSelect l.toArray&&decide (is.length+n=l.toArray.size)&&takeB l.toArray is (Array.replicate l.toArray.size false))=true)
  {ol:List (Option Oper)} (hol:is.map (l.toArray[·]?)=ol) {os:List Oper} (hoo:ol.filterMap (fun x=>x)=os) (hos:ol=os.map some) (h':Bz P l.toArray os st=some st1)
  (H:∀K' S F,Nq K' S F (fun e s=>e=.normal∧D1 s S0)→FP P K' S F l.toArray n (Eg is (Array.replicate l.toArray.size false)) st1) (h2:Tr P K y S0 Q):Tr P K (.seq (.region id l.toArray true) y) st Q:=
 trq fun a w p R=>wp_mono (Mf is n hK hm hB (fun c s h=>by cases h.1) hol hoo hos h' H a w p R) fun e a' w' ⟨s,p',R',he,hw⟩=>by
  subst he
  exact⟨s,p',R',S2 hw h2⟩
theorem Nr {id:Nat} {l:List Oper} {S0:St} {st1:St} (is:List Nat) (n:Nat) (hK:K.ios.length=0) (hm:P.follows .mixedOrders=true) (hB:(Region.noSelect l.toArray&&decide (is.length+n=l.toArray.size)&&takeB l.toArray is (Array.replicate l.toArray.size false))=true)
  {ol:List (Option Oper)} (hol:is.map (l.toArray[·]?)=ol) {os:List Oper} (hoo:ol.filterMap (fun x=>x)=os) (hos:ol=os.map some) (h':Bz P l.toArray os st=some st1)
  (H:∀K' S F,Nq K' S F (fun e s=>e=.normal∧D1 s S0)→FP P K' S F l.toArray n (Eg is (Array.replicate l.toArray.size false)) st1) (h2:∀s,D1 s S0→Q .normal s):Tr P K (.region id l.toArray true) st Q:=
 fun a w p R=>wp_mono (Mf is n hK hm hB (fun c s h=>by cases h.1) hol hoo hos h' H a w p R) fun e a' w' ⟨s,p',R',he,hw⟩=>by
  subst he
  exact⟨s,p',R',h2 s hw⟩
end
end Go.Vl
namespace Go.Vl
open Go
section
variable {P:Program} {K:Ctx P} {st:St} {ops:Array Oper} {Q:Exit→St→Prop} {S:World→Prop} {F:Exit→Act→World→Prop} {n:Nat} {listed:Array Bool}
def SN (P:Program) (K:Ctx P) (S:World→Prop) (F:Exit→Act→World→Prop) (Q:Exit→St→Prop) (ops:Array Oper) (n:Nat) (listed:Array Bool) (st:St) (i:Nat):Prop:=
 ∃o,ops[i]? =some o∧Az P K ops [o] st (Cq (fun s=>FP P K S F ops n (listed.setIfInBounds i true) s) Q)
def Mh (P:Program) (K:Ctx P) (S:World→Prop) (F:Exit→Act→World→Prop) (Q:Exit→St→Prop) (ops:Array Oper) (n:Nat) (listed:Array Bool) (st:St):List Nat→Prop
 |[]=>True
 |i::l=>SN P K S F Q ops n listed st i∧Mh P K S F Q ops n listed st l
theorem Kr:∀{l:List Nat},Mh P K S F Q ops n listed st l→∀i∈l,SN P K S F Q ops n listed st i
 |[],_,i,hi=>by cases hi
 |j::l,h,i,hi=>by
  rcases List.mem_cons.1 hi with rfl |hi
  ·exact h.1
  ·exact Kr h.2 i hi
theorem Eh {i:Nat} {l:List Nat} {o:Oper} (ho:ops[i]? =some o) (h:Az P K ops [o] st (Cq (fun s=>FP P K S F ops n (listed.setIfInBounds i true) s) Q)) (t:Mh P K S F Q ops n listed st l):Mh P K S F Q ops n listed st (i::l):=⟨⟨o,ho,h⟩,t⟩
theorem BQ (C:Nq K S F Q) (rs:List Nat) (hr:Region.ready .any ops listed=rs) (hne:rs≠[]) (H:Mh P K S F Q ops n listed st rs):FP P K S F ops (n+1) listed st:=by
 intro a w p R
 refine wpAnyH_all hr hne fun i hi=>?_
 obtain⟨o,ho,H1⟩:=Kr H i hi
 have hh:=H1 a w p R
 have hn:∀a w,wpList P ops (Pst K (Cq (fun s=>FP P K S F ops n (listed.setIfInBounds i true) s) Q)) [] a w→S w∧wpAnyH P .any ops F S n (listed.setIfInBounds i true) a w:=fun a w ⟨s,p,R,q⟩=>⟨C.s _ _ _ _ R,q a w p R⟩
 unfold wpList at hh
 unfold wpOp
 simp only[ho]
 split
 ·rename_i hw
  rw[if_pos hw] at hh
  rcases hh with hh |⟨h1,a0,w0,s,p,R,q⟩
  ·left
   unfold Oper.wp at hh ⊢
   generalize (execOp a.eval o).run P w=r at hh ⊢
   cases r with
   |ok n w'=>
    cases n <;> simp only[Oper.upon] at hh ⊢
    case value v=>exact hn _ _ hh
    case skip=>exact hn _ _ hh
    case defer d=>exact hn _ _ hh
    case enter f args=>
     refine Calls.mono hh fun e w'' he=>?_
     cases e with
     |returned v=>exact hn _ _ he
     |panicked c=>obtain⟨s,p,R,q⟩:=he;exact C.f _ _ _ _ _ R q
     |outgrown=>obtain⟨a0,w0,s,p,R,q⟩:=he;exact⟨a0,w0,C.f _ _ _ _ _ R q⟩
    case row row args=>exact Rows.mono hh fun v w'' he=>hn _ _ he
   |halt x w'=>
    cases x <;> simp only[Oper.upon] at hh ⊢
    case panic v=>obtain⟨s,p,R,q⟩:=hh;exact C.f _ _ _ _ _ R q
  ·exact .inr ⟨h1,a0,w0,C.f _ _ _ _ _ R q⟩
 ·rename_i hw
  rw[if_neg hw] at hh
  exact hn _ _ hh
end
end Go.Vl
