/- The value logic: a region that draws its order, where what only looks at what nobody writes is taken first, and what is left in every order. Conditions: none. -/
import Derived.Test.YtbnfogbfphakmaaGreatDoorVmOa
import Derived.OrdersHeld
set_option linter.unusedSimpArgs false
set_option linter.unusedVariables false
namespace Go.Vl
open Go Go.RowKit
section
variable {P:Program} {K:Ctx P} {st:St} {a:Act} {w:World} {p:Pl} {ops:Array Oper} {Q:Exit→St→Prop}
def loadVal (P:Program) (t:TypeId) (vs:Nat→Value) (o:Nat):Value:=
 if isAggB P t then .agg ((List.range ((szOf P t).getD 0)).map fun j=>vs (o+j)).toArray else vs o
theorem load_run {t:TypeId} {cs:List AV} {o:Nat} {x:AV} (h:partA P t cs o=some x) {w:World} {b:Addr} (vs:Nat→Value)
  (hcell:∀j,j < cs.length→w.cell? (b.add j)=some (vs j)):(loadVar t (b.add o)).run P w=.ok (loadVal P t vs o) w:=by
 unfold partA at h
 split at h
 case isFalse=>cases h
 rename_i hu
 simp only[loadVar,Sem.run_bind,run_isAggB hu,Result.andThen]
 split at h
 ·rename_i hg
  cases hk:szOf P t with
  |none=>simp[hk] at h
  |some k=>
   simp only[hk,Option.bind_some] at h
   split at h
   case isFalse=>cases h
   rename_i hle
   simp only[hg,if_true,Sem.run_bind,run_szOf hk,Result.andThen]
   rw[run_loadCells (P:=P) w (b.add o) k (fun j=>vs (o+j)) (fun j hj=>by rw[add_add];exact hcell _ (by omega))]
   simp[loadVal,hg,hk]
 ·rename_i hg
  have hlt:o < cs.length:=(List.getElem?_eq_some_iff.1 h).1
  simp only[hg,Bool.false_eq_true,if_false]
  simp[hcell o hlt,loadVal,hg]
def stillB (P:Program) (st:St) (o:Oper):Bool:=
 pureP P o||match o.op with
 | .load _ x=>match opd st x with | .cptr _ _=>true |_=>false
 |_=>false
def Agree {P:Program} (K:Ctx P) (p:Pl) (w w':World):Prop:=∀q:Addr,okc K w p q.block→see w' q=see w q
theorem still_sound (R:Rel K st a w p) {o:Oper} {x:AV} (hp:stillB P st o=true) (h:vstep P st o=some x):
  ∃v,(∀w',Agree K p w w'→(execOp a.eval o).run P w'=.ok (.value v) w')∧RA w (okc K w p) p x v:=by
 unfold stillB at hp
 cases hq:pureP P o with
 |true=>obtain⟨v,h1,h2⟩:=pureP_sound R hq h;exact⟨v,fun w' _=>h1 w',h2⟩
 |false=>
  rw[hq,Bool.false_or] at hp
  split at hp
  ·rename_i t y ho
   split at hp
   ·rename_i row off hy
    simp only[vstep,ho] at h
    have hr:=R.opd y
    rw[hy] at h hr
    obtain⟨v,h1,h2⟩:=loadA_sound R h hr
    generalize hu:a.eval y=u at *
    cases hr with |cptr vs hok hcell hd=>
    rename_i b
    simp only[loadA] at h
    refine⟨v,fun w' ag=>?_,h2⟩
    have r1:=load_run h (w:=w) (b:=b) vs (fun j hj=>hcell j (by simpa using hj))
    have r2:=load_run h (w:=w') (b:=b) vs (fun j hj=>by rw[see_cell (ag _ (by rw[block_add];exact hok))];exact hcell j (by simpa using hj))
    simp only[Instr.loadAt,Instr.sureAddr,Sem.run_bind,Sem.run_pure,Result.andThen,r1] at h1
    cases h1
    simp[execOp,ho,hu,Instr.loadAt,Instr.sureAddr,r2]
   ·cases hp
  ·cases hp
def takeB (ops:Array Oper):List Nat→Array Bool→Bool
 |[],_=>true
 |i::is,l=>(Region.ready .any ops l).contains i&&Region.free .any ops l i&&takeB ops is (l.setIfInBounds i true)
def listAll (is:List Nat) (l:Array Bool):Array Bool:=is.foldl (fun l i=>l.setIfInBounds i true) l
def stills (P:Program) (ops:Array Oper):List Nat→St→Option St
 |[],st=>some st
 |i::is,st=>(ops[i]?).bind fun o=>if gdA ops st o=some true∧stillB P st o=true then(vput P st o).bind (stills P ops is) else none
def stillsL (P:Program) (ops:Array Oper):List Oper→St→Option St
 |[],st=>some st
 |o::os,st=>if gdA ops st o=some true∧stillB P st o=true then(vput P st o).bind (stillsL P ops os) else none
theorem stills_of:∀{is:List Nat} {os:List Oper} {st:St},is.map (ops[·]?)=os.map some→stillsL P ops os st=stills P ops is st
 |[],[],_,_=>rfl
 |[],_::_,_,h=>by simp at h
 |_::_,[],_,h=>by simp at h
 |i::is,o::os,st,h=>by
  simp only[List.map_cons,List.cons.injEq] at h
  simp only[stillsL,stills,h.1,Option.bind_some]
  have ih:∀s,stillsL P ops os s=stills P ops is s:=fun s=>stills_of h.2
  have e:stillsL P ops os=stills P ops is:=funext ih
  rw[e]
theorem Rel.freshH (R:Rel K st a w p) (hK:K.ios=[]):∃K':Ctx P,K'.ios=[]∧Rel K' st a w p∧∀st' a' w' p',Rel K' st' a' w' p'→Rel K st' a' w' p'∧∀b,okc K w p b→w'.heap[b]? =w.heap[b]?∧okc K w' p' b:=by
 classical
 let L:=(List.range w.heap.size).filter fun b=>decide (((∃n,p.lb n∧p.bx n=b)∨(∃n,p.lv n∧(p.rw n).blk=some b)∨b∈K.ivs)∧¬okc K w p b)
 have memL:∀b,b∈L↔b < w.heap.size∧((∃n,p.lb n∧p.bx n=b)∨(∃n,p.lv n∧(p.rw n).blk=some b)∨b∈K.ivs)∧¬okc K w p b:=fun b=>by
  simp only[L,List.mem_filter,List.mem_range,decide_eq_true_eq]
 let K':Ctx P:=⟨w,okc K w p,[],L,fun b i x h=>by
  obtain⟨h1,h2⟩:=R.glob b i x h
  exact⟨⟨h1.1,h1,by simp,fun hm=>((memL b).1 hm).2.2 h1⟩,h2⟩⟩
 have hL:∀b,b∈L→K.w0.heap.size≤b∨b∈K.ivs:=fun b hb=>by
  obtain⟨_,⟨n,hn,e⟩ |⟨n,hn,e⟩ |h,_⟩:=(memL b).1 hb
  ·obtain⟨cs,hcs⟩:=Option.isSome_iff_exists.1 ((R.lbi n).1 hn)
   rcases(R.box n cs hcs).mine with h |h
   ·exact .inl (e▸h)
   ·rcases h with h |h
    ·rw[hK] at h;cases h
    ·exact .inr (e▸h)
  ·exact(R.vlt hn e).1
  ·exact .inr h
 have hok:∀b,okc K w p b→okc K' w p b:=fun b h=>⟨h.1,.inl h,h.2.2.1,h.2.2.2⟩
 refine⟨K',rfl,?_,fun st' a' w' p' R'=>?_⟩
 ·exact {
   lb:=R.lb,lv:=R.lv,dfr:=R.dfr,nt:=R.nt,ntl:=R.ntl
   ion:=fun i h=>by have:=R.ion i h;rw[hK] at this;simp at this
   size:=Nat.le_refl _,os:=rfl,tape:=rfl,dr:=Nat.le_refl _,output:=rfl,old:=fun _ _ _=>rfl
   env:=fun t x hx=>(R.env t x hx).mono (fun _ _=>rfl) hok (fun _ h=>⟨h,rfl⟩) (fun _ h=>⟨h,rfl⟩)
   box:=fun n cs hcs=>by
    obtain⟨⟨vs,ty,h1,h2,h3,h4⟩,_⟩:=R.box n cs hcs
    have hn:p.lb n:=(R.lbi n).2 (by simp[St.lb,hcs])
    exact⟨⟨vs,ty,h1,h2,fun i c v hc hv=>(h3 i c v hc hv).mono (fun _ _=>rfl) hok (fun _ h=>⟨h,rfl⟩) (fun _ h=>⟨h,rfl⟩),h4⟩,.inr (.inr ((memL _).2 ⟨R.blt hn,.inl ⟨n,hn,rfl⟩,fun h=>h.2.2.1 n hn rfl⟩))⟩
   vec:=fun n s hs=>by
    obtain⟨h1,h2,_⟩:=R.vec n s hs
    have hn:p.lv n:=(R.lvi n).2 (by simp[St.lv,hs])
    exact⟨h1.mono (fun _ _=>rfl) hok (fun _ _=>rfl),h2,fun g hg=>.inr ((memL _).2 ⟨(R.vlt hn hg).2,.inr (.inl ⟨n,hn,hg⟩),fun h=>h.2.2.2 n hn hg⟩)⟩
   dbb:=R.dbb,dbv:=R.dbv,dvv:=R.dvv }
 ·have hback:∀b,okc K' w' p' b→okc K w' p' b:=fun b h=>⟨h.1,by
   rcases h.2.1 with h1 |h1 |h1
   ·exact h1.2.1
   ·exact .inr (.inl (Nat.le_trans R.size h1))
   ·rcases hL b h1 with h2 |h2
    ·exact .inr (.inl h2)
    ·exact .inr (.inr h2),h.2.2.1,h.2.2.2⟩
  have hsame:∀b,okc K w p b→w'.heap[b]? =w.heap[b]? :=fun b hb=>R'.old b hb.1 fun h=>by
   rcases h with h |h
   ·cases h
   ·exact((memL b).1 h).2.2 hb
  refine⟨?_,fun b hb=>⟨hsame b hb,Nat.lt_of_lt_of_le hb.1 R'.size,hb.2.1,fun n hn e=>?_,fun n hn e=>?_⟩⟩
  rotate_left
  ·obtain⟨cs,hcs⟩:=Option.isSome_iff_exists.1 ((R'.lbi n).1 hn)
   rcases(R'.box n cs hcs).mine with h |h |h
   ·have:=hb.1;have h2:w.heap.size≤p'.bx n:=h;omega
   ·cases h
   ·exact((memL _).1 h).2.2 (e▸hb)
  ·obtain⟨s,hs⟩:=Option.isSome_iff_exists.1 ((R'.lvi n).1 hn)
   rcases(R'.vec n s hs).mine b e with h |h
   ·have:=hb.1;have h2:w.heap.size≤b:=h;omega
   ·exact((memL _).1 h).2.2 hb
  exact {
   lb:=R'.lb,lv:=R'.lv,dfr:=R'.dfr,nt:=R'.nt,ntl:=R'.ntl
   ion:=fun i h=>by have:=R'.ion i h;simp[K'] at this
   size:=Nat.le_trans R.size R'.size,os:=R'.os.trans R.os,tape:=R'.tape.trans R.tape,dr:=Nat.le_trans R.dr R'.dr,output:=R'.output.trans R.output
   old:=fun b hb hio=>(R'.old b (Nat.lt_of_lt_of_le hb R.size) fun h=>by
    rcases h with h |h
    ·cases h
    ·rcases hL b h with h2 |h2
     ·omega
     ·exact hio (.inr h2)).trans (R.old b hb hio)
   env:=fun t x hx=>(R'.env t x hx).mono (fun _ _=>rfl) hback (fun _ h=>⟨h,rfl⟩) (fun _ h=>⟨h,rfl⟩)
   box:=fun n cs hcs=>by
    obtain⟨⟨vs,ty,h1,h2,h3,h4⟩,hm⟩:=R'.box n cs hcs
    refine⟨⟨vs,ty,h1,h2,fun i c v hc hv=>(h3 i c v hc hv).mono (fun _ _=>rfl) hback (fun _ h=>⟨h,rfl⟩) (fun _ h=>⟨h,rfl⟩),h4⟩,?_⟩
    rcases hm with hm |hm |hm
    ·exact .inl (Nat.le_trans R.size hm)
    ·cases hm
    ·rcases hL _ hm with h5 |h5
     ·exact .inl h5
     ·exact .inr (.inr h5)
   vec:=fun n s hs=>by
    obtain⟨h1,h2,h3⟩:=R'.vec n s hs
    refine⟨h1.mono (fun _ _=>rfl) hback (fun _ _=>rfl),h2,fun g hg=>?_⟩
    rcases h3 g hg with h5 |h5
    ·exact .inl (Nat.le_trans R.size h5)
    ·exact hL g h5
   dbb:=R'.dbb,dbv:=R'.dbv,dvv:=R'.dvv }
structure HCtx {P:Program} (K:Ctx P) (S:World→Prop) (F:Exit→Act→World→Prop) (Q:Exit→St→Prop):Prop where
 s:∀st a w p,Rel K st a w p→S w
 f:∀e st a w p,Rel K st a w p→Q e st→F e a w
 np:∀c a w,¬F (.panic c) a w
section
variable {S:World→Prop} {F:Exit→Act→World→Prop} {n:Nat} {listed:Array Bool} {st1:St}
end
end
end Go.Vl
namespace Go.Vl
open Go
section
variable {P:Program} {K:Ctx P} {st:St} {ops:Array Oper} {Q:Exit→St→Prop} {S:World→Prop} {F:Exit→Act→World→Prop} {n:Nat} {listed:Array Bool}
end
end Go.Vl
