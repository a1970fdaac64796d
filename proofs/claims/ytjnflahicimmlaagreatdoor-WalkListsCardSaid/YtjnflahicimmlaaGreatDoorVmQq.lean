/- The value logic: a region that draws its order, where what only looks at what nobody writes is taken first, and what is left in every order. Conditions: none. -/
import Derived.Test.YtjnflahicimmlaaGreatDoorVmOa
import Derived.OrdersHeld
set_option linter.unusedSimpArgs false
set_option linter.unusedVariables false
namespace Go.Vl
open Go Go.RowKit
section
variable {P:Program} {K:Ctx P} {st:St} {a:Act} {w:World} {p:Pl} {ops:Array Oper} {Q:Exit→St→Prop}
def Ir (P:Program) (t:TypeId) (vs:Nat→Value) (o:Nat):Value:=
 if gO P t then .agg ((List.range ((fh P t).getD 0)).map λj=>vs (o+j)).toArray else vs o
theorem Kl {t:TypeId} {cs:List AV} {o:Nat} {x:AV} (h:xe P t cs o=some x) {w:World} {b:Addr} (vs:Nat→Value)
  (eY:∀j,j < cs.length→w.cell? (b.add j)=some (vs j)):(loadVar t (b.add o)).run P w=.ok (Ir P t vs o) w:=by
 unfold xe at h;split at h
 case isFalse=>cases h
 rename_i hu;simp only[loadVar,bk,pr hu,Result.andThen];split at h
 ·rename_i hg
  cases hk:fh P t with
  |none=>simp[hk] at h
  |some k=>
   simp only[hk,aa] at h;split at h
   case isFalse=>cases h
   rename_i hle;simp only[hg,eM,bk,eO hk,Result.andThen];rw[run_loadCells (P:=P) w (b.add o) k (λj=>vs (o+j)) (λj hj=>by rw[add_add];exact eY _ (by omega))];simp[Ir,hg,hk]
 ·rename_i hg
  have iN:o < cs.length:=(aj.1 h).1;simp only[hg,bz,cS];simp[eY o iN,Ir,hg]
def iZ (P:Program) (st:St) (o:Oper):Bool:=
 gB P o||match o.op with
 | .load _ x=>match ca st x with | .cN _ _=>true |_=>false
 |_=>false
def Agree {P:Program} (K:Ctx P) (p:Pl) (w w':World):Prop:=∀q:Addr,dx K w p q.block→si w' q=si w q
theorem xK (R:Rel K st a w p) {o:Oper} {x:AV} (hp:iZ P st o=true) (h:gI P st o=some x):
  ∃v,(∀w',Agree K p w w'→(execOp a.eval o).run P w'=.ok (.value v) w')∧RA w (dx K w p) p x v:=by
 unfold iZ at hp;cases hq:gB P o with
 |true=>obtain⟨v,h1,h2⟩:=xW R hq h;exact⟨v,λw' _=>h1 w',h2⟩
 |false=>
  rw[hq,hZ] at hp;split at hp
  ·rename_i t y ho
   split at hp
   ·rename_i row off hy
    simp only[gI,ho] at h;have hr:=R.ca y;rw[hy] at h hr;obtain⟨v,h1,h2⟩:=yg R h hr;generalize hu:a.eval y=u at *;cases hr with |cN vs gD eY hd=>
    rename_i b;simp only[sH] at h;refine⟨v,λw' ag=>?_,h2⟩;have r1:=Kl h (w:=w) (b:=b) vs (λj hj=>eY j (by simpa using hj));have r2:=Kl h (w:=w') (b:=b) vs (λj hj=>by rw[AH (ag _ (by rw[block_add];exact gD))];exact eY j (by simpa using hj));simp only[Instr.loadAt,Instr.sureAddr,bk,cV,Result.andThen,r1] at h1;cases h1;simp[execOp,ho,hu,Instr.loadAt,Instr.sureAddr,r2]
   ·cases hp
  ·cases hp
def sG (ops:Array Oper):List Nat→Array Bool→Bool
 |[],_=>true
 |i::is,l=>(Region.ready .any ops l).contains i&&Region.free .any ops l i&&sG ops is (l.setIfInBounds i true)
def lD (is:List Nat) (l:Array Bool):Array Bool:=is.foldl (λl i=>l.setIfInBounds i true) l
def qT (P:Program) (ops:Array Oper):List Nat→St→Option St
 |[],st=>some st
 |i::is,st=>(ops[i]?).bind λo=>if pW ops st o=some true∧iZ P st o=true then(sP P st o).bind (qT P ops is) else none
def gX (P:Program) (ops:Array Oper):List Oper→St→Option St
 |[],st=>some st
 |o::os,st=>if pW ops st o=some true∧iZ P st o=true then(sP P st o).bind (gX P ops os) else none
theorem BN:∀{is:List Nat} {os:List Oper} {st:St},is.map (ops[·]?)=os.map some→gX P ops os st=qT P ops is st
 |[],[],_,_=>rfl
 |[],_::_,_,h=>by simp at h
 |_::_,[],_,h=>by simp at h
 |i::is,o::os,st,h=>by
  simp only[aW,iy] at h;simp only[gX,qT,h.1,aa];have ih:∀s,gX P ops os s=qT P ops is s:=λs=>BN h.2
  have e:gX P ops os=qT P ops is:=funext ih;rw[e]
theorem D1 {F:Exit→Act→World→Prop} {S:World→Prop} (hs:Region.noSelect ops=true) (hF:∀c a w,¬F (.panic c) a w) (hS:∀w',S w'→Agree K p w w') (LM:S w) {n:Nat} {st1:St}:∀(is:List Nat) (listed:Array Bool) (st:St) (a:Act),sG ops is listed=true→
  Rel K st a w p→qT P ops is st=some st1→(∀a1,Rel K st1 a1 w p→wpAnyH P .any ops F S n (lD is listed) a1 w)→wpAnyH P .any ops F S (is.length+n) listed a w
 |[],listed,st,a,_,R,h,H=>by
  simp[qT] at h;subst h;simpa[lD] using H a R
 |i::is,listed,st,a,ht,R,h,H=>by
  simp only[sG,aR] at ht;obtain⟨⟨hr,hf⟩,Up⟩:=ht;simp only[qT] at h;cases h0:ops[i]? with
  |none=>simp[h0] at h
  |some o=>
   simp only[h0,aa] at h;split at h
   case isFalse=>cases h
   rename_i sV;cases hv:sP P st o with
   |none=>simp[hv] at h
   |some st2=>
    simp only[hv,aa] at h;unfold sP at hv;cases hx:gI P st o with
    |none=>simp[hx] at hv
    |some x=>
     simp only[hx,aa] at hv;obtain⟨v,g1,g2⟩:=xK R sV.2 hx;rw[cQ,show is.length+1+n=(is.length+n)+1 by omega];exact ly h0 hs hf hr (λc a w q=>absurd q (hF c _ w)) (.inl ⟨fH R sV.1,λw' YU=>g1 w' (hS w' YU)⟩) LM
      (D1 hs hF hS LM is _ st2 _ Up (R.BX g2 hv) h H)
theorem Rel.Cn (R:Rel K st a w p) (hK:K.lx=[]):∃K':Ctx P,K'.lx=[]∧Rel K' st a w p∧∀cM a' w' p',Rel K' cM a' w' p'→Rel K cM a' w' p'∧∀b,dx K w p b→w'.heap[b]? =w.heap[b]?∧dx K w' p' b:=by
 classical
 let L:=(List.range w.heap.size).filter λb=>decide (((∃n,p.lb n∧p.bx n=b)∨(∃n,p.lv n∧(p.rw n).fN=some b)∨b∈K.qO)∧¬dx K w p b)
 have zf:∀b,b∈L↔b < w.heap.size∧((∃n,p.lb n∧p.bx n=b)∨(∃n,p.lv n∧(p.rw n).fN=some b)∨b∈K.qO)∧¬dx K w p b:=λb=>by
  simp only[L,bP,fj,bg]
 let K':Ctx P:=⟨w,dx K w p,[],L,λb i x h=>by
  obtain⟨h1,h2⟩:=R.KR b i x h;exact⟨⟨h1.1,h1,by simp,λhm=>((zf b).1 hm).2.2 h1⟩,h2⟩⟩
 have hL:∀b,b∈L→K.w0.heap.size≤b∨b∈K.qO:=λb hb=>by
  obtain⟨_,⟨n,hn,e⟩ |⟨n,hn,e⟩ |h,_⟩:=(zf b).1 hb
  ·obtain⟨cs,je⟩:=aY.1 ((R.vg n).1 hn)
   rcases(R.box n cs je).yc with h |h
   ·exact .inl (e▸h)
   ·rcases h with h |h
    ·rw[hK] at h;cases h
    ·exact .inr (e▸h)
  ·exact(R.yI hn e).1
  ·exact .inr h
 have gD:∀b,dx K w p b→dx K' w p b:=λb h=>⟨h.1,.inl h,h.2.2.1,h.2.2.2⟩
 refine⟨K',rfl,?_,λcM a' w' p' R'=>?_⟩
 ·exact {
   lb:=R.lb,lv:=R.lv,pj:=R.pj,nt:=R.nt,pK:=R.pK
   oB:=λi h=>by have:=R.oB i h;rw[hK] at this;simp at this
   size:=aM _,os:=rfl,tape:=rfl,dr:=aM _,output:=rfl,old:=λ_ _ _=>rfl
   env:=λt x hx=>(R.env t x hx).mono (λ_ _=>rfl) gD (λ_ h=>⟨h,rfl⟩) (λ_ h=>⟨h,rfl⟩)
   box:=λn cs je=>by
    obtain⟨⟨vs,ty,h1,h2,h3,h4⟩,_⟩:=R.box n cs je;have hn:p.lb n:=(R.vg n).2 (by simp[St.lb,je]);exact⟨⟨vs,ty,h1,h2,λi c v hc hv=>(h3 i c v hc hv).mono (λ_ _=>rfl) gD (λ_ h=>⟨h,rfl⟩) (λ_ h=>⟨h,rfl⟩),h4⟩,.inr (.inr ((zf _).2 ⟨R.blt hn,.inl ⟨n,hn,rfl⟩,λh=>h.2.2.1 n hn rfl⟩))⟩
   vec:=λn s hs=>by
    obtain⟨h1,h2,_⟩:=R.vec n s hs;have hn:p.lv n:=(R.sT n).2 (by simp[St.lv,hs]);exact⟨h1.mono (λ_ _=>rfl) gD (λ_ _=>rfl),h2,λg hg=>.inr ((zf _).2 ⟨(R.yI hn hg).2,.inr (.inl ⟨n,hn,hg⟩),λh=>h.2.2.2 n hn hg⟩)⟩
   oF:=R.oF,my:=R.my,mX:=R.mX }
 ·have vS:∀b,dx K' w' p' b→dx K w' p' b:=λb h=>⟨h.1,by
   rcases h.2.1 with h1 |h1 |h1
   ·exact h1.2.1
   ·exact .inr (.inl (bO R.size h1))
   ·rcases hL b h1 with h2 |h2
    ·exact .inr (.inl h2)
    ·exact .inr (.inr h2),h.2.2.1,h.2.2.2⟩
  have ym:∀b,dx K w p b→w'.heap[b]? =w.heap[b]? :=λb hb=>R'.old b hb.1 λh=>by
   rcases h with h |h
   ·cases h
   ·exact((zf b).1 h).2.2 hb
  refine⟨?_,λb hb=>⟨ym b hb,bu hb.1 R'.size,hb.2.1,λn hn e=>?_,λn hn e=>?_⟩⟩
  rotate_left
  ·obtain⟨cs,je⟩:=aY.1 ((R'.vg n).1 hn)
   rcases(R'.box n cs je).yc with h |h |h
   ·have:=hb.1;have h2:w.heap.size≤p'.bx n:=h;omega
   ·cases h
   ·exact((zf _).1 h).2.2 (e▸hb)
  ·obtain⟨s,hs⟩:=aY.1 ((R'.sT n).1 hn)
   rcases(R'.vec n s hs).yc b e with h |h
   ·have:=hb.1;have h2:w.heap.size≤b:=h;omega
   ·exact((zf _).1 h).2.2 hb
  exact {
   lb:=R'.lb,lv:=R'.lv,pj:=R'.pj,nt:=R'.nt,pK:=R'.pK
   oB:=λi h=>by have:=R'.oB i h;simp[K'] at this
   size:=bO R.size R'.size,os:=R'.os.trans R.os,tape:=R'.tape.trans R.tape,dr:=bO R.dr R'.dr,output:=R'.output.trans R.output
   old:=λb hb xg=>(R'.old b (bu hb R.size) λh=>by
    rcases h with h |h
    ·cases h
    ·rcases hL b h with h2 |h2
     ·omega
     ·exact xg (.inr h2)).trans (R.old b hb xg)
   env:=λt x hx=>(R'.env t x hx).mono (λ_ _=>rfl) vS (λ_ h=>⟨h,rfl⟩) (λ_ h=>⟨h,rfl⟩)
   box:=λn cs je=>by
    obtain⟨⟨vs,ty,h1,h2,h3,h4⟩,hm⟩:=R'.box n cs je;refine⟨⟨vs,ty,h1,h2,λi c v hc hv=>(h3 i c v hc hv).mono (λ_ _=>rfl) vS (λ_ h=>⟨h,rfl⟩) (λ_ h=>⟨h,rfl⟩),h4⟩,?_⟩;rcases hm with hm |hm |hm
    ·exact .inl (bO R.size hm)
    ·cases hm
    ·rcases hL _ hm with h5 |h5
     ·exact .inl h5
     ·exact .inr (.inr h5)
   vec:=λn s hs=>by
    obtain⟨h1,h2,h3⟩:=R'.vec n s hs;refine⟨h1.mono (λ_ _=>rfl) vS (λ_ _=>rfl),h2,λg hg=>?_⟩;rcases h3 g hg with h5 |h5
    ·exact .inl (bO R.size h5)
    ·exact hL g h5
   oF:=R'.oF,my:=R'.my,mX:=R'.mX }
theorem Rel.fresh (R:Rel K st a w p) (hK:K.lx=[]):∃K':Ctx P,Rel K' st a w p∧∀cM a' w' p',Rel K' cM a' w' p'→Rel K cM a' w' p'∧Agree K p w w':=by
 obtain⟨K',_,h1,h2⟩:=R.Cn hK;exact⟨K',h1,λcM a' w' p' R'=>⟨(h2 _ _ _ _ R').1,λq hq=>cT ((h2 _ _ _ _ R').2 _ hq).1⟩⟩
def sD (P:Program) (K:Ctx P) (S:World→Prop) (F:Exit→Act→World→Prop) (ops:Array Oper) (n:Nat) (listed:Array Bool) (st:St):Prop:=
 ∀a w p,Rel K st a w p→wpAnyH P .any ops F S n listed a w
structure BC {P:Program} (K:Ctx P) (S:World→Prop) (F:Exit→Act→World→Prop) (Q:Exit→St→Prop):Prop where
 s:∀st a w p,Rel K st a w p→S w
 f:∀e st a w p,Rel K st a w p→Q e st→F e a w
 np:∀c a w,¬F (.panic c) a w
theorem E9 {id:Nat} {l:List Oper} {st1:St} (is:List Nat) (n:Nat) (hK:K.lx.length=0) (hm:P.follows .mixedOrders=true) (hB:(Region.noSelect l.toArray&&decide (is.length+n=l.toArray.size)&&sG l.toArray is (Array.replicate l.toArray.size false))=true) (hQ:OH Q)
  {ol:List (Option Oper)} (FV:is.map (l.toArray[·]?)=ol) {os:List Oper} (Dw:ol.filterMap (λx=>x)=os) (IF:ol=os.map some) (h':gX P l.toArray os st=some st1)
  (H:∀K' S F,BC K' S F Q→sD P K' S F l.toArray n (lD is (Array.replicate l.toArray.size false)) st1):Tr P K (.region id l.toArray true) st Q:=by
 have h:qT P l.toArray is st=some st1:=(BN (FV.trans IF)).symm.trans h';have Hy:K.lx=[]:=aI hK;intro a w p R;simp only[aR,bg] at hB;obtain⟨⟨hs,hn⟩,ht⟩:=hB;have key:wpAnyH P .any l.toArray (FZ K Q) (Agree K p { w with drawn:=w.drawn+1 }) (is.length+n) (Array.replicate l.toArray.size false) a { w with drawn:=w.drawn+1 }:=by
  refine D1 hs (λc a w ⟨s,_,_,q⟩=>hQ c s q) (λ_ h=>h) (λ_ _=>rfl) is _ st a ht R.drew h λa1 R1=>?_
  obtain⟨K',R2,hb⟩:=R1.fresh Hy;exact H K' _ _ ⟨λst a w p R=>(hb _ _ _ _ R).2,λe st a w p R q=>⟨st,p,(hb _ _ _ _ R).1,q⟩,λc a w ⟨s,_,_,q⟩=>hQ c s q⟩ a1 _ p R2
 rw[hn] at key;exact ug hm key
section
variable {S:World→Prop} {F:Exit→Act→World→Prop} {n:Nat} {listed:Array Bool} {st1:St}
def XQ (P:Program) (K:Ctx P) (S:World→Prop) (F:Exit→Act→World→Prop) (ops:Array Oper) (n:Nat) (listed:Array Bool) (st:St) (i:Nat):Prop:=
 ∃o st1,ops[i]? =some o∧(pW ops st o=some true∧step P st o=some st1)∧sD P K S F ops n (listed.setIfInBounds i true) st1
def T6 (P:Program) (K:Ctx P) (S:World→Prop) (F:Exit→Act→World→Prop) (ops:Array Oper) (n:Nat) (listed:Array Bool) (st:St):List Nat→Prop
 |[]=>True
 |i::l=>XQ P K S F ops n listed st i∧T6 P K S F ops n listed st l
theorem KM:∀{l:List Nat},T6 P K S F ops n listed st l→∀i∈l,XQ P K S F ops n listed st i
 |[],_,i,hi=>by cases hi
 |j::l,h,i,hi=>by
  rcases aZ.1 hi with rfl |hi
  ·exact h.1
  ·exact KM h.2 i hi
theorem ky (C:BC K S F Q) (rs:List Nat) (hr:Region.ready .any ops listed=rs) (iA:rs≠[]) (H:T6 P K S F ops n listed st rs):sD P K S F ops (n+1) listed st:=by
 intro a w p R;refine fv hr iA λi hi=>?_
 obtain⟨o,st1,ho,⟨hg,hs⟩,H1⟩:=KM H i hi;unfold wpOp;simp only[ho];rw[fH R hg,ai rfl];refine .inl ?_;unfold Oper.wp;obtain⟨w',p',h |h⟩:=tF R hs
 ·obtain⟨v,e,R'⟩:=h
  rw[e];exact⟨C.s _ _ _ _ R',H1 _ _ _ R'⟩
 ·obtain⟨e,R'⟩:=h
  rw[e];exact⟨C.s _ _ _ _ R',H1 _ _ _ R'⟩
theorem fa {i:Nat} {l:List Nat} {o:Oper} (ho:ops[i]? =some o) (hg:pW ops st o=some true∧step P st o=some st1) (h:sD P K S F ops n (listed.setIfInBounds i true) st1) (t:T6 P K S F ops n listed st l):T6 P K S F ops n listed st (i::l):=⟨⟨o,st1,ho,hg,h⟩,t⟩
theorem uM (C:BC K S F Q) (k:Nat) {o:Oper} (ho:ops[k]? =some o) (hs:Region.noSelect ops=true) (hf:((Region.ready .any ops listed).contains k&&Region.free .any ops listed k&&true)=true) (hp:gB P o=true) (hg:pW ops st o=some true∧sP P st o=some st1)
  (H:sD P K S F ops n (listed.setIfInBounds k true) st1):sD P K S F ops (n+1) listed st:=by
 intro a w p R;simp only[aR] at hf;obtain⟨⟨hr,LL⟩,_⟩:=hf;obtain⟨hg,hv⟩:=hg;unfold sP at hv;cases hx:gI P st o with
 |none=>simp[hx] at hv
 |some x=>
  simp only[hx,aa] at hv;obtain⟨v,g1,g2⟩:=xW R hp hx;exact ly ho hs LL hr (λc a w q=>absurd q (C.np c _ w)) (.inl ⟨fH R hg,λw' _=>g1 w'⟩) (C.s _ _ _ _ R) (H _ w p (R.BX g2 hv))
theorem kx (C:BC K S F Q) (hr:Region.ready .any ops listed=[]) (H:Q .normal st):sD P K S F ops 0 listed st:=λa w p R=>⟨hr,C.f _ _ _ _ _ R H⟩
end
theorem N2 {id:Nat} {l:List Oper} {y:Code} {S0:St} {st1:St} (is:List Nat) (n:Nat) (hK:K.lx.length=0) (hm:P.follows .mixedOrders=true) (hB:(Region.noSelect l.toArray&&decide (is.length+n=l.toArray.size)&&sG l.toArray is (Array.replicate l.toArray.size false))=true)
  {ol:List (Option Oper)} (FV:is.map (l.toArray[·]?)=ol) {os:List Oper} (Dw:ol.filterMap (λx=>x)=os) (IF:ol=os.map some) (h':gX P l.toArray os st=some st1)
  (H:∀K' S F,BC K' S F (λe s=>e=.normal∧lZ s S0)→sD P K' S F l.toArray n (lD is (Array.replicate l.toArray.size false)) st1) (h2:Tr P K y S0 Q):Tr P K (.seq (.region id l.toArray true) y) st Q:=
 aF λa w p R=>hU (E9 is n hK hm hB (λc s h=>by cases h.1) FV Dw IF h' H a w p R) λe a' w' ⟨s,p',R',he,hw⟩=>by
  subst he;exact⟨s,p',R',H3 hw h2⟩
theorem YG {id:Nat} {l:List Oper} {S0:St} {st1:St} (is:List Nat) (n:Nat) (hK:K.lx.length=0) (hm:P.follows .mixedOrders=true) (hB:(Region.noSelect l.toArray&&decide (is.length+n=l.toArray.size)&&sG l.toArray is (Array.replicate l.toArray.size false))=true)
  {ol:List (Option Oper)} (FV:is.map (l.toArray[·]?)=ol) {os:List Oper} (Dw:ol.filterMap (λx=>x)=os) (IF:ol=os.map some) (h':gX P l.toArray os st=some st1)
  (H:∀K' S F,BC K' S F (λe s=>e=.normal∧lZ s S0)→sD P K' S F l.toArray n (lD is (Array.replicate l.toArray.size false)) st1) (h2:∀s,lZ s S0→Q .normal s):Tr P K (.region id l.toArray true) st Q:=
 λa w p R=>hU (E9 is n hK hm hB (λc s h=>by cases h.1) FV Dw IF h' H a w p R) λe a' w' ⟨s,p',R',he,hw⟩=>by
  subst he;exact⟨s,p',R',h2 s hw⟩
end
end Go.Vl
namespace Go.Vl
open Go
section
variable {P:Program} {K:Ctx P} {st:St} {ops:Array Oper} {Q:Exit→St→Prop} {S:World→Prop} {F:Exit→Act→World→Prop} {n:Nat} {listed:Array Bool}
def T4 (P:Program) (K:Ctx P) (S:World→Prop) (F:Exit→Act→World→Prop) (Q:Exit→St→Prop) (ops:Array Oper) (n:Nat) (listed:Array Bool) (st:St) (i:Nat):Prop:=
 ∃o,ops[i]? =some o∧fc P K ops [o] st (sF (λs=>sD P K S F ops n (listed.setIfInBounds i true) s) Q)
def HM (P:Program) (K:Ctx P) (S:World→Prop) (F:Exit→Act→World→Prop) (Q:Exit→St→Prop) (ops:Array Oper) (n:Nat) (listed:Array Bool) (st:St):List Nat→Prop
 |[]=>True
 |i::l=>T4 P K S F Q ops n listed st i∧HM P K S F Q ops n listed st l
theorem Hx:∀{l:List Nat},HM P K S F Q ops n listed st l→∀i∈l,T4 P K S F Q ops n listed st i
 |[],_,i,hi=>by cases hi
 |j::l,h,i,hi=>by
  rcases aZ.1 hi with rfl |hi
  ·exact h.1
  ·exact Hx h.2 i hi
theorem bW {i:Nat} {l:List Nat} {o:Oper} (ho:ops[i]? =some o) (h:fc P K ops [o] st (sF (λs=>sD P K S F ops n (listed.setIfInBounds i true) s) Q)) (t:HM P K S F Q ops n listed st l):HM P K S F Q ops n listed st (i::l):=⟨⟨o,ho,h⟩,t⟩
theorem VM (C:BC K S F Q) (rs:List Nat) (hr:Region.ready .any ops listed=rs) (iA:rs≠[]) (H:HM P K S F Q ops n listed st rs):sD P K S F ops (n+1) listed st:=by
 intro a w p R;refine fv hr iA λi hi=>?_
 obtain⟨o,ho,H1⟩:=Hx H i hi;have hh:=H1 a w p R;have hn:∀a w,wpList P ops (FZ K (sF (λs=>sD P K S F ops n (listed.setIfInBounds i true) s) Q)) [] a w→S w∧wpAnyH P .any ops F S n (listed.setIfInBounds i true) a w:=λa w ⟨s,p,R,q⟩=>⟨C.s _ _ _ _ R,q a w p R⟩
 unfold wpList at hh;unfold wpOp;simp only[ho];split
 ·rename_i hw
  rw[ai hw] at hh;rcases hh with hh |⟨h1,a0,w0,s,p,R,q⟩
  ·left
   unfold Oper.wp at hh ⊢;generalize (execOp a.eval o).run P w=r at hh ⊢;cases r with
   |ok n w'=>
    cases n <;> simp only[Oper.upon] at hh ⊢
    case value v=>exact hn _ _ hh
    case skip=>exact hn _ _ hh
    case defer d=>exact hn _ _ hh
    case enter f args=>
     refine qE hh λe F3 he=>?_
     cases e with
     |returned v=>exact hn _ _ he
     |panicked c=>obtain⟨s,p,R,q⟩:=he;exact C.f _ _ _ _ _ R q
     |outgrown=>obtain⟨a0,w0,s,p,R,q⟩:=he;exact⟨a0,w0,C.f _ _ _ _ _ R q⟩
    case row row args=>exact Rows.mono hh λv F3 he=>hn _ _ he
   |halt x w'=>
    cases x <;> simp only[Oper.upon] at hh ⊢
    case panic v=>obtain⟨s,p,R,q⟩:=hh;exact C.f _ _ _ _ _ R q
  ·exact .inr ⟨h1,a0,w0,C.f _ _ _ _ _ R q⟩
 ·rename_i hw
  rw[ah hw] at hh;exact hn _ _ hh
theorem vk (C:BC K S F Q) (rs:List Nat) (H:HM P K S F Q ops n listed st rs) (hr:Region.ready .any ops listed=rs:=by decide +kernel) (iA:rs≠[]:=by decide):sD P K S F ops (n+1) listed st:=VM C rs hr iA H
end
end Go.Vl
