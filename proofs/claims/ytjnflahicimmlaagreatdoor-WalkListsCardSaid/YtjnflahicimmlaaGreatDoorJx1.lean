/- Walk: the paths below a tree of any repository without cycles, in plain words. Conditions: none. -/
import Derived.Test.YtjnflahicimmlaaGreatDoorJwS
import Derived.Test.YtjnflahicimmlaaGreatDoorJq1
set_option linter.unusedSimpArgs false
set_option linter.unusedVariables false
namespace Go.Vl
open Go
structure Nl (M:List (Int×ab)) (ρ:Int→Nat) (B:Nat):Prop where
 dn:∀id,vJ M id=2→∀x∈mf M id,vJ M x.ID=2→ρ x.ID < ρ id
 sz:∀id,∀x∈mf M id,x.Name.size≤B
 ln:∀id,(mf M id).length≤1000000
def gC (M:List (Int×ab)) (n:Nat) (x:aB):List (ByteArray×Int):=if vJ M x.ID=2 then(fK M n x.ID).map (λq=>((x.Name++JF)++q.1,q.2)) else [(x.Name,x.ID)]
theorem nQ (M:List (Int×ab)) (n:Nat) (id:Int):fK M (n+1) id=(mf M id).flatMap (gC M n):=rfl
def Je (p:ByteArray) (q:ByteArray×Int):aB:=⟨p++q.1,q.2⟩
theorem N3 (p a:ByteArray) (l:List (ByteArray×Int)):(l.map λq=>((a++JF)++q.1,q.2)).map (Je p)=l.map (Je ((p++a)++JF)):=by
 rw[kU];refine fW λq _=>?_
 simp only[Function.comp_apply,Je,ByteArray.append_assoc]
theorem H2 {M:List (Int×ab)} {ρ:Int→Nat} {B:Nat} (D:Nl M ρ B):∀(n:Nat) (id:Int),ρ id < n→vJ M id=2→∀(p:ByteArray) (L:Int) (out:List aB),0≤L→(out.length:Int)+L≤2000→p.size+(B+1) * n≤1000000000→
  (((fK M n id).length:Int)≤L→bH n ⟨M,L,out⟩ p id=some (true,⟨M,L - (fK M n id).length,out++(fK M n id).map (Je p)⟩))∧
  (L < ((fK M n id).length:Int)→∃w,bH n ⟨M,L,out⟩ p id=some (false,w)):=by
 intro n
 induction n with
 |zero=>intro id h;omega
 |succ n ih=>
  intro id hid KL p L out hL ho hp;rw[Nat.mul_add,Nat.mul_one] at hp;have hBn:0≤(B+1) * n:=cE _;have hls:=nQ M n id;have hN:bH (n+1) ⟨M,L,out⟩ p id=dD (bH n) ⟨M,L,out⟩ p id:=rfl;rw[hN];unfold dD;have h3:=D.ln id;have key:∀(m i:Nat),i+m=(mf M id).length→∀(L2:Int) (o2:List aB),0≤L2→(o2.length:Int)+L2≤2000→
    (((((mf M id).drop i).flatMap (gC M n)).length:Int)≤L2→iter (bK ⟨M,L,out⟩ id p (bH n)) ((i:Int),M,L2,o2)=some (.inl (M,L2 - (((mf M id).drop i).flatMap (gC M n)).length,o2++(((mf M id).drop i).flatMap (gC M n)).map (Je p))))∧
    (L2 < ((((mf M id).drop i).flatMap (gC M n)).length:Int)→∃w,iter (bK ⟨M,L,out⟩ id p (bH n)) ((i:Int),M,L2,o2)=some (.inr (false,w))):=by
   intro m
   induction m with
   |zero=>
    intro i hi L2 o2 h1 h2;have hd:(mf M id).drop i=[]:=cx (by omega);rw[hd];refine⟨λ_=>dP ?_,λh=>by simp at h;omega⟩;unfold bK;rw[ah (by simp only[bg];show ¬((i:Int) < ((mf M id).length:Int));omega)];simp
   |succ m im=>
    intro i hi L2 o2 h1 h2;have iN:i < (mf M id).length:=by omega
    rw[bN iN,jZ];generalize hx:(mf M id)[i]=x at *;have rX:x∈mf M id:=by rw[← hx];exact bC iN
    have gS:=D.sz id x rX;have C1:(decide ((i:Int) < ((((br cK M id).getD (⟨0,0,[],[],0,[],ByteArray.empty,0⟩:ab)).bd).length:Int)))=true:=by
     simp only[bg];show((i:Int) < ((mf M id).length:Int));omega
    have Cj:idx (((br cK M id).getD (⟨0,0,[],[],0,[],ByteArray.empty,0⟩:ab)).bd) (i:Int)=some x:=by
     show idx (mf M id) (i:Int)=some x;rw[dj iN,hx]
    rw[bF,bV];have slz:JF.size=1:=rfl;by_cases hk:vJ M x.ID=2
    ·have Tk:gC M n x=(fK M n x.ID).map (λq=>((x.Name++JF)++q.1,q.2)):=by unfold gC;rw[ai hk]
     have acb:=ih x.ID (by have:=D.dn id KL x rX hk;omega) hk ((p++x.Name)++JF) L2 o2 h1 h2 (by rw[fY,fY];omega);have hlen:(gC M n x).length=(fK M n x.ID).length:=by rw[Tk,bq]
     have hmp:(gC M n x).map (Je p)=(fK M n x.ID).map (Je ((p++x.Name)++JF)):=by rw[Tk,N3]
     by_cases VW:((fK M n x.ID).length:Int)≤L2
     ·have xr:bK ⟨M,L,out⟩ id p (bH n) ((i:Int),M,L2,o2)=some (.go (((i+1:Nat):Int),M,L2 - (gC M n x).length,o2++(gC M n x).map (Je p))):=by
       unfold bK;simp only;rw[ai C1,Cj];simp only[aa];rw[eV (by omega)];simp only[aa];rw[ai (by show(vJ M x.ID==2)=true;rw[hk];rfl),eV (by rw[fY];have:(⟨#[47]⟩:ByteArray).size=1:=rfl;omega)];simp only[aa];rw[show (⟨#[47]⟩:ByteArray)=JF from rfl,acb.1 VW];simp only[aa];rw[ah (by simp),iI (by omega) (by omega),hlen,hmp]
       rfl
      have him:=im (i+1) (by omega) (L2 - (gC M n x).length) (o2++(gC M n x).map (Je p)) (by omega) (by rw[bF,bq];omega);rw[fT xr];refine⟨λh=>?_,λh=>him.2 (by omega)⟩;rw[him.1 (by omega),eX]
      congr 3
      simp only[jx,kB];omega
     ·obtain⟨w,hw⟩:=acb.2 (by omega)
      refine⟨λh=>by omega,λ_=>⟨w,dP ?_⟩⟩;unfold bK;simp only;rw[ai C1,Cj];simp only[aa];rw[eV (by omega)];simp only[aa];rw[ai (by show(vJ M x.ID==2)=true;rw[hk];rfl),eV (by rw[fY];have:(⟨#[47]⟩:ByteArray).size=1:=rfl;omega)];simp only[aa];rw[show (⟨#[47]⟩:ByteArray)=JF from rfl,hw]
      rfl
    ·have Tk:gC M n x=[(x.Name,x.ID)]:=by unfold gC;rw[ah hk]
     by_cases hL1:1≤L2
     ·have xr:bK ⟨M,L,out⟩ id p (bH n) ((i:Int),M,L2,o2)=some (.go (((i+1:Nat):Int),M,L2 - (gC M n x).length,o2++(gC M n x).map (Je p))):=by
       unfold bK;simp only;rw[ai C1,Cj];simp only[aa];rw[eV (by omega)];simp only[aa];rw[ah (by show ¬(vJ M x.ID==2)=true;simpa using hk),iI (by omega) (by omega),ah (by simp only[bg];omega),eV (by rw[fe];omega),Tk,iI (by omega) (by omega)]
       rfl
      have PM:(gC M n x).length=1:=by rw[Tk];rfl
      have him:=im (i+1) (by omega) (L2 - (gC M n x).length) (o2++(gC M n x).map (Je p)) (by omega) (by rw[bF,bq];omega);rw[fT xr];refine⟨λh=>?_,λh=>him.2 (by omega)⟩;rw[him.1 (by omega),eX]
      congr 3
      simp only[jx,kB];omega
     ·have PM:(gC M n x).length=1:=by rw[Tk];rfl
      refine⟨λh=>by omega,λ_=>⟨⟨M,IntKind.i64.wrap (L2 - 1),o2⟩,dP ?_⟩⟩
      ·unfold bK
       simp only;rw[ai C1,Cj];simp only[aa];rw[eV (by omega)];simp only[aa];rw[ah (by show ¬(vJ M x.ID==2)=true;simpa using hk),iI (by omega) (by omega),ai (by simp only[bg];omega)]
  have:=key (mf M id).length 0 (by omega) L out hL ho;rw[tf,←hls] at this;refine⟨λh=>?_,λh=>?_⟩
  ·have h0:iter (bK ⟨M,L,out⟩ id p (bH n)) (0,M,L,out)=_:=this.1 h
   rw[h0]
   rfl
  ·obtain⟨w,hw⟩:=this.2 h
   have h0:iter (bK ⟨M,L,out⟩ id p (bH n)) (0,M,L,out)=_:=hw;exact⟨w,by rw[h0];rfl⟩
def hdB (b:ByteArray):List UInt8:=b.data.toList.takeWhile (· != 47)
theorem QZ:∀(a z:List UInt8),47∉a→(a++47::z).takeWhile (· != 47)=a
 |[],z,_=>by simp
 |c::a,z,h=>by
  have hc:(c != 47)=true:=by simp only[bne_iff_ne,ne_eq];rintro rfl;exact h (by simp)
  rw[cv,qL,ai hc,QZ a z λh'=>h (by simp[h'])]
theorem Nw:∀a:List UInt8,47∉a→a.takeWhile (· != 47)=a
 |[],_=>rfl
 |c::a,h=>by
  have hc:(c != 47)=true:=by simp only[bne_iff_ne,ne_eq];rintro rfl;exact h (by simp)
  rw[qL,ai hc,Nw a λh'=>h (by simp[h'])]
theorem Kp {M:List (Int×ab)} {n:Nat} {x:aB} (h:47∉x.Name.data.toList) {q:ByteArray×Int} (hq:q∈gC M n x):hdB q.1=x.Name.data.toList:=by
 unfold gC at hq;unfold hdB;split at hq
 ·obtain⟨r,_,rfl⟩:=aG.1 hq
  simp only;rw[oU,oU,kD,kD,eX];exact QZ _ _ h
 ·rw[aD] at hq
  subst hq;exact Nw _ h
theorem Nh {a b:ByteArray} (h:a.data.toList=b.data.toList):a=b:=ByteArray.ext (Array.toList_inj.1 h)
theorem HJ {p a b:ByteArray} (h:p++a=p++b):a=b:=by
 have h:(p++a).data.toList=(p++b).data.toList:=by rw[h]
 rw[oU,oU,kD,kD] at h;exact Nh (List.append_cancel_left h)
structure Z5 (M:List (Int×ab)):Prop where
 nd:∀id,((mf M id).map (·.Name)).Nodup
 sl:∀id,∀x∈mf M id,47∉x.Name.data.toList
theorem MG {M:List (Int×ab)} (N:Z5 M):∀(n:Nat) (id:Int),((fK M n id).map (·.1)).Nodup:=by
 intro n
 induction n with
 |zero=>intro id;simp[fK]
 |succ n ih=>
  intro id;rw[nQ];have key:∀l:List aB,(l.map (·.Name)).Nodup→(∀x∈l,47∉x.Name.data.toList)→((l.flatMap (gC M n)).map (·.1)).Nodup:=λl=>by
   induction l with
   |nil=>intro _ _;simp
   |cons x l il=>
    intro h1 h2;rw[jZ,bV,dh];rw[aW,dZ] at h1;have hx:=h2 x (by simp);refine⟨?_,il h1.2 λy hy=>h2 y (by simp[hy]),?_⟩
    ·unfold gC
     split
     ·rw[kU]
      have:((fK M n x.ID).map ((λq:ByteArray×Int=>q.1)∘λq:ByteArray×Int=>((x.Name++JF)++q.1,q.2)))=((fK M n x.ID).map (·.1)).map (λz=>(x.Name++JF)++z):=by rw[kU];rfl
      rw[this];exact(ih x.ID).map _ λa b PR h=>PR (HJ h)
     ·simp
    ·intro a ha b hb e
     obtain⟨q,hq,rfl⟩:=aG.1 ha;obtain⟨r,hr,rfl⟩:=aG.1 hb;obtain⟨y,hy,hr⟩:=List.mem_flatMap.1 hr;have e1:=Kp hx hq;have e2:=Kp (h2 y (by simp[hy])) hr;have:x.Name=y.Name:=Nh (by rw[← e1,←e2,e]);exact h1.1 (aG.2 ⟨y,hy,this.symm⟩)
  exact key _ (N.nd id) (N.sl id)
theorem C6 {M:List (Int×ab)} (hn:(M.map (·.1)).Nodup) {id:Int} (h:FQ M id):vJ M id=2∧∀n,fK M n id=[]:=by
 induction h with
 |@mk k o hm hk hi ih=>
  have hg:br cK M k=some o:=nN hn hm;refine⟨by unfold vJ;rw[hg];exact hk,λn=>?_⟩;cases n with
  |zero=>rfl
  |succ n=>
   rw[nQ,List.flatMap_eq_nil_iff];intro x hx;have hx:x∈o.bd:=by unfold mf at hx;rw[hg] at hx;exact hx
   unfold gC;rw[ai (ih x hx).1,(ih x hx).2 n];rfl
theorem wJ (M:List (Int×ab)) (id:Int):vJ (iO M) id=vJ M id:=by
 unfold vJ;rw[tO];cases br cK M id <;> rfl
theorem wK (M:List (Int×ab)) (id:Int):mf (iO M) id=vf M (mf M id):=by
 unfold mf;rw[tO];cases br cK M id with
 |none=>simp[vf]
 |some o=>rfl
theorem It {M:List (Int×ab)} (hn:(M.map (·.1)).Nodup):∀(n:Nat) (id:Int),fK (iO M) n id=fK M n id:=by
 intro n
 induction n with
 |zero=>intro id;rfl
 |succ n ih=>
  intro id;rw[nQ,nQ,wK];have hF:∀x,gC (iO M) n x=gC M n x:=λx=>by unfold gC;rw[wJ,ih]
  rw[show gC (iO M) n=gC M n from funext hF];unfold vf;generalize mf M id=l
  induction l with
  |nil=>rfl
  |cons x l il=>
   rw[ez,jZ];split
   ·rw[jZ,il]
   ·rename_i h
    have hd:FQ M x.ID:=by simpa using h
    have:gC M n x=[]:=by unfold gC;rw[ai (C6 hn hd).1,(C6 hn hd).2 n];rfl
    rw[il,this,di]
end Go.Vl
namespace Go.Vl
open Go
theorem yU {l:List (Int×ab)} {id:Int}:qx l id=true↔id∈l.map (·.1):=mH (e:=cK) (λa b=>by simp[cK])
theorem Ko (l:List (Int×ab)):(py l).Sublist l:=fB
theorem Ah:∀(n:Nat) (l:List (Int×ab)),ou (n+1) l=py (ou n l)
 |0,_=>rfl
 |n+1,l=>Ah n (py l)
theorem HF {l:List (Int×ab)}:∀{m n:Nat},m≤n→(ou n l).Sublist (ou m l):=λ{m n} h=>by
 induction n with
 |zero=>
  have:m=0:=by omega
  subst this;exact iX _
 |succ n ih=>
  rcases iU m (n+1) with h1 |h1
  ·rw[Ah];exact(Ko _).trans (ih (by omega))
  ·have:m=n+1:=by omega
   subst this;exact iX _
def rkL (l:List (Int×ab)) (id:Int):Nat:=((List.range l.length).filter λn=>qx (ou n l) id).length
theorem Rf (l:List (Int×ab)) (id:Int):rkL l id≤l.length:=by
 unfold rkL;exact bO (fX _ _) (by simp)
theorem U5 {l:List (Int×ab)} (hc:Ai l=false) {id:Int} {o:ab} (ho:(id,o)∈l) (hn:(l.map (·.1)).Nodup) {j:Int} (hj:j∈gp o):rkL l j < rkL l id:=by
 have tX:ou l.length l=[]:=by
  unfold Ai at hc;simpa using hc
 have mono:∀(id:Int) (m n:Nat),m≤n→qx (ou n l) id=true→qx (ou m l) id=true:=λid m n h hh=>by
  rw[yU] at hh ⊢;exact(HF h).map _ |>.subset hh
 -- WI last round in aaH it stays
 have ex:∀k:Nat,k≤l.length→(qx (ou k l) id=false)→∃n,n < k∧qx (ou n l) id=true∧qx (ou (n+1) l) id=false:=λk=>by
  induction k with
  |zero=>
   intro _ h;have:qx (ou 0 l) id=true:=yU.2 (aG.2 ⟨_,ho,rfl⟩);rw[this] at h;cases h
  |succ k ih=>
   intro hk h;cases h1:qx (ou k l) id with
   |true=>exact⟨k,by omega,h1,h⟩
   |false=>obtain⟨n,h2,h3⟩:=ih (by omega) h1;exact⟨n,by omega,h3⟩
 obtain⟨n,sj,h1,h2⟩:=ex l.length (aM _) (by rw[tX];rfl);have S8:qx (ou n l) j=false:=by
  cases h3:qx (ou n l) j with
  |false=>rfl
  |true=>
   exfalso
   rw[yU] at h1;obtain⟨q,hq,e⟩:=aG.1 h1;have hql:=(HF (cE n)).subset hq;have:q=(id,o):=by
    have h4:=nN hn (k:=id) (o:=q.2) (by rw[← e];exact hql);have h5:=nN hn ho;rw[h5] at h4;exact Prod.ext e (af h4).symm
   subst this;have:qx (ou (n+1) l) id=true:=by
    rw[yU,Ah];refine aG.2 ⟨(id,o),bP.2 ⟨hq,?_⟩,rfl⟩;exact lq.2 ⟨j,hj,h3⟩
   rw[this] at h2;cases h2
 have sub:∀m∈List.range l.length,qx (ou m l) j=true→qx (ou m l) id=true:=λm _ hm=>by
  rcases iU m n with h |h
  ·exact mono id m n (by omega) h1
  ·rw[mono j n m h hm] at S8;cases S8
 unfold rkL;have e:(List.range l.length).filter (λm=>qx (ou m l) j)=((List.range l.length).filter λm=>qx (ou m l) id).filter λm=>qx (ou m l) j:=by
  rw[ow];refine iW λm hm=>?_
  cases h:qx (ou m l) j with
  |false=>rfl
  |true=>rw[sub m hm h];rfl
 rw[e,pC];exact⟨n,bP.2 ⟨fj.2 sj,h1⟩,by rw[S8];decide⟩
end Go.Vl
set_option linter.unusedSectionVars false
namespace Go.Vl
open Go
theorem RZ {s:ByteArray} (h:Jd s=true):47∉s.data.toList∧s.size≤40:=by
 unfold Jd at h;simp only[aR,bg] at h;obtain⟨h1,_,h2⟩:=h;refine⟨λhm=>?_,h2⟩;have:(47:Int)∈fU s:=by
  unfold fU;exact aG.2 ⟨47,by first |exact hm |(simpa [kX] using hm),rfl⟩
 have:=bE.1 h1 _ this
 revert this;decide
theorem Qd:∀(l:List aB),(∀i,i < l.length→vB l i=true)→l.Pairwise λx y=>Op.bytesLess x.Name.toList y.Name.toList=true:=λl h=>by
 have step:∀i (hi:i+1 < l.length),Op.bytesLess l[i].Name.toList l[i+1].Name.toList=true:=λi hi=>by
  have:=h (i+1) hi;unfold vB at this;rw[ae hi,sh,ae (show i < l.length by omega)] at this;simp only[aR,cj] at this;rcases this.2.2 with q |q
  ·simp at q
  ·exact q
 have far:∀(d i:Nat) (hi:i+d+1 < l.length),Op.bytesLess (l[i]'(by omega)).Name.toList l[i+d+1].Name.toList=true:=λd=>by
  induction d with
  |zero=>intro i hi;exact step i hi
  |succ d ih=>intro i hi;exact Bw _ _ _ (ih i (by omega)) (step (i+d+1) hi)
 rw[eh];intro i j hi hj rY;have:=far (j - i - 1) i (by omega);have e:i+(j - i - 1)+1=j:=by omega
 simp only[e] at this;exact this
theorem wv {o:ab} (h:uo o=0):(∀x∈o.bd,Jd x.Name=true)∧(o.bd.map (·.Name)).Nodup∧o.bd.length≤64∧(o.bd≠[]→o.Kind=2):=by
 obtain⟨_,hl,hr⟩:=pJ.1 h;unfold vb at hr;have h64:o.bd.length≤64:=by omega
 by_cases k2:o.Kind=2
 ·rw[ah (by rw[k2];decide),ai k2] at hr
  simp only[aR,bg] at hr;have ht:=hr.2.2;refine⟨λx hx=>?_,?_,h64,λ_=>k2⟩
  ·obtain⟨i,hi,rfl⟩:=cu hx
   have:=ht i hi;unfold vB at this;rw[ae hi] at this;simp only[aR] at this;exact this.1
  ·rw[List.Nodup,List.pairwise_map]
   refine(Qd o.bd ht).imp λh e=>?_
   rw[e,yA] at h;cases h
 ·have he:o.bd=[]:=by
   by_cases k1:o.Kind=1
   ·rw[ai k1] at hr;simp at hr;exact hr.1
   ·rw[ah k1,ah k2] at hr
    by_cases k3:o.Kind=3
    ·rw[ai k3] at hr;simp at hr;exact hr.2.1
    ·rw[ah k3] at hr;cases hr
  rw[he];exact⟨λx hx=>(by cases hx),by simp,by simp,λh=>absurd rfl h⟩
section
variable {a0:ao} (V:qB a0)
include V
theorem qB.YF (id:Int):mf (bM a0.aq) id=[]∨∃o∈a0.aq,o.ID=id∧mf (bM a0.aq) id=o.bd:=by
 unfold mf;cases hg:br cK (bM a0.aq) id with
 |none=>exact .inl rfl
 |some o=>
  obtain⟨o',Bb,e⟩:=aG.1 (B9 hg);cases e;exact .inr ⟨_,Bb,rfl,rfl⟩
theorem qB.mnd:((bM a0.aq).map (·.1)).Nodup:=by
 have:(bM a0.aq).map (·.1)=a0.aq.map (·.ID):=by unfold bM;rw[kU];rfl
 rw[this];exact V.nd
theorem qB.adf:Nl (bM a0.aq) (rkL (bM a0.aq)) 40:=by
 refine⟨λid hk x hx _=>?_,λid x hx=>?_,λid=>?_⟩
 ·rcases V.YF id with e |⟨o,ho,rfl,e⟩
  ·rw[e] at hx;cases hx
  ·rw[e] at hx
   refine U5 V.cy (o:=o) ?_ V.mnd ?_
   ·unfold bM;exact aG.2 ⟨o,ho,rfl⟩
   ·unfold gp
    exact aQ.2 (.inl (aQ.2 (.inr (aG.2 ⟨x,hx,rfl⟩))))
 ·rcases V.YF id with e |⟨o,ho,rfl,e⟩
  ·rw[e] at hx;cases hx
  ·rw[e] at hx
   exact(RZ ((wv (V.ob o ho)).1 x hx)).2
 ·rcases V.YF id with e |⟨o,ho,rfl,e⟩
  ·rw[e];simp
  ·rw[e];have:=(wv (V.ob o ho)).2.2.1;omega
theorem qB.abz:Z5 (bM a0.aq):=by
 refine⟨λid=>?_,λid x hx=>?_⟩
 ·rcases V.YF id with e |⟨o,ho,rfl,e⟩
  ·rw[e];simp
  ·rw[e];exact(wv (V.ob o ho)).2.1
 ·rcases V.YF id with e |⟨o,ho,rfl,e⟩
  ·rw[e] at hx;cases hx
  ·rw[e] at hx
   exact(RZ ((wv (V.ob o ho)).1 x hx)).1
theorem Nl.clean {M:List (Int×ab)} {ρ:Int→Nat} {B:Nat} (D:Nl M ρ B):Nl (iO M) ρ B:=by
 refine⟨λid hk x hx h2=>?_,λid x hx=>?_,λid=>?_⟩
 ·rw[wJ] at hk h2
  rw[wK] at hx;exact D.dn id hk x (bP.1 hx).1 h2
 ·rw[wK] at hx
  exact D.sz id x (bP.1 hx).1
 ·rw[wK]
  exact bO (fX _ _) (D.ln id)
end
end Go.Vl
