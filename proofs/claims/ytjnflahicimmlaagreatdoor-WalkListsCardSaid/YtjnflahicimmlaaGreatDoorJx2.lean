/- Walk: what the reference's paths are, in plain words. Conditions: none. -/
import Derived.Test.YtjnflahicimmlaaGreatDoorJx1
import Derived.Test.YtjnflahicimmlaaGreatDoorJq2
import Derived.Lib.ItoaLen
set_option linter.unusedSimpArgs false
set_option linter.unusedVariables false
set_option linter.unusedSectionVars false
namespace Go.Vl
open Go
theorem TC:∀k:Nat,k < 10→P1 (k:Int)=⟨#[UInt8.ofNat (48+k)]⟩:=by decide +kernel
theorem Fz (u:Nat):xB (u:Int)=⟨(Lib.decDigits u).toArray⟩:=by unfold xB;rw[Lib.itoa_nonneg]
theorem V9 {u:Nat} (h:u < 10):xB (u:Int)=⟨#[UInt8.ofNat (48+u)]⟩:=by
 rw[Fz,Lib.decDigits,dif_pos h]
theorem V' {u:Nat} (h:¬u < 10):xB (u:Int)=xB ((u / 10:Nat):Int)++⟨#[UInt8.ofNat (48+u % 10)]⟩:=by
 rw[Fz,Fz,Lib.decDigits,dif_neg h];refine ByteArray.ext ?_;rw[oU];simp
theorem Ct {n:Int} (h0: -9223372036854775808≤n) (h1:n≤9223372036854775807):(xB n).size≤21:=by
 have:=Lib.itoa_length_le n h0 h1;unfold xB;show(Lib.itoa n).toArray.size≤21;simpa using this
theorem Pm:∀(u:Nat),u≤9223372036854775807→∃k,fV k (u:Int)=some (xB (u:Int)):=by
 intro u
 induction u using Nat.strongRecOn with
 |ind u ih=>
  intro hu;by_cases h:u < 10
  ·refine⟨1,?_⟩
   show ib _ _=_;unfold ib;rw[ai (by simp;omega),TC u h,V9 h]
  ·obtain⟨k,hk⟩:=ih (u / 10) (by omega) (by omega)
   refine⟨k+1,?_⟩;show ib _ _=_;unfold ib;have e1:IntKind.i64.wrap ((u:Int).tdiv 10)=((u / 10:Nat):Int):=by
    rw[show (u:Int).tdiv 10=((u / 10:Nat):Int) by rw[Int.tdiv_eq_ediv_of_nonneg (by omega)];rfl];rw[iI (by omega) (by omega)]
   have e2:(u:Int).tmod 10=((u % 10:Nat):Int):=by rw[Int.tmod_eq_emod_of_nonneg (by omega)];rfl
   rw[ah (by simp;omega),e1,hk,e2,TC _ (by omega)];simp only[aa];have:=Ct (n:=((u / 10:Nat):Int)) (by omega) (by omega);rw[eV (by
    have:(⟨#[UInt8.ofNat (48+u % 10)]⟩:ByteArray).size=1:=rfl;omega)]
   simp only[aa];rw[V' h]
theorem He:∀(k:Nat) (n:Int) (r:ByteArray),fV k n=some r→fV (k+1) n=some r
 |0,_,_,h=>by cases h
 |k+1,n,r,h=>by
  have h':ib (fV k) n=some r:=h;show ib (fV (k+1)) n=some r;unfold ib at h' ⊢;split
  ·rename_i hc;rw[ai hc] at h';exact h'
  ·rename_i hc
   rw[ah hc] at h';replace h':=bI h';obtain⟨y,hy,h'⟩:=h';rw[He k _ _ hy];exact h'
theorem NS {k m:Nat} (h:k≤m) {n:Int} {r:ByteArray} (h1:fV k n=some r):fV m n=some r:=by
 induction h with
 |refl=>exact h1
 |step _ ih=>exact He _ _ _ ih
theorem Kb {n:Int} (h0:0≤n) (h1:n≤9223372036854775807):qk n=some (xB n):=by
 obtain⟨k,hk⟩:=Pm n.toNat (by omega);rw[show ((n.toNat:Nat):Int)=n by omega] at hk;unfold qk;have hex:∃n' r,fV n' n=some r:=⟨k,_,hk⟩;rw[dif_pos hex];obtain⟨r,hr⟩:=de hex;rw[hr];have a:=NS (Nat.le_max_left k (Classical.choose hex)) hk;have b:=NS (Nat.le_max_right k (Classical.choose hex)) hr;rw[a] at b;exact b.symm
noncomputable def getM (M:List (Int×ab)) (id:Int):ab:=(br cK M id).getD ⟨0,0,[],[],0,[],ByteArray.empty,0⟩
theorem AI {a0:ao} (hl:a0.aq.length≤1000000) (id:Int):ij a0 id=some (getM (bM a0.aq) id):=by
 unfold ij;rw[Ee hl,aa];unfold getM;rw[yS];cases a0.aq.find? (λo=>o.ID==id) <;> rfl
theorem GJ (a0:ao):∀(k:Nat) (id:Int) (p:ByteArray) (o r:List aB),eQ k a0 id p o=some r→eQ (k+1) a0 id p o=some r
 |0,_,_,_,_,h=>by cases h
 |k+1,id,p,o,r,h=>by
  have h':kN (eQ k) a0 id p o=some r:=h;show kN (eQ (k+1)) a0 id p o=some r;unfold kN at h' ⊢;replace h':=bI h';obtain⟨y,hy,h'⟩:=h';rw[hy,aa];refine EZ (λs o h=>?_) h';unfold gA at h ⊢;split
  ·rename_i c1
   rw[ai c1] at h;split
   ·rename_i c2
    rw[ai c2] at h;obtain⟨x,hx,h⟩:=bI h;rw[hx,aa];obtain⟨z,hz,h⟩:=bI h;rw[hz,aa];split
    ·rename_i c3
     rw[ai c3] at h;obtain⟨_,q1,h⟩:=bI h;rw[q1,aa];obtain⟨_,q2,h⟩:=bI h;rw[q2,aa];obtain⟨v,hv,h⟩:=bI h;rw[GJ a0 k _ _ _ _ hv];exact h
    ·rename_i c3
     rw[ah c3] at h;exact h
   ·rename_i c2
    rw[ah c2] at h;exact h
  ·rename_i c1
   rw[ah c1] at h;exact h
theorem Nv (a0:ao) {k m:Nat} (h:k≤m) {id:Int} {p:ByteArray} {o r:List aB} (h1:eQ k a0 id p o=some r):eQ m a0 id p o=some r:=by
 induction h with
 |refl=>exact h1
 |step _ ih=>exact GJ a0 _ _ _ _ _ ih
theorem QY {a0:ao} {k:Nat} {id:Int} {p:ByteArray} {o r:List aB} (hk:eQ k a0 id p o=some r):rK a0 id p o=some r:=by
 unfold rK;have hex:∃n' r,eQ n' a0 id p o=some r:=⟨k,_,hk⟩;rw[dif_pos hex];obtain⟨r',hr⟩:=de hex;rw[hr];have a:=Nv a0 (Nat.le_max_left k (Classical.choose hex)) hk;have b:=Nv a0 (Nat.le_max_right k (Classical.choose hex)) hr;rw[a] at b;exact b.symm
theorem HU {a0:ao} (Bc:a0.aq.length≤1000000) {ρ:Int→Nat} {B:Nat} (D:Nl (bM a0.aq) ρ B):∀(n:Nat) (id:Int),ρ id < n→vJ (bM a0.aq) id=2→∀(p:ByteArray) (out:List aB),out.length≤2000→p.size+(B+1) * n≤1000000000→
  ∃l,eQ n a0 id p out=some l∧l.length≤2001∧(out.length+(fK (bM a0.aq) n id).length≤2000→l=out++(fK (bM a0.aq) n id).map (Je p))∧(2000 < out.length+(fK (bM a0.aq) n id).length→2000 < l.length):=by
 generalize hM:bM a0.aq=M at *;intro n
 induction n with
 |zero=>intro id h;omega
 |succ n ih=>
  intro id hid KL p out ho hp;rw[Nat.mul_add,Nat.mul_one] at hp;have hBn:0≤(B+1) * n:=cE _;have hls:=nQ M n id;have hN:eQ (n+1) a0 id p out=kN (eQ n) a0 id p out:=rfl;have Y1:∀j,ij a0 j=some (getM M j):=λj=>by rw[AI Bc,hM]
  rw[hN];unfold kN;rw[Y1];simp only[aa];have Hw:(getM M id).bd=mf M id:=rfl;have VU:∀j,(getM M j).Kind=vJ M j:=λj=>rfl
  have h3:=D.ln id;have key:∀(m i:Nat),i+m=(mf M id).length→∀(o2:List aB),o2.length≤2001→
    ∃l,iter (gA (eQ n) a0 p (getM M id)) ((i:Int),o2)=some l∧l.length≤2001∧(o2.length+(((mf M id).drop i).flatMap (gC M n)).length≤2000→l=o2++(((mf M id).drop i).flatMap (gC M n)).map (Je p))∧(2000 < o2.length+(((mf M id).drop i).flatMap (gC M n)).length→2000 < l.length):=by
   intro m
   induction m with
   |zero=>
    intro i hi o2 h2;have hd:(mf M id).drop i=[]:=cx (by omega);rw[hd];refine⟨o2,dP ?_,h2,λ_=>by simp,λh=>by simpa using h⟩;unfold gA;rw[ah (by simp only[bg];rw[Hw];omega)]
   |succ m im=>
    intro i hi o2 h2;have iN:i < (mf M id).length:=by omega
    rw[bN iN,jZ];generalize hx:(mf M id)[i]=x at *;have rX:x∈mf M id:=by rw[← hx];exact bC iN
    have gS:=D.sz id x rX;have C1:(decide ((i:Int) < ((getM M id).bd.length:Int)))=true:=by
     simp only[bg];rw[Hw];omega
    have Cj:idx (getM M id).bd (i:Int)=some x:=by rw[Hw,dj iN,hx]
    rw[bF,bV];have slz:(⟨#[47]⟩:ByteArray).size=1:=rfl;by_cases acE:2000 < o2.length
    ·refine⟨o2,dP ?_,h2,λh=>by omega,λ_=>acE⟩
     unfold gA;rw[ai C1,ah (by simp only[bg];omega)]
    ·by_cases hk:vJ M x.ID=2
     ·have Tk:gC M n x=(fK M n x.ID).map (λq=>((x.Name++JF)++q.1,q.2)):=by unfold gC;rw[ai hk]
      obtain⟨l1,e1,e2,e3,e4⟩:=ih x.ID (by have:=D.dn id KL x rX hk;omega) hk ((p++x.Name)++JF) o2 (by omega) (by rw[fY,fY];have:JF.size=1:=rfl;omega);have hlen:(gC M n x).length=(fK M n x.ID).length:=by rw[Tk,bq]
      have hmp:(gC M n x).map (Je p)=(fK M n x.ID).map (Je ((p++x.Name)++JF)):=by rw[Tk,N3]
      have xr:gA (eQ n) a0 p (getM M id) ((i:Int),o2)=some (.go (((i+1:Nat):Int),l1)):=by
       unfold gA;simp only;rw[ai C1,ai (by simp only[bg];omega),Cj];simp only[aa];rw[Y1];simp only[aa];rw[ai (by rw[VU,hk];rfl),eV (by omega)];simp only[aa];rw[eV (by rw[fY];omega)];simp only[aa];rw[show (⟨#[47]⟩:ByteArray)=JF from rfl,e1];simp only[aa];rw[iI (by omega) (by omega)];rfl
      obtain⟨l,f1,f2,f3,f4⟩:=im (i+1) (by omega) l1 e2;refine⟨l,by rw[fT xr];exact f1,f2,λh=>?_,λh=>?_⟩
      ·have h5:=e3 (by omega)
       have h6:=f3 (by rw[h5,bF,bq];omega);rw[h6,h5,hmp,eX]
      ·rcases iU 2000 (o2.length+(fK M n x.ID).length) with h5 |h5
       ·exact f4 (by have:=e4 h5;omega)
       ·have h6:=e3 h5
        exact f4 (by rw[h6,bF,bq];omega)
     ·have Tk:gC M n x=[(x.Name,x.ID)]:=by unfold gC;rw[ah hk]
      have xr:gA (eQ n) a0 p (getM M id) ((i:Int),o2)=some (.go (((i+1:Nat):Int),o2++[(⟨p++x.Name,x.ID⟩:aB)])):=by
       unfold gA;simp only;rw[ai C1,ai (by simp only[bg];omega),Cj];simp only[aa];rw[Y1];simp only[aa];rw[ah (by rw[VU];simpa using hk),eV (by omega)];simp only[aa];rw[eV (by rw[fe];omega)];simp only[aa];rw[iI (by omega) (by omega)];rfl
      obtain⟨l,f1,f2,f3,f4⟩:=im (i+1) (by omega) (o2++[(⟨p++x.Name,x.ID⟩:aB)]) (by rw[bF,fe];omega);rw[Tk];refine⟨l,by rw[fT xr];exact f1,f2,λh=>?_,λh=>?_⟩
      ·rw[fe] at h
       rw[f3 (by rw[bF,fe];omega),eX]
       rfl
      ·rw[fe] at h
       exact f4 (by rw[bF,fe];omega)
  have:=key (mf M id).length 0 (by omega) out (by omega);rw[tf,←hls] at this;exact this
def leI (x y:aB):Prop:=Op.bytesLess y.Name.toList x.Name.toList=false
theorem Cb {x y z:aB} (h1:leI x y) (h2:leI y z):leI x z:=by
 unfold leI at *;rcases Nf h1 with h |h
 ·rcases Nf h2 with h' |h'
  ·exact DO (Bw _ _ _ h h')
  ·rw[← h'] at *;exact DO h
 ·rw[h];exact h2
theorem XI (x y:List UInt8):(!(Op.bytesLess x y||x==y))=Op.bytesLess y x:=by
 rw[Aq y x]
theorem X7 {out:List aB} (hs:out.Pairwise leI) (hl:out.length≤1000000) {a0:List aB} {i:Nat} {o:aB} (ho:a0[i]? =some o):∃k:Nat,k≤out.length∧iter (jl ((i:Int),out) a0) (out.length:Int)=some (k:Int)∧(∀x∈out.take k,leI x o)∧∀x∈out.drop k,leI o x:=by
 have xg:idx a0 (i:Int)=some o:=by rw[A8];exact ho
 have key:∀n:Nat,n≤out.length→(∀x∈out.drop n,leI o x)→∃k:Nat,k≤out.length∧iter (jl ((i:Int),out) a0) (n:Int)=some (k:Int)∧(∀x∈out.take k,leI x o)∧∀x∈out.drop k,leI o x:=λn=>by
  induction n with
  |zero=>
   intro _ hd;refine⟨0,by omega,dP ?_,by simp,hd⟩;unfold jl;rw[ah (by simp)];rfl
  |succ n ih=>
   intro hn hd;have sj:n < out.length:=by omega
   have hw:IntKind.i64.wrap (((n+1:Nat):Int) - 1)=(n:Int):=by rw[iI (by omega) (by omega)];omega
   by_cases hc:Op.bytesLess o.Name.toList out[n].Name.toList=true
   ·obtain⟨k,h1,h2,h3⟩:=ih (by omega) (λx hx=>by
     rw[bN sj] at hx;rcases aZ.1 hx with rfl |hx
     ·exact DO hc
     ·exact hd x hx)
    refine⟨k,h1,?_,h3⟩;rw[← h2];refine fT ?_;unfold jl;rw[ai (by simp <;> omega),hw,eV (by simp;omega),dj sj,xg];simp only[aa];rw[XI,hc,ai rfl]
   ·have wP:Op.bytesLess o.Name.toList out[n].Name.toList=false:=by simpa using hc
    refine⟨n+1,hn,dP ?_,λx hx=>?_,hd⟩
    ·unfold jl
     rw[ai (by simp <;> omega),hw,eV (by simp;omega),dj sj,xg];simp only[aa];rw[XI,wP,ah (by decide)]
    ·obtain⟨j,hj,rfl⟩:=cu hx
     rw[List.getElem_take];have wm:j < n+1:=by simp at hj;omega
     rcases eS.1 wm with h3 |h3
     ·exact Cb (eh.1 hs j n (by omega) sj h3) wP
     ·subst h3;exact wP
 exact key out.length (aM _) (by simp)
theorem X6 {a0:List aB} (hl:a0.length≤100000):∃out,oe a0=some out∧out.Pairwise leI∧out.Perm a0:=by
 have key:∀(m i:Nat) (out:List aB),i+m=a0.length→out.Pairwise leI→out.length≤i→∃kq,iter (kF a0) ((i:Int),out)=some kq∧kq.Pairwise leI∧kq.Perm (out++a0.drop i):=λm=>by
  induction m with
  |zero=>
   intro i out hi hs ho;have:i=a0.length:=by omega
   subst this;refine⟨out,dP ?_,hs,?_⟩
   ·unfold kF
    rw[ah (by simp)]
   ·rw[cx (aM _)];simp
  |succ m ih=>
   intro i out hi hs ho;have ph:i < a0.length:=by omega
   rw[bN ph];obtain⟨k,h1,h2,h3,h4⟩:=X7 hs (by omega) (ae ph);have Te:(out.drop k).take (out.length - k)=out.drop k:=fP (by simp);have PG:(out.take k++([a0[i]]++out.drop k)).Pairwise leI:=by
    rw[gv,jo,jr];refine⟨hs.sublist (List.take_sublist ..),⟨h4,hs.sublist (List.drop_sublist ..)⟩,λx hx y hy=>?_⟩;have:=h3 x hx;rcases aZ.1 hy with rfl |hy
    ·exact this
    ·exact Cb this (h4 y hy)
   have hp:(out.take k++([a0[i]]++out.drop k)).Perm (a0[i]::out):=by
    rw[jo];refine(nj).trans ?_;rw[fw]
   obtain⟨kq,e1,e2,e3⟩:=ih (i+1) (out.take k++([a0[i]]++out.drop k)) (by omega) PG (by have:=hp.length_eq;simp at this ⊢;omega);refine⟨kq,?_,e2,e3.trans ?_⟩
   ·rw[← e1]
    refine fT ?_;unfold kF;rw[ai (by simp;omega),h2];simp only[aa,eu];rw[dj ph];simp only[aa];rw[eV (by omega)];simp only[aa];rw[eV (by omega)];simp only[aa];rw[eV (by rw[Te];simp;omega)];simp only[aa];rw[eV (by omega)];simp only[aa];rw[eV (by rw[Te];simp;omega)];simp only[aa];rw[Te,iI (by omega) (by omega)]
    rfl
   ·refine(hp.append_right _).trans ?_
    exact(nj).symm
 obtain⟨out,e1,e2,e3⟩:=key a0.length 0 [] (by omega) List.Pairwise.nil (by simp);have Zv:iter (kF a0) (0,[])=some out:=e1;unfold oe;rw[Zv];exact⟨out,rfl,e2,by simpa using e3⟩
theorem F5 {l:List aB} (hl:l.length≤100000) (h:∀x∈l,∀y∈l,x.Name=y.Name→x=y):oe l=some (wx l):=by
 obtain⟨out,e1,e2,e3⟩:=X6 hl;rw[e1];have hsl:(wx l).Pairwise leI:=by
  unfold wx;have:=jX (le:=λx y:aB=>!decide (QC y x < 0)) (λa b c h1 h2=>by
   simp only[M9,dF] at h1 h2 ⊢;exact Cb h1 h2) (λa b=>by
   simp only[M9,cj,dF];cases h5:Op.bytesLess b.Name.toList a.Name.toList with
   |false=>exact .inl rfl
   |true=>exact .inr (DO h5)) l
  refine this.imp λh=>?_
  unfold leI;simpa only[M9,dF] using h
 refine bR some (ri (le:=leI) (λa b ha hb h1 h2=>?_) e2 hsl (e3.trans (iY _ _).symm));refine h a (e3.subset ha) b ((iY _ _).subset hb) ?_;rcases Nf h1 with q |q
 ·rw[show Op.bytesLess a.Name.toList b.Name.toList=false from h2] at q;cases q
 ·rw[kX,kX] at q
  exact Nh q
end Go.Vl
set_option linter.unusedSectionVars false
namespace Go.Vl
open Go
noncomputable def Af (r:ao) (t k:Int):List Int:=yB r (bM r.aq) (iO (bM r.aq)) k t
inductive Sub (os:List ab) (b:Int):Int→Prop
 |refl:Sub os b b
 |head {o:ab} {x:aB} (ho:o∈os) (hx:x∈o.bd) (h:Sub os b x.ID):Sub os b o.ID
section
variable {r:ao} (M:Dd r)
include M
variable {t:Int}
end
section
variable {r:ao} (M:Dd r) {t:Int}
include M
end
end Go.Vl
set_option linter.unusedSectionVars false
namespace Go.Vl
open Go
noncomputable def Qw (a0:ao) (id:Int):List (ByteArray×Int):=fK (bM a0.aq) ((bM a0.aq).length+1) id
noncomputable def A4 (a0:ao) (id:Int):List aB:=wx ((Qw a0 (getM (bM a0.aq) id).Tree).map (Je (xB id++⟨#[58]⟩)))
theorem Sf (a0:ao) (hN:Z5 (bM a0.aq)) (id:Int):∀x∈(Qw a0 (getM (bM a0.aq) id).Tree).map (Je (xB id++⟨#[58]⟩)),∀y∈(Qw a0 (getM (bM a0.aq) id).Tree).map (Je (xB id++⟨#[58]⟩)),x.Name=y.Name→x=y:=λx hx y hy e=>by
 obtain⟨q,hq,rfl⟩:=aG.1 hx;obtain⟨r,hr,rfl⟩:=aG.1 hy;have h1:q.1=r.1:=HJ (p:=(xB id++(⟨#[58]⟩:ByteArray):ByteArray)) e;have sI:=MG hN ((bM a0.aq).length+1) (getM (bM a0.aq) id).Tree;have:q=r:=by
  obtain⟨i,hi,rfl⟩:=cu hq;obtain⟨j,hj,rfl⟩:=cu hr;have Fe:i < ((Qw a0 (getM (bM a0.aq) id).Tree).map (·.1)).length:=by rw[bq];exact hi
  have wm:j < ((Qw a0 (getM (bM a0.aq) id).Tree).map (·.1)).length:=by rw[bq];exact hj
  have rY:((Qw a0 (getM (bM a0.aq) id).Tree).map (·.1))[i]=((Qw a0 (getM (bM a0.aq) id).Tree).map (·.1))[j]:=by rw[lp,lp];exact h1
  have:=(qD (h₀:=Fe) (h₁:=wm) sI).1 rY;subst this;rfl
 rw[this]
theorem NY (a0:ao) (id:Int):(A4 a0 id).length=(Qw a0 (getM (bM a0.aq) id).Tree).length:=by unfold A4;rw[L4,bq]
theorem Fs {α:Type} (p:α→Bool):∀(l s:List α),l.foldl (λs x=>if p x=true then s++[x] else s) s=s++l.filter p
 |[],s=>by simp
 |x::l,s=>by
  rw[ea,Fs p l,ez];split <;> simp
section
variable {a0:ao} (V:qB a0)
include V
theorem qB.abA:(bM a0.aq).length=a0.aq.length:=by unfold bM;rw[bq]
theorem qB.uR {o:ab} (ho:o∈a0.aq):getM (bM a0.aq) o.ID=o:=by unfold getM;rw[V.get ho];rfl
theorem qB.idr {o:ab} (ho:o∈a0.aq):1≤o.ID∧o.ID≤1073741824:=by
 have:=(pJ.1 (V.ob o ho)).1;unfold ya at this;simpa using this
theorem qB.XN {o:ab} (ho:o∈a0.aq) (hk:o.Kind=3):vJ (bM a0.aq) o.Tree=2:=by
 have:=V.hr o ho;unfold mK at this;simp only[aR,cj] at this;rcases this.2.2 with h |h
 ·rw[hk] at h;simp at h
 ·have h':gj (bM a0.aq) o.Tree=2:=by simpa using h
  exact h'
theorem qB.QM {o:ab} (ho:o∈a0.aq) (hk:o.Kind=3) {left:Int} (h0:0≤left) (h1:left≤2000):
  (((A4 a0 o.ID).length:Int)≤left→iH (iO (bM a0.aq)) o.ID left=some (A4 a0 o.ID,true))∧(left < ((A4 a0 o.ID).length:Int)→iH (iO (bM a0.aq)) o.ID left=some ([],false)):=by
 have hid:=V.idr ho;have Bc:=V.no;have Us:=V.abA;have h58:(⟨#[58]⟩:ByteArray).size=1:=rfl;have IM:=Ct (n:=o.ID) (by omega) (by omega);have gc:(br cK (iO (bM a0.aq)) o.ID).getD (⟨0,0,[],[],0,[],ByteArray.empty,0⟩:ab)={ o with bd:=vf (bM a0.aq) o.bd }:=by rw[tO,V.get ho];rfl
 have hT:=V.XN ho hk;have xr:=V.uR ho;have hlf:Qw a0 (getM (bM a0.aq) o.ID).Tree=fK (iO (bM a0.aq)) ((bM a0.aq).length+1) o.Tree:=by
  unfold Qw;rw[It V.mnd,xr]
 have htr:=H2 (Nl.clean V V.adf) ((bM a0.aq).length+1) o.Tree (Nat.lt_succ_of_le (Rf _ _)) (by rw[wJ];exact hT) (xB o.ID++⟨#[58]⟩) left [] h0 (by simpa using h1) (by rw[fY];omega);have Hu:=Sf a0 V.abz o.ID;have hlen:=NY a0 o.ID;rw[hlf] at hlen;unfold iH;rw[Hm ⟨by omega,by omega⟩];simp only[aa];rw[eV (by omega)];simp only[aa];rw[gc];refine⟨λh=>?_,λh=>?_⟩
 ·rw[HY (htr.1 (by omega))]
  simp only[aa,di];rw[ah (by simp)];unfold A4;rw[hlf] at Hu ⊢;rw[JD (by rw[bq];omega) Hu];rfl
 ·obtain⟨w,hw⟩:=htr.2 (by omega)
  rw[HY hw];rfl
theorem qB.Re {o:ab} (ho:o∈a0.aq) (hk:o.Kind=3):
  ((A4 a0 o.ID).length≤2000→kP a0 o.ID=some (A4 a0 o.ID,true))∧(2000 < (A4 a0 o.ID).length→kP a0 o.ID=some ([],false)):=by
 have hid:=V.idr ho;have Bc:=V.no;have Us:=V.abA;have h58:(⟨#[58]⟩:ByteArray).size=1:=rfl;have IM:=Ct (n:=o.ID) (by omega) (by omega);have hT:=V.XN ho hk;have xr:=V.uR ho;obtain⟨l,e1,e2,e3,e4⟩:=HU (a0:=a0) (by omega) V.adf ((bM a0.aq).length+1) o.Tree (Nat.lt_succ_of_le (Rf _ _)) hT (xB o.ID++⟨#[58]⟩) [] (by simp) (by rw[fY];omega);have hlf:Qw a0 (getM (bM a0.aq) o.ID).Tree=fK (bM a0.aq) ((bM a0.aq).length+1) o.Tree:=by unfold Qw;rw[xr]
 have Hu:=Sf a0 V.abz o.ID;have hlen:=NY a0 o.ID;rw[hlf] at hlen;simp only[List.length_nil,gg,di] at e3 e4;unfold kP;rw[AI (by omega),xr];simp only[aa];rw[Kb (by omega) (by omega)];simp only[aa];rw[eV (by omega)];simp only[aa];rw[QY e1];simp only[aa];refine⟨λh=>?_,λh=>?_⟩
 ·have h5:=e3 (by omega)
  rw[ah (by simp only[bg];rw[h5,bq];omega),h5];unfold A4;rw[hlf] at Hu ⊢;rw[F5 (by rw[bq];omega) Hu];rfl
 ·have h5:=e4 (by omega)
  rw[ai (by simp only[bg];omega)]
theorem qB.MY (t k:Int):(Af a0 t k).Nodup:=by
 unfold Af yB;exact List.Nodup.sublist fB V.Ov
theorem qB.Zt (t k:Int):(Af a0 t k).Pairwise (·≤·):=by
 unfold Af yB;exact V.V5.sublist fB
theorem qB.yX {t k:Int} (hk:k≠0) {id:Int}:id∈Af a0 t k↔(∃o∈a0.aq,o.ID=id∧o.Kind=k)∧∃u,iP a0 (bM a0.aq) a0.aC.length id=some u∧u≤t:=by
 unfold Af yB;rw[bP,V.Bj];cases hs:iP a0 (bM a0.aq) a0.aC.length id with
 |none=>simp
 |some u=>
  by_cases hu:u≤t
  ·have h2:(∃v,some u=some v∧v≤t)↔True:=⟨λ_=>trivial,λ_=>⟨u,rfl,hu⟩⟩
   rw[h2];simp only[se,cg,oH,kB];rw[gy (by omega),hZ,tO];cases hg:br cK (bM a0.aq) id with
   |none=>
    simp only[Option.map_none,ni,dF,bne_eq_false_iff_eq]
    constructor
    ·intro h;exact absurd h.symm hk
    ·rintro⟨o,ho,rfl,_⟩
     rw[V.get ho] at hg;cases hg
   |some o=>
    obtain⟨ho,rfl⟩:=vF hg;simp only[cr,cg,dF,bne_eq_false_iff_eq]
    constructor
    ·intro h;exact⟨o,ho,rfl,h⟩
    ·rintro⟨o',Bb,he,hk⟩
     have:=V.get Bb;rw[he,hg] at this;cases this;exact hk
  ·constructor
   ·rintro⟨_,h⟩
    simp only[cg] at h;rw[fD (by omega)] at h;simp at h
   ·rintro⟨_,v,h1,h2⟩
    cases h1;exact absurd h2 hu
theorem qB.yY (t k:Int):(Af a0 t k).length≤400:=by
 have h1:(Af a0 t k).length≤(vU a0 (bM a0.aq)).length:=by
  unfold Af yB;exact fX _ _
 have:=V.Fw;omega
theorem qB.of_eq {ids:List Int} (hl:ids.length≤100000) (k:Int):rL a0 ids k=some (ids.filter λx=>(getM (bM a0.aq) x).Kind==k):=by
 have Bc:=V.no;have e2:iter (pG ids a0 k) (0,[])=some (ids.foldl (λs x=>if((getM (bM a0.aq) x).Kind==k)=true then s++[x] else s) []):=by
  refine nR (body:=pG ids a0 k) ids (λs x=>if((getM (bM a0.aq) x).Kind==k)=true then s++[x] else s) (λs=>s) (λi s=>s.length≤i) (λi hi s hs=>⟨?_,?_⟩) (λs _=>?_) [] (aM _)
  ·unfold pG
   rw[ai (by simp;omega),dj hi];simp only[aa];rw[AI (by omega)];simp only[aa];rw[iI (by omega) (by omega)];split
   ·rw[eV (by simp;omega)];rfl
   ·rfl
  ·split
   ·simp;omega
   ·omega
  ·unfold pG
   rw[ah (by simp)]
 unfold rL;rw[e2,Fs];simp
theorem qB.J' (t:Int):∃ids,nH a0 t=some ids∧∀k,k≠0→rL a0 ids k=some (Af a0 t k):=by
 obtain⟨ids,e1,s1,s2,s3⟩:=V.X2 t;have hlen:ids.length≤400:=by
  have:=NA s2 λx hx=>(show ∃p∈a0.aq,p.ID=x from by
   obtain⟨u,hu,_⟩:=(s3 x).1 hx;exact V.IZ (V.Bj.2 (by rw[hu];rfl)))
  have:=V.no;omega
 refine⟨ids,e1,λk hk=>?_⟩;rw[V.of_eq (by omega) k];refine bR some (L0 (s1.sublist fB) (V.Zt t k) (List.Nodup.sublist fB s2) (V.MY t k) λx=>?_);rw[bP,s3,V.yX hk]
 constructor
 ·rintro⟨⟨u,hu,ML⟩,VT⟩
  obtain⟨o,ho,rfl⟩:=V.IZ (V.Bj.2 (by rw[hu];rfl));rw[V.uR ho] at VT;exact⟨⟨o,ho,rfl,by simpa using VT⟩,u,hu,ML⟩
 ·rintro⟨⟨o,ho,rfl,VT⟩,u,hu,ML⟩
  exact⟨⟨u,hu,ML⟩,by rw[V.uR ho];simpa using VT⟩
theorem qB.WZ {kM:List Int}:∀(n:Nat) (id:Int) (q:ByteArray×Int),q∈fK (bM a0.aq) n id→DG (bM a0.aq) kM id→DG (bM a0.aq) kM q.2∧∃o∈a0.aq,o.ID=q.2∧o.Kind=1
 |0,_,_,h,_=>by simp[fK] at h
 |n+1,id,q,h,hr=>by
  rw[nQ] at h;obtain⟨x,hx,h5⟩:=List.mem_flatMap.1 h;obtain⟨o,ho,rfl,hxo⟩:∃o∈a0.aq,o.ID=id∧x∈o.bd:=by
   rcases V.YF id with e |⟨o,ho,e1,e2⟩
   ·rw[e] at hx;cases hx
   ·rw[e2] at hx;exact⟨o,ho,e1,hx⟩
  have A9:DG (bM a0.aq) kM x.ID:=.step hr (by
   rw[V.nm ho];unfold gp;simp only[aQ,aG];exact .inl (.inr ⟨x,hxo,rfl⟩))
  unfold gC at h5;by_cases hk:vJ (bM a0.aq) x.ID=2
  ·rw[ai hk] at h5
   obtain⟨q',VK,rfl⟩:=aG.1 h5;exact qB.WZ n x.ID q' VK A9
  ·rw[ah hk] at h5
   rw[aD] at h5;subst h5;refine⟨A9,?_⟩;have:=V.hr o ho;unfold mK at this;simp only[aR] at this;have h1:=bE.1 this.1 x hxo;simp only[cj,ew] at h1;rcases h1 with h1 |h1
   ·obtain⟨p,hp,e⟩:=V.named ho (j:=x.ID) (by
     unfold gp;simp only[aQ,aG];exact .inl (.inr ⟨x,hxo,rfl⟩))
    refine⟨p,hp,e,?_⟩;rw[← e,V.kind hp] at h1;exact h1
   ·exact absurd h1 hk
theorem qB.YC {t c:Int} (hc:c∈Af a0 t 3):∀x∈A4 a0 c,x.ID∈Af a0 t 1:=λx hx=>by
 obtain⟨⟨o,ho,rfl,hk⟩,u,hu,ML⟩:=(V.yX (by decide)).1 hc;unfold A4 wx at hx;rw[List.mem_mergeSort] at hx;obtain⟨q,hq,rfl⟩:=aG.1 hx;rw[V.uR ho] at hq;have hr:=D4 hu;have CX:DG (bM a0.aq) (fA a0 u) o.Tree:=.step hr (by
  rw[V.nm ho];unfold gp;rw[ai hk];simp)
 obtain⟨h1,h2⟩:=V.WZ _ _ q hq CX;obtain⟨u',h3,h4⟩:=Rr V.so h1;exact(V.yX (by decide)).2 ⟨h2,u',h3,by omega⟩
end
end Go.Vl
set_option linter.unusedSectionVars false
namespace Go.Vl
open Go
noncomputable def sfG (a0:ao) (c:Int):Int:=(iP a0 (bM a0.aq) a0.aC.length c).getD 0
noncomputable def plG (a0:ao) (t id:Int):List dG:=(Af a0 t 3).flatMap λc=>((A4 a0 c).filter λx=>x.ID==id).map λx=>⟨0,x.Name,sfG a0 c⟩
noncomputable def Vo (a0:ao) (t:Int):List bU:=(Af a0 t 1).map λid=>⟨(getM (bM a0.aq) id).Data,plG a0 t id⟩
noncomputable def F4 (a0:ao) (t:Int):Nat:=((Af a0 t 3).map λc=>(A4 a0 c).length).sum
theorem FB (objs:List (Int×ab)) (sf:Int→Int) (lv:Int→List aB):∀(cs:List Int),(∀c∈cs,∀left:Int,0≤left→left≤2000→(((lv c).length:Int)≤left→iH objs c left=some (lv c,true))∧(left < ((lv c).length:Int)→iH objs c left=some ([],false)))→
  ∀(left:Int) (uV:Nat) (L:List (Int×List dG)),0≤left→left≤2000→left < (((cs.map λc=>(lv c).length).sum:Nat):Int)→(uV:Int)+left≤100000000→nU objs sf cs left uV L=some none
 |[],_,left,_,_,h0,_,h2,_=>by simp at h2;omega
 |c::cs,hw,left,uV,L,h0,h1,h2,h3=>by
  rw[aW,uS] at h2;rw[nU];obtain⟨w1,w2⟩:=hw c (by simp) left h0 h1;by_cases h:((lv c).length:Int)≤left
  ·rw[w1 h]
   simp only[aa];rw[ah (by simp),eV (by omega)];simp only[aa];rw[iI (by omega) (by omega)];exact FB objs sf lv cs (λc hc=>hw c (by simp[hc])) _ _ _ (by omega) (by omega) (by omega) (by omega)
  ·rw[w2 (by omega)]
   simp
theorem Lj {a0:ao} (Bc:a0.aq.length≤1000000):∀(bs:List Int) (i:Nat) (out:List bU) (num:List (Int×Int)),bs.Nodup→
  ∃RY,FC a0 bs i out num=some (out++bs.map (λb=>⟨(getM (bM a0.aq) b).Data,[]⟩),RY)∧(∀b,b∉bs→br cK RY b=br cK num b)∧∀(j:Nat) (b:Int),bs[j]? =some b→br cK RY b=some ((i+j:Nat):Int)
 |[],i,out,num,_=>⟨num,by simp[FC],λ_ _=>rfl,λj b h=>by simp at h⟩
 |b::bs,i,out,num,hn=>by
  rw[dZ] at hn;rw[FC,AI Bc];simp only[aa];obtain⟨RY,e1,e2,e3⟩:=Lj Bc bs (i+1) (out++[⟨(getM (bM a0.aq) b).Data,[]⟩]) (eD cK num b (i:Int)) hn.2;have hms:=λx=>iK eB num b (i:Int) x
  refine⟨RY,by rw[e1,eX];rfl,λx hx=>?_,λj x hj=>?_⟩
  ·rw[e2 x (λh=>hx (by simp[h])),(hms x).2 (λh=>hx (by simp[h]))]
  ·cases j with
   |zero=>
    simp at hj;subst hj;rw[e2 b hn.1,(hms b).1 rfl];rfl
   |succ j=>
    rw[e3 j x (by simpa using hj)]
    congr 2;omega
theorem G' {pP:List Int} (hn:pP.Nodup) {num:List (Int×Int)} (SS:∀(j:Nat) (b:Int),pP[j]? =some b→br cK num b=some (j:Int)) (D:Int→List Int) (t:Int):∀(l:List aB) (P:Int→List dG),(∀x∈l,x.ID∈pP)→(∀b,(P b).length+l.length≤100000)→
  zO num t l (pP.map λb=>(⟨D b,P b⟩:bU))=some (pP.map λb=>(⟨D b,P b++(l.filter λx=>x.ID==b).map λx=>⟨0,x.Name,t⟩⟩:bU))
 |[],P,_,_=>by simp[zO]
 |x::l,P,hx,hs=>by
  obtain⟨k,hk,e⟩:=cu (hx x (by simp));have hg:br cK num x.ID=some (k:Int):=SS k x.ID (by rw[ae hk,e]);rw[zO,hg];simp only[cg];rw[A8,aA,ae hk,e];simp only[cr,aa];have FU:=hs x.ID;rw[cQ] at FU;rw[eV (by omega)];simp only[aa,eu];have VI:(pP.map λb=>(⟨D b,P b⟩:bU)).set k ⟨D x.ID,P x.ID++[⟨0,x.Name,t⟩]⟩=pP.map λb=>(⟨D b,P b++if x.ID=b then [⟨0,x.Name,t⟩] else []⟩:bU):=by
   apply eH;intro j;rw[iV];by_cases hj:k=j
   ·subst hj
    rw[ai rfl,ai (by simpa using hk),aA,ae hk,e];simp
   ·rw[ah hj,aA,aA]
    cases hb:pP[j]? with
    |none=>rfl
    |some b=>
     have iA:x.ID≠b:=λh=>hj (by
      have wj:=(aj.1 hb).1;have:pP[k]=pP[j]:=by rw[e,h];exact(aj.1 hb).2.symm
      exact(qD hn).1 this)
     simp[iA]
  rw[VI,G' hn SS D t l (λb=>P b++if x.ID=b then([⟨0,x.Name,t⟩]:List dG) else []) (λy hy=>hx y (by simp[hy])) (λb=>by
   have:=hs b;rw[cQ] at this;rw[bF];split <;> simp <;> omega)]
  refine bR some (fW λb _=>?_);rw[ez];by_cases h:x.ID=b
  ·subst h;simp
  ·simp[h]
theorem Li {a0:ao} {pP:List Int} (hn:pP.Nodup) {num:List (Int×Int)} (SS:∀(j:Nat) (b:Int),pP[j]? =some b→br cK num b=some (j:Int)) (D:Int→List Int) (sf:Int→Int) (lv:Int→List aB):∀(cs:List Int),(∀c∈cs,((lv c).length≤2000→kP a0 c=some (lv c,true))∧(2000 < (lv c).length→kP a0 c=some ([],false))∧∀x∈lv c,x.ID∈pP)→
  ∀(uV:Nat) (P:Int→List dG),uV≤2000→(∀b,(P b).length≤uV)→
  (uV+(cs.map λc=>(lv c).length).sum≤2000→C7 a0 num sf cs uV (pP.map λb=>(⟨D b,P b⟩:bU))=some (some (pP.map λb=>(⟨D b,P b++cs.flatMap λc=>((lv c).filter λx=>x.ID==b).map λx=>⟨0,x.Name,sf c⟩⟩:bU))))∧
  (2000 < uV+(cs.map λc=>(lv c).length).sum→C7 a0 num sf cs uV (pP.map λb=>(⟨D b,P b⟩:bU))=some none)
 |[],_,uV,P,h0,hP=>⟨λ_=>by simp[C7],λh=>by simp at h;omega⟩
 |c::cs,hw,uV,P,h0,hP=>by
  obtain⟨w1,w2,w3⟩:=hw c (by simp);rw[aW,uS,C7];by_cases hlen:(lv c).length≤2000
  ·rw[w1 hlen]
   simp only[aa];rw[eV (by omega)];simp only[aa];by_cases VH:uV+(lv c).length≤2000
   ·rw[ah (by simp;omega),G' hn SS D (sf c) (lv c) P w3 (λb=>by have:=hP b;omega)]
    simp only[aa];have ih:=Li hn SS D sf lv cs (λc hc=>hw c (by simp[hc])) (uV+(lv c).length) (λb=>P b++((lv c).filter λx=>x.ID==b).map λx=>⟨0,x.Name,sf c⟩) VH (λb=>by
     have:=hP b;have h2:=fX (λx:aB=>x.ID==b) (lv c);rw[bF,bq];omega)
    refine⟨λh=>?_,λh=>?_⟩
    ·rw[ih.1 (by omega)]
     refine bR (λx=>some (some x)) (fW λb _=>?_);rw[jZ,eX]
    ·exact ih.2 (by omega)
   ·rw[ai (by simp;omega)]
    exact⟨λh=>by omega,λ_=>rfl⟩
  ·rw[w2 (by omega)]
   simp only[aa];rw[eV (by simp;omega)];simp only[aa];rw[ai (by simp)];exact⟨λh=>by omega,λ_=>rfl⟩
section
variable {a0:ao} (V:qB a0) (hf:FP a0)
include V hf
theorem qB.O' (t:Int):jG a0 t=some (if F4 a0 t≤2000 then(Vo a0 t,0) else([],3)):=by
 obtain⟨ids,e1,e2⟩:=V.J' t;obtain⟨F,e3,hF⟩:=V.first
 have Bc:=V.no;have h1:=V.yY t 1;have h3:=V.yY t 3;obtain⟨num,e4,_,e5⟩:=Lj (a0:=a0) (by omega) (Af a0 t 1) 0 [] [] (V.MY t 1);unfold jG;rw[V.Yh hf];simp only[aa];rw[ah (by decide),e1];simp only[aa];rw[e2 1 (by decide),e2 3 (by decide),e3];simp only[aa];rw[eV ⟨by omega,by omega⟩];simp only[aa];rw[e4];simp only[aa,di];have hsf:(λc=>(br cK F c).getD 0)=sfG a0:=funext λc=>by unfold sfG;rw[hF.eq]
 rw[hsf];have key:=Li (a0:=a0) (V.MY t 1) (num:=num) (λj b h=>by have:=e5 j b h;simpa using this) (λb=>(getM (bM a0.aq) b).Data) (sfG a0) (A4 a0) (Af a0 t 3) (λc hc=>by
  obtain⟨⟨o,ho,rfl,hk⟩,_⟩:=(V.yX (by decide)).1 hc;obtain⟨r1,r2⟩:=V.Re ho hk;exact⟨r1,r2,V.YC hc⟩) 0 (λ_=>[]) (by omega) (λ_=>by simp)
 simp only[gg] at key;by_cases hs:F4 a0 t≤2000
 ·rw[key.1 hs,ai hs]
  simp only[aa,di]
  rfl
 ·rw[key.2 (by unfold F4 at hs;omega),ah hs];rfl
open Classical in
theorem qB.OQ (t:Int):la a0 t=some (if F4 a0 t≤2000 then(Vo a0 t,0) else([],3)):=by
 have agq:∀id,((br cK (iO (bM a0.aq)) id).getD (⟨0,0,[],[],0,[],ByteArray.empty,0⟩:ab)).Data=(getM (bM a0.aq) id).Data:=λid=>by
  unfold getM;rw[tO];cases br cK (bM a0.aq) id <;> rfl
 have hlen:=V.yY t 1;have ail:=V.yY t 3;have hw:∀c∈Af a0 t 3,∀left:Int,0≤left→left≤2000→(((A4 a0 c).length:Int)≤left→iH (iO (bM a0.aq)) c left=some (A4 a0 c,true))∧(left < ((A4 a0 c).length:Int)→iH (iO (bM a0.aq)) c left=some ([],false)):=λc hc left h0 h1=>by
  obtain⟨⟨o,ho,rfl,hk⟩,_⟩:=(V.yX (by decide)).1 hc;exact V.QM ho hk h0 h1
 unfold la;rw[AT hf V,rj V,V.idx];simp only[aa];rw[ah (by decide),eV ⟨V.okH,by have:=V.Fw;omega⟩];simp only[aa];rw[show yB a0 (bM a0.aq) (iO (bM a0.aq)) 3 t=Af a0 t 3 from rfl,show yB a0 (bM a0.aq) (iO (bM a0.aq)) 1 t=Af a0 t 1 from rfl];by_cases hs:F4 a0 t≤2000
 case neg=>
  rw[FB _ (λc=>(iP a0 (bM a0.aq) a0.aC.length c).getD 0) (A4 a0) (Af a0 t 3) hw 2000 0 [] (by omega) (by omega) (by unfold F4 at hs;omega) (by omega),ah hs]
  rfl
 rw[XO _ (λc=>(iP a0 (bM a0.aq) a0.aC.length c).getD 0) (A4 a0) (Af a0 t 3) (λc hc left h1 h2=>(hw c hc left (by omega) h2).1 h1) 2000 0 [] (by unfold F4 at hs;omega) (by omega) (by unfold F4 at hs;omega),ai hs];simp only[aa];have uq:∀id,(br cK ((Af a0 t 3).foldl (λL c=>(A4 a0 c).foldl (pb ((iP a0 (bM a0.aq) a0.aC.length c).getD 0)) L) []) id).getD []=plG a0 t id:=λid=>by
  have:=Ew (λc=>(iP a0 (bM a0.aq) a0.aC.length c).getD 0) (A4 a0) (Af a0 t 3) [] id;rw[this];rfl
 generalize (Af a0 t 3).foldl (λL c=>(A4 a0 c).foldl (pb ((iP a0 (bM a0.aq) a0.aC.length c).getD 0)) L) []=PL at uq ⊢;have hl:=nR (body:=lK (Af a0 t 1) (iO (bM a0.aq)) PL) (Af a0 t 1) (λs id=>s++[(⟨(getM (bM a0.aq) id).Data,plG a0 t id⟩:bU)]) (λs=>s) (λi s=>s.length=i) (λi hi s hs=>⟨?_,by simp[hs]⟩) (λs hs=>?_) [] rfl
 ·rw[hl,KU];rfl
 ·unfold lK
  rw[ai (by simp;omega),dj hi];simp only[aa];rw[agq,uq];unfold mZ;have hd:(getM (bM a0.aq) (Af a0 t 1)[i]).Data.length≤268435456:=by
   obtain⟨o,ho,e,_⟩:=((V.yX (by decide)).1 (bC hi)).1;rw[← e,V.uR ho];have:=V.obj ho;omega
  rw[eV hd];simp only[aa];rw[eV (by simp;omega),iI (by omega) (by omega)]
  rfl
 ·unfold lK
  rw[ah (by simp)]
open Classical in
theorem qB.XW (t:Int):pq a0 t=some (Af a0 t 1):=by
 unfold pq;rw[AT hf V,rj V,V.idx];simp only[aa];rw[ah (by decide),eV ⟨V.okH,by have:=V.Fw;omega⟩]
 rfl
theorem qB.Yj (t:Int):nE a0 t=some (Af a0 t 1):=by
 obtain⟨ids,e1,e2⟩:=V.J' t;unfold nE;rw[V.Yh hf];simp only[aa];rw[ah (by decide),e1];simp only[aa];rw[e2 1 (by decide)]
 rfl
noncomputable def Ey (a0:ao) (id:Int):List aB×Int:=if(getM (bM a0.aq) id).Kind=3 then(if (A4 a0 id).length≤2000 then(A4 a0 id,0) else([],3)) else([],6)
theorem qB.XZ (id:Int):kZ a0 id=some (Ey a0 id):=by
 have VT:((br cK (iO (bM a0.aq)) id).getD (⟨0,0,[],[],0,[],ByteArray.empty,0⟩:ab)).Kind=(getM (bM a0.aq) id).Kind:=wJ _ _;unfold kZ;rw[AT hf V,rj V];simp only[aa];rw[ah (by decide),VT];unfold Ey;by_cases hk:(getM (bM a0.aq) id).Kind=3
 ·rw[ah (by simp[hk]),ai hk]
  obtain⟨o,ho,rfl⟩:∃o∈a0.aq,o.ID=id:=by
   rcases V.YF id with h |⟨o,ho,e,_⟩
   ·unfold getM at hk
    cases hg:br cK (bM a0.aq) id with
    |none=>rw[hg] at hk;simp at hk
    |some o=>obtain⟨ho,e⟩:=vF hg;exact⟨o,ho,e⟩
   ·exact⟨o,ho,e⟩
  rw[V.uR ho] at hk;obtain⟨w1,w2⟩:=V.QM ho hk (left:=2000) (by omega) (by omega);by_cases hl:(A4 a0 o.ID).length≤2000
  ·rw[w1 (by omega),ai hl]
   simp
  ·rw[w2 (by omega),ah hl]
   simp
 ·rw[ai (by simpa using hk),ah hk]
theorem qB.Yk (id:Int):nC a0 id=some (Ey a0 id):=by
 have Bc:=V.no;unfold nC;rw[V.Yh hf];simp only[aa];rw[ah (by decide),AI (by omega)];simp only[aa];unfold Ey;by_cases hk:(getM (bM a0.aq) id).Kind=3
 ·rw[ah (by simp[hk]),ai hk]
  obtain⟨o,ho,rfl⟩:∃o∈a0.aq,o.ID=id:=by
   unfold getM at hk;cases hg:br cK (bM a0.aq) id with
   |none=>rw[hg] at hk;simp at hk
   |some o=>obtain⟨ho,e⟩:=vF hg;exact⟨o,ho,e⟩
  rw[V.uR ho] at hk;obtain⟨w1,w2⟩:=V.Re ho hk;by_cases hl:(A4 a0 o.ID).length≤2000
  ·rw[w1 hl,ai hl]
   simp
  ·rw[w2 (by omega),ah hl]
   simp
 ·rw[ai (by simpa using hk),ah hk]
end
end Go.Vl
set_option linter.unusedSectionVars false
namespace Go.Vl
open Go
theorem E6 {l:List Int} (hl:l.length≤1000000):qW l l=some true:=by
 unfold qW;rw[ah (by simp),gx l (λ_=>true) false (λi hi=>?_) ?_]
 ·simp
 ·unfold ry
  rw[ah (by simp)]
 ·unfold ry
  rw[ai (by simp;omega),dj hi];simp only[aa];rw[ah (by simp),iI (by omega) (by omega)];rfl
theorem uJ {l:List aB} (hl:l.length≤1000000):pH l l=some true:=by
 unfold pH;rw[ah (by simp),gx l (λ_=>true) false (λi hi=>?_) ?_]
 ·simp
 ·unfold qi
  rw[ah (by simp)]
 ·unfold qi
  rw[ai (by simp;omega),dj hi];simp only[aa];rw[ah (by simp),iI (by omega) (by omega)];rfl
theorem Ik {l:List dG} (hl:l.length≤1000000):pZ l l=some true:=by
 unfold pZ;rw[ah (by simp),gx l (λ_=>true) false (λi hi=>?_) ?_]
 ·simp
 ·unfold oX
  rw[ah (by simp)]
 ·unfold oX
  rw[ai (by simp;omega),dj hi];simp only[aa];rw[ah (by simp),iI (by omega) (by omega)];rfl
theorem zL {l:List bU} (hl:l.length≤1000000) (hp:∀x∈l,x.vu.length≤1000000):qV l l=some true:=by
 unfold qV;rw[ah (by simp),gx l (λ_=>true) false (λi hi=>?_) ?_]
 ·simp
 ·unfold ru
  rw[ah (by simp)]
 ·unfold ru
  rw[ai (by simp;omega),dj hi];simp only[aa];rw[ah (by simp),Ik (hp _ (bC hi))];simp only[aa];rw[ah (by simp),iI (by omega) (by omega)];rfl
structure Nn (r:ao):Prop where
 co:∀t,∃p,la r t=some p∧jG r t=some p∧qV p.1 p.1=some true
 bl:∀t,∃l,pq r t=some l∧nE r t=some l∧qW l l=some true
 pa:∀id,∃p,kZ r id=some p∧nC r id=some p∧pH p.1 p.1=some true
theorem Ve (a0:ao) (t id:Int):(plG a0 t id).length≤F4 a0 t:=by
 unfold plG F4;generalize Af a0 t 3=cs
 induction cs with
 |nil=>simp
 |cons c cs ih=>
  rw[jZ,bF,bq,aW,uS];have:=fX (λx:aB=>x.ID==id) (A4 a0 c);omega
theorem Z3 {r:ao} (hf:FP r):Nn r:=by
 by_cases hv:tC r=0
 ·have V:=xH.1 hv
  refine⟨λt=>⟨_,V.OQ hf t,V.O' hf t,?_⟩,λt=>⟨_,V.XW hf t,V.Yj hf t,E6 (by have:=V.yY t 1;omega)⟩,λid=>⟨_,V.XZ hf id,V.Yk hf id,?_⟩⟩
  ·split
   ·rename_i hs
    refine zL ?_ λx hx=>?_
    ·unfold Vo
     rw[bq];have:=V.yY t 1;omega
    ·unfold Vo at hx
     obtain⟨b,_,rfl⟩:=aG.1 hx;have:=Ve r t b;simp only;omega
   ·exact zL (by simp) (λx hx=>by simp at hx)
  ·unfold Ey
   split
   ·split
    ·rename_i h;exact uJ (by show(A4 r id).length≤1000000;omega)
    ·exact uJ (by simp)
   ·exact uJ (by simp)
 ·have h1:=Jv hf
  have h2:=G6 hf;have iA:(tC r != 0)=true:=by simpa using hv
  refine⟨λt=>⟨([],tC r),?_,?_,zL (by simp) (λx hx=>by simp at hx)⟩,λt=>⟨[],?_,?_,E6 (by simp)⟩,λid=>⟨([],tC r),?_,?_,uJ (by simp)⟩⟩
  ·unfold la;rw[h1];simp only[aa];rw[ai iA]
  ·unfold jG;rw[h2];simp only[aa];rw[ai iA]
  ·unfold pq;rw[h1];simp only[aa];rw[ai iA]
  ·unfold nE;rw[h2];simp only[aa];rw[ai iA]
  ·unfold kZ;rw[h1];simp only[aa];rw[ai iA]
  ·unfold nC;rw[h2];simp only[aa];rw[ai iA]
theorem Si {r:ao} (A:Nn r) (a2:Int) (y:Int×bQ):iter (jP a2 y [a2,y.1,1099511627776] r) 0=some (.inl ()):=by
 rw[gx [a2,y.1,1099511627776] (λ_=>true) false (λi hi=>?_) ?_]
 ·simp
 ·unfold jP
  rw[ah (by simp)]
 ·have hi3:i < 3:=hi
  unfold jP;rw[ai (by simp;omega),eV (by simp;omega)];simp only[aa];rw[dj hi];simp only[aa];generalize [a2,y.1,1099511627776][i]=t;obtain⟨p,h1,h2,h3⟩:=A.co t;obtain⟨l,g1,g2,g3⟩:=A.bl t;rw[h1,h2];simp only[aa];rw[ah (by simp),h3];simp only[aa];rw[ah (by simp),g1,g2];simp only[aa];rw[g3];simp only[aa];rw[ah (by simp),iI (by omega) (by omega)];rfl
theorem Sh {r:ao} (A:Nn r) (a3:Int) (y:Int×bQ):iter (jO a3 y [a3,y.1] r) 0=some (.inl ()):=by
 rw[gx [a3,y.1] (λ_=>true) false (λi hi=>?_) ?_]
 ·simp
 ·unfold jO
  rw[ah (by simp)]
 ·have hi3:i < 2:=hi
  unfold jO;rw[ai (by simp;omega),eV (by simp;omega)];simp only[aa];rw[dj hi];simp only[aa];generalize [a3,y.1][i]=t;obtain⟨p,h1,h2,h3⟩:=A.pa t;rw[h1,h2];simp only[aa];rw[ah (by simp),h3];simp only[aa];rw[ah (by simp),iI (by omega) (by omega)];rfl
theorem GD (a:List Int) (a1:ao) (hf:FP a1) (a2 a3:Int):pc a a1 a2 a3=some true:=by
 obtain⟨r,m,e1,M,_,_,tb⟩:=U8 a;unfold pc;rw[e1];simp only[aa];have tX:∀x∈[a1,r],FP x:=λx hx=>by
  simp only[aZ,fE,td] at hx;rcases hx with rfl |rfl
  ·exact hf
  ·exact M.fit
 have key:∀(k i:Nat),i+k=2→∀(tp:bQ) (b:Int),TB tp b→b+2 * k≤100000→iter (gN a1 (r,m) [a1,r] a2 a3) ((i:Int),tp.L,tp.at_)=some (.inl ()):=λk=>by
  induction k with
  |zero=>
   intro i hi tp b ht hb;have:i=2:=by omega
   subst this;refine dP ?_;unfold gN;rw[ah (by simp)]
  |succ k ih=>
   intro i hi tp b ht hb;have hi4:i < [a1,r].length:=by simp;omega
   obtain⟨v,m4,e4,_,_,t4⟩:=lj ht (by omega) (n:=20) (by omega);obtain⟨v',m5,e5,_,_,t5⟩:=lj t4 (by omega) (n:=14) (by omega);have A:=Z3 (tX _ (bC hi4));by_cases acI:qZ [a1,r][i]=some true
   ·have xr:=ih (i+1) (by omega) m5 (b+1+1) t5 (by omega)
    rw[← xr];refine fT ?_;unfold gN;rw[ai (by simp;omega),eV (by simp;omega)];simp only[aa];rw[dj hi4];simp only[aa];rw[acI];simp only[aa];rw[ah (by simp)];generalize [a1,r][i]=x at A ⊢;rw[e4];simp only[aa];rw[Si A a2 (v,m4)];simp only[aa];rw[e5];simp only[aa];rw[Sh A a3 (v',m5)];simp only[aa];rw[iI (by omega) (by omega)];rfl
   ·have xr:=ih (i+1) (by omega) tp b ht (by omega)
    rw[← xr];refine fT ?_;have hfw:qZ [a1,r][i]=some false:=by
     cases hb:qZ [a1,r][i] with
     |none=>unfold qZ at hb;simp at hb
     |some b=>
      cases b with
      |true=>exact absurd hb acI
      |false=>rfl
    unfold gN;rw[ai (by simp;omega),eV (by simp;omega)];simp only[aa];rw[dj hi4];simp only[aa];rw[hfw];simp only[aa];rw[ai (by decide),iI (by omega) (by omega)];rfl
 have hk:=key 2 0 (by omega) m _ tb (by omega);have hk':iter (gN a1 (r,m) [a1,r] a2 a3) (0,m.L,m.at_)=some (.inl ()):=hk;rw[hk'];simp only[aa];rw[Wp];rfl
end Go.Vl
