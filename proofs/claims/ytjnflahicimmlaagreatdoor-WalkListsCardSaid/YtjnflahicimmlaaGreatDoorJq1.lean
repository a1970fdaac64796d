/- ref13.Valid and ref15's look at the events answer as object.Valid and history.wrong, in plain words. Conditions: none. -/
import Derived.Test.YtjnflahicimmlaaGreatDoorJrS
import Derived.Test.YtjnflahicimmlaaGreatDoorJMi
set_option linter.unusedSimpArgs false
set_option linter.unusedVariables false
namespace Go.Vl
open Go
theorem TR:∀l:List UInt8,Op.bytesLess l []=false
 |[]=>rfl
 |_::_=>rfl
theorem Aq:∀a b:List UInt8,Op.bytesLess a b= !(Op.bytesLess b a||b==a)
 |[],[]=>rfl
 |[],_::_=>rfl
 |_::_,[]=>rfl
 |x::a,y::b=>by
  have ih:=Aq a b;simp only[Op.bytesLess];by_cases h1:x < y
  ·have h2:¬y < x:=by rw[UInt8.lt_iff_toNat_lt] at h1 ⊢;omega
   have h3:¬y=x:=λe=>by subst e;exact h2 h1
   simp[h1,h2,h3]
  ·by_cases h2:y < x
   ·have h3:¬x=y:=λe=>by subst e;exact h1 h2
    simp[h1,h2,h3]
   ·have h3:x=y:=by
     apply UInt8.toNat_inj.1;rw[UInt8.lt_iff_toNat_lt] at h1 h2;omega
    subst h3;simpa using ih
theorem Ii (x:Int):tJ x=some (ya x):=rfl
theorem Ed {s:ByteArray} (h:s.size≤9223372036854775807):nI s=some (Jd s):=by
 have hl:=rq s;unfold nI;have hs:∀(i:Nat) (hi:i < (fU s).length),Df s (i:Int)=some (fU s)[i]:=λi hi=>by
  have h2:i < s.size:=by rw[← hl];exact hi
  unfold Df;rw[ai (by omega),eu,cC s i h2];have e:(fU s)[i]=((s[i]'h2).toNat:Int):=lp ..;rw[e];rfl
 rw[gx (fU s) Wd false (λi hi=>?_) ?_]
 ·unfold Jd
  by_cases hb:(fU s).all Wd=true
  ·rw[ai hb,hb]
   simp only[aa,kY]
   congr 2
   ·simp;omega
   ·simp;omega
  ·rw[ah hb]
   have:(fU s).all Wd=false:=by simpa using hb
   rw[this];rfl
 ·unfold rB
  rw[ah (by simp;omega)]
 ·unfold rB
  rw[ai (by simp;omega),hs i hi,iI (by omega) (by omega)];simp only[aa];unfold Wd;by_cases c1:(fU s)[i] < 33
  ·simp[c1]
  ·by_cases c2:126 < (fU s)[i]
   ·simp[c1,c2]
   ·cases c3:(fU s)[i]==47 <;> simp[c1,c2,c3]
theorem Rb {o:ab} (h:o.bd.length≤1000000) (hf:∀x∈o.bd,x.Name.size≤9223372036854775807):tH o=some (decide (∀i,i < o.bd.length→vB o.bd i=true)&&(o.Data.isEmpty&& !pw o)):=by
 unfold tH;rw[vL o.bd.length (vB o.bd) false (λi hi=>?_) ?_]
 ·have hr:((((o.Data).length:Int)==0)&&((o.Tree==0)&&((((o.bf).length:Int)==0)&&(((o.fJ).toList==((⟨#[]⟩:ByteArray)).toList)&&(o.Time==0)))))=(o.Data.isEmpty&& !pw o):=by
   rw[Pw,Pw];unfold pw;have hp:decide (0 < ((o.bf).length:Int))= !o.bf.isEmpty:=by cases o.bf <;> simp <;> omega
   rw[hp];simp only[bne];cases o.Data.isEmpty <;> cases o.Tree==0 <;> cases o.bf.isEmpty <;> cases (o.fJ).toList==((⟨#[]⟩:ByteArray)).toList <;> cases o.Time==0 <;> rfl
  by_cases hb:∀i,i < o.bd.length→vB o.bd i=true
  ·rw[ai hb,fD hb,hr];rfl
  ·rw[ah hb,gy hb];rfl
 ·unfold rz
  rw[ah (by simp)]
 ·unfold rz
  rw[ai (by simp;omega),dj hi,iI (x:=(i:Int)+1) (by omega) (by omega)];simp only[aa];rw[Ed (hf _ (bC hi)),Ii];simp only[aa];unfold vB;rw[ae hi];simp only;rcases ft (Jd o.bd[i].Name) with uP |uP
  case inr=>simp[uP]
  case inl=>
   rcases ft (ya o.bd[i].ID) with pO |pO
   case inr=>simp[uP,pO]
   case inl=>
    simp only[uP,pO,Bool.not_true,bz,cS];cases i with
    |zero=>simp
    |succ i=>
     rw[ai (by simp)];have hw:IntKind.i64.wrap (((i+1:Nat):Int) - 1)=(i:Int):=by rw[iI (by omega) (by omega)];omega
     rw[hw,dj (show i < o.bd.length by omega)];simp only[aa,sh,ae (show i < o.bd.length by omega)];rw[Aq o.bd[i].Name.toList o.bd[i+1].Name.toList];cases (Op.bytesLess o.bd[i+1].Name.toList o.bd[i].Name.toList||o.bd[i+1].Name.toList==o.bd[i].Name.toList) <;> simp
theorem Va {l:List Int} {i:Nat} (hi:i < l.length) (hl:l.length≤1000000) (o:ab) (ho:o.bf=l):iter (kJ (i:Int) o l[i]) 0=some (if (l.take i).contains l[i]=true then .inr false else .inl ()):=by
 subst ho;have:=gx (body:=kJ (i:Int) o o.bf[i]) (o.bf.take i) (λy=>!(y==o.bf[i])) false (λk hk=>?_) ?_
 ·rw[this]
  have e:(o.bf.take i).contains o.bf[i]= !((o.bf.take i).all λy=>!(y==o.bf[i])):=by
   rw[List.contains_eq_any_beq,←jY];simp only[Bool.not_not]
   congr 1
   funext y
   exact Bool.beq_comm ..
  rw[e];cases (o.bf.take i).all λy=>!(y==o.bf[i]) <;> rfl
 ·have hk':k < i:=by simp at hk;omega
  unfold kJ;rw[ai (by simp;omega),dj (show k < o.bf.length by omega),iI (by omega) (by omega)];simp only[aa,List.getElem_take];cases o.bf[k]==o.bf[i] <;> rfl
 ·unfold kJ
  rw[ah (by simp;omega)]
theorem Ml {o:ab} (h:o.bf.length≤1000000) (hf:o.fJ.size≤9223372036854775807):qj o=some (o.Data.isEmpty&&(o.bd.isEmpty&&yZ o)):=by
 unfold qj yZ;rw[vL o.bf.length (Mn o.bf) false (λi hi=>?_) ?_]
 ·simp only[Pw]
  by_cases hb:∀i,i < o.bf.length→Mn o.bf i=true
  ·rw[ai hb,fD hb,Ii,Ed hf]
   simp only[aa];cases o.Data.isEmpty <;> cases o.bd.isEmpty <;> cases ya o.Tree <;> cases Jd o.fJ <;> cases decide (0≤o.Time) <;> simp
  ·rw[ah hb,gy hb]
   cases o.Data.isEmpty <;> cases o.bd.isEmpty <;> rfl
 ·unfold oZ
  rw[ah (by simp)]
 ·unfold oZ
  rw[ai (by simp;omega),dj hi,iI (x:=(i:Int)+1) (by omega) (by omega)];simp only[aa];rw[Ii,Va hi h o rfl];unfold Mn;rw[ae hi];simp only[aa];rcases ft (ya o.bf[i]) with uP |uP
  case inr=>simp[uP]
  case inl=>
   simp only[uP];cases (o.bf.take i).contains o.bf[i] <;> simp
theorem Rt (o:ab):tI o=some (o.bd.isEmpty&& !pw o):=by
 unfold tI;simp only[aa];rw[Pw,Pw];unfold pw;have hp:decide (0 < ((o.bf).length:Int))= !o.bf.isEmpty:=by cases o.bf <;> simp <;> omega
 rw[hp];simp only[bne];cases o.bd.isEmpty <;> cases o.Tree==0 <;> cases o.bf.isEmpty <;> cases (o.fJ).toList==((⟨#[]⟩:ByteArray)).toList <;> cases o.Time==0 <;> rfl
theorem O3 {o:ab} (hf:T9 o):rP o=some (uo o):=by
 unfold rP uo;rw[Ii];simp only[aa];cases ya o.ID with
 |false=>rfl
 |true=>
  by_cases hb:65536 < o.Data.length∨64 < o.bd.length∨8 < o.bf.length
  ·rw[ai hb]
   have:(decide (65536 < ((o.Data).length:Int))||((decide (64 < ((o.bd).length:Int)))||(decide (8 < ((o.bf).length:Int)))))=true:=by
    simp only[cj,bg];omega
   rw[this];rfl
  ·rw[ah hb]
   have:(decide (65536 < ((o.Data).length:Int))||((decide (64 < ((o.bd).length:Int)))||(decide (8 < ((o.bf).length:Int)))))=false:=by
    simp only[fm,jV];omega
   rw[this,Rt,Rb (by omega) hf.1,Ml (by omega) hf.2];unfold vb lP;simp only[aa];by_cases k1:o.Kind=1
   ·simp only[k1]
    cases (o.bd.isEmpty&& !pw o) <;> simp
   ·by_cases k2:o.Kind=2
    ·simp only[k2]
     cases o.Data.isEmpty <;> cases pw o <;> cases decide (∀i,i < o.bd.length→vB o.bd i=true) <;> simp
    ·by_cases k3:o.Kind=3
     ·simp only[k3]
      cases (o.Data.isEmpty&&(o.bd.isEmpty&&yZ o)) <;> simp
     ·simp[k1,k2,k3]
end Go.Vl
namespace Go.Vl
open Go
theorem Bw:∀a b c:List UInt8,Op.bytesLess a b=true→Op.bytesLess b c=true→Op.bytesLess a c=true
 |_,[],_,h,_=>by rw[TR] at h;cases h
 |_,_::_,[],_,h=>by rw[TR] at h;cases h
 |[],_::_,_::_,_,_=>rfl
 |x::a,y::b,z::c,h1,h2=>by
  have ih:=Bw a b c;simp only[Op.bytesLess,cj,aR,bg,ew] at h1 h2 ⊢;rcases h1 with h1 |⟨rfl,h1⟩
  ·rcases h2 with h2 |⟨rfl,h2⟩
   ·left;rw[UInt8.lt_iff_toNat_lt] at *;omega
   ·exact .inl h1
  ·rcases h2 with h2 |⟨rfl,h2⟩
   ·exact .inl h2
   ·exact .inr ⟨rfl,ih h1 h2⟩
theorem yA (a:List UInt8):Op.bytesLess a a=false:=by
 have:=Aq a a;cases h:Op.bytesLess a a with
 |false=>rfl
 |true=>rw[h] at this;simp at this
theorem Bx {a b:ByteArray}:a.toList=b.toList↔a=b:=by
 rw[kX,kX];exact⟨λh=>ByteArray.ext (Array.toList_inj.1 h),λh=>by rw[h]⟩
theorem fS (a b:ByteArray):pE a b=true↔a=b:=by
 unfold pE;rw[ew,Bx]
def Qn (l:List aB):Prop:=l.Pairwise λx y=>Op.bytesLess x.Name.toList y.Name.toList=true
def qJ (n:ByteArray) (x:aB):Bool:=Op.bytesLess x.Name.toList n.toList
theorem Ny {α:Type} (p:α→Bool) (l:List α):l.take (l.takeWhile p).length=l.takeWhile p∧l.drop (l.takeWhile p).length=l.dropWhile p:=by
 have h:=mV (p:=p) (l:=l)
 constructor
 ·conv=>lhs;rw[← h]
  rw[List.take_left'];rw[h]
 ·conv=>lhs;rw[← h]
  rw[List.drop_left'];rw[h]
theorem qU (n:ByteArray) (l:List aB):l.take (lu n l)=l.takeWhile (qJ n):=(Ny (qJ n) l).1
theorem nz (n:ByteArray) (l:List aB):l.drop (lu n l)=l.dropWhile (qJ n):=(Ny (qJ n) l).2
theorem HV {α:Type} (p:α→Bool):∀(l:List α),∀x∈l.takeWhile p,p x=true
 |[],x,h=>by cases h
 |y::l,x,h=>by
  rw[qL] at h;split at h
  ·rename_i hy
   rcases aZ.1 h with rfl |h
   ·exact hy
   ·exact HV p l x h
  ·cases h
theorem I1 {α:Type} (p:α→Bool):∀(l:List α) (x:α) (r:List α),l.dropWhile p=x::r→p x=false
 |[],x,r,h=>by cases h
 |y::l,x,r,h=>by
  rw[List.dropWhile_cons] at h;split at h
  ·exact I1 p l x r h
  ·rename_i hy
   cases h;simpa using hy
theorem adb {n:ByteArray} {l:List aB} (h:Qn l):∀x∈l.dropWhile (qJ n),qJ n x=false:=by
 have hs:Qn (l.dropWhile (qJ n)):=List.Pairwise.sublist (tg _) h;cases hd:l.dropWhile (qJ n) with
 |nil=>intro x hx;cases hx
 |cons y r=>
  have hy:=I1 _ _ _ _ hd;rw[hd] at hs;obtain⟨h1,_⟩:=jr.1 hs;intro x hx;rcases aZ.1 hx with rfl |hx
  ·exact hy
  ·have h2:=h1 x hx
   unfold qJ at hy ⊢;cases h3:Op.bytesLess x.Name.toList n.toList with
   |false=>rfl
   |true=>rw[Bw _ _ _ h2 h3] at hy;cases hy
structure FN (out:List aB) (m:List (ByteArray×Bool)):Prop where
 so:Qn out
 nd:(m.map (·.1)).Nodup
 mem:∀n,(∃x∈out,x.Name=n)↔n∈m.map (·.1)
theorem FN.len {out:List aB} {m:List (ByteArray×Bool)} (h:FN out m):out.length=m.length:=by
 have h1:(out.map (·.Name)).Nodup:=by
  rw[List.Nodup,List.pairwise_map];refine h.so.imp λ{a b} PR e=>?_
  rw[e,yA] at PR;cases PR
 have h2:(out.map (·.Name)).Perm (m.map (·.1)):=(pT h1 h.nd).2 λn=>by rw[← h.mem n,aG]
 have:=h2.length_eq;simpa using this
theorem Rl {n:ByteArray} {l:List aB} (h:Qn l):(∃x r,l.dropWhile (qJ n)=x::r∧x.Name=n)∨((∀x∈l,x.Name≠n)∧∀x r,l.dropWhile (qJ n)=x::r→x.Name≠n):=by
 have re:=mV (p:=qJ n) (l:=l);by_cases he:∃x∈l,x.Name=n
 ·obtain⟨x,hx,e⟩:=he
  rw[← re] at hx;rcases aQ.1 hx with hx |hx
  ·have:=HV _ _ x hx
   unfold qJ at this;rw[e,yA] at this;cases this
  ·cases hd:l.dropWhile (qJ n) with
   |nil=>rw[hd] at hx;cases hx
   |cons y r=>
    left
    refine⟨y,r,rfl,?_⟩;rw[hd] at hx;rcases aZ.1 hx with rfl |hx
    ·exact e
    ·have hs:Qn (l.dropWhile (qJ n)):=List.Pairwise.sublist (tg _) h
     rw[hd] at hs;have h1:=(jr.1 hs).1 x hx;have h2:=I1 _ _ _ _ hd;unfold qJ at h2;rw[e] at h1;rw[h1] at h2;cases h2
 ·right
  have hn:∀x∈l,x.Name≠n:=λx hx e=>he ⟨x,hx,e⟩
  refine⟨hn,λx r hd=>hn x ?_⟩;rw[← re,hd];simp
open Classical in
theorem EL {out:List aB} {m:List (ByteArray×Bool)} (h:FN out m) (e:az) (th FY:Bool):
  ∃kq,fL e (out,th,FY)=(kq,(th&&(e.Kind==1||decide (e.Name∈m.map (·.1)))),(FY&&decide ((er m e).length≤32)))∧FN kq (er m e):=by
 have re:=mV (p:=qJ e.Name) (l:=out);have hk:out[lu e.Name out]? =(out.dropWhile (qJ e.Name)).head? :=by
  rw[← nz,List.head?_drop]
 have MS:out.drop (lu e.Name out+1)=(out.dropWhile (qJ e.Name)).tail:=by
  rw[← nz,List.tail_drop]
 have sV:∀v,out.set (lu e.Name out) v=out.takeWhile (qJ e.Name)++(out.dropWhile (qJ e.Name)).set 0 v:=λv=>by
  rw[show out.set (lu e.Name out) v=(out.takeWhile (qJ e.Name)++out.dropWhile (qJ e.Name)).set (out.takeWhile (qJ e.Name)).length v from by rw[re];rfl,List.set_append_right _ _ (aM _),Nat.sub_self]
 have inL:∀y∈out.takeWhile (qJ e.Name),y∈out:=λy hy=>(List.takeWhile_sublist _).subset hy
 have inR:∀y∈out.dropWhile (qJ e.Name),y∈out:=λy hy=>(tg _).subset hy
 have fin:∀kq,FN kq (er m e)→decide (kq.length≤32)=decide ((er m e).length≤32):=λkq h'=>by rw[h'.len]
 have hA:∀x∈out.takeWhile (qJ e.Name),Op.bytesLess x.Name.toList e.Name.toList=true:=HV _ _;have hB:∀x∈out.dropWhile (qJ e.Name),x.Name≠e.Name→Op.bytesLess e.Name.toList x.Name.toList=true:=λx hx iA=>by
  have h1:=adb h.so x hx;unfold qJ at h1;rw[Aq,h1];simp only[hZ,dF,nc,ne_eq];exact λe'=>iA (Bx.1 e')
 have hso:=h.so;rcases Rl (n:=e.Name) h.so with ⟨x,r,hd,hx⟩ |⟨Bc,VO⟩
 ·-- WI name is there
  have hm:e.Name∈m.map (·.1):=(h.mem _).1 ⟨x,inR x (by rw[hd];simp),hx⟩;have Jh:(x.Name.toList==e.Name.toList)=true:=by rw[hx];simp
  have LG:Qn (out.takeWhile (qJ e.Name)++x::r):=by rw[← hd,re];exact hso
  by_cases uO:e.Kind=1
  ·have hr:FN (out.takeWhile (qJ e.Name)++⟨x.Name,e.dI⟩::r) (er m e):=by
    unfold er;rw[ai uO];refine⟨?_,?_,λn=>?_⟩
    ·unfold Qn at LG ⊢
     rw[gv,jr] at LG ⊢;obtain⟨h1,⟨h2,h3⟩,h4⟩:=LG;refine⟨h1,⟨h2,h3⟩,λa ha b hb=>?_⟩;rcases aZ.1 hb with rfl |hb
     ·exact h4 a ha x (by simp)
     ·exact h4 a ha b (by simp[hb])
    ·rw[(fp fS m e.Name true).1 hm];exact h.nd
    ·rw[(fp fS m e.Name true).1 hm,←h.mem n]
     constructor
     ·rintro⟨y,hy,rfl⟩
      rcases aQ.1 hy with hy |hy
      ·exact⟨y,inL y hy,rfl⟩
      ·rcases aZ.1 hy with rfl |hy
       ·exact⟨x,inR x (by rw[hd];simp),rfl⟩
       ·exact⟨y,inR y (by rw[hd];simp[hy]),rfl⟩
     ·rintro⟨y,hy,rfl⟩
      rw[← re,hd] at hy;rcases aQ.1 hy with hy |hy
      ·exact⟨y,jE _ hy,rfl⟩
      ·rcases aZ.1 hy with rfl |hy
       ·exact⟨⟨y.Name,e.dI⟩,eI _ (by simp),rfl⟩
       ·exact⟨y,eI _ (by simp[hy]),rfl⟩
   refine⟨_,?_,hr⟩;unfold fL;simp only[hk,hd,rH,Jh,eM,uO];rw[sV,hd,List.set_cons_zero,fin _ hr];simp
  ·have hr:FN (out.takeWhile (qJ e.Name)++r) (er m e):=by
    unfold er;rw[ah uO];have xo:(out.takeWhile (qJ e.Name)++r).Sublist (out.takeWhile (qJ e.Name)++x::r):=List.Sublist.append (iX _) (List.sublist_cons_self ..);have hnx:∀y∈out.takeWhile (qJ e.Name)++r,y.Name≠e.Name:=λy hy hye=>by
     unfold Qn at LG;rw[gv,jr] at LG;obtain⟨h1,⟨h2,h3⟩,h4⟩:=LG;rcases aQ.1 hy with hy |hy
     ·have:=hA y hy
      rw[hye,yA] at this;cases this
     ·have:=h2 y hy
      rw[hye,hx,yA] at this;cases this
    refine⟨LG.sublist xo,tP h.nd e.Name,λn=>?_⟩;rw[AZ fS h.nd,←h.mem n]
    constructor
    ·rintro⟨y,hy,rfl⟩
     refine⟨hnx y hy,y,?_,rfl⟩;rw[← re,hd];exact xo.subset hy
    ·rintro⟨hn,y,hy,rfl⟩
     rw[← re,hd] at hy;refine⟨y,?_,rfl⟩;rcases aQ.1 hy with hy |hy
     ·exact jE _ hy
     ·rcases aZ.1 hy with rfl |hy
      ·exact absurd hx hn
      ·exact eI _ hy
   refine⟨_,?_,hr⟩;unfold fL;simp only[hk,hd,rH,Jh,eM,uO,cS];rw[qU,MS,hd,List.tail_cons,fin _ hr];simp at hm ⊢;exact λ_=>.inr hm
 ·-- it is not
  have hm:e.Name∉m.map (·.1):=λhm=>by
   obtain⟨x,hx,Jh⟩:=(h.mem _).2 hm;exact Bc x hx Jh
  by_cases uO:e.Kind=1
  ·have hr:FN (out.takeWhile (qJ e.Name)++([⟨e.Name,e.dI⟩]++out.dropWhile (qJ e.Name))) (er m e):=by
    unfold er;rw[ai uO];have Xq:=(fp fS m e.Name true).2 hm;refine⟨?_,?_,λn=>?_⟩
    ·have LG:Qn (out.takeWhile (qJ e.Name)++out.dropWhile (qJ e.Name)):=by rw[re];exact hso
     unfold Qn at LG ⊢;rw[gv] at LG ⊢;obtain⟨h1,h2,h3⟩:=LG;refine⟨h1,?_,λa ha b hb=>?_⟩
     ·rw[jo,jr]
      exact⟨λb hb=>hB b hb (Bc b (inR b hb)),h2⟩
     ·rw[jo] at hb
      rcases aZ.1 hb with rfl |hb
      ·exact hA a ha
      ·exact h3 a ha b hb
    ·rw[Xq,bV]
     refine dh.2 ⟨h.nd,by simp,λa ha b hb=>?_⟩;simp only[aW,cO,aD] at hb;subst hb;exact λe'=>hm (e'▸ha)
    ·rw[Xq,bV,aQ,←h.mem n]
     simp only[aW,cO,aD]
     constructor
     ·rintro⟨y,hy,rfl⟩
      rcases aQ.1 hy with hy |hy
      ·exact .inl ⟨y,inL y hy,rfl⟩
      ·rcases aQ.1 hy with hy |hy
       ·rw[aD] at hy
        subst hy;exact .inr rfl
       ·exact .inl ⟨y,inR y hy,rfl⟩
     ·rintro(⟨y,hy,rfl⟩ |rfl)
      ·rw[← re] at hy
       rcases aQ.1 hy with hy |hy
       ·exact⟨y,jE _ hy,rfl⟩
       ·exact⟨y,eI _ (eI _ hy),rfl⟩
      ·exact⟨⟨e.Name,e.dI⟩,eI _ (by simp),rfl⟩
   refine⟨_,?_,hr⟩;unfold fL;cases hd:out.dropWhile (qJ e.Name) with
   |nil=>
    rw[hd] at hr;simp only[hk,hd,List.head?_nil,uO,eM];rw[qU,nz,hd,fin _ hr];simp
   |cons x r=>
    rw[hd] at hr;have Jh:(x.Name.toList==e.Name.toList)=false:=by
     simp only[nc,ne_eq];exact λe'=>VO x r hd (Bx.1 e')
    simp only[hk,hd,rH,Jh,uO,eM,bz,cS];rw[qU,nz,hd,fin _ hr];simp
  ·have hr:FN out (er m e):=by
    unfold er;rw[ah uO];refine⟨hso,tP h.nd e.Name,λn=>?_⟩;rw[AZ fS h.nd,←h.mem n]
    constructor
    ·rintro⟨y,hy,rfl⟩
     exact⟨Bc y hy,y,hy,rfl⟩
    ·rintro⟨_,y,hy,rfl⟩
     exact⟨y,hy,rfl⟩
   refine⟨_,?_,hr⟩;unfold fL;have hmF:decide (e.Name∈m.map (·.1))=false:=gy hm;have hkF:(e.Kind==1)=false:=by simpa using uO
   cases hd:out.dropWhile (qJ e.Name) with
   |nil=>
    simp only[hk,hd,List.head?_nil,uO,cS,hmF,hkF];rw[fin _ hr];simp
   |cons x r=>
    have Jh:(x.Name.toList==e.Name.toList)=false:=by
     simp only[nc,ne_eq];exact λe'=>VO x r hd (Bx.1 e')
    simp only[hk,hd,rH,Jh,bz,cS,uO,hmF,hkF];rw[fin _ hr];simp
end Go.Vl
namespace Go.Vl
open Go
open Classical in
noncomputable def Cs:List az→List (ByteArray×Bool)→Bool
 |[],_=>false
 |e::l,m=>!(e.Kind==1||decide (e.Name∈m.map (·.1)))||Cs l (er m e)
open Classical in
theorem EN {t:Int}:∀(l:List az) (out:List aB) (m:List (ByteArray×Bool)) (th FY:Bool),(∀e∈l,e.Time≤t)→FN out m→
  ∃kq,nM t l (out,th,FY)=(kq,(th&& !Cs l m),(FY&& !uI l m))∧FN kq (l.foldl er m)
 |[],out,m,th,FY,_,h=>⟨out,by simp[nM,Cs,uI],h⟩
 |e::l,out,m,th,FY,ht,h=>by
  obtain⟨o1,e1,h1⟩:=EL h e th FY;obtain⟨o2,e2,h2⟩:=EN l o1 (er m e) (th&&(e.Kind==1||decide (e.Name∈m.map (·.1)))) (FY&&decide ((er m e).length≤32)) (λx hx=>ht x (by simp[hx])) h1;refine⟨o2,?_,h2⟩;have hte:=ht e (by simp);rw[nM,ah (by omega),e1,e2];simp only[Cs,uI,jx,oH]
  constructor
  ·cases th <;> cases (e.Kind==1||decide (e.Name∈m.map (·.1))) <;> simp
  ·have:decide (32 < (er m e).length)= !decide ((er m e).length≤32):=by
    rw[← decide_not]
    congr 1
    simp
   rw[this];cases FY <;> cases decide ((er m e).length≤32) <;> simp
def zK (all:List (Int×ab)) (e:az):Bool:=e.Kind==1&&gj all e.dI != 3
open Classical in
theorem Kc {all:List (Int×ab)}:∀(l:List az) (m m2:List (ByteArray×Bool)),(∀e∈l,e.Kind=1∨e.Kind=2)→(m.map (·.1)).Nodup→(∀n,(br pE m2 n).getD false=true↔n∈m.map (·.1))→Pn all l m2=(l.any (zK all)||Cs l m)
 |[],m,m2,_,_,_=>by simp[Sa,Cs]
 |e::l,m,m2,hk,hn,h=>by
  have uO:=hk e (by simp);have A9:(∀n,(br pE (eD pE m2 e.Name (e.Kind==1)) n).getD false=true↔n∈(er m e).map (·.1)):=λn=>by
   obtain⟨g1,g2⟩:=iK fS m2 e.Name (e.Kind==1) n;unfold er;by_cases IJ:n=e.Name
   ·rw[g1 IJ]
    rcases uO with k |k
    ·rw[ai k]
     simp only[k,beq_self_eq_true,cg,true_iff];subst IJ;by_cases hm:e.Name∈m.map (·.1)
     ·rw[(fp fS m e.Name true).1 hm];exact hm
     ·rw[(fp fS m e.Name true).2 hm];simp
    ·rw[ah (by omega),AZ fS hn]
     simp[k,IJ]
   ·rw[g2 IJ,h n]
    rcases uO with k |k
    ·rw[ai k]
     by_cases hm:e.Name∈m.map (·.1)
     ·rw[(fp fS m e.Name true).1 hm]
     ·rw[(fp fS m e.Name true).2 hm]
      simp[IJ]
    ·rw[ah (by omega),AZ fS hn]
     simp[IJ]
  have sI:((er m e).map (·.1)).Nodup:=by
   unfold er;split
   ·by_cases hm:e.Name∈m.map (·.1)
    ·rw[(fp fS m e.Name true).1 hm];exact hn
    ·rw[(fp fS m e.Name true).2 hm,bV]
     refine dh.2 ⟨hn,by simp,λa ha b hb=>?_⟩;simp only[aW,cO,aD] at hb;subst hb;exact λe'=>hm (e'▸ha)
   ·exact tP hn e.Name
  rw[NT,Kc l (er m e) _ (λx hx=>hk x (by simp[hx])) sI A9,List.any_cons,Cs];have hm:decide (e.Name∈m.map (·.1))=(br pE m2 e.Name).getD false:=by
   have:=h e.Name;cases hg:(br pE m2 e.Name).getD false with
   |true=>rw[fD (this.1 hg)]
   |false=>rw[gy (λq=>by have:=this.2 q;rw[hg] at this;cases this)]
  unfold zC zK;rw[hm];rcases uO with k |k
  ·rw[k]
   generalize l.any _=A;generalize Cs l (er m e)=B;generalize (gj all e.dI != 3)=C;cases A <;> cases B <;> cases C <;> simp
  ·rw[k]
   generalize l.any _=A;generalize Cs l (er m e)=B;generalize ((br pE m2 e.Name).getD false)=C;cases A <;> cases B <;> cases C <;> simp
theorem yS (l:List ab) (id:Int):br cK (bM l) id=l.find? λo=>o.ID==id:=by
 induction l with
 |nil=>rfl
 |cons o l ih=>
  unfold bM br at ih ⊢;rw[aW,eJ,List.find?_cons];by_cases h:o.ID=id
  ·subst h
   rw[ai (by simp[cK])];simp
  ·rw[ah (by simp[cK];exact eN h)]
   have h2:(o.ID==id)=false:=by simpa using h
   rw[h2,←ih];simp only;cases eJ cK id (List.map (λo=>(o.ID,o)) l) <;> rfl
theorem Ee {l:List ab} (hl:l.length≤1000000) (id:Int):pt l id=some (match l.find? (λo=>o.ID==id) with |some o=>(o,true) |none=>(⟨0,0,[],[],0,[],ByteArray.empty,0⟩,false)):=by
 have key:∀(m i:Nat),i+m=l.length→iter (lf l id) (i:Int)=some (match (l.drop i).find? (λo=>o.ID==id) with |some o=>.inr (o,true) |none=>.inl ()):=λm=>by
  induction m with
  |zero=>
   intro i hi;have:i=l.length:=by omega
   subst this;rw[cx (aM _)];refine dP ?_;unfold lf;rw[ah (by simp)];rfl
  |succ m ih=>
   intro i hi;have ph:i < l.length:=by omega
   rw[bN ph,List.find?_cons];by_cases h:(l[i].ID==id)=true
   ·rw[h]
    refine dP ?_;unfold lf;rw[ai (by simp;omega),dj ph];simp only[aa];rw[ai h]
   ·have h':(l[i].ID==id)=false:=by simpa using h
    rw[h'];rw[fT (s':=((i+1:Nat):Int)) (by
     unfold lf;rw[ai (by simp;omega),dj ph];simp only[aa];rw[ah h,iI (by omega) (by omega)];rfl)]
    exact ih (i+1) (by omega)
 unfold pt;have:=key l.length 0 (by omega);rw[tf] at this;have h0:iter (lf l id) 0=_:=this;rw[h0];cases l.find? (λo=>o.ID==id) <;> rfl
theorem AJ {a0:ao} (hl:a0.aq.length≤1000000) (id:Int):nF a0 id=some (gj (bM a0.aq) id):=by
 unfold nF gj;rw[Ee hl,yS];cases a0.aq.find? (λo=>o.ID==id) <;> rfl
theorem O6 {a0:ao} (hl:a0.aq.length≤1000000) {o:ab} (h1:o.bd.length≤1000000) (h2:o.bf.length≤1000000):rN a0 o=some (mK (bM a0.aq) o):=by
 unfold rN mK;rw[gx o.bd (λx=>gj (bM a0.aq) x.ID==1||gj (bM a0.aq) x.ID==2) false (λi hi=>?_) ?_]
 ·by_cases hb:(o.bd.all λx=>gj (bM a0.aq) x.ID==1||gj (bM a0.aq) x.ID==2)=true
  ·rw[ai hb,hb]
   simp only[aa];rw[gx o.bf (λp=>gj (bM a0.aq) p==3) false (λi hi=>?_) ?_]
   ·by_cases pO:(o.bf.all λp=>gj (bM a0.aq) p==3)=true
    ·rw[ai pO,pO]
     simp only[aa,AJ hl];cases o.Kind != 3 <;> simp
    ·rw[ah pO]
     have:(o.bf.all λp=>gj (bM a0.aq) p==3)=false:=by simpa using pO
     rw[this];rfl
   ·unfold qd
    rw[ah (by simp)]
   ·unfold qd
    rw[ai (by simp;omega),dj hi,iI (by omega) (by omega)];simp only[aa,AJ hl,bne];by_cases hq:gj (bM a0.aq) o.bf[i]=3 <;> simp[hq]
  ·rw[ah hb]
   have:(o.bd.all λx=>gj (bM a0.aq) x.ID==1||gj (bM a0.aq) x.ID==2)=false:=by simpa using hb
   rw[this];rfl
 ·unfold qe
  rw[ah (by simp)]
 ·unfold qe
  rw[ai (by simp;omega),dj hi,iI (by omega) (by omega)];simp only[aa,AJ hl,bne];by_cases hq:gj (bM a0.aq) o.bd[i].ID=1 <;> by_cases hq2:gj (bM a0.aq) o.bd[i].ID=2 <;> simp[hq,hq2]
theorem Mh {a0:ao} (hl:a0.aC.length≤1000000) (hf:∀e∈a0.aC,e.Name.size≤9223372036854775807):qf a0=some (if a0.aC.any nn=true then 1 else 0):=by
 unfold qf;rw[gx a0.aC (λe=>!nn e) 1 (λi hi=>?_) ?_]
 ·have e:(a0.aC.all λe=>!nn e)= !a0.aC.any nn:=by rw[jY]
  rw[e];cases a0.aC.any nn <;> rfl
 ·unfold oY
  rw[ah (by simp)]
 ·unfold oY
  rw[ai (by simp;omega),dj hi,iI (by omega) (by omega)];simp only[aa];rw[Ed (hf _ (bC hi))];unfold nn;simp only[aa,bne];by_cases k1:a0.aC[i].Kind=1
  ·cases Jd a0.aC[i].Name <;> simp[k1]
  ·by_cases k2:a0.aC[i].Kind=2
   ·by_cases hc:a0.aC[i].dI=0 <;> cases Jd a0.aC[i].Name <;> simp[k2,hc]
   ·simp[k1,k2]
theorem JO {l:List az} (hl:l.length≤1000000):oM l=some (l.map λe=>⟨e.Kind,e.Name,e.dI,0⟩):=by
 unfold oM;have:=nR (body:=lL l) l (λs e=>s++[(⟨e.Kind,e.Name,e.dI,0⟩:az)]) (λs=>s) (λi s=>s.length=i) (λi hi s hs=>⟨?_,by simp[hs]⟩) (λs hs=>?_) [] rfl
 ·rw[this]
  have Xy:∀(l:List az) (s:List az),l.foldl (λs e=>s++[(⟨e.Kind,e.Name,e.dI,0⟩:az)]) s=s++l.map λe=>⟨e.Kind,e.Name,e.dI,0⟩:=λl=>by
   induction l with
   |nil=>intro s;simp
   |cons e l ih=>intro s;rw[ea,ih];simp
  rw[Xy];rfl
 ·unfold lL
  rw[ai (by simp;omega),dj hi];simp only[aa];rw[eV (by simp;omega),iI (by omega) (by omega)];rfl
 ·unfold lL
  rw[ah (by simp)]
end Go.Vl
namespace Go.Vl
open Go
theorem G0 {o:ab} (h1:o.bd.length≤1000000) (h2:o.bf.length≤1000000):rO o=some (fQ o):=by
 unfold rO fQ;have:=nR (body:=nG o) o.bd (λs x=>s++[x.ID]) (λs=>s) (λi s=>s.length=i) (λi hi s hs=>⟨?_,by simp[hs]⟩) (λs hs=>?_) [] rfl
 ·rw[this]
  have Xy:∀(l:List aB) (s:List Int),l.foldl (λs x=>s++[x.ID]) s=s++l.map (·.ID):=λl=>by
   induction l with
   |nil=>intro s;simp
   |cons e l ih=>intro s;rw[ea,ih];simp
  rw[Xy,di];simp only[aa];by_cases hk:o.Kind=3
  ·rw[ai (by simp[hk]),eV (by simp;omega)]
   simp only[aa];rw[eV (by simp;omega),ai hk];simp
  ·rw[ah (by simpa using hk),ah hk]
   simp
 ·unfold nG
  rw[ai (by simp;omega),dj hi];simp only[aa];rw[eV (by simp;omega),iI (by omega) (by omega)];rfl
 ·unfold nG
  rw[ah (by simp)]
def wi (S:List (Int×Bool)) (id:Int):Bool:=(br cK S id).getD false
theorem Ro {y:List Int} (hy:y.length≤3000000) (s4:Bool×Int×List (Int×Bool)) (b:Bool):iter (jm y s4) (b,0)=some (b&&y.all (wi s4.2.2)):=by
 have key:∀(m i:Nat),i+m=y.length→∀b:Bool,iter (jm y s4) (b,(i:Int))=some (b&&(y.drop i).all (wi s4.2.2)):=λm=>by
  induction m with
  |zero=>
   intro i hi b;have:i=y.length:=by omega
   subst this;rw[cx (aM _)];refine dP ?_;unfold jm;simp
  |succ m ih=>
   intro i hi b;have ph:i < y.length:=by omega
   rw[bN ph,List.all_cons];cases b with
   |false=>
    refine dP ?_;unfold jm;simp
   |true=>
    rw[fT (s':=(wi s4.2.2 y[i],((i+1:Nat):Int))) (by
     unfold jm;simp only[aa];rw[ai (by simp;omega),dj ph];simp only[aa];rw[iI (by omega) (by omega)];rfl),ih (i+1) (by omega)]
    cases wi s4.2.2 y[i] <;> simp
 have:=key y.length 0 (by omega) b;rw[tf] at this;exact this
def wA (s:Bool×List (Int×Bool)) (o:ab):Bool×List (Int×Bool):=if(!wi s.2 o.ID&&(fQ o).all (wi s.2))=true then(true,eD cK s.2 o.ID true) else s
structure SzO (l:List ab):Prop where
 n:l.length≤1000000
 o:∀o∈l,o.bd.length≤1000000∧o.bf.length≤1000000
theorem FK {o:ab} (h:o.bd.length≤1000000∧o.bf.length≤1000000):(fQ o).length≤3000000:=by
 unfold fQ;rw[bF,bq];split
 ·rw[cQ];omega
 ·simp;omega
theorem NJ {a0:ao} (hz:SzO a0.aq) (s:Bool×List (Int×Bool)):iter (kG a0) (s.1,0,s.2)=some (a0.aq.foldl wA s):=by
 have:=(CU (body:=kG a0) a0.aq (λ(i:Nat) (s:Bool×List (Int×Bool))=>(s.1,(i:Int),s.2)) wA (λs=>s) (λ_ _=>True) (λi hi s _=>⟨?_,trivial⟩) (λs _=>?_) s trivial).1
 ·exact this
 ·have hn:=hz.n
  have ho:=hz.o _ (bC hi);unfold kG;simp only;rw[ai (by simp;omega),dj hi];simp only[aa];rw[G0 ho.1 ho.2];simp only[aa];rw[Ro (FK ho)];simp only[aa];rw[iI (by omega) (by omega)];unfold wA;have e:(!(br cK s.2 a0.aq[i].ID).getD false)= !wi s.2 a0.aq[i].ID:=rfl;rw[e];split <;> rfl
 ·unfold kG
  rw[ah (by simp)]
structure GF (l:List ab) (S:List (Int×Bool)):Prop where
 nd:(S.map (·.1)).Nodup
 tt:∀q∈S,q.2=true
 sub:∀x∈S.map (·.1),∃o∈l,o.ID=x
 no:∀G:Int→Prop,wB (bM l) G→∀x∈S.map (·.1),¬G x
theorem GF.iff {l:List ab} {S:List (Int×Bool)} (h:GF l S) {id:Int}:wi S id=true↔id∈S.map (·.1):=by
 unfold wi
 constructor
 ·intro hg
  cases hq:br cK S id with
  |none=>rw[hq] at hg;cases hg
  |some v=>exact aG.2 ⟨_,lQ eB hq,rfl⟩
 ·intro hm
  obtain⟨q,hq,rfl⟩:=aG.1 hm;rw[qs eB h.nd (show (q.1,q.2)∈S from hq),h.tt q hq];rfl
theorem wX {o:ab} (hp:o.Kind≠3→o.bf=[]) {j:Int}:j∈fQ o↔j∈gp o:=by
 unfold fQ gp;by_cases hk:o.Kind=3
 ·rw[ai hk,ai hk]
  simp only[aQ,aZ,fE,td]
  constructor
  ·rintro(h |h |h)
   ·exact .inl (.inr h)
   ·exact .inr h
   ·exact .inl (.inl h)
  ·rintro((h |h) |h)
   ·exact .inr (.inr h)
   ·exact .inl h
   ·exact .inr (.inl h)
 ·rw[ah hk,ah hk,hp hk]
  simp
theorem GF.set {l:List ab} {S:List (Int×Bool)} (h:GF l S) {o:ab} (ho:o∈l) (hu:(l.map (·.ID)).Nodup) (hp:o.Kind≠3→o.bf=[]) (hn:wi S o.ID=false) (ha:(fQ o).all (wi S)=true):GF l (eD cK S o.ID true)∧(eD cK S o.ID true).length=S.length+1:=by
 have hm:o.ID∉S.map (·.1):=λq=>by have:=h.iff.2 q;rw[hn] at this;cases this
 rw[(fp eB S o.ID true).2 hm];refine⟨⟨?_,λq hq=>?_,λx hx=>?_,λG hG x hx=>?_⟩,by simp⟩
 ·rw[bV]
  refine dh.2 ⟨h.nd,by simp,λa ha b hb=>?_⟩;simp only[aW,cO,aD] at hb;subst hb;exact λe=>hm (e▸ha)
 ·rcases aQ.1 hq with hq |hq
  ·exact h.tt q hq
  ·rw[aD] at hq;subst hq;rfl
 ·rw[bV,aQ] at hx
  rcases hx with hx |hx
  ·exact h.sub x hx
  ·simp at hx;exact⟨o,ho,hx.symm⟩
 ·rw[bV,aQ] at hx
  rcases hx with hx |hx
  ·exact h.no G hG x hx
  ·simp at hx
   subst hx;intro hg;obtain⟨q',h1,h2,h3⟩:=hG (o.ID,o) (aG.2 ⟨o,ho,rfl⟩) hg;have:=bE.1 ha _ ((wX hp).2 h2);exact h.no G hG _ (h.iff.1 this) h3
theorem AP {l:List ab} (hu:(l.map (·.ID)).Nodup) (hp:∀o∈l,o.Kind≠3→o.bf=[]):∀(k:List ab),(∀o∈k,o∈l)→∀(s:Bool×List (Int×Bool)),GF l s.2→
  GF l (k.foldl wA s).2∧s.2.length≤(k.foldl wA s).2.length∧((k.foldl wA s).1=true→s.1=true∨s.2.length < (k.foldl wA s).2.length)∧((k.foldl wA s).1=false→s.1=false∧(k.foldl wA s).2=s.2∧∀o∈k,wi s.2 o.ID=true∨∃j∈fQ o,wi s.2 j=false)
 |[],_,s,h=>⟨h,aM _,λh=>.inl h,λh=>⟨h,rfl,λo ho=>by cases ho⟩⟩
 |o::k,hk,s,h=>by
  rw[ea];unfold wA;by_cases hc:(!wi s.2 o.ID&&(fQ o).all (wi s.2))=true
  ·rw[ai hc]
   simp only[aR,dF] at hc;obtain⟨h1,h2⟩:=h.set (hk o (by simp)) hu (hp o (hk o (by simp))) hc.1 hc.2;obtain⟨g1,g2,g3,g4⟩:=AP hu hp k (λx hx=>hk x (by simp[hx])) (true,eD cK s.2 o.ID true) h1;have e:k.foldl wA (true,eD cK s.2 o.ID true)=k.foldl (λs o=>if(!wi s.2 o.ID&&(fQ o).all (wi s.2))=true then(true,eD cK s.2 o.ID true) else s) (true,eD cK s.2 o.ID true):=rfl;rw[← e];simp only at g2 g3 g4;refine⟨g1,by omega,λ_=>.inr (by omega),λhf=>?_⟩;exact absurd (g4 hf).1 (by simp)
  ·rw[ah hc]
   obtain⟨g1,g2,g3,g4⟩:=AP hu hp k (λx hx=>hk x (by simp[hx])) s h;have e:k.foldl wA s=k.foldl (λs o=>if(!wi s.2 o.ID&&(fQ o).all (wi s.2))=true then(true,eD cK s.2 o.ID true) else s) s:=rfl;rw[← e];refine⟨g1,g2,g3,λhf=>?_⟩;obtain⟨f1,f2,f3⟩:=g4 hf;refine⟨f1,f2,λx hx=>?_⟩;rcases aZ.1 hx with rfl |hx
   ·simp only[aR,dF,not_and,gH] at hc
    cases hs:wi s.2 x.ID with
    |true=>exact .inl rfl
    |false=>
     right
     have:=hc hs;rw[List.all_eq_false] at this;obtain⟨j,hj,S8⟩:=this;exact⟨j,hj,by simpa using S8⟩
   ·exact f3 x hx
theorem EJ {α:Type}:∀{l m:List α},l.Nodup→l ⊆ m→l.length≤m.length
 |[],_,_,_=>cE _
 |x::l,m,h1,h2=>by
  rw[dZ] at h1;obtain⟨s,t,rfl⟩:=List.append_of_mem (h2 (iC ..));have:l ⊆ s++t:=λy hy=>by
   rcases aQ.1 (h2 (cW _ hy)) with h |h
   ·exact jE _ h
   ·rcases aZ.1 h with rfl |h
    ·exact absurd hy h1.1
    ·exact eI _ h
  have:=EJ h1.2 this;simp only[bF,cQ] at this ⊢;omega
theorem Vc {a0:ao} (hz:SzO a0.aq) (hu:(a0.aq.map (·.ID)).Nodup) (hp:∀o∈a0.aq,o.Kind≠3→o.bf=[]) (hx:∀o∈a0.aq,∀j∈fQ o,∃p∈a0.aq,p.ID=j):qg a0=some (Ai (bM a0.aq)):=by
 have sub:∀S,GF a0.aq S→S.length≤a0.aq.length:=λS h=>by
  have h1:S.map (·.1) ⊆ a0.aq.map (·.ID):=λx hx=>by
   obtain⟨o,ho,rfl⟩:=h.sub x hx;exact qM ho
  have:=EJ h.nd h1;simpa using this
 have key:∀(m:Nat) (S:List (Int×Bool)),GF a0.aq S→a0.aq.length - S.length≤m→∃S',iter (fG a0) (true,S)=some S'∧GF a0.aq S'∧∀o∈a0.aq,wi S' o.ID=true∨∃j∈fQ o,wi S' j=false:=λm=>by
  induction m with
  |zero=>
   intro S h hm;obtain⟨g1,g2,g3,g4⟩:=AP hu hp a0.aq (λo ho=>ho) (false,S) h;have h1:=sub _ h;have h2:=sub _ g1;have hb:iter (fG a0) (true,S)=iter (fG a0) (a0.aq.foldl wA (false,S)):=fT (by
    unfold fG;rw[ai rfl];have:=NJ hz (false,S);simp only at this ⊢;rw[this];rfl)
   cases hf:(a0.aq.foldl wA (false,S)).1 with
   |true=>
    rcases g3 hf with h3 |h3
    ·cases h3
    ·simp only at h3;omega
   |false=>
    obtain⟨_,f2,f3⟩:=g4 hf;refine⟨S,?_,h,f3⟩;rw[hb];refine dP ?_;unfold fG;rw[hf,ah (by decide),f2]
  |succ m ih=>
   intro S h hm;obtain⟨g1,g2,g3,g4⟩:=AP hu hp a0.aq (λo ho=>ho) (false,S) h;have hb:iter (fG a0) (true,S)=iter (fG a0) (a0.aq.foldl wA (false,S)):=fT (by
    unfold fG;rw[ai rfl];have:=NJ hz (false,S);simp only at this ⊢;rw[this];rfl)
   cases hf:(a0.aq.foldl wA (false,S)).1 with
   |true=>
    rcases g3 hf with h3 |h3
    ·cases h3
    ·simp only at h3
     obtain⟨S',e1,e2⟩:=ih (a0.aq.foldl wA (false,S)).2 g1 (by omega);refine⟨S',?_,e2⟩;rw[hb,show a0.aq.foldl wA (false,S)=(true,(a0.aq.foldl wA (false,S)).2) from Prod.ext hf rfl];exact e1
   |false=>
    obtain⟨_,f2,f3⟩:=g4 hf;refine⟨S,?_,h,f3⟩;rw[hb];refine dP ?_;unfold fG;rw[hf,ah (by decide),f2]
 obtain⟨S,e,h,VX⟩:=key a0.aq.length [] ⟨by simp,(λq hq=>by cases hq),(λx hx=>by simp at hx),(λG _ x hx=>by simp at hx)⟩ (by simp);unfold qg;rw[e];simp only[aa,ba];have sI:((bM a0.aq).map (·.1)).Nodup:=by rw[tu];exact hu
 rw[← Lh sI (m:=(bM a0.aq).filter λq=>!wi S q.1) fB (λG hG q hq hg=>?_) (λq hq=>?_)]
 ·congr 1
  have h1:((bM a0.aq).filter λq=>!wi S q.1).length+((bM a0.aq).filter λq=>wi S q.1).length=a0.aq.length:=by
   have hl:(bM a0.aq).length=a0.aq.length:=by simp[bM]
   rw[← hl];generalize bM a0.aq=L
   induction L with
   |nil=>rfl
   |cons x L ih=>
    rw[ez,ez,cQ];cases wi S x.1 <;> simp <;> omega
  have h2:(((bM a0.aq).filter λq=>wi S q.1).map (·.1)).Perm (S.map (·.1)):=by
   refine(pT (sI.sublist (fB.map _)) h.nd).2 λx=>?_
   constructor
   ·intro hx
    obtain⟨q,hq,rfl⟩:=aG.1 hx;exact h.iff.1 (bP.1 hq).2
   ·intro hx
    obtain⟨o,ho,rfl⟩:=h.sub x hx;exact aG.2 ⟨(o.ID,o),bP.2 ⟨aG.2 ⟨o,ho,rfl⟩,h.iff.2 hx⟩,rfl⟩
  have h3:=h2.length_eq;rw[bq,bq] at h3;simp only[gV];omega
 ·refine bP.2 ⟨hq,?_⟩
  cases hs:wi S q.1 with
  |false=>rfl
  |true=>exact absurd hg (h.no G hG _ (h.iff.1 hs))
 ·obtain⟨hq,hs⟩:=bP.1 hq
  obtain⟨o,ho,rfl⟩:=aG.1 hq;simp only[dF] at hs;rcases VX o ho with h1 |⟨j,hj,h1⟩
  ·rw[hs] at h1;cases h1
  ·obtain⟨p,hp1,hp2⟩:=hx o ho j hj
   refine Hl.2 ⟨(p.ID,p),bP.2 ⟨aG.2 ⟨p,hp1,rfl⟩,by rw[hp2,h1];rfl⟩,?_⟩;rw[hp2];exact(wX (hp o ho)).1 hj
end Go.Vl
