/- ref15.Valid answers as history.Valid, in plain words. Conditions: none. -/
import Derived.Test.YtjnflahicimmlaaGreatDoorJq1
import Derived.Test.YtjnflahicimmlaaGreatDoorJwS
set_option linter.unusedSimpArgs false
set_option linter.unusedVariables false
namespace Go.Vl
open Go
theorem KA:∀(l:List ab) (M:List (Int×Bool)),(M.map (·.1)).Nodup→(∀q∈M,q.2=true)→
  xb (λ(M:List (Int×Bool)) (o:ab)=>if wi M o.ID=true then(.inl (.inr 7):(Unit ⊕ Int) ⊕ List (Int×Bool)) else .inr (eD cK M o.ID true)) (λ_=>.inl ()) l M=if(M.map (·.1)++l.map (·.ID)).Nodup then .inl () else .inr 7
 |[],M,hn,_=>by simp[xb,hn]
 |o::l,M,hn,ht=>by
  have hi:wi M o.ID=true↔o.ID∈M.map (·.1):=by
   unfold wi
   constructor
   ·intro hg
    cases hq:br cK M o.ID with
    |none=>rw[hq] at hg;cases hg
    |some v=>exact aG.2 ⟨_,lQ eB hq,rfl⟩
   ·intro hm
    obtain⟨q,hq,e⟩:=aG.1 hm;rw[← e,qs eB hn (show (q.1,q.2)∈M from hq),ht q hq];rfl
  rw[xb];by_cases h:wi M o.ID=true
  ·rw[ai h,ah]
   intro sI;rw[aW] at sI;have:=(dh.1 sI).2.2 o.ID (hi.1 h) o.ID (by simp);exact this rfl
  ·rw[ah h]
   have hm:o.ID∉M.map (·.1):=λq=>h (hi.2 q)
   have hk:=(fp eB M o.ID true).2 hm;simp only;rw[KA l (eD cK M o.ID true) (by
    rw[hk,bV];refine dh.2 ⟨hn,by simp,λa ha b hb=>?_⟩;simp only[aW,cO,aD] at hb;subst hb;exact λe=>hm (e▸ha)) (λq hq=>by
    rw[hk] at hq;rcases aQ.1 hq with hq |hq
    ·exact ht q hq
    ·rw[aD] at hq;subst hq;rfl),hk]
   simp
theorem U6 {a0:ao} (hl:a0.aq.length≤1000000):iter (lM a0) (0,[])=some (if (a0.aq.map (·.ID)).Nodup then .inl () else .inr 7):=by
 rw[zU (body:=lM a0) a0.aq (λ(M:List (Int×Bool)) (o:ab)=>if wi M o.ID=true then(.inl (.inr 7):(Unit ⊕ Int) ⊕ List (Int×Bool)) else .inr (eD cK M o.ID true)) (λ_=>.inl ()) (λi hi M=>?_) (λM=>?_),KA _ _ (by simp) (λq hq=>by cases hq)]
 ·simp
 ·unfold lM
  rw[ai (by simp;omega),dj hi];simp only[aa];unfold wi;rw[iI (by omega) (by omega)];split <;> rfl
 ·unfold lM
  rw[ah (by simp)]
theorem wU:∀(l:List az) (m:List (ByteArray×Bool)),Cs (l.map λe=>⟨e.Kind,e.Name,e.dI,0⟩) m=Cs l m∧uI (l.map λe=>⟨e.Kind,e.Name,e.dI,0⟩) m=uI l m
 |[],m=>⟨rfl,rfl⟩
 |e::l,m=>by
  have e1:er m ⟨e.Kind,e.Name,e.dI,0⟩=er m e:=rfl;obtain⟨h1,h2⟩:=wU l (er m e);simp only[aW,Cs,uI,e1,h1,h2,and_self]
open Classical in
theorem O5 {a0:ao} (hl:a0.aC.length≤1000000):iter (ig a0) 1=some (if xM a0.aC=true then .inl () else .inr 11):=by
 have key:∀(m i:Nat),1≤i→i+m=a0.aC.length→iter (ig a0) (i:Int)=some (if ∀j,i≤j→∀(h:j < a0.aC.length),(a0.aC[j - 1]'(by omega)).Time≤a0.aC[j].Time then .inl () else .inr 11):=λm=>by
  induction m with
  |zero=>
   intro i h1 hi;rw[ai (λj hj h=>by omega)];refine dP ?_;unfold ig;rw[ah (by simp;omega)]
  |succ m ih=>
   intro i h1 hi;have ph:i < a0.aC.length:=by omega
   have hw:IntKind.i64.wrap ((i:Int) - 1)=((i - 1:Nat):Int):=by rw[iI (by omega) (by omega)];omega
   by_cases hc:a0.aC[i].Time < (a0.aC[i - 1]'(by omega)).Time
   ·rw[ah (λg=>by have:=g i (aM _) ph;omega)]
    refine dP ?_;unfold ig;rw[ai (by simp;omega),dj ph,hw,dj (show i - 1 < a0.aC.length by omega)];simp only[aa];rw[ai (by simpa using hc)]
   ·rw[fT (s':=((i+1:Nat):Int)) (by
     unfold ig;rw[ai (by simp;omega),dj ph,hw,dj (show i - 1 < a0.aC.length by omega)];simp only[aa];rw[ah (by simpa using hc),iI (by omega) (by omega)];rfl),ih (i+1) (by omega) (by omega)]
    congr 1
    refine ite_congr (propext ⟨λg j hj h=>?_,λg j hj h=>g j (by omega) h⟩) (λ_=>rfl) (λ_=>rfl);rcases Nat.lt_or_eq_of_le hj with h3 |h3
    ·exact g j h3 h
    ·subst h3;omega
 have hP:(∀j,1≤j→∀(h:j < a0.aC.length),(a0.aC[j - 1]'(by omega)).Time≤a0.aC[j].Time)↔a0.aC.Pairwise λx y=>x.Time≤y.Time:=by
  constructor
  ·intro g
   rw[eh];intro i j hi hj rY
   induction j with
   |zero=>omega
   |succ j ih=>
    have g1:=g (j+1) (by omega) hj;simp only[sh] at g1;rcases eS.1 rY with h3 |h3
    ·have:=ih (by omega) h3;omega
    ·subst h3;exact g1
  ·intro g j hj h
   exact eh.1 g (j - 1) j (by omega) h (by omega)
 by_cases h0:a0.aC.length=0
 ·have:a0.aC=[]:=aI h0
  rw[dP (e:=.inl ()) (by unfold ig;rw[this];rfl),this];simp[xM]
 ·have:=key (a0.aC.length - 1) 1 (aM _) (by omega)
  have h1:iter (ig a0) 1=_:=this;rw[h1];unfold xM;by_cases hc:a0.aC.Pairwise λx y=>x.Time≤y.Time
  ·rw[ai (hP.2 hc),fD hc];rfl
  ·rw[ah (λg=>hc (hP.1 g)),gy hc];rfl
theorem O2 {a0:ao} (iA:a0.aC.length≤300) (Bc:a0.aq.length≤400) (hob:∀o∈a0.aq,uo o=0) (hw:a0.aC.any nn=false) (hu:(a0.aq.map (·.ID)).Nodup):
  rM a0=some (if (a0.aq.any (λo=>!mK (bM a0.aq) o)||Pn (bM a0.aq) a0.aC [])=true then 6 else if Ai (bM a0.aq)=true then 8 else if a0.aC.any xa=true then 2 else if xM a0.aC=false then 11 else if uI a0.aC []=true then 3 else 0):=by
 have gS:∀o∈a0.aq,o.bd.length≤1000000∧o.bf.length≤1000000:=λo ho=>by
  have:=(pJ.1 (hob o ho)).2.1;omega
 have Xp:∀e∈a0.aC,e.Kind=1∨e.Kind=2:=λe he=>by
  have:=fk.1 hw e he;unfold nn at this;by_cases k1:e.Kind=1
  ·exact .inl k1
  ·by_cases k2:e.Kind=2
   ·exact .inr k2
   ·simp[k1,k2] at this
 have sj:=Kc (all:=bM a0.aq) a0.aC [] [] Xp (by simp) (λn=>by simp[br,eJ]);unfold rM;rw[gx a0.aq (mK (bM a0.aq)) 6 (λi hi=>?_) ?_]
 ·have e1:a0.aq.all (mK (bM a0.aq))= !a0.aq.any (λo=>!mK (bM a0.aq) o):=by
   rw[jY];simp
  rw[e1];cases h5:a0.aq.any (λo=>!mK (bM a0.aq) o) with
  |true=>rfl
  |false=>
   simp only[pU,eM,aa,hZ];rw[gx a0.aC (λe=>!zK (bM a0.aq) e) 6 (λi hi=>?_) ?_]
   ·have e2:(a0.aC.all λe=>!zK (bM a0.aq) e)= !a0.aC.any (zK (bM a0.aq)):=by rw[jY]
    rw[e2,sj];cases h6:a0.aC.any (zK (bM a0.aq)) with
    |true=>rfl
    |false=>
     simp only[pU,eM,aa,hZ];rw[JO (by omega)];simp only[aa];have hn:ja (⟨[],a0.aC.map λe=>⟨e.Kind,e.Name,e.dI,0⟩⟩:ao) 0=some (nM 0 (a0.aC.map λe=>⟨e.Kind,e.Name,e.dI,0⟩) ([],true,true)):=by
      unfold ja;rw[eV (by simp;omega)];rfl
     rw[hn];obtain⟨kq,e3,_⟩:=EN (t:=0) (a0.aC.map λe=>⟨e.Kind,e.Name,e.dI,0⟩) [] [] true true (λe he=>by obtain⟨e',_,rfl⟩:=aG.1 he;exact su _) ⟨List.Pairwise.nil,by simp,λn=>by simp⟩;rw[e3,(wU a0.aC []).1,(wU a0.aC []).2];simp only[aa,kY];cases h7:Cs a0.aC [] with
     |true=>rfl
     |false=>
      simp only[pU,Bool.not_true,bz,cS];rw[Vc ⟨by omega,gS⟩ hu (λo ho hk=>?_) (λo ho j hj=>?_)]
      ·simp only[aa]
       cases h8:Ai (bM a0.aq) with
       |true=>rfl
       |false=>
        simp only[bz,cS];rw[gx a0.aC (λe=>!xa e) 2 (λi hi=>?_) ?_]
        ·have e4:(a0.aC.all λe=>!xa e)= !a0.aC.any xa:=by rw[jY]
         rw[e4];cases h9:a0.aC.any xa with
         |true=>rfl
         |false=>
          simp only[pU,eM,aa,bz,cS];rw[O5 (by omega)];cases h10:xM a0.aC with
          |false=>rfl
          |true=>
           simp only[eM,aa,Bool.true_eq_false,cS];cases uI a0.aC [] <;> rfl
        ·unfold qa
         rw[ah (by simp)]
        ·unfold qa
         rw[ai (by simp;omega),dj hi,iI (by omega) (by omega)];simp only[aa];unfold xa;by_cases c1:a0.aC[i].Time < 0
         ·simp[c1]
         ·by_cases c2:1099511627776 < a0.aC[i].Time <;> simp[c1,c2]
      ·have hr:=(pJ.1 (hob o ho)).2.2
       unfold vb at hr;by_cases k1:o.Kind=1
       ·rw[ai k1] at hr
        unfold pw at hr;simp at hr;exact hr.2.2.1
       ·rw[ah k1] at hr
        by_cases k2:o.Kind=2
        ·rw[ai k2] at hr
         unfold pw at hr;simp at hr;exact hr.2.1.2.1
        ·rw[ah k2,ah hk] at hr;cases hr
      ·have h1:=fk.1 h5 o ho
       simp only[dF,Bool.not_eq_false] at h1;have hk:gj (bM a0.aq) j≠0:=by
        unfold mK at h1;simp only[aR,bE,cj,ew,bne_iff_ne] at h1;obtain⟨g1,g2,g3⟩:=h1;unfold fQ at hj;rcases aQ.1 hj with hj |hj
        ·obtain⟨x,hx,rfl⟩:=aG.1 hj
         rcases g1 x hx with e |e <;> rw[e] <;> decide
        ·split at hj
         ·rename_i k3
          rcases aZ.1 hj with rfl |hj
          ·rcases g3 with e |e
           ·exact absurd k3 e
           ·rw[e];decide
          ·rw[g2 j hj];decide
         ·cases hj
       unfold gj at hk;rw[yS] at hk;cases hf:a0.aq.find? (λo=>o.ID==j) with
       |none=>rw[hf] at hk;exact absurd rfl hk
       |some p=>exact⟨p,List.mem_of_find?_eq_some hf,by have:=List.find?_some hf;simpa using this⟩
   ·unfold qb
    rw[ah (by simp)]
   ·unfold qb
    rw[ai (by simp;omega),dj hi,iI (by omega) (by omega)];simp only[aa,AJ (show a0.aq.length≤1000000 by omega)];unfold zK;by_cases k1:a0.aC[i].Kind=1
    ·by_cases k2:gj (bM a0.aq) a0.aC[i].dI=3 <;> simp[k1,k2]
    ·simp[k1]
 ·unfold qc
  rw[ah (by simp)]
 ·have ho:=gS _ (bC hi)
  unfold qc;rw[ai (by simp;omega),dj hi,iI (by omega) (by omega)];simp only[aa];rw[O6 (by omega) ho.1 ho.2];simp only[aa];cases mK (bM a0.aq) a0.aq[i] <;> rfl
theorem G6 {a0:ao} (hf:FP a0):mh a0=some (tC a0):=by
 unfold mh tC;by_cases h1:400 < a0.aq.length∨300 < a0.aC.length
 ·rw[ai h1]
  have:(decide (400 < ((a0.aq).length:Int))||decide (300 < ((a0.aC).length:Int)))=true:=by
   simp only[cj,bg];omega
  rw[this];rfl
 ·rw[ah h1]
  have:(decide (400 < ((a0.aq).length:Int))||decide (300 < ((a0.aC).length:Int)))=false:=by
   simp only[fm,jV];omega
  rw[this];simp only[aa,bz,cS];rw[gx a0.aq (λo=>!(uo o != 0)) 1 (λi hi=>?_) ?_]
  ·have e1:(a0.aq.all λo=>!(uo o != 0))= !a0.aq.any (λo=>uo o != 0):=by rw[jY]
   rw[e1];cases h2:a0.aq.any (λo=>uo o != 0) with
   |true=>rfl
   |false=>
    simp only[pU,eM,aa,hZ];rw[Mh (by omega) hf.2];cases h3:a0.aC.any nn with
    |true=>rfl
    |false=>
     simp only[bz,cS,aa];rw[ah (by decide),U6 (by omega)];by_cases h4:(a0.aq.map (·.ID)).Nodup
     ·rw[ai h4,ah (not_not_intro h4)]
      simp only[aa];rw[O2 (by omega) (by omega) (λo ho=>by
       have:=fk.1 h2 o ho;simpa using this) h3 h4]
      rfl
     ·rw[ah h4,ai h4];rfl
  ·unfold qh
   rw[ah (by simp)]
  ·unfold qh
   rw[ai (by simp;omega),dj hi,iI (by omega) (by omega)];simp only[aa];rw[O3 (hf.1 _ (bC hi))];simp only[aa];cases uo a0.aq[i] != 0 <;> rfl
end Go.Vl
namespace Go.Vl
open Go
theorem P7 {out:List aB} (h:Qn out) (e:az) (s:Bool×Bool) (x:aB):x∈(fL e (out,s)).1↔(e.Kind=1∧x=⟨e.Name,e.dI⟩)∨(x∈out∧x.Name≠e.Name):=by
 have re:=mV (p:=qJ e.Name) (l:=out);have hk:out[lu e.Name out]? =(out.dropWhile (qJ e.Name)).head? :=by rw[← nz,List.head?_drop]
 have MS:out.drop (lu e.Name out+1)=(out.dropWhile (qJ e.Name)).tail:=by rw[← nz,List.tail_drop]
 have sV:∀v,out.set (lu e.Name out) v=out.takeWhile (qJ e.Name)++(out.dropWhile (qJ e.Name)).set 0 v:=λv=>by
  rw[show out.set (lu e.Name out) v=(out.takeWhile (qJ e.Name)++out.dropWhile (qJ e.Name)).set (out.takeWhile (qJ e.Name)).length v from by rw[re];rfl,List.set_append_right _ _ (aM _),Nat.sub_self]
 have rX:x∈out↔x∈out.takeWhile (qJ e.Name)∨x∈out.dropWhile (qJ e.Name):=by
  conv=>lhs;rw[← re]
  exact aQ
 have hAn:∀y∈out.takeWhile (qJ e.Name),y.Name≠e.Name:=λy hy e'=>by
  have:=HV _ _ y hy;unfold qJ at this;rw[e',yA] at this;cases this
 rcases Rl (n:=e.Name) h with ⟨z,r,hd,hz⟩ |⟨Bc,VO⟩
 ·have Jh:(z.Name.toList==e.Name.toList)=true:=by rw[hz];simp
  have hsr:∀y∈r,y.Name≠e.Name:=λy hy e'=>by
   have hs:Qn (out.dropWhile (qJ e.Name)):=List.Pairwise.sublist (tg _) h;rw[hd] at hs;have:=(jr.1 hs).1 y hy;rw[e',hz,yA] at this;cases this
  rw[rX,hd];unfold fL;simp only[hk,hd,rH,Jh,eM];by_cases uO:e.Kind=1
  ·simp only[uO,eM,oH]
   rw[sV,hd,List.set_cons_zero,aQ,aZ,hz]
   constructor
   ·rintro(h1 |rfl |h1)
    ·exact .inr ⟨.inl h1,hAn x h1⟩
    ·exact .inl rfl
    ·exact .inr ⟨.inr (cW _ h1),hsr x h1⟩
   ·rintro(rfl |⟨h1 |h1,h2⟩)
    ·exact .inr (.inl rfl)
    ·exact .inl h1
    ·rcases aZ.1 h1 with rfl |h1
     ·exact absurd hz h2
     ·exact .inr (.inr h1)
  ·simp only[uO,cS,false_and,false_or]
   rw[qU,MS,hd,List.tail_cons,aQ]
   constructor
   ·rintro(h1 |h1)
    ·exact⟨.inl h1,hAn x h1⟩
    ·exact⟨.inr (cW _ h1),hsr x h1⟩
   ·rintro⟨h1 |h1,h2⟩
    ·exact .inl h1
    ·rcases aZ.1 h1 with rfl |h1
     ·exact absurd hz h2
     ·exact .inr h1
 ·have hr:(fL e (out,s)).1=if e.Kind=1 then out.takeWhile (qJ e.Name)++([⟨e.Name,e.dI⟩]++out.dropWhile (qJ e.Name)) else out:=by
   unfold fL;cases hd:out.dropWhile (qJ e.Name) with
   |nil=>
    simp only[hk,hd,List.head?_nil];rw[qU,nz,hd];split <;> rfl
   |cons z r=>
    have Jh:(z.Name.toList==e.Name.toList)=false:=by
     simp only[nc,ne_eq];exact λe'=>VO z r hd (Bx.1 e')
    simp only[hk,hd,rH,Jh,bz,cS];rw[qU,nz,hd];split <;> rfl
  rw[hr];by_cases uO:e.Kind=1
  ·rw[ai uO,aQ,aQ,aD,rX]
   simp only[uO,oH]
   constructor
   ·rintro(h1 |rfl |h1)
    ·exact .inr ⟨.inl h1,hAn x h1⟩
    ·exact .inl rfl
    ·exact .inr ⟨.inr h1,Bc x (rX.2 (.inr h1))⟩
   ·rintro(rfl |⟨h1 |h1,h2⟩)
    ·exact .inr (.inl rfl)
    ·exact .inl h1
    ·exact .inr (.inr h1)
  ·rw[ah uO]
   simp only[uO,false_and,false_or];exact⟨λh1=>⟨h1,Bc x h1⟩,λh1=>h1.1⟩
theorem Pr {m:List (ByteArray×Int)} (hn:(m.map (·.1)).Nodup) (k:ByteArray) (v:Int) (q:ByteArray×Int):q∈eD pE m k v↔q=(k,v)∨(q∈m∧q.1≠k):=by
 have II:((eD pE m k v).map (·.1)).Nodup:=by
  by_cases hm:k∈m.map (·.1)
  ·rw[(fp fS m k v).1 hm];exact hn
  ·rw[(fp fS m k v).2 hm,bV]
   refine dh.2 ⟨hn,by simp,λa ha b hb=>?_⟩;simp only[aW,cO,aD] at hb;subst hb;exact λe=>hm (e▸ha)
 obtain⟨g1,g2⟩:=iK fS m k v q.1
 constructor
 ·intro h
  have h1:=qs fS II (show (q.1,q.2)∈_ from h);by_cases e:q.1=k
  ·rw[g1 e] at h1
   exact .inl (Prod.ext e (af h1).symm)
  ·rw[g2 e] at h1
   exact .inr ⟨lQ fS h1,e⟩
 ·rintro(rfl |⟨h1,e⟩)
  ·exact lQ fS (g1 rfl)
  ·have h2:=qs fS hn (show (q.1,q.2)∈m from h1)
   rw[← g2 e] at h2;exact lQ fS h2
theorem Pu {m:List (ByteArray×Int)} (hn:(m.map (·.1)).Nodup) (k:ByteArray) (q:ByteArray×Int):q∈wG pE m k↔q∈m∧q.1≠k:=by
 have II:=tP (e:=pE) hn k;obtain⟨g1,g2⟩:=B8 fS hn k q.1
 constructor
 ·intro h
  have h1:=qs fS II (show (q.1,q.2)∈_ from h);by_cases e:q.1=k
  ·rw[g1 e] at h1;cases h1
  ·exact⟨(ye m k).subset h,e⟩
 ·rintro⟨h1,e⟩
  have h2:=qs fS hn (show (q.1,q.2)∈m from h1);rw[← g2 e] at h2;exact lQ fS h2
structure Qo (out:List aB) (c:List (ByteArray×Int)):Prop where
 so:Qn out
 nd:(c.map (·.1)).Nodup
 mem:∀x,x∈out↔(x.Name,x.ID)∈c
theorem Qo.step {out:List aB} {c:List (ByteArray×Int)} (h:Qo out c) (e:az) (th FY:Bool):∃kq th' agX,fL e (out,th,FY)=(kq,th',agX)∧Qo kq (oW c e):=by
 obtain⟨kq,e1,h1⟩:=EL (m:=out.map λx=>(x.Name,true)) (out:=out) ⟨h.so,by
  rw[kU];show(out.map (·.Name)).Nodup;rw[List.Nodup,List.pairwise_map];exact h.so.imp (λ{a b} PR e=>(by rw[e,yA] at PR;cases PR)),λn=>by
  rw[kU];show _↔n∈out.map (·.Name);rw[aG]⟩ e th FY
 refine⟨kq,_,_,e1,h1.so,?_,λx=>?_⟩
 ·unfold oW
  split
  ·by_cases hm:e.Name∈c.map (·.1)
   ·rw[(fp fS c e.Name e.dI).1 hm];exact h.nd
   ·rw[(fp fS c e.Name e.dI).2 hm,bV]
    refine dh.2 ⟨h.nd,by simp,λa ha b hb=>?_⟩;simp only[aW,cO,aD] at hb;subst hb;exact λe=>hm (e▸ha)
  ·exact tP h.nd e.Name
 ·have h2:=P7 h.so e (th,FY) x
  rw[e1] at h2;rw[h2];unfold oW;by_cases hk:e.Kind=1
  ·rw[ai hk,Pr h.nd,h.mem]
   simp only[hk,oH]
   constructor
   ·rintro(rfl |h3)
    ·exact .inl rfl
    ·exact .inr h3
   ·rintro(h3 |h3)
    ·left
     cases x;simp only[jx] at h3;rw[h3.1,h3.2]
    ·exact .inr h3
  ·rw[ah hk,Pu h.nd,h.mem]
   simp only[hk,false_and,false_or]
theorem EM (t:Int):∀(l:List az) (out:List aB) (c:List (ByteArray×Int)) (th FY:Bool),Qo out c→Qo (nM t l (out,th,FY)).1 (pF t c l)
 |[],out,c,th,FY,h=>h
 |e::l,out,c,th,FY,h=>by
  simp only[nM,pF];by_cases ht:t < e.Time
  ·rw[ai ht,ai ht];exact h
  ·rw[ah ht,ah ht]
   obtain⟨o',t',f',e1,h1⟩:=h.step e th FY;rw[e1];exact EM t l o' (oW c e) t' f' h1
theorem Rm:Qo [] []:=⟨List.Pairwise.nil,by simp,λx=>by simp⟩
theorem M9 {x y:aB}:decide (QC y x < 0)=Op.bytesLess y.Name.toList x.Name.toList:=by
 unfold QC Ll;cases Op.bytesLess y.Name.toList x.Name.toList with
 |true=>rfl
 |false=>
  simp only[bz,cS];split <;> rfl
theorem DO {a b:List UInt8} (h:Op.bytesLess a b=true):Op.bytesLess b a=false:=by
 rw[Aq] at h;simp only[dF,fm] at h;exact h.1
theorem Nf {a b:List UInt8} (h:Op.bytesLess a b=false):Op.bytesLess b a=true∨b=a:=by
 rw[Aq] at h;simp only[Bool.not_eq_false',cj,ew] at h;exact h
def chO (l:List ab) (id:Int):List Int:=fQ (lV l id)
inductive Jc (l:List ab) (roots:List Int):Int→Prop
 |root {x:Int} (h:x∈roots):Jc l roots x
 |step {x j:Int} (h:Jc l roots x) (hj:j∈chO l x):Jc l roots j
theorem Jc.mono {l:List ab} {r r':List Int} (h:∀x∈r,Jc l r' x) {x:Int} (hx:Jc l r x):Jc l r' x:=by
 induction hx with
 |root hr=>exact h _ hr
 |step _ hj ih=>exact .step ih hj
structure UF (l:List ab) (roots:List Int) (M M':List (Int×Bool)):Prop where
 nd:(M'.map (·.1)).Nodup
 tt:∀q∈M',q.2=true
 sub:∀x∈M.map (·.1),x∈M'.map (·.1)
 rt:∀x∈roots,x∈M'.map (·.1)
 snd:∀x∈M'.map (·.1),x∈M.map (·.1)∨Jc l roots x
 cls:∀x∈M'.map (·.1),x∉M.map (·.1)→∀j∈chO l x,j∈M'.map (·.1)
theorem UF.nil {l:List ab} {M:List (Int×Bool)} (h1:(M.map (·.1)).Nodup) (h2:∀q∈M,q.2=true):UF l [] M M:=⟨h1,h2,λ_ h=>h,(λx h=>by cases h),λ_ h=>.inl h,λx h1 h2=>absurd h1 h2⟩
theorem UF.comp {l:List ab} {j:Int} {js:List Int} {M M1 M':List (Int×Bool)} (h1:UF l [j] M M1) (h2:UF l js M1 M'):UF l (j::js) M M' where
 nd:=h2.nd
 tt:=h2.tt
 sub:=λx hx=>h2.sub x (h1.sub x hx)
 rt:=λx hx=>by
  rcases aZ.1 hx with rfl |hx
  ·exact h2.sub _ (h1.rt _ (by simp))
  ·exact h2.rt x hx
 snd:=λx hx=>by
  rcases h2.snd x hx with h |h
  ·rcases h1.snd x h with h |h
   ·exact .inl h
   ·exact .inr (h.mono λy hy=>.root (by simp at hy;simp[hy]))
  ·exact .inr (h.mono λy hy=>.root (cW _ hy))
 cls:=λx hx hn j' hj=>by
  by_cases hm:x∈M1.map (·.1)
  ·exact h2.sub _ (h1.cls x hm hn j' hj)
  ·exact h2.cls x hx hm j' hj
theorem uK {M:List (Int×Bool)} (hn:(M.map (·.1)).Nodup) (ht:∀q∈M,q.2=true) {id:Int}:(br cK M id).getD false=true↔id∈M.map (·.1):=by
 constructor
 ·intro hg
  cases hq:br cK M id with
  |none=>rw[hq] at hg;cases hg
  |some v=>exact aG.2 ⟨_,lQ eB hq,rfl⟩
 ·intro hm
  obtain⟨q,hq,rfl⟩:=aG.1 hm;rw[qs eB hn (show (q.1,q.2)∈M from hq),ht q hq];rfl
theorem Ft {l:List ab} {f:List (Int×Bool)→Int→Option (List (Int×Bool))} (hf:∀(M:List (Int×Bool)) (j:Int) (M':List (Int×Bool)),(M.map (·.1)).Nodup→(∀q∈M,q.2=true)→f M j=some M'→UF l [j] M M'):
  ∀(js:List Int) (M M':List (Int×Bool)),(M.map (·.1)).Nodup→(∀q∈M,q.2=true)→js.foldlM f M=some M'→UF l js M M'
 |[],M,M',h1,h2,h=>by
  simp only[List.foldlM_nil,Option.pure_def,ba] at h;subst h;exact UF.nil h1 h2
 |j::js,M,M',h1,h2,h=>by
  rw[ux] at h;obtain⟨M1,e1,e2⟩:=jW.1 h;have d1:=hf M j M1 h1 h2 e1;exact d1.comp (Ft hf js M1 M' d1.nd d1.tt e2)
theorem yO {l:List ab}:∀(n:Nat) (M:List (Int×Bool)) (id:Int) (M':List (Int×Bool)),(M.map (·.1)).Nodup→(∀q∈M,q.2=true)→nJ l n id M=some M'→UF l [id] M M'
 |0,M,id,M',_,_,h=>by simp[nJ] at h
 |n+1,M,id,M',h1,h2,h=>by
  unfold nJ at h;by_cases hs:(br cK M id).getD false=true
  ·rw[ai hs] at h
   cases h;exact⟨h1,h2,λ_ h=>h,(λx hx=>by simp at hx;subst hx;exact(uK h1 h2).1 hs),λ_ h=>.inl h,λx h1 h2=>absurd h1 h2⟩
  ·rw[ah hs] at h
   have hm:id∉M.map (·.1):=λq=>hs ((uK h1 h2).2 q)
   have hk:=(fp eB M id true).2 hm;have hn0:((eD cK M id true).map (·.1)).Nodup:=by
    rw[hk,bV];refine dh.2 ⟨h1,by simp,λa ha b hb=>?_⟩;simp only[aW,cO,aD] at hb;subst hb;exact λe=>hm (e▸ha)
   have ht0:∀q∈eD cK M id true,q.2=true:=λq hq=>by
    rw[hk] at hq;rcases aQ.1 hq with hq |hq
    ·exact h2 q hq
    ·rw[aD] at hq;subst hq;rfl
   have d:=Ft (l:=l) (f:=λM j=>nJ l n j M) (λM j M' a b c=>yO n M j M' a b c) (fQ (lV l id)) _ M' hn0 ht0 h;have hk0:∀x,x∈(eD cK M id true).map (·.1)↔x∈M.map (·.1)∨x=id:=λx=>by
    rw[hk,bV,aQ];simp
   refine⟨d.nd,d.tt,λx hx=>d.sub x ((hk0 x).2 (.inl hx)),λx hx=>?_,λx hx=>?_,λx hx hn j hj=>?_⟩
   ·simp at hx;subst hx
    exact d.sub _ ((hk0 _).2 (.inr rfl))
   ·rcases d.snd x hx with h |h
    ·rcases(hk0 x).1 h with h |rfl
     ·exact .inl h
     ·exact .inr (.root (by simp))
    ·exact .inr (h.mono λy hy=>.step (.root (x:=id) (by simp)) hy)
   ·by_cases hid:x=id
    ·subst hid
     exact d.rt j hj
    ·exact d.cls x hx (λq=>by
      rcases(hk0 x).1 q with q |q
      ·exact hn q
      ·exact hid q) j hj
def Ef (l:List ab) (M:List (Int×Bool)):Nat:=(l.filter λo=>!(br cK M o.ID).getD false).length
theorem IW {α:Type} {p q:α→Bool}:∀{l:List α},(∀x∈l,p x=true→q x=true)→(l.filter p).length≤(l.filter q).length
 |[],_=>aM _
 |x::l,h=>by
  have ih:=IW (p:=p) (q:=q) (l:=l) λy hy=>h y (cW _ hy)
  rw[ez,ez];cases hp:p x with
  |true=>rw[h x (by simp) hp];simp;exact ih
  |false=>
   cases q x <;> simp <;> omega
theorem Ou {α:Type} {p q:α→Bool}:∀{l:List α},(∀x∈l,p x=true→q x=true)→(∃x∈l,p x=false∧q x=true)→(l.filter p).length < (l.filter q).length
 |[],_,⟨x,hx,_⟩=>by cases hx
 |x::l,h,⟨y,hy,h1,h2⟩=>by
  have hle:=IW (p:=p) (q:=q) (l:=l) λy hy=>h y (cW _ hy)
  rw[ez,ez];rcases aZ.1 hy with rfl |hy
  ·rw[h1,h2];simp;omega
  ·have ih:=Ou (p:=p) (q:=q) (l:=l) (λy hy=>h y (cW _ hy)) ⟨y,hy,h1,h2⟩
   cases hp:p x with
   |true=>rw[h x (by simp) hp];simp;exact ih
   |false=>cases q x <;> simp <;> omega
theorem Rh {l:List ab} {M M':List (Int×Bool)} (hn:(M.map (·.1)).Nodup) (ht:∀q∈M,q.2=true) (qI:(M'.map (·.1)).Nodup) (Up:∀q∈M',q.2=true) (hs:∀x∈M.map (·.1),x∈M'.map (·.1)):Ef l M'≤Ef l M:=by
 refine IW λo _ h=>?_
 cases hc:(br cK M o.ID).getD false with
 |false=>rfl
 |true=>
  have:=(uK qI Up).2 (hs _ ((uK hn ht).1 hc));rw[this] at h;cases h
theorem GZ {l:List ab} (hX:∀o∈l,∀j∈fQ o,∃p∈l,p.ID=j) (hF:∀o∈l,∃p∈l,lV l o.ID=p):∀(n:Nat) (M:List (Int×Bool)) (id:Int),(∃p∈l,p.ID=id)→(M.map (·.1)).Nodup→(∀q∈M,q.2=true)→Ef l M < n→∃M',nJ l n id M=some M'
 |0,_,_,_,_,_,h=>by omega
 |n+1,M,id,hid,h1,h2,h=>by
  unfold nJ;by_cases hs:(br cK M id).getD false=true
  ·exact⟨M,ai hs⟩
  ·rw[ah hs]
   have hm:id∉M.map (·.1):=λq=>hs ((uK h1 h2).2 q)
   have hk:=(fp eB M id true).2 hm;have hn0:((eD cK M id true).map (·.1)).Nodup:=by
    rw[hk,bV];refine dh.2 ⟨h1,by simp,λa ha b hb=>?_⟩;simp only[aW,cO,aD] at hb;subst hb;exact λe=>hm (e▸ha)
   have ht0:∀q∈eD cK M id true,q.2=true:=λq hq=>by
    rw[hk] at hq;rcases aQ.1 hq with hq |hq
    ·exact h2 q hq
    ·rw[aD] at hq;subst hq;rfl
   have hr:Ef l (eD cK M id true) < n:=by
    obtain⟨p,hp,e⟩:=hid;have:Ef l (eD cK M id true) < Ef l M:=by
     refine Ou (λo _ ho=>?_) ⟨p,hp,?_,?_⟩
     ·obtain⟨g1,g2⟩:=iK eB M id true o.ID
      by_cases FW:o.ID=id
      ·rw[g1 FW] at ho;cases ho
      ·rw[g2 FW] at ho;exact ho
     ·rw[(iK eB M id true p.ID).1 e];rfl
     ·rw[e];simpa using hs
    omega
   have key:∀(js:List Int),(∀j∈js,∃p∈l,p.ID=j)→∀(M:List (Int×Bool)),(M.map (·.1)).Nodup→(∀q∈M,q.2=true)→Ef l M < n→∃M',js.foldlM (λM j=>nJ l n j M) M=some M':=λjs=>by
    induction js with
    |nil=>intro _ M _ _ _;exact⟨M,rfl⟩
    |cons j js ih=>
     intro hj M a b c;obtain⟨M1,e1⟩:=GZ hX hF n M j (hj j (by simp)) a b c;have d:=yO n M j M1 a b e1;have:=Rh (l:=l) a b d.nd d.tt d.sub;obtain⟨M2,e2⟩:=ih (λx hx=>hj x (by simp[hx])) M1 d.nd d.tt (by omega);exact⟨M2,by rw[ux,e1];exact e2⟩
   refine key _ (λj hj=>?_) _ hn0 ht0 hr;obtain⟨p,hp,e⟩:=hid;obtain⟨p',hp',e'⟩:=hF p hp;rw[e] at e';rw[e'] at hj;exact hX p' hp' j hj
end Go.Vl
namespace Go.Vl
open Go
theorem NK {o:ab} (h:uo o=0) (hk:o.Kind≠3):o.bf=[]:=by
 have hr:=(pJ.1 h).2.2;unfold vb at hr;by_cases k1:o.Kind=1
 ·rw[ai k1] at hr
  unfold pw at hr;simp at hr;exact hr.2.2.1
 ·rw[ah k1] at hr
  by_cases k2:o.Kind=2
  ·rw[ai k2] at hr
   unfold pw at hr;simp at hr;exact hr.2.1.2.1
  ·rw[ah k2,ah hk] at hr;cases hr
theorem L0 {a b:List Int} (ha:a.Pairwise (·≤·)) (hb:b.Pairwise (·≤·)) (na:a.Nodup) (nb:b.Nodup) (h:∀x,x∈a↔x∈b):a=b:=
 ri (le:=λx y:Int=>x≤y) (λx y _ _ h1 h2=>by omega) ha hb ((pT na nb).2 h)
theorem Z0 {out:List Int} (hs:out.Pairwise (·≤·)) (hl:out.length≤1000000) (i:Int) (o:ab):∃k:Nat,k≤out.length∧iter (gL (i,out) o) (out.length:Int)=some (k:Int)∧(∀x∈out.take k,x≤o.ID)∧∀x∈out.drop k,o.ID < x:=by
 have key:∀n:Nat,n≤out.length→(∀x∈out.drop n,o.ID < x)→∃k:Nat,k≤out.length∧iter (gL (i,out) o) (n:Int)=some (k:Int)∧(∀x∈out.take k,x≤o.ID)∧∀x∈out.drop k,o.ID < x:=λn=>by
  induction n with
  |zero=>
   intro _ hd;refine⟨0,by omega,dP ?_,by simp,hd⟩;unfold gL;rw[ah (by simp)];rfl
  |succ n ih=>
   intro hn hd;have sj:n < out.length:=by omega
   have hw:IntKind.i64.wrap (((n+1:Nat):Int) - 1)=(n:Int):=by rw[iI (by omega) (by omega)];omega
   by_cases hc:o.ID < out[n]
   ·obtain⟨k,h1,h2,h3⟩:=ih (by omega) (λx hx=>by
     rw[bN sj] at hx;rcases aZ.1 hx with rfl |hx
     ·exact hc
     ·exact hd x hx)
    refine⟨k,h1,?_,h3⟩;rw[← h2];refine fT ?_;unfold gL;rw[ai (by simp <;> omega),hw,eV (by simp;omega),dj sj];simp only[aa];rw[fD hc,ai rfl]
   ·refine⟨n+1,hn,dP ?_,λx hx=>?_,hd⟩
    ·unfold gL
     rw[ai (by simp <;> omega),hw,eV (by simp;omega),dj sj];simp only[aa];rw[gy hc,ah (by decide)]
    ·obtain⟨j,hj,rfl⟩:=cu hx
     rw[List.getElem_take];have wm:j < n+1:=by simp at hj;omega
     rcases eS.1 wm with h3 |h3
     ·have:=eh.1 hs j n (by omega) sj h3
      omega
     ·subst h3;omega
 exact key out.length (aM _) (by simp)
theorem ZZ {a0:ao} (hl:a0.aq.length≤400) (M:List (Int×Bool)):∃out,kH a0 M=some out∧out.Pairwise (·≤·)∧out.Perm ((a0.aq.filter λo=>(br cK M o.ID).getD false).map (·.ID)):=by
 have key:∀(m i:Nat) (out:List Int),i+m=a0.aq.length→out.Pairwise (·≤·)→out.length≤i→∃kq,iter (gM a0 M) ((i:Int),out)=some kq∧kq.Pairwise (·≤·)∧kq.Perm (out++((a0.aq.drop i).filter λo=>(br cK M o.ID).getD false).map (·.ID)):=λm=>by
  induction m with
  |zero=>
   intro i out hi hs ho;have:i=a0.aq.length:=by omega
   subst this;refine⟨out,dP ?_,hs,?_⟩
   ·unfold gM
    rw[ah (by simp)]
   ·rw[cx (aM _)];simp
  |succ m ih=>
   intro i out hi hs ho;have ph:i < a0.aq.length:=by omega
   rw[bN ph,ez];by_cases hc:(br cK M a0.aq[i].ID).getD false=true
   ·rw[hc]
    obtain⟨k,h1,h2,h3,h4⟩:=Z0 hs (by omega) (i:Int) a0.aq[i];have Te:(out.drop k).take (out.length - k)=out.drop k:=fP (by simp);have PG:(out.take k++([a0.aq[i].ID]++out.drop k)).Pairwise (·≤·):=by
     rw[gv,jo,jr];refine⟨hs.sublist (List.take_sublist ..),⟨λx hx=>by have:=h4 x hx;omega,hs.sublist (List.drop_sublist ..)⟩,λx hx y hy=>?_⟩;have:=h3 x hx;rcases aZ.1 hy with rfl |hy
     ·exact this
     ·have:=h4 y hy;omega
    have hp:(out.take k++([a0.aq[i].ID]++out.drop k)).Perm (a0.aq[i].ID::out):=by
     rw[jo];refine(nj).trans ?_;rw[fw]
    obtain⟨kq,e1,e2,e3⟩:=ih (i+1) (out.take k++([a0.aq[i].ID]++out.drop k)) (by omega) PG (by have:=hp.length_eq;simp at this ⊢;omega);refine⟨kq,?_,e2,e3.trans ?_⟩
    ·rw[← e1]
     refine fT ?_;unfold gM;rw[ai (by simp;omega),dj ph];simp only[aa];rw[ah (by rw[hc];decide),h2];simp only[aa,eu];rw[eV (by omega)];simp only[aa];rw[eV (by omega)];simp only[aa];rw[eV (by rw[Te];simp;omega)];simp only[aa];rw[eV (by omega)];simp only[aa];rw[eV (by rw[Te];simp;omega)];simp only[aa];rw[Te,iI (by omega) (by omega)]
     rfl
    ·rw[ai rfl,aW]
     refine(hp.append_right _).trans ?_;exact(nj).symm
   ·have wP:(br cK M a0.aq[i].ID).getD false=false:=by simpa using hc
    rw[wP];obtain⟨kq,e1,e2,e3⟩:=ih (i+1) out (by omega) hs (by omega);refine⟨kq,?_,e2,by rw[ah (by decide)];exact e3⟩;rw[← e1];refine fT ?_;unfold gM;rw[ai (by simp;omega),dj ph];simp only[aa];rw[ai (by rw[wP];decide),iI (by omega) (by omega)]
    rfl
 obtain⟨out,e1,e2,e3⟩:=key a0.aq.length 0 [] (by omega) List.Pairwise.nil (by simp);have Zv:iter (gM a0 M) (0,[])=some out:=e1;unfold kH;rw[Zv];exact⟨out,rfl,e2,by simpa using e3⟩
theorem Wq {a0:ao} (hl:a0.aq.length≤400) (hu:(a0.aq.map (·.ID)).Nodup) {M:List (Int×Bool)} (hn:(M.map (·.1)).Nodup) (ht:∀q∈M,q.2=true) (xo:∀x∈M.map (·.1),∃o∈a0.aq,o.ID=x):∃out,kH a0 M=some out∧out.Pairwise (·≤·)∧out.Nodup∧∀x,x∈out↔x∈M.map (·.1):=by
 obtain⟨out,e1,e2,e3⟩:=ZZ hl M;refine⟨out,e1,e2,e3.nodup_iff.2 (hu.sublist (fB.map _)),λx=>?_⟩;rw[e3.mem_iff,aG]
 constructor
 ·rintro⟨o,ho,rfl⟩
  exact(uK hn ht).1 (bP.1 ho).2
 ·intro hx
  obtain⟨o,ho,rfl⟩:=xo x hx;exact⟨o,bP.2 ⟨ho,(uK hn ht).2 hx⟩,rfl⟩
theorem KV (l:List ab) (id:Int):lV l id=(br cK (bM l) id).getD ⟨0,0,[],[],0,[],ByteArray.empty,0⟩:=by rw[yS];rfl
section
variable {a0:ao} (V:qB a0)
include V
theorem qB.TI {id j:Int}:j∈chO a0.aq id↔j∈Mz (bM a0.aq) id:=by
 unfold chO Mz;rw[KV];refine wX λhk=>?_
 cases hg:br cK (bM a0.aq) id with
 |none=>rfl
 |some o=>
  rw[hg] at hk;exact NK (V.ob o (vF hg).1) hk
theorem qB.Tp {roots kM:List Int} (h:∀x,x∈roots↔x∈kM) {x:Int}:Jc a0.aq roots x↔DG (bM a0.aq) kM x:=by
 constructor
 ·intro hx
  induction hx with
  |root hr=>exact .O1 ((h _).1 hr)
  |step _ hj ih=>exact .step ih (V.TI.1 hj)
 ·intro hx
  induction hx with
  |O1 hr=>exact .root ((h _).2 hr)
  |step _ hj ih=>exact .step ih (V.TI.2 hj)
theorem qB.roots (t:Int):∃r th FY,ja a0 t=some (r,th,FY)∧∀x,x∈r.map (·.ID)↔x∈fA a0 t:=by
 have iA:=V.ne;refine⟨(nM t a0.aC ([],true,true)).1,(nM t a0.aC ([],true,true)).2.1,(nM t a0.aC ([],true,true)).2.2,?_,λx=>?_⟩
 ·unfold ja
  rw[eV (by omega)];rfl
 ·have h:=EM t a0.aC [] [] true true Rm
  unfold fA;rw[aG,aG]
  constructor
  ·rintro⟨y,hy,rfl⟩
   exact⟨_,(h.mem y).1 hy,rfl⟩
  ·rintro⟨q,hq,rfl⟩
   exact⟨⟨q.1,q.2⟩,(h.mem ⟨q.1,q.2⟩).2 hq,rfl⟩
theorem qB.at_ (t:Int):∃m,vE a0 t=some m∧Qp (bM a0.aq) (fA a0 t) m:=by
 obtain⟨r,th,FY,e1,hr⟩:=V.roots t;have Bc:=V.no;have lU:∀n,ZY a0.aq n r=(r.map (·.ID)).foldlM (λM j=>nJ a0.aq n j M) []:=λn=>by
  unfold ZY;rw[List.foldlM_map]
 have acf:∀n m,ZY a0.aq n r=some m→Qp (bM a0.aq) (fA a0 t) m:=λn m h=>by
  rw[lU] at h;have d:=Ft (l:=a0.aq) (f:=λM j=>nJ a0.aq n j M) (λM j M' a b c=>yO n M j M' a b c) (r.map (·.ID)) [] m (by simp) (λq hq=>by cases hq) h;refine⟨d.nd,d.tt,λx=>?_⟩;rw[← V.Tp hr]
  constructor
  ·intro hx
   rcases d.snd x hx with h |h
   ·simp at h
   ·exact h
  ·intro hx
   induction hx with
   |root h=>exact d.rt _ h
   |step _ hj ih=>exact d.cls _ ih (by simp) _ hj
 have hX:∀o∈a0.aq,∀j∈fQ o,∃p∈a0.aq,p.ID=j:=λo ho j hj=>V.named ho ((wX λhk=>NK (V.ob o ho) hk).1 hj)
 have hF:∀o∈a0.aq,∃p∈a0.aq,lV a0.aq o.ID=p:=λo ho=>⟨o,ho,by rw[KV,V.get ho];rfl⟩
 have VH:∃m,ZY a0.aq (a0.aq.length+1) r=some m:=by
  rw[lU];have key:∀(js:List Int),(∀j∈js,∃p∈a0.aq,p.ID=j)→∀(M:List (Int×Bool)),(M.map (·.1)).Nodup→(∀q∈M,q.2=true)→∃M',js.foldlM (λM j=>nJ a0.aq (a0.aq.length+1) j M) M=some M':=λjs=>by
   induction js with
   |nil=>intro _ M _ _;exact⟨M,rfl⟩
   |cons j js ih=>
    intro hj M a b;obtain⟨M1,e1⟩:=GZ hX hF (a0.aq.length+1) M j (hj j (by simp)) a b (Nat.lt_succ_of_le (fX _ _));have d:=yO _ M j M1 a b e1;obtain⟨M2,e2⟩:=ih (λx hx=>hj x (by simp[hx])) M1 d.nd d.tt;exact⟨M2,by rw[ux,e1];exact e2⟩
  exact key _ (λj hj=>by
   obtain⟨p,hp,e,_⟩:=V.kM ((hr j).1 hj);exact⟨p,hp,e⟩) [] (by simp) (λq hq=>by cases hq)
 unfold vE;rw[e1];simp only[aa];have hex:∃n m,ZY a0.aq n r=some m:=⟨_,VH⟩;rw[eV ⟨by omega,λo ho=>by have:=V.obj ho;omega⟩];simp only[aa];rw[dif_pos hex];exact⟨_,rfl,acf _ _ (de (de hex))⟩
end
end Go.Vl
namespace Go.Vl
open Go
def qy (t:Int) (y:List (Int×Bool)) (F:List (Int×Int)) (o:ab):List (Int×Int):=if(!(br cK F o.ID).isSome&&(br cK y o.ID).getD false)=true then eD cK F o.ID t else F
theorem Ts {a0:ao} (hl:a0.aq.length≤400) (y:List (Int×Bool)) (e:az) (F:List (Int×Int)):iter (lO a0 y e) (0,F)=some (a0.aq.foldl (qy e.Time y) F):=by
 refine nR (body:=lO a0 y e) a0.aq (qy e.Time y) (λs=>s) (λ_ _=>True) (λi hi s _=>⟨?_,trivial⟩) (λs _=>?_) F trivial
 ·unfold lO
  rw[ai (by simp;omega),dj hi];simp only[aa];rw[iI (by omega) (by omega)];unfold qy;split <;> rfl
 ·unfold lO
  rw[ah (by simp)]
open Classical in
theorem IU {t:Int} {y:List (Int×Bool)} {id:Int}:∀(l:List ab) (F:List (Int×Int)),(F.map (·.1)).Nodup→((l.foldl (qy t y) F).map (·.1)).Nodup∧br cK (l.foldl (qy t y) F) id=match br cK F id with |some u=>some u |none=>if(∃o∈l,o.ID=id)∧(br cK y id).getD false=true then some t else none
 |[],F,hn=>⟨hn,by cases h:br cK F id <;> simp[h]⟩
 |o::l,F,hn=>by
  rw[ea];have IJ:((qy t y F o).map (·.1)).Nodup:=by
   unfold qy;split
   ·by_cases hm:o.ID∈F.map (·.1)
    ·rw[(fp eB F o.ID t).1 hm];exact hn
    ·rw[(fp eB F o.ID t).2 hm,bV]
     refine dh.2 ⟨hn,by simp,λa ha b hb=>?_⟩;simp only[aW,cO,aD] at hb;subst hb;exact λe=>hm (e▸ha)
   ·exact hn
  obtain⟨h1,h2⟩:=IU l (qy t y F o) IJ;refine⟨h1,?_⟩;rw[h2];have h3:br cK (qy t y F o) id=match br cK F id with |some u=>some u |none=>if o.ID=id∧(br cK y id).getD false=true then some t else none:=by
   unfold qy;obtain⟨g1,g2⟩:=iK eB F o.ID t id;by_cases hid:id=o.ID
   ·subst hid
    cases hg:br cK F o.ID with
    |some u=>simp[hg]
    |none=>
     cases hy:(br cK y o.ID).getD false with
     |true=>
      simp only[Option.isSome_none,pU,kY,eM,oH];exact g1 rfl
     |false=>simp[hg]
   ·have DA:¬o.ID=id:=λe=>hid e.symm
    split
    ·rw[g2 hid]
     cases br cK F id <;> simp[DA]
    ·cases br cK F id <;> simp[DA]
  rw[h3];cases br cK F id with
  |some u=>rfl
  |none=>
   simp only;by_cases c1:o.ID=id∧(br cK y id).getD false=true
   ·rw[ai c1]
    simp only;rw[ai ⟨⟨o,iC ..,c1.1⟩,c1.2⟩]
   ·rw[ah c1]
    simp only;refine ite_congr (propext ?_) (λ_=>rfl) (λ_=>rfl)
    constructor
    ·rintro⟨⟨p,hp,e⟩,hy⟩
     exact⟨⟨p,by simp[hp],e⟩,hy⟩
    ·rintro⟨⟨p,hp,e⟩,hy⟩
     rcases aZ.1 hp with rfl |hp
     ·exact absurd ⟨e,hy⟩ c1
     ·exact⟨⟨p,hp,e⟩,hy⟩
def xI (p:Int→Bool) (S:List (Int×Bool)) (o:ab):List (Int×Bool):=if p o.ID=true then eD cK S o.ID true else S
theorem Jz {p:Int→Bool}:∀(l:List ab) (S:List (Int×Bool)),(S.map (·.1)).Nodup→(∀q∈S,q.2=true)→
  ((l.foldl (xI p) S).map (·.1)).Nodup∧(∀q∈l.foldl (xI p) S,q.2=true)∧∀x,x∈(l.foldl (xI p) S).map (·.1)↔x∈S.map (·.1)∨((∃o∈l,o.ID=x)∧p x=true)
 |[],S,h1,h2=>⟨h1,h2,λx=>by simp⟩
 |o::l,S,h1,h2=>by
  rw[ea];have hs:((xI p S o).map (·.1)).Nodup∧(∀q∈xI p S o,q.2=true)∧∀x,x∈(xI p S o).map (·.1)↔x∈S.map (·.1)∨(o.ID=x∧p x=true):=by
   unfold xI;by_cases hp:p o.ID=true
   ·rw[ai hp]
    obtain⟨m1,m2⟩:=fp eB S o.ID true;by_cases hm:o.ID∈S.map (·.1)
    ·refine⟨by rw[m1 hm];exact h1,λq hq=>?_,λx=>?_⟩
     ·have II:((eD cK S o.ID true).map (·.1)).Nodup:=by rw[m1 hm];exact h1
      have hq2:=qs eB II (show (q.1,q.2)∈_ from hq);obtain⟨g1,g2⟩:=iK eB S o.ID true q.1;by_cases e:q.1=o.ID
      ·rw[g1 e] at hq2;exact(af hq2).symm
      ·rw[g2 e] at hq2
       exact h2 _ (lQ eB hq2)
     ·rw[m1 hm]
      constructor
      ·exact .inl
      ·rintro(h |⟨rfl,_⟩)
       ·exact h
       ·exact hm
    ·rw[m2 hm]
     refine⟨?_,λq hq=>?_,λx=>?_⟩
     ·rw[bV]
      refine dh.2 ⟨h1,by simp,λa ha b hb=>?_⟩;simp only[aW,cO,aD] at hb;subst hb;exact λe=>hm (e▸ha)
     ·rcases aQ.1 hq with hq |hq
      ·exact h2 q hq
      ·rw[aD] at hq;subst hq;rfl
     ·rw[bV,aQ]
      simp only[aW,cO,aD]
      constructor
      ·rintro(h |rfl)
       ·exact .inl h
       ·exact .inr ⟨rfl,hp⟩
      ·rintro(h |⟨rfl,_⟩)
       ·exact .inl h
       ·exact .inr rfl
   ·rw[ah hp]
    refine⟨h1,h2,λx=>⟨.inl,?_⟩⟩
    rintro(h |⟨rfl,h⟩)
    ·exact h
    ·exact absurd h hp
  obtain⟨i1,i2,i3⟩:=Jz l (xI p S o) hs.1 hs.2.1;refine⟨i1,i2,λx=>?_⟩;rw[i3,hs.2.2]
  constructor
  ·rintro((h |⟨rfl,h⟩) |⟨⟨q,hq,e⟩,h⟩)
   ·exact .inl h
   ·exact .inr ⟨⟨o,by simp,rfl⟩,h⟩
   ·exact .inr ⟨⟨q,by simp[hq],e⟩,h⟩
  ·rintro(h |⟨⟨q,hq,e⟩,h⟩)
   ·exact .inl (.inl h)
   ·rcases aZ.1 hq with rfl |hq
    ·exact .inl (.inr ⟨e,h⟩)
    ·exact .inr ⟨⟨q,hq,e⟩,h⟩
section
variable {a0:ao} (V:qB a0)
include V
open Classical in
theorem qB.first:∃F,pI a0=some F∧sb a0 (bM a0.aq) a0.aC.length F:=by
 have iA:=V.ne;have Bc:=V.no;have key:∀(m i:Nat) (F:List (Int×Int)),i+m=a0.aC.length→sb a0 (bM a0.aq) i F→∃F',iter (jH a0) ((i:Int),F)=some F'∧sb a0 (bM a0.aq) a0.aC.length F':=λm=>by
  induction m with
  |zero=>
   intro i F hi h;have:i=a0.aC.length:=by omega
   subst this;refine⟨F,dP ?_,h⟩;unfold jH;rw[ah (by simp)]
  |succ m ih=>
   intro i F hi h;have ph:i < a0.aC.length:=by omega
   have he:a0.aC[i]? =some a0.aC[i]:=ae ph;have PG:(if (decide ((IntKind.i64.wrap ((i:Int)+1)) < ((a0.aC).length:Int)))=true then
    (Go.Vl.idx a0.aC (IntKind.i64.wrap ((i:Int)+1))).bind λwo=>some (wo.Time==a0.aC[i].Time) else some false)=some (gz a0.aC i a0.aC[i].Time):=by
    rw[iI (by omega) (by omega)];unfold gz;by_cases iN:i+1 < a0.aC.length
    ·rw[ai (by simp;omega),show((i:Int)+1)=((i+1:Nat):Int) by omega,dj iN,ae iN];rfl
    ·rw[ah (by simp;omega),fy (by omega)]
   cases hs:gz a0.aC i a0.aC[i].Time with
   |true=>
    obtain⟨F',e1,e2⟩:=ih (i+1) F (by omega) (BQ he hs h);refine⟨F',?_,e2⟩;rw[← e1];refine fT ?_;unfold jH;rw[ai (by simp;omega),dj ph];simp only[aa];rw[PG,hs];simp only[aa];rw[ai (by trivial),iI (by omega) (by omega)];rfl
   |false=>
    obtain⟨y,hy,hr⟩:=V.at_ a0.aC[i].Time;have hF:sb a0 (bM a0.aq) (i+1) (a0.aq.foldl (qy a0.aC[i].Time y) F):=by
     refine⟨(IU (id:=0) a0.aq F h.nd).1,λid=>?_⟩;rw[(IU (id:=id) a0.aq F h.nd).2,h.eq];simp only[iP,he];cases iP a0 (bM a0.aq) i id with
     |some u=>rfl
     |none=>
      simp only;refine ite_congr (propext ?_) (λ_=>rfl) (λ_=>rfl);rw[uK hr.nd hr.tt,hr.iff]
      constructor
      ·rintro⟨_,h⟩;exact⟨hs,h⟩
      ·rintro⟨_,h⟩;exact⟨V.Rs h,h⟩
    obtain⟨F',e1,e2⟩:=ih (i+1) _ (by omega) hF;refine⟨F',?_,e2⟩;rw[← e1];refine fT ?_;unfold jH;rw[ai (by simp;omega),dj ph];simp only[aa];rw[PG,hs];simp only[aa];rw[ah (by decide),hy];simp only[aa];rw[Ts V.no];simp only[aa];rw[iI (by omega) (by omega)];rfl
 obtain⟨F,e1,e2⟩:=key a0.aC.length 0 [] (by omega) (BP _ _);have Zv:iter (jH a0) (0,[])=some F:=e1;unfold pI;rw[Zv];exact⟨F,rfl,e2⟩
theorem qB.X2 (t:Int):∃l,nH a0 t=some l∧l.Pairwise (·≤·)∧l.Nodup∧∀x,x∈l↔∃u,iP a0 (bM a0.aq) a0.aC.length x=some u∧u≤t:=by
 obtain⟨F,e1,hF⟩:=V.first
 have Bc:=V.no;have e2:iter (lN a0 F t) (0,[])=some (a0.aq.foldl (xI λx=>(br cK F x).isSome&&decide ((br cK F x).getD 0≤t)) []):=by
  refine nR (body:=lN a0 F t) a0.aq (xI λx=>(br cK F x).isSome&&decide ((br cK F x).getD 0≤t)) (λs=>s) (λ_ _=>True) (λi hi s _=>⟨?_,trivial⟩) (λs _=>?_) [] trivial
  ·unfold lN
   rw[ai (by simp;omega),dj hi];simp only[aa];rw[iI (by omega) (by omega)];unfold xI;split <;> rfl
  ·unfold lN
   rw[ah (by simp)]
 obtain⟨i1,i2,i3⟩:=Jz (p:=λx=>(br cK F x).isSome&&decide ((br cK F x).getD 0≤t)) a0.aq [] (by simp) (λq hq=>by cases hq);have rX:∀x,((∃o∈a0.aq,o.ID=x)∧((br cK F x).isSome&&decide ((br cK F x).getD 0≤t))=true)↔∃u,iP a0 (bM a0.aq) a0.aC.length x=some u∧u≤t:=λx=>by
  rw[hF.eq];cases hs:iP a0 (bM a0.aq) a0.aC.length x with
  |none=>simp
  |some u=>
   simp only[se,cg,kY,bg,ba,exists_eq_left'];exact⟨λh=>h.2,λh=>⟨V.Rs (D4 hs),h⟩⟩
 obtain⟨l,e3,s1,s2,s3⟩:=Wq V.no V.nd i1 i2 (λx hx=>by
  rcases(i3 x).1 hx with h |⟨h,_⟩
  ·simp at h
  ·exact h)
 refine⟨l,?_,s1,s2,λx=>?_⟩
 ·unfold nH
  rw[e1];simp only[aa];rw[e2];simp only[aa];rw[e3];rfl
 ·rw[s3,i3,←rX]
  simp
variable (hf:FP a0)
include hf
theorem qB.Yh:mh a0=some 0:=by rw[G6 hf,xH.2 V]
end
end Go.Vl
