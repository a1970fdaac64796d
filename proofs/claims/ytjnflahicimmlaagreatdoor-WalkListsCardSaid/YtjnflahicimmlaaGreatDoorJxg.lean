/- walk.index in plain words: what slices.DeleteFunc leaves, and which entries are dead. Conditions: none. -/
import Derived.Test.YtjnflahicimmlaaGreatDoorJAx
import Derived.Test.YtjnflahicimmlaaGreatDoorVmFr
set_option linter.unusedSimpArgs false
set_option linter.unusedVariables false
namespace Go.Vl
open Go
def jh (M:List (Int×ab)) (x:aB):Bool:=((((br cK M x.ID).getD (⟨0,0,[],[],0,[],ByteArray.empty,0⟩:ab)).Kind)==2)&&(((((br cK M x.ID).getD (⟨0,0,[],[],0,[],ByteArray.empty,0⟩:ab)).bd).length:Int)==0)
theorem Lf (x:aB) (M:List (Int×ab)):lJ x M=some (jh M x):=rfl
theorem SA (l:List aB) (hl:l.length≤268435456) (M:List (Int×ab)):(cD l M=some (-1)∧∀x∈l,jh M x=false)∨
  ∃i:Nat,i < l.length∧cD l M=some (i:Int)∧(∀x∈l.take i,jh M x=false)∧∃x,l[i]? =some x∧jh M x=true:=by
 obtain⟨e,he,hR⟩:=qu (body:=dW l M) (λs:Int=>∃i:Nat,s=(i:Int)∧i≤l.length∧∀x∈l.take i,jh M x=false) (λs=>l.length - s.toNat)
  (λe:Unit ⊕ Int=>(e=.inl ()∧∀x∈l,jh M x=false)∨∃i:Nat,e=.inr (i:Int)∧i < l.length∧(∀x∈l.take i,jh M x=false)∧∃x,l[i]? =some x∧jh M x=true)
  (λs ⟨i,hs,hi,hd⟩=>by
   subst hs;unfold dW;by_cases h:i < l.length
   ·rw[ai (by simpa using h),dj h]
    simp only[aa,Lf];cases hx:jh M l[i] with
    |true=>exact .inr ⟨_,ai rfl,.inr ⟨i,rfl,h,hd,l[i],ae h,hx⟩⟩
    |false=>
     refine .inl ⟨((i+1:Nat):Int),by rw[ah (by decide),iI (by omega) (by omega)];rfl,⟨i+1,rfl,h,λx CV=>?_⟩,by simp;omega⟩;rw[eF h] at CV;rcases aQ.1 CV with CV |CV
     ·exact hd x CV
     ·rw[aD] at CV;subst CV;exact hx
   ·rw[ah (by simpa using h)]
    refine .inr ⟨_,rfl,.inl ⟨rfl,?_⟩⟩;have:i=l.length:=by omega
    subst this
    rwa [ll] at hd) (s:=0) ⟨0,rfl,by omega,by simp⟩
 unfold cD;rw[he];rcases hR with ⟨rfl,h⟩ |⟨i,rfl,h1,h2,h3⟩
 ·exact .inl ⟨rfl,h⟩
 ·exact .inr ⟨i,h1,rfl,h2,h3⟩
theorem V8 (l:List aB) (hl:l.length≤268435456) (M:List (Int×ab)):dC l M=some (l.filter λx=>!jh M x):=by
 unfold dC;rcases SA l hl M with ⟨h1,h2⟩ |⟨i,hi,h1,h2,x,h3,h4⟩
 ·rw[h1]
  simp only[aa];rw[ai (by decide),fC.2 λx hx=>by rw[h2 x hx];rfl]
 ·rw[h1]
  simp only[aa];rw[ah (by simp)];have VY:∀(l:List aB) (j:Nat) (h:j < l.length),(l.take (j+1)).filter (λx=>!jh M x)=(l.take j).filter (λx=>!jh M x)++if jh M l[j]=true then [] else [l[j]]:=λl j h=>by
   rw[eF h,List.filter_append]
   congr 1
   cases hx:jh M l[j] <;> simp[hx]
  obtain⟨e,he,hR⟩:=qu (body:=dw M)
   (λs:Int×Int×List aB=>∃a b:Nat,s.1=(a:Int)∧s.2.1=(b:Int)∧a < b∧b≤l.length∧s.2.2.length=l.length∧s.2.2.drop b=l.drop b∧s.2.2.take a=(l.take b).filter λx=>!jh M x)
   (λs=>l.length - s.2.1.toNat) (λe:Int×List aB=>∃a:Nat,e.1=(a:Int)∧a < l.length∧e.2.length=l.length∧e.2.take a=l.filter λx=>!jh M x)
   (λ⟨s1,s2,s3⟩ ⟨a,b,e1,e2,PR,hb,hlen,Ay,KD⟩=>by
    simp only at e1 e2 hlen Ay KD;subst e1;subst e2;unfold dw;simp only;by_cases h:b < s3.length
    ·have Ad:b < l.length:=by omega
     have hel:s3[b]=l[b]:=by
      have:=bR (·[0]?) Ay;simp only[dc,ov] at this;rw[ae h,ae Ad] at this;exact af this
     have Tf:s3.drop (b+1)=l.drop (b+1):=by rw[← List.drop_drop,←List.drop_drop,Ay]
     rw[ai (by simpa using h),eV (by constructor;omega;simpa using h),dj h];simp only[aa,Lf,hel];cases hx:jh M l[b] with
     |true=>
      refine .inl ⟨_,ah (by decide),⟨a,b+1,rfl,by simp only;rw[iI (by omega) (by omega)];rfl,by omega,by omega,hlen,Tf,?_⟩,?_⟩
      ·simp only;rw[KD,VY l b Ad,ai hx,kj]
      ·simp only;rw[iI (by omega) (by omega)];omega
     |false=>
      rw[ai (by decide),eV (by constructor;omega;simp;omega),dj (show a < s3.length by omega)];refine .inl ⟨_,rfl,⟨a+1,b+1,by simp only;rw[iI (by omega) (by omega)];rfl,by simp only;rw[iI (by omega) (by omega)];rfl,by omega,by omega,by simp[hlen],?_,?_⟩,?_⟩
      ·simp only[eu]
       rw[List.drop_set_of_lt (by omega),Tf]
      ·simp only[eu]
       rw[eF (by simp;omega),List.getElem_set_self,List.take_set_of_le (by omega),KD,VY l b Ad,ah (by rw[hx];decide)]
      ·simp only;rw[iI (by omega) (by omega)];omega
    ·rw[ah (by simpa using h)]
     have:b=l.length:=by omega
     subst this;exact .inr ⟨_,rfl,a,rfl,PR,hlen,by simpa using KD⟩) (s:=((i:Int),IntKind.i64.wrap ((i:Int)+1),l)) ⟨i,i+1,rfl,by simp only;rw[iI (by omega) (by omega)];rfl,by omega,by omega,rfl,rfl,by
    have h3':l[i]=x:=by rw[ae hi] at h3;exact af h3
    simp only;rw[VY l i hi,h3',ai h4,kj,fC.2 λx hx=>by rw[h2 x hx];rfl]⟩
  obtain⟨e1,e2⟩:=e;obtain⟨a,ha,Jn,hlen,KD⟩:=hR;simp only at ha hlen KD;subst ha;rw[he];simp only[aa];rw[eV (by omega)];simp only[aa,eu];rw[eV (by simp;omega)];simp only[aa];rw[nY (by simp;omega),List.take_take,Nat.min_self,KD]
inductive FQ (M:List (Int×ab)):Int→Prop
 |mk {k:Int} {o:ab} (h:(k,o)∈M) (hk:o.Kind=2) (hi:∀x∈o.bd,FQ M x.ID):FQ M k
open Classical in
noncomputable def vf (M:List (Int×ab)) (l:List aB):List aB:=l.filter λx=>decide (¬FQ M x.ID)
noncomputable def iO (M:List (Int×ab)):List (Int×ab):=M.map λq=>(q.1,{ q.2 with bd:=vf M q.2.bd })
structure OI (M0 M:List (Int×ab)):Prop where
 len:M.length=M0.length
 at_:∀(j:Nat) (q0 q:Int×ab),M0[j]? =some q0→M[j]? =some q→q.1=q0.1∧∃f:aB→Bool,(∀x,¬FQ M0 x.ID→f x=true)∧q.2={ q0.2 with bd:=q0.2.bd.filter f }
def Z4 (M:List (Int×ab)) (q:Int×ab):Prop:=∀x∈q.2.bd,jh M x=false
theorem OI.refl (M:List (Int×ab)):OI M M:=⟨rfl,λj q0 q h1 h2=>by
 rw[h1] at h2;cases h2;exact⟨rfl,λ_=>true,λ_ _=>rfl,by rw[fC.2 λ_ _=>rfl]⟩⟩
theorem OI.keys {M0 M:List (Int×ab)} (h:OI M0 M):M.map (·.1)=M0.map (·.1):=by
 apply uy (by simp[h.len]);intro j h1 h2;simp only[bq] at h1 h2;simp only[lp];exact(h.at_ j _ _ (ae h2) (ae h1)).1
theorem yd {ν:Type}:∀{M:List (Int×ν)} {j:Nat} {k:Int} {o:ν},(M.map (·.1)).Nodup→M[j]? =some (k,o)→eJ cK k M=some (j,o)
 |[],_,_,_,_,h=>by simp at h
 |q::M,0,k,o,_,h=>by
  simp at h;subst h;simp[eJ,cK]
 |q::M,j+1,k,o,hn,h=>by
  rw[aW,dZ] at hn;simp only[aV] at h;have iA:k≠q.1:=λe=>hn.1 (e▸aG.2 ⟨(k,o),bm h,rfl⟩)
  unfold eJ;rw[ah (by simp[cK,iA]),yd hn.2 h]
  rfl
theorem nN {ν:Type} {M:List (Int×ν)} (hn:(M.map (·.1)).Nodup) {k:Int} {o:ν} (h:(k,o)∈M):br cK M k=some o:=by
 obtain⟨j,hj⟩:=bJ.1 h;unfold br;rw[yd hn hj];rfl
theorem B9 {ν:Type}:∀{M:List (Int×ν)} {k:Int} {o:ν},br cK M k=some o→(k,o)∈M
 |[],_,_,h=>by simp[br,eJ] at h
 |q::M,k,o,h=>by
  unfold br eJ at h;split at h
  ·rename_i e
   simp[cK] at e h;subst h;rw[e];exact iC
  ·have:br cK M k=some o:=by
    unfold br;rw[Option.map_map] at h;exact h
   exact cW _ (B9 this)
theorem OI.drop {M0 M:List (Int×ab)} (h:OI M0 M) {x:aB} (hd:jh M x=true):FQ M0 x.ID:=by
 unfold jh at hd;cases hg:br cK M x.ID with
 |none=>rw[hg] at hd;simp at hd
 |some o=>
  rw[hg] at hd;simp only[cg,aR,ew] at hd;obtain⟨h1,h2⟩:=hd;have h2:o.bd=[]:=aI (by omega);obtain⟨j,hj⟩:=bJ.1 (B9 hg);have wm:j < M0.length:=by rw[← h.len];exact(aj.1 hj).1
  obtain⟨e1,f,hf,e2⟩:=h.at_ j _ _ (ae wm) hj;simp only at e1 e2;refine .mk (k:=x.ID) (o:=M0[j].2) (by rw[e1];exact bC wm) (by rw[e2] at h1;exact h1) λy hy=>?_
  refine ep λhn=>?_
  have:=hf y hn;rw[e2] at h2;simp only[oz] at h2;exact h2 y hy this
theorem OI.step {M0 M:List (Int×ab)} (h:OI M0 M) {j:Nat} {k:Int} {o:ab} (hj:M[j]? =some (k,o)):OI M0 (M.set j (k,{ o with bd:=o.bd.filter λx=>!jh M x })):=by
 refine⟨by rw[jf];exact h.len,λi q0 q h1 h2=>?_⟩;rw[iV] at h2;split at h2
 ·rename_i e
  subst e;split at h2
  case isFalse=>cases h2
  cases h2;obtain⟨e1,f,hf,e2⟩:=h.at_ j q0 _ h1 hj;simp only at e1 e2;refine⟨e1,λx=>f x&& !jh M x,λx hx=>?_,?_⟩
  ·simp only
   rw[hf x hx,kY];cases hd:jh M x with
   |false=>rfl
   |true=>exact absurd (h.drop hd) hx
  ·simp only
   rw[e2];simp only[ow,ab.mk.injEq,oH,kB];exact iW λx _=>by rw[Bool.and_comm]
 ·exact h.at_ i q0 q h1 h2
theorem OI.done {M0 M:List (Int×ab)} (h:OI M0 M) (hn:(M0.map (·.1)).Nodup) (hs:∀q∈M,Z4 M q):M=iO M0:=by
 have acO:∀k,FQ M0 k→∀o,(k,o)∈M→o.Kind=2∧o.bd=[]:=by
  intro k hk
  induction hk with
  |@mk k o0 hm hk hi ih=>
   intro o ho;obtain⟨j,hj⟩:=bJ.1 ho;have wm:j < M0.length:=by rw[← h.len];exact(aj.1 hj).1
   obtain⟨e1,f,hf,e2⟩:=h.at_ j _ _ (ae wm) hj;simp only at e1 e2;have e0:M0[j].2=o0:=by
    have h1:=nN hn hm;have h2:=nN hn (k:=M0[j].1) (o:=M0[j].2) (bC wm);rw[← e1,h1] at h2;exact(af h2).symm
   rw[e0] at e2;refine⟨by rw[e2];exact hk,List.eq_nil_iff_forall_not_mem.2 λy hy=>?_⟩;have YS:y∈o0.bd:=by
    rw[e2] at hy;exact(bP.1 hy).1
   have Jn:=hs _ ho y hy;have hdy:=hi y YS;cases hdy with
   |@mk _ oy hmy hky _=>
    have Ut:y.ID∈M.map (·.1):=by rw[h.keys];exact aG.2 ⟨_,hmy,rfl⟩
    obtain⟨⟨k',o'⟩,Bb,e'⟩:=aG.1 Ut;simp only at e';subst e';obtain⟨i1,i2⟩:=ih y YS o' Bb;have hnM:(M.map (·.1)).Nodup:=by rw[h.keys];exact hn
    unfold jh at Jn;rw[nN hnM Bb] at Jn;simp[i1,i2] at Jn
 have vO:∀q∈M,∀x∈q.2.bd,¬FQ M0 x.ID:=λq hq x hx hd=>by
  have Jn:=hs q hq x hx;have Ut:x.ID∈M.map (·.1):=by
   cases hd with
   |@mk _ o hm _ _=>rw[h.keys];exact aG.2 ⟨_,hm,rfl⟩
  obtain⟨⟨k',o'⟩,Bb,e'⟩:=aG.1 Ut;simp only at e';subst e';obtain⟨i1,i2⟩:=acO _ hd o' Bb;have hnM:(M.map (·.1)).Nodup:=by rw[h.keys];exact hn
  unfold jh at Jn;rw[nN hnM Bb] at Jn;simp[i1,i2] at Jn
 unfold iO;apply uy (by simp[h.len]);intro j h1 h2;simp only[bq] at h2;simp only[lp];obtain⟨e1,f,hf,e2⟩:=h.at_ j _ _ (ae h2) (ae h1);refine Prod.ext e1 ?_;rw[e2];simp only[ab.mk.injEq,oH,kB];unfold vf;refine iW λx hx=>?_
 by_cases hd:FQ M0 x.ID
 ·simp only[hd,mC,decide_false]
  cases Zg:f x with
  |false=>rfl
  |true=>
   refine absurd hd (vO _ (bC h1) x ?_);rw[e2];exact bP.2 ⟨hx,Zg⟩
 ·simp only[hd,not_false_eq_true,decide_true]
  exact hf x hd
def uF (M:List (Int×ab)):Nat:=(M.map λq=>q.2.bd.length).sum
theorem GM:∀{M:List (Int×ab)} {j:Nat} {q q':Int×ab},M[j]? =some q→q'.2.bd.length < q.2.bd.length→uF (M.set j q') < uF M
 |[],_,_,_,h,_=>by simp at h
 |a::M,0,q,q',h,hl=>by
  simp at h;subst h;simp only[List.set_cons_zero,uF,aW,uS];omega
 |a::M,j+1,q,q',h,hl=>by
  have:=GM (M:=M) (by simpa using h) hl;simp only[List.set_cons_succ,uF,aW,uS] at this ⊢;omega
theorem filter_all {l:List aB} {f:aB→Bool} (h:¬(l.filter f).length < l.length):∀x∈l,f x=true:=by
 have:(l.filter f).length=l.length:=by have:=fX f l;omega
 exact fC.1 (fB.eq_of_length this)
end Go.Vl
namespace Go.Vl
open Go Go.Proofs Go.RowKit
noncomputable def oL (a0:ao) (s2:Int×(List (Int×ab))):Option (Lp (Int×(List (Int×ab))) (List (Int×ab))):=
 if(decide (s2.1 < ((a0.aq).length:Int)))=true then
  (idx a0.aq s2.1).bind λx3=>
  some (.go (IntKind.i64.wrap (s2.1+1),(eD cK s2.2 x3.ID x3)))
 else
  some (.out s2.2)
noncomputable def po (a0:ao):Option ((List (Int×ab))):=
 (iter (oL a0) (0,[])).bind λv1=>
 (open Classical in ck ((v1.map (·.1)).Nodup∧∀q∈v1,q.2.bd.length≤268435456)).bind λ_=>
 some (iO v1)
theorem P6 {b10:List (Int×ab)}:dY Tryz.prog 53 [] [.d (.slice []),.fn 55 [.cN [.mp (bL 71 1 false true) 9 (ak (bB (aH .i64) au) b10)] 0]] (.d (.slice [])) []:=by
 refine dS (nt:=42) (rs:=[.tmp 4]) Tryz.func53 rfl Tryz.ntmps53 rfl (by simp) (by decide) rfl λK=>?_
 refine kR [0,1] ?_;refine kc ?_;refine kO [0,1,8,9] 2 ?_;have oC:cD [] b10=some (-1):=by
  rcases SA [] (by simp) b10 with ⟨h,_⟩ |⟨i,h,_⟩
  ·exact h
  ·simp at h
 refine MH [0,1,10] (gr oC) rfl rfl rfl Tryz.call88 (by simp) (by simp;rfl) ?_;refine kO [0,1,5] 1 ?_;refine ar ?_;refine aF ?_;refine kR [0,1,5,12] ?_;refine gJ (true) (λc1=>?_) (λc1=>by cases c1);refine kR [4] ?_;exact fM
theorem F7 {l:List aB} (h:l.length≤268435456∧0 < l.length):nV Tryz.prog 54 [] [] [.d (.slice (ak aw l))] (.vec (wa 0)) [] [⟨62,2,ak aw l⟩]:=by
 refine yr (nt:=8) (rs:=[.tmp 2]) Tryz.func54 rfl Tryz.ntmps54 rfl (by simp) (by decide) rfl λK=>?_
 refine kR [0,2] ?_;cases l with
 |nil=>simp at h
 |cons x l=>
  refine aF ?_;refine kR [0,4] ?_;refine gJ (false) (λh=>by cases h) (λ_=>?_);refine aN ?_;have p2:=h;simp at p2;refine kr [2] (by simp[h,p2];rfl) ?_;exact fo ⟨[],[7],by simp,by simp,by simp,by simp,by simp⟩
theorem F6:dY Tryz.prog 54 [] [.d (.slice [])] (.d (.slice [])) []:=by
 refine dS (nt:=8) (rs:=[.tmp 2]) Tryz.func54 rfl Tryz.ntmps54 rfl (by simp) (by decide) rfl λK=>?_
 refine kR [0,2] ?_;refine aF ?_;refine kc ?_;refine kO [0,3] 1 ?_;refine DV (by simp) rfl rfl (by simp) Tryz.underlying41 (by simp) (by simp) λb=>?_
 refine ar ?_;refine gJ (b) (λcb=>?_) (λcb=>?_)
 ·refine kR [2] ?_
  exact fM
 ·refine aN ?_
  refine kR [2] ?_;exact fo ⟨[7],by simp,rfl,by simp⟩
structure OK (K:Ctx Tryz.prog) (B b:Nat) (ty:TypeId) (env:List (Nat×AV)) (M:List (Int×ab)) (es:Array MapEntry) (clock:Nat) (a:Act) (w:World) (p:Pl):Prop where
 rel:Rel K { nt:=48,env:=env,box:=[],vec:=[]} a w p
 xc:a.eval (.tmp 3)=.pointer (some ⟨B,0,none⟩)
 box:w.heap[B]? =some (.cells #[.map (some b)] ty (0,0))
 okB:dx K w p B
 px:dx K w p b
 map:w.heap[b]? =some (.map es clock)
 mr:jd w (dx K w p) ⟨bL 71 1 false true,9,ak (bB (aH .i64) au) M⟩ es clock
theorem NR (M:List (Int×ab)):∀r∈ak (bB (aH .i64) au) M,r.length=9:=λr hr=>by
 unfold ak at hr;obtain⟨q,_,rfl⟩:=aG.1 hr
 rfl
theorem OK.cN {K:Ctx Tryz.prog} {B b:Nat} {ty:TypeId} {env:List (Nat×AV)} {M:List (Int×ab)} {es:Array MapEntry} {clock:Nat} {a:Act} {w:World} {p:Pl} (h:OK K B b ty env M es clock a w p):RA w (dx K w p) p (.cN [.mp (bL 71 1 false true) 9 (ak (bB (aH .i64) au) M)] 0) (a.tmps.getD 3 undef):=by
 have:=h.xc;simp only[Act.eval] at this;rw[this];exact Lg h.box h.okB (RD.ofMap (s:=⟨bL 71 1 false true,9,ak (bB (aH .i64) au) M⟩) (DZ _ _ _ _ _ _) (NR M) h.map h.px h.mr)
theorem OK.nt {K:Ctx Tryz.prog} {B b:Nat} {ty:TypeId} {env:List (Nat×AV)} {M:List (Int×ab)} {es:Array MapEntry} {clock:Nat} {a:Act} {w:World} {p:Pl} (h:OK K B b ty env M es clock a w p):a.tmps.size=48:=h.rel.nt
theorem OK.adh {K:Ctx Tryz.prog} {B b:Nat} {ty:TypeId} {env:List (Nat×AV)} {M:List (Int×ab)} {es:Array MapEntry} {clock:Nat} {a a':Act} {w:World} {p:Pl} (h:OK K B b ty env M es clock a w p) (hr:a'.eval (.tmp 3)=.pointer (some ⟨B,0,none⟩)):RA w (dx K w p) p (.cN [.mp (bL 71 1 false true) 9 (ak (bB (aH .i64) au) M)] 0) (a'.tmps.getD 3 undef):=by
 have:=hr;simp only[Act.eval] at this;rw[this];exact Lg h.box h.okB (RD.ofMap (s:=⟨bL 71 1 false true,9,ak (bB (aH .i64) au) M⟩) (DZ _ _ _ _ _ _) (NR M) h.map h.px h.mr)
theorem Vt (M:List (Int×ab)) (k:Int):xl Tryz.prog 3 (VS.ka ⟨bL 71 1 false true,9,ak (bB (aH .i64) au) M⟩) (.d (.int .i64 k))=true:=by
 rw[uX];exact A7 (by simp) k
theorem RX {M:List (Int×ab)} (hn:(M.map (·.1)).Nodup) {j:Nat} {k:Int} {o:ab} (h:M[j]? =some (k,o)):lW Tryz.prog 3 (VS.ka ⟨bL 71 1 false true,9,ak (bB (aH .i64) au) M⟩) (VS.kz ⟨bL 71 1 false true,9,ak (bB (aH .i64) au) M⟩) (.d (.int .i64 k)) (ak (bB (aH .i64) au) M)=some (some (j,au o)):=by
 rw[uX,sy _ (by decide),yV (k:=.i64) (by simp),yd hn h];rfl
theorem Vr (M:List (Int×ab)) (k:Int):mG (VS.ka ⟨bL 71 1 false true,9,ak (bB (aH .i64) au) M⟩) (.d (.int .i64 k))=some (aH .i64 k):=by rw[uX];rfl
theorem Vq (M:List (Int×ab)) (o:ab):mG (VS.va ⟨bL 71 1 false true,9,ak (bB (aH .i64) au) M⟩) (.agg (bc o))=some (au o):=by rw[zG];rfl
theorem Yu (M:List (Int×ab)) (k:Int):(aH .i64 k).length=VS.kz ⟨bL 71 1 false true,9,ak (bB (aH .i64) au) M⟩:=by rw[sy _ (by decide)];rfl
theorem Vs (M:List (Int×ab)) (j:Nat) (k:Int) (o:ab):(ak (bB (aH .i64) au) M).set j (aH .i64 k++au o)=ak (bB (aH .i64) au) (M.set j (k,o)):=by
 unfold ak;rw[List.map_set];rfl
theorem OK.keep {K:Ctx Tryz.prog} {B b:Nat} {ty:TypeId} {env ac8:List (Nat×AV)} {M:List (Int×ab)} {es:Array MapEntry} {clock:Nat} {a a':Act} {w w':World} {p p':Pl} (h:OK K B b ty env M es clock a w p) (R:Rel K { nt:=48,env:=ac8,box:=[],vec:=[]} a' w' p') (k:Kept K w w' p p') (hr:a'.eval (.tmp 3)=.pointer (some ⟨B,0,none⟩)):OK K B b ty ac8 M es clock a' w' p':=
 ⟨R,hr,(k B h.okB).1.trans h.box,(k B h.okB).2,(k b h.px).2,(k b h.px).1.trans h.map,k.Vy h.mr⟩
theorem CO {α:Type} {f:α→List D} (iA:∀x,f x≠[]) (h:∀x,∀d∈f x,qA d) (l:List α):qA (.slice (ak f l)):=by
 refine .slice ?_ λj d hd=>?_
 ·cases l with
  |nil=>exact .inl rfl
  |cons x l=>
   right
   simp[ak,iA x]
 ·obtain⟨r,hr,hd⟩:=uv.1 (bm hd)
  unfold ak at hr;obtain⟨x,_,rfl⟩:=aG.1 hr;exact h x d hd
theorem Pj (M:List (Int×ab)):∀r∈ak (bB (aH .i64) au) M,∀d∈r,qA d:=λr hr d hd=>by
 unfold ak at hr;obtain⟨q,_,rfl⟩:=aG.1 hr;simp only[bB,aH,au,cv,di,aZ,fE,td] at hd;have hi:∀(k:IntKind) (l:List Int),qA (.slice (ak (aH k) l)):=λk l=>CO (λx=>by simp[aH]) (λx d hd=>by simp[aH] at hd;subst hd;exact .int) l
 rcases hd with rfl |rfl |rfl |rfl |rfl |rfl |rfl |rfl |rfl
 ·exact .int
 ·exact .int
 ·exact .int
 ·exact hi _ _
 ·exact CO (λx=>by simp) (λx d hd=>by
   simp at hd;rcases hd with rfl |rfl
   ·exact .str
   ·exact .int) _
 ·exact .int
 ·exact hi _ _
 ·exact .str
 ·exact .int
set_option maxHeartbeats 1000000 in
theorem uU {a0:ao} {r:(List (Int×ab))} (h0:po a0=some r):dY Tryz.prog 26 [] [.agg (ay a0)] (.d (.mp (bL 71 1 false true) 9 (ak (bB (aH .i64) au) r))) []:=by
 unfold po at h0;refine tY (nt:=48) (rs:=[.tmp 2]) Tryz.func26 rfl Tryz.ntmps26 rfl (by simp) (by decide) rfl λK hK=>?_
 refine kR [1] ?_;refine kR [1,3] ?_;refine aF ?_;refine kR [3,12,13,14] ?_;obtain⟨e1,jR,h0⟩:=bI h0;refine oa (λv1:(List (Int×ab))=>(⟨48,[(3,.ptr 3 0)],[(3,[.vec 10])],[(10,⟨bL 71 1 false true,9,ak (bB (aH .i64) au) v1⟩)]⟩:St)) (λv1=>v1=e1) (λv1 eP _ W1=>?_) ?_
 ·subst eP
  refine dp W1 ?_;obtain⟨_,hc,h0⟩:=bI h0;replace hc:=bT hc;cases h0;refine aF ?_;refine kR [3,6] ?_;intro a w p R;obtain⟨⟨vs,ty,hB,zw,tV,_⟩,UB⟩:=R.box 3 [.vec 10] (by simp[get]);obtain⟨sJ,hz,hbm⟩:=R.vec 10 ⟨bL 71 1 false true,9,ak (bB (aH .i64) au) v1⟩ (by simp[get]);obtain⟨b,es,clock,A',hb,hM⟩:=sJ.map (DZ _ _ _ _ _ _);have Ba:a.eval (.tmp 3)=.pointer (some ⟨p.bx 3,0,none⟩):=by
   have:=R.env 3 (.ptr 3 0) (by simp[get]);simp only[Act.eval];generalize a.tmps.getD 3 undef=u at this;cases this;rfl
  have N':vs= #[.map (some b)]:=by
   have h1:vs.size=1:=zw;have h2:vs[0]? =some vs[0]:=bp (by omega);have h3:=tV 0 (.vec 10) vs[0] rfl h2;have h4:vs[0]=.map (some b):=by
    generalize vs[0]=u at h3;cases h3;exact A'
   refine sw (by simp[h1]) λi g1 g2=>?_
   have:i=0:=by omega
   subst this;simpa using h4
  subst N';have Cm:K.lx=[]:=aI hK;generalize hBB:p.bx 3=B at *;have Jl:K.w0.heap.size≤b∨K.io b:=(hbm b (by rw[A'];rfl)).imp id .inr;have R1:=R.qR (cM:={ nt:=48,env:=[(6,.d (.bool true))],box:=[],vec:=[]}) (by simp[bw]);have abv:dx K w ⟨p.bx,p.rw,λn=>St.lb { nt:=48,env:=[(6,.d (.bool true))],box:=[],vec:=[]} n=true,λn=>St.lv { nt:=48,env:=[(6,.d (.bool true))],box:=[],vec:=[]} n=true⟩ B:=by
   refine⟨(aL.1 hB).1,?_,λn hn=>by simp[St.lb,get] at hn,λn hn=>by simp[St.lv,get] at hn⟩;rcases UB with h |h |h
   ·exact .inr (.inl h)
   ·rw[Cm] at h;simp at h
   ·exact .inr (.inr h)
  have abt:dx K w ⟨p.bx,p.rw,λn=>St.lb { nt:=48,env:=[(6,.d (.bool true))],box:=[],vec:=[]} n=true,λn=>St.lv { nt:=48,env:=[(6,.d (.bool true))],box:=[],vec:=[]} n=true⟩ b:=by
   refine⟨(aL.1 hb).1,?_,λn hn=>by simp[St.lb,get] at hn,λn hn=>by simp[St.lv,get] at hn⟩;exact(hbm b (by rw[A'];rfl)).elim (λh=>.inr (.inl h)) λh=>.inr (.inr h)
  have at0:OK K B b ty [(6,.d (.bool true))] v1 es clock a w _:=⟨R1,Ba,hB,abv,abt,hb,hM.mono (λ_ _=>rfl) λk hk=>⟨hk.1,hk.2.1,λn hn=>by simp[St.lb,get] at hn,λn hn=>by simp[St.lv,get] at hn⟩⟩;clear R1 abv abt hM hb sJ hz hbm hB zw tV UB Ba R A' hBB;refine gn (gG (λn a w=>∃(ch:Bool) (M:List (Int×ab)) (es:Array MapEntry) (clock:Nat) (p:Pl),OK K B b ty [(6,.d (.bool ch))] M es clock a w p∧OI v1 M∧(ch=false→∀q∈M,Z4 M q)∧n=2 * uF M+ch.toNat) (2 * uF v1+1) ⟨true,v1,es,clock,_,at0,OI.refl v1,(λh=>absurd h (by decide)),rfl⟩ λn a w ⟨ch,M,es,clock,p,DF,IK,sV,hn⟩=>?_);refine eU (AB Cm (λK'=>ko [6,23] 1 (by simp;rfl) ct) (by simp) DF.rel DF.xc λa w' p' R kept hv=>?_);have h23:=uA R (t:=23) (b:=ch) (by simp[St.look,get]);obtain⟨p2,R2,ok2⟩:=R.oK (cM:={ nt:=48,env:=[(6,.d (.bool ch))],box:=[],vec:=[]}) (by simp[bw]);have CA:=DF.keep R2 (λk hk=>⟨(kept k hk).1,ok2 k (kept k hk).2⟩) hv;clear R kept hv DF R2 ok2;refine dz h23 (λyq=>oJ ?_) λyq=>qQ ?_
  case refine_2=>
   subst yq;have hM:=IK.done hc.1 (sV rfl);subst hM;refine eR (eR (ot ?_));refine⟨_,_,CA.rel.Ql CA.cN,?_⟩;show Tr Tryz.prog K _ _ _;refine kR [2] ?_;exact fM
  subst yq;refine dB ?_;refine gn (AB Cm (λK'=>ko [6] 1 (by simp;rfl) ct) (by simp) CA.rel CA.xc λa F3 p' R kept hv=>?_);have UE:=CA.keep R kept hv;clear R kept hv CA;refine eU (eW (Jt rfl 71 (.tmp 3) rfl B (.map (some b)) ty (0,0) UE.xc (by rw[Tryz.underlying71];rfl) (by unfold gO;rw[Tryz.underlying71]) UE.box (Js rfl (.tmp 24) 71 rfl 3 49 Tryz.underlying71 b es clock (dm (by rw[UE.rel.nt];decide)) UE.map (dB ?_))));obtain⟨R4,ok4,abp,abx,abq⟩:=(UE.rel.put (d:=24) (x:=.undef) (v:=.map (some b)) .undef (by decide)).Lv (.mapIter (some b) clock #[] clock);have R5:=R4.put (d:=25) (x:=.iter F3.heap.size) (v:=.pointer (some ⟨F3.heap.size,0,none⟩)) .iter (by simp[St.put]);obtain⟨p6,R6,Uh⟩:=R5.oK (cM:={ nt:=48,env:=[(6,.d (.bool false)),(25,.iter F3.heap.size)],box:=[],vec:=[]}) (by simp[bw,St.put]);have hr0:K.w0.heap.size≤F3.heap.size:=UE.rel.size;have at6:=UE.keep R6 (λk hk=>⟨abp k hk.1,Uh k (ok4 k hk)⟩) (by rw[aX (by simp),aX (by simp)];exact UE.xc);have af9:=abx;have okr:=Uh _ abq;clear R4 ok4 abp abx abq R5 R6 Uh;have agl:∀x∈es.toList,x.born < clock:=UE.mr.born;have gS:n=2 * uF M+1:=hn;clear UE;generalize F3.heap.size=r at *;refine gn (gG (λn' a w=>∃(ch:Bool) (M':List (Int×ab)) (es:Array MapEntry) (clock c0:Nat) (seen:Array Nat) (p:Pl),OK K B b ty [(6,.d (.bool ch)),(25,.iter r)] M' es clock a w p∧w.heap[r]? =some (.mapIter (some b) clock seen c0)∧dx K w p r∧clock≤c0∧(∀x∈es.toList,x.born < clock)∧OI v1 M'∧
   (ch=false→∀(j:Nat) (en:MapEntry) (q:Int×ab),es.toList[j]? =some en→seen.contains en.born=true→M'[j]? =some q→Z4 M' q)∧uF M'≤uF M∧(ch=true→uF M' < uF M)∧(es.toList.filter λe=>!seen.contains e.born).length=n') _
   ⟨false,M,es,clock,clock,#[],_,at6,af9,okr,aM _,agl,IK,(λ_ j en q _ h=>by simp at h),aM _,(λh=>absurd h (by decide)),rfl⟩ λn' a w ⟨ch,M',es,clock,c0,seen,p,DF,Hw,okr,Ux,pN,IK,Xf,hle,iN,qI⟩=>?_)
  have sI:(es.toList.map (·.born)).Nodup:=DF.mr.nodup;have hlen:es.toList.length=M'.length:=by
   have:=DF.mr.size;simpa[ak] using this
  refine eU (eW (Nq rfl (.tmp 25) rfl r b clock c0 seen es clock (DI DF.rel (by simp[get])) Hw DF.map pN Ux (λhz=>?_) λen w1 qw zA xf=>?_))
  ·-- no entry is left
   have hx:(Act.put a (some 26) (.tuple #[.bool false])).eval (.tmp 26)=.tuple #[.bool false]:=dm (by rw[DF.nt];decide);refine jw (v:=.bool false) (w':=w) rfl (by simp[execOp,hx,Instr.extract]) ?_;refine dB (eU (dz (t:=false) (dm (by simp[Act.put];rw[DF.nt];decide)) (λh=>by cases h) λ_=>qQ (eR (eR (ot (lC (dB ?_)))))));obtain⟨p6,R6,Uh⟩:=((DF.rel.put (d:=26) (x:=.undef) (v:=.tuple #[.bool false]) .undef (by simp)).put (d:=27) (x:=.undef) (v:=.bool false) .undef (by simp[St.put])).oK (cM:={ nt:=48,env:=[(6,.d (.bool ch))],box:=[],vec:=[]}) (by simp[bw,St.put]);have at6:=DF.keep R6 (λk hk=>⟨rfl,Uh k hk⟩) (by rw[aX (by simp),aX (by simp)];exact DF.xc);refine⟨2 * uF M'+ch.toNat,?_,ch,M',es,clock,p6,at6,IK,λyq q hq=>?_,rfl⟩
   ·cases ch with
    |true=>have:=iN rfl;simp;omega
    |false=>simp;omega
   ·obtain⟨j,hj⟩:=bJ.1 hq
    have wm:j < es.toList.length:=by rw[hlen];exact(aj.1 hj).1
    refine Xf yq j _ q (ae wm) ?_ hj;have h0:leftOf es seen= #[]:=jt hz;unfold leftOf at h0;rw[mg] at h0;have:=h0 es.toList[j] (by simp);simpa using this
  -- an entry comes
  obtain⟨j,hj⟩:=bJ.1 qw;have wm:j < M'.length:=by rw[← hlen];exact(aj.1 hj).1
  obtain⟨q,hq⟩:∃q,M'[j]? =some q:=⟨_,ae wm⟩;obtain⟨k,o⟩:=q;have Od:(M'.map (·.1)).Nodup:=by rw[IK.keys];exact hc.1
  have S9:o.bd.length≤268435456:=by
   have hjv:j < v1.length:=by rw[← IK.len];exact wm
   obtain⟨_,f,_,e2⟩:=IK.at_ j _ _ (ae hjv) hq;simp only at e2;rw[e2];exact bO (fX _ _) (hc.2 _ (bC hjv))
  have R1:Rel K { nt:=48,env:=[(6,.d (.bool ch)),(25,.iter r)],box:=[],vec:=[]} a w1 p∧w1.heap=w.heap:=by rcases xf with rfl |rfl;exact⟨DF.rel,rfl⟩;exact⟨DF.rel.drew,rfl⟩
  obtain⟨R1,Tb⟩:=R1;obtain⟨R2,xp,Ht,Bd,MP⟩:=R1.quiet (r:=r) (by rw[Tb];exact Hw) (m':=some b) (s':=clock) (c':=clock) (q':=seen.push en.born) hr0;generalize PD:ChangeMaps.setBlock w1 r (.mapIter (some b) clock (seen.push en.born) clock)=w2 at *;have IG:∀k,dx K w p k→dx K w1 p k:=λk hk=>⟨by rw[Tb];exact hk.1,hk.2⟩
  have BG:b≠r:=λe=>by have:=DF.map;rw[e,Hw] at this;cases this
  have hBr:B≠r:=λe=>by have:=DF.box;rw[e,Hw] at this;cases this
  have CA:OK K B b ty [(6,.d (.bool ch)),(25,.iter r)] M' es clock a w2 p:=⟨R2,DF.xc,(Bd B hBr).trans (by rw[Tb];exact DF.box),xp _ (IG _ DF.okB),xp _ (IG _ DF.px),(Bd b BG).trans (by rw[Tb];exact DF.map),DF.mr.mono (λq _=>(Ht q).trans (cT (by rw[Tb]))) λk hk=>xp k (IG k hk)⟩;have Ph:=xp _ (IG _ okr);clear R1 R2 xp Ht Bd IG Tb xf PD Hw okr BG hBr DF w1;have hx:(Act.put a (some 26) (.tuple #[.bool true,en.key,en.val])).eval (.tmp 26)=.tuple #[.bool true,en.key,en.val]:=dm (by rw[CA.nt];decide);refine jw (v:=.bool true) (w':=w2) rfl (by simp[execOp,hx,Instr.extract]) ?_;refine dB (eU (dz (t:=true) (dm (by simp[Act.put];rw[CA.nt];decide)) (λ_=>oJ (dB ?_)) λh=>by cases h));have R8:=(CA.rel.put (d:=26) (x:=.undef) (v:=.tuple #[.bool true,en.key,en.val]) .undef (by simp)).put (d:=27) (x:=.undef) (v:=.bool true) .undef (by simp[St.put]);have Xi:(Act.put (Act.put a (some 26) (.tuple #[.bool true,en.key,en.val])) (some 27) (.bool true)).eval (.tmp 3)=.pointer (some ⟨B,0,none⟩):=by rw[aX (by simp),aX (by simp)];exact CA.xc
  refine gn (eU (eW (QQ rfl (.tmp 25) rfl r b clock clock seen es en (DI R8 (by simp[get,St.put])) MP CA.map qw sI ?_)));obtain⟨uO,zy⟩:=YA (p:=p) (j:=j) (row:=bB (aH .i64) au (k,o)) (kA:=.d (.int .i64 k)) (vA:=.agg (bc o)) CA.mr (by simp[ak,hq]) (by rw[← bo];exact hj) (by simp[ml,uX,sy,bB]) (by simp[ml,zG,sy,bB]);have R9:=R8.put (d:=28) (x:=.ia [.d (.int .i64 k),.agg (bc o)]) (v:=.tuple #[en.key,en.val]) (.ia rfl λi y v hy lE=>by
   match i with
   |0=>simp at hy lE;subst hy;subst lE;exact uO
   |1=>simp at hy lE;subst hy;subst lE;exact zy
   |i+2=>simp at hy) (by simp[St.put])
  have Xh:(Act.put (Act.put (Act.put a (some 26) (.tuple #[.bool true,en.key,en.val])) (some 27) (.bool true)) (some 28) (.tuple #[en.key,en.val])).eval (.tmp 3)=.pointer (some ⟨B,0,none⟩):=by rw[aX (by simp)];exact Xi
  have R10:=R9.Ql (CA.adh Xh);generalize Act.put (Act.put (Act.put a (some 26) (.tuple #[.bool true,en.key,en.val])) (some 27) (.bool true)) (some 28) (.tuple #[en.key,en.val])=a9 at *;clear R8 R9 uO zy Xi hx;refine AA Cm (λK'=>ko [3,6,7,8,25] 5 (by simp;rfl) ct) (by simp) R10 Xh λa12 w12 qG WA Sw abZ=>dB ?_
  refine AB Cm (st1:=(⟨48,[(3,.cN [.mp (bL 71 1 false true) 9 (ak (bB (aH .i64) au) M')] 0),(6,.d (.bool ch)),(7,.d (.int .i64 k)),(8,.ptr 8 0),(9,.d (.slice (ak aw (o.bd.filter λx=>!jh M' x)))),(25,.iter r)],[(8,bc o)],[]⟩:St)) (λK'=>?hT13) (by simp) WA abZ λa13 w13 My R13 Sv abY=>?_
  case hT13=>
   by_cases Y6:o.bd=[]
   ·refine kO [3,6,7,8,25,32] 2 ?_
    refine jg [3,6,7,8,25,33] [] F6 rfl rfl rfl Tryz.call54 (by simp[Y6]) (by simp;rfl) ?_;refine kO [3,6,7,8,25,33,34] 1 ?_;refine jQ [3,6,7,8,25,35] [] [] [] (P6 (b10:=M')) rfl rfl rfl Tryz.call53 (by simp) (by simp;rfl) ?_;refine kO [3,6,7,8,9,25] 1 ?_;exact ar ⟨rfl,by simp[Y6]⟩
   ·have rW:0 < o.bd.length:=List.length_pos_iff.2 Y6
    refine kO [3,6,7,8,25,32] 2 ?_;refine jQ [3,6,7,8,25,33] [] [] [33] (F7 ⟨S9,rW⟩) rfl rfl rfl Tryz.call54 (by simp) (by simp;rfl) ?_;refine kO [3,6,7,8,25,33,34] 1 ?_;refine jQ [3,6,7,8,25,35] [] [33] [35] (iJ (V8 o.bd S9 M')) rfl rfl rfl Tryz.call53 (by simp) (by simp;rfl) ?_;refine kO [3,6,7,8,9,25] 1 ?_;refine tD 35 (ar ⟨rfl,by simp[St.sY,get]⟩)
  refine AB Cm (λK'=>ko [3,6,7,8,9,25,41] 6 (by simp;rfl) ct) (by simp) R13 abY λa14 w14 Hd R14 Su YX=>?_
  have h41:=uA R14 (t:=41) (b:=decide (((o.bd.filter λx=>!jh M' x).length:Int) < (o.bd.length:Int))) (by simp[St.look,get]);have kept:=(Sw.trans Sv).trans Su;clear Sw Sv Su abZ abY WA R13;refine dz h41 (λZh=>?_) (λZh=>oJ (lC (dB ?_)))
  case refine_2=>
   obtain⟨p6,R6,Uh⟩:=R14.oK (cM:={ nt:=48,env:=[(6,.d (.bool ch)),(25,.iter r)],box:=[],vec:=[]}) (by simp[bw]);have at6:=CA.keep R6 (λk hk=>⟨(kept k hk).1,Uh k (kept k hk).2⟩) YX;refine⟨(es.toList.filter λe=>!(seen.push en.born).contains e.born).length,by rw[← qI];exact vI qw zA,ch,M',es,clock,clock,seen.push en.born,p6,at6,(kept r Ph).1.trans MP,Uh r (kept r Ph).2,aM _,pN,IK,λyq j' DB q' h1 h2 h3=>?_,hle,iN,rfl⟩;rw[gW] at h2;by_cases hs:seen.contains DB.born=true
   ·exact Xf yq j' DB q' h1 hs h3
   ·have hbe:DB.born=en.born:=by
     rcases cj _ _ |>.mp h2 with h2 |h2
     ·exact absurd h2 hs
     ·simpa using h2
    have Zd:j'=j:=by
     have e1:(es.toList.map (·.born))[j']? =some en.born:=by rw[aA,h1];simp[hbe]
     have e2:(es.toList.map (·.born))[j]? =some en.born:=by rw[aA,hj];rfl
     obtain⟨g1,g2⟩:=aj.1 e1;obtain⟨g3,g4⟩:=aj.1 e2;exact(qD sI).1 (g2.trans g4.symm)
    subst Zd;rw[hq] at h3;cases h3;have Of:=filter_all (l:=o.bd) (f:=λx=>!jh M' x) (by have:=iB Zh;omega);exact λx hx=>by simpa using Of x hx
  have acw:(o.bd.filter λx=>!jh M' x).length < o.bd.length:=by have:=gf Zh;omega
  refine AB Cm (λK'=>ko [3,6,7,8,25] 4 (by simp;rfl) ct) (by simp) R14 YX λa15 w15 AR R15 Ss YW=>?_
  have kept:=kept.trans Ss;clear Ss YX R14 h41;refine eW (Jt rfl 71 (.tmp 3) rfl B (.map (some b)) ty (0,0) YW (by rw[Tryz.underlying71];rfl) (by unfold gO;rw[Tryz.underlying71]) ((kept B CA.okB).1.trans CA.box) ?_);have R16:=R15.put (d:=44) (x:=.undef) (v:=.map (some b)) .undef (by simp);have h44:(a15.put (some 44) (.map (some b))).eval (.tmp 44)=.map (some b):=dm (by rw[R15.nt];simp);have abX:(a15.put (some 44) (.map (some b))).eval (.tmp 3)=.pointer (some ⟨B,0,none⟩):=by rw[aX (by simp)];exact YW
  generalize a15.put (some 44) (.map (some b))=a16 at *;refine DP [_,_] _ _ ?_;refine BI Cm (λK'=>ko [6,25,45,46] 2 (by simp;rfl) ct) (by simp) (by simp) R16 abX h44 λa17 FT qY R17 Sr afs agP=>?_
  have kept:=kept.trans Sr;clear Sr R16 R15 abX h44 YW;show wpList _ _ _ [_] a17 FT;have af5:RA FT (dx K FT qY) qY (.d (.int .i64 k)) (a17.eval (.tmp 45)):=by
   have:=R17.ca (.tmp 45);simpa[ca,St.look,get] using this
  have SD:RA FT (dx K FT qY) qY (.agg (bc { o with bd:=o.bd.filter λx=>!jh M' x })) (a17.eval (.tmp 46)):=by
   have:=R17.ca (.tmp 46);simpa[ca,St.look,get] using this
  have Zn:=(kept b CA.px).1.trans CA.map;refine ON (p:=qY) (kav:=.d (.int .i64 k)) (yav:=.agg (bc { o with bd:=o.bd.filter λx=>!jh M' x })) (kd:=aH .i64 k) (vd:=au { o with bd:=o.bd.filter λx=>!jh M' x }) (i:=j) (q:=au o) rfl rfl rfl Tryz.underlying71 (Vt M' k) (kept.Vy CA.mr) agP Zn af5 SD (Vr M' k) (Vq M' _) (Yu M' k) (RX Od hq) λes' hbo Zo=>?_
  have Zo:jd FT (dx K FT qY) ⟨bL 71 1 false true,9,ak (bB (aH .i64) au) (M'.set j (k,{ o with bd:=o.bd.filter λx=>!jh M' x }))⟩ es' clock:=by
   rw[← Vs];exact Zo
  generalize hMM:M'.set j (k,{ o with bd:=o.bd.filter λx=>!jh M' x })=M2 at *;obtain⟨agD,Oc,_⟩:=NB (o':=.map es' clock) Zn;have Xd:({ FT with heap:=FT.heap.setIfInBounds b (.map es' clock)}:World).heap.size=FT.heap.size:=by simp
  have aci:({ FT with heap:=FT.heap.setIfInBounds b (.map es' clock)}:World).os=FT.os∧({ FT with heap:=FT.heap.setIfInBounds b (.map es' clock)}:World).tape=FT.tape∧({ FT with heap:=FT.heap.setIfInBounds b (.map es' clock)}:World).output=FT.output:=⟨rfl,rfl,rfl⟩;generalize ({ FT with heap:=FT.heap.setIfInBounds b (.map es' clock)}:World)=w18 at *;obtain⟨p6,R6,Uh⟩:=R17.oK (cM:={ nt:=48,env:=[(6,.d (.bool true)),(25,.iter r)],box:=[],vec:=[]}) (by simp[bw]);have R7:=U9 R6 (λs y h=>by
   simp only[get] at h;split at h
   ·cases h;exact .inl ⟨_,rfl⟩
   ·split at h
    ·cases h;exact .inr ⟨_,rfl⟩
    ·cases h) Jl Xd aci Oc
  have okg:∀k,dx K FT qY k→dx K w18 p6 k:=λk hk=>xZ (Nat.le_of_eq Xd.symm) (Uh k hk)
  have hbB:B≠b:=λe=>by have:=CA.box;rw[e,CA.map] at this;cases this
  have hrb:r≠b:=λe=>by have:=MP;rw[e,CA.map] at this;cases this
  have at7:OK K B b ty [(6,.d (.bool true)),(25,.iter r)] M2 es' clock a17 w18 p6:=⟨R7,afs,(Oc B hbB).trans ((kept B CA.okB).1.trans CA.box),okg _ (kept B CA.okB).2,okg _ (kept b CA.px).2,agD,((Zo.set Zn Oc (Pj M2)).mono (λ_ _=>rfl) okg)⟩;have hs2:uF M2 < uF M':=by rw[← hMM];exact GM hq acw
  refine lC (dB ⟨(es'.toList.filter λe=>!(seen.push en.born).contains e.born).length,?_,true,M2,es',clock,clock,seen.push en.born,p6,at7,(Oc r hrb).trans ((kept r Ph).1.trans MP),okg _ (kept r Ph).2,aM _,Zo.born,?_,(λh=>absurd h (by decide)),by omega,λ_=>by omega,rfl⟩)
  ·rw[TO hbo,←qI];exact vI qw zA
  ·rw[← hMM];exact IK.step hq
 ·refine aO (cA (λs2:Int×(List (Int×ab))=>(⟨48,[(3,.ptr 3 0),(12,.d (.slice (ak au a0.aq))),(13,.d (.int .i64 ((a0.aq).length:Int))),(14,.d (.int .i64 s2.1))],[(3,[.vec 10])],[(10,⟨bL 71 1 false true,9,ak (bB (aH .i64) au) s2.2⟩)]⟩:St)) jR cq λG1 s2 o1 h1 gY iq=>?_)
  unfold oL at h1;refine kR [3,12,13,14,15] ?_;refine aF ?_;refine cF (b:=(decide (s2.1 < ((a0.aq).length:Int)))) (by simp) (λc3=>?_) (λc3=>?_)
  ·rw[ai c3] at h1
   refine aN ?_;refine aF ?_;refine aO ?_;obtain⟨x3,p3,h1⟩:=bI h1;replace p3:=bD p3;have og:=p3;try simp at og
   refine kr [3,5,12,13,14] (by simp[p3,og];rfl) ?_;refine lr (by simp;rfl) ?_;refine lr (by simp;rfl) ?_;exact⟨_,gY _ (af h1),cq⟩
  ·rw[ah (by rw[c3];decide)] at h1
   refine bZ ?_;exact⟨_,iq _ (af h1),cq⟩
end Go.Vl
