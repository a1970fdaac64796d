/- ref15.names: its contract. Conditions: none. -/
import Derived.Test.YtjnflahicimmlaaGreatDoorJhr
set_option linter.unusedSimpArgs false
set_option linter.unusedVariables false
namespace Go.Vl
open Go Go.Proofs Go.RowKit
theorem Iy (l:List aB):∀r∈ak aw l,r.length=2:=by
 rw[GS];intro x _;rfl
theorem VE (l:List aB):∀r∈ak aw l,∀d∈r,qC d:=by
 intro r hr d hd;unfold ak at hr;obtain⟨x,_,rfl⟩:=aG.1 hr;simp only[aw,aZ,fE,td] at hd;rcases hd with rfl |rfl <;> trivial
theorem O8 {n:ByteArray}:∀{l:List aB} {x:aB},l[lu n l]? =some x→Op.bytesLess x.Name.toList n.toList=false:=by
 intro l
 induction l with
 |nil=>intro x h;simp[lu] at h
 |cons y l ih=>
  intro x h;unfold lu at h;rw[qL] at h;split at h
  ·rename_i hy
   simp only[cQ,aV] at h;exact ih h
  ·rename_i hy
   simp at h;subst h;simpa using hy
theorem Rn {n:ByteArray}:∀{l:List aB} {i:Nat} {x:aB},i < lu n l→l[i]? =some x→Op.bytesLess x.Name.toList n.toList=true:=by
 intro l
 induction l with
 |nil=>intro i x h _;simp[lu] at h
 |cons y l ih=>
  intro i x h hx;unfold lu at h;rw[qL] at h;split at h
  ·rename_i hy
   cases i with
   |zero=>simp at hx;subst hx;exact hy
   |succ i=>exact ih (by simpa[lu] using h) (by simpa using hx)
  ·simp at h
theorem Eg (n:ByteArray) (l:List aB):lu n l≤l.length:=by
 unfold lu;exact List.Sublist.length_le (List.takeWhile_sublist _)
theorem C2 {α:Type} {F:α→Prop}:∀{l:List (Nat×α)},(∀q∈l,F q.2)→∀s y,get l s=some y→F y
 |[],_,s,y,h=>by simp[get] at h
 |(k,x)::l,hl,s,y,h=>by
  simp only[get] at h;split at h
  ·cases h;exact hl (k,x) (by simp)
  ·exact C2 (λq hq=>hl q (by simp[hq])) s y h
theorem Po {w:World} {ok:Nat→Prop} {p:Pl} {v:Value} (h:RA w ok p (.d (.slice [])) v):∃a c,v=.slice a 0 c:=by
 cases h with
 |d h=>cases h with
  |pQ=>exact⟨_,_,rfl⟩
  |slice z vs h1 h2 h3 h4 h5=>exact⟨_,_,rfl⟩
theorem UH {P:Program} {K:Ctx P} {st:St} {a:Act} {w:World} {p:Pl} {s:Nat} (R:Rel K st a w p) (h:st.look s=.d (.slice [])):∃b c,a.eval (.tmp s)=.slice b 0 c:=by
 have:=R.ca (.tmp s);have ho:ca st (.tmp s)=.d (.slice []):=h;rw[ho] at this;exact Po this
set_option maxHeartbeats 4000000 in
theorem AY {a0:ao} {a1:Int} {r:List aB×Bool×Bool} (h0:ja a0 a1=some r):dY Tryz.prog 106 [] [.agg (ay a0),.d (.int .i64 a1)] (.ia [.d (.slice (ak aw r.1)),.d (.bool r.2.1),.d (.bool r.2.2)]) []:=by
 unfold ja at h0;obtain⟨_,Qy,h0⟩:=bI h0;replace Qy:=bT Qy;replace h0:=af h0;refine tY (nt:=120) (rs:=[.tmp 4,.tmp 5,.tmp 6]) Tryz.func106 rfl Tryz.ntmps106 rfl (by simp) (by decide) rfl λK hK=>?_
 have Cm:K.lx=[]:=aI hK;refine kR [1,2] ?_;refine kR [1,2,7] ?_;refine kR [1,2,7,8,9] ?_;refine aF ?_;refine kR [1,2,7,8,9,10] ?_;refine rp 2 (ay a0) (aK a0) (by simp) (by simp) hK (by decide) (λi hi=>absurd hi (fR i)) ?_;refine oa (λ_:Unit=>(⟨120,[(7,.d (.slice (ak aw r.1))),(8,.d (.bool r.2.1)),(9,.d (.bool r.2.2))],[],[]⟩:St)) (λ_=>True) (λ_ _ _ W1=>?_) ?_
 ·refine dp W1 ?_
  refine kR [4,5,6] ?_;exact fM
 ·intro a w p R
  obtain⟨K',p',k1,k2,R1,k4,k5,k6,k7,k8,k9,k10⟩:=R.Q1 Cm (cM:=(⟨120,[(1,.d (.int .i64 a1)),(2,.cN (aK a0) 0),(7,.dK),(8,.d (.bool true)),(9,.d (.bool true)),(10,.d (.int .i64 0))],[],[]⟩:St)) (by simp[bw,St.kh]) (w2:=w) (aM _) ⟨rfl,rfl,rfl⟩ (λ_ _=>rfl) (λ_ _=>rfl) (λ_ _ _ _=>rfl) (aM _) K (ur.refl K) (λ_ _ _=>rfl) Cm (λ_ h=>h);have sW:∀g,dx K' w p' g→nh K' g:=λg hg=>by
   have hg0:=(k4 g).1 hg;refine⟨by rw[k2];exact hg.1,?_,k10 g hg0⟩;rcases hg.2.1 with q |q |q
   ·exact q
   ·have:=hg.1;rw[k2] at q;omega
   ·exact absurd q (k10 g hg0)
  have Gq:RA w (nh K') p' (.cN (aK a0) 0) (a.eval (.tmp 2)):=(R1.env 2 _ rfl).mono (λ_ _=>rfl) sW (λ_ h=>⟨h,rfl⟩) (λ_ h=>⟨h,rfl⟩);have hv7:a.eval (.tmp 7)=.slice none 0 0:=by
   have:=R1.env 7 .dK rfl;simp only[Act.eval];generalize a.tmps.getD 7 undef=u at this;cases this;rfl
  have H:NI K' 2 7 (a.eval (.tmp 2)) (.slice none 0 0) 2 (ak aw []) (⟨120,[(1,.d (.int .i64 a1)),(8,.d (.bool true)),(9,.d (.bool true)),(10,.d (.int .i64 0))],[],[]⟩:St) a w:=by
   obtain⟨p2,R2,_⟩:=R1.oK (cM:=(⟨120,[(1,.d (.int .i64 a1)),(8,.d (.bool true)),(9,.d (.bool true)),(10,.d (.int .i64 0))],[],[]⟩:St)) (by simp[bw]);exact⟨p2,R2,rfl,hv7,.inl ⟨rfl,_,_,rfl⟩⟩
  generalize a.eval (.tmp 2)=v2 at Gq H;clear hv7;refine gn (gG (λn a w=>∃(j:Nat) (out:List aB) (b1 b2:Bool) (v7:Value),NI K' 2 7 v2 v7 2 (ak aw out) (⟨120,[(1,.d (.int .i64 a1)),(8,.d (.bool b1)),(9,.d (.bool b2)),(10,.d (.int .i64 (j:Int)))],[],[]⟩:St) a w∧nM a1 (a0.aC.drop j) (out,b1,b2)=r∧j≤a0.aC.length∧out.length≤j∧n=a0.aC.length - j) a0.aC.length ⟨0,[],true,true,_,H,h0,cE _,aM _,rfl⟩ λn a w ⟨j,out,b1,b2,v7,H,hn,hj,FV,IJ⟩=>?_);have Ul:=Iy out;replace H:=H.show k2.symm Gq k1 Ul (cM:=(⟨120,[(1,.d (.int .i64 a1)),(2,.cN (aK a0) 0),(7,.d (.slice (ak aw out))),(8,.d (.bool b1)),(9,.d (.bool b2)),(10,.d (.int .i64 (j:Int)))],[],[]⟩:St)) (by simp[bw,St.put]);have hF:∀{a w} {out:List aB} {b1 b2:Bool} {v7:Value} {st:St},NI K' 2 7 v2 v7 2 (ak aw out) st a w→lZ ((st.put 2 (.cN (aK a0) 0)).put 7 (.d (.slice (ak aw out)))) (⟨120,[(7,.d (.slice (ak aw out))),(8,.d (.bool b1)),(9,.d (.bool b2))],[],[]⟩:St)→r=(out,b1,b2)→∃s p',Rel K s a w p'∧∃v:Unit,True∧Wk s (⟨120,[(7,.d (.slice (ak aw r.1))),(8,.d (.bool r.2.1)),(9,.d (.bool r.2.2))],[],[]⟩:St):=λ{a w out b1 b2 v7 st} H W hr=>by
   subst hr;obtain⟨p2,R2,_⟩:=H.show k2.symm Gq k1 (Iy out) W;exact⟨_,p2,k5.rel _ _ _ _ R2,(),trivial,cq⟩
  by_cases wj:j < a0.aC.length
  case neg=>
   have hje:j=a0.aC.length:=by omega
   subst hje;have Xs:decide ((a0.aC.length:Int) < (a0.aC.length:Int))=false:=by simp
   rw[cx (aM _)] at hn;simp only[nM] at hn;refine eU (H.xc k1 (λK2=>ko [1,2,7,8,9,10,29] 15 (by simp[Xs];rfl) ct) (by simp) (by simp) λa w H=>?_);have h29:=H.bool (s:=29) (c:=false) (by simp[St.look,get]);refine dz h29 (λhc=>by cases hc) λhc=>qQ (eR (eR (ot ?_)))
   exact hF H (by simp[bw,St.put]) hn.symm
  obtain⟨e,he⟩:∃e,a0.aC[j]? =some e:=⟨_,ae wj⟩;have Xs:decide (j < a0.aC.length)=true:=by simp;omega
  have Ay:a0.aC.drop j=e::a0.aC.drop (j+1):=by
   rw[ae wj] at he;rw[bN wj,af he]
  rw[Ay] at hn;simp only[nM] at hn;refine eU (H.xc k1 (λK2=>ko [1,2,7,8,9,10,29] 15 (by simp[Xs,he];rfl) ct) (by simp) (by simp) λa w H=>?_);have h29:=H.bool (s:=29) (c:=decide (e.Time≤a1)) (by simp[St.look,get]);refine dz h29 (λhc=>oJ (dB ?_)) λhc=>qQ (eR (eR (ot ?_)))
  case refine_2=>
   rw[ai (by have:=iB hc;omega)] at hn;exact hF H (by simp[bw,St.put]) hn.symm
  rw[ah (by have:=gf hc;omega)] at hn;refine eU (gn ?_);refine H.xc k1 (λK2=>ko [1,2,7,8,9,10,11] 7 (by simp[he];rfl) ct) (by simp) (by simp) λa w H=>?_
  replace H:=H.kh k1 (n:=11) (cs:=mM e) (row:=aT e) (by simp[get]) (by simp) (by decide) (cM:=(⟨120,[(1,.d (.int .i64 a1)),(2,.cN (aK a0) 0),(7,.d (.slice (ak aw out))),(8,.d (.bool b1)),(9,.d (.bool b2)),(10,.d (.int .i64 (j:Int))),(11,.cN (aT e) 0)],[],[]⟩:St)) (by simp[bw,St.kh]);refine H.xc k1 (λK2=>ko [1,2,7,8,9,10,11,12] 1 (by simp;rfl) ct) (by simp) (by simp) λa w H=>?_
  replace H:=H.qR (cM:=(⟨120,[(1,.d (.int .i64 a1)),(2,.cN (aK a0) 0),(7,.d (.slice (ak aw out))),(8,.d (.bool b1)),(9,.d (.bool b2)),(10,.d (.int .i64 (j:Int))),(11,.cN (aT e) 0),(12,.d (.int .i64 ((0:Nat):Int)))],[],[]⟩:St)) (by simp[bw]);refine eU (hU (Q:=λex a w=>ex=.normal∧NI K' 2 7 v2 v7 2 (ak aw out) (⟨120,[(1,.d (.int .i64 a1)),(2,.cN (aK a0) 0),(7,.d (.slice (ak aw out))),(8,.d (.bool b1)),(9,.d (.bool b2)),(10,.d (.int .i64 (j:Int))),(11,.cN (aT e) 0),(12,.d (.int .i64 (lu e.Name out:Int)))],[],[]⟩:St) a w) (gn (gG (λn a w=>∃k:Nat,NI K' 2 7 v2 v7 2 (ak aw out) (⟨120,[(1,.d (.int .i64 a1)),(2,.cN (aK a0) 0),(7,.d (.slice (ak aw out))),(8,.d (.bool b1)),(9,.d (.bool b2)),(10,.d (.int .i64 (j:Int))),(11,.cN (aT e) 0),(12,.d (.int .i64 (k:Int)))],[],[]⟩:St) a w∧k≤lu e.Name out∧n=out.length - k) out.length ⟨0,H,cE _,rfl⟩ λn a w ⟨k,H,hk,Od⟩=>?_)) λex a w ⟨hex,H⟩=>?_)
  case refine_1=>
   have MM:=bO hk (Eg e.Name out);cases Ax:out[k]? with
   |none=>
    have Ut:k=out.length:=by have:=List.getElem?_eq_none_iff.1 Ax;omega
    have Od:¬k < out.length:=by omega
    refine eU (eU (H.held k1 (S0:=(⟨120,[(1,.d (.int .i64 a1)),(2,.cN (aK a0) 0),(7,.d (.slice (ak aw out))),(8,.d (.bool b1)),(9,.d (.bool b2)),(10,.d (.int .i64 (j:Int))),(11,.cN (aT e) 0),(12,.d (.int .i64 (k:Int))),(50,.d (.bool false))],[],[]⟩:St)) [0,1,2,3,4,5,6,7,8,9,10,11,12,13] 0 sZ (by decide +kernel) rfl rfl rfl (by simp[lB,uY,yx,iZ,gB,gZ,Od];rfl) (λK2 S F C=>kx C (by decide +kernel) ⟨rfl,bw.2 (by simp[Od])⟩) (by simp) (by simp) λa w H=>?_));have h50:=H.bool (s:=50) (c:=false) (by simp[St.look,get]);refine dz h50 (λhc=>by cases hc) λhc=>qQ (eR (eR (ot ⟨rfl,?_⟩)))
    have Xo:k=lu e.Name out:=by have:=Eg e.Name out;omega
    rw[← Xo];exact H.qR (by simp[bw])
   |some x=>
    have Od:decide (k < out.length)=true:=by have:=(aj.1 Ax).1;simp;omega
    refine eU (eU (H.held k1 (S0:=(⟨120,[(1,.d (.int .i64 a1)),(2,.cN (aK a0) 0),(7,.d (.slice (ak aw out))),(8,.d (.bool b1)),(9,.d (.bool b2)),(10,.d (.int .i64 (j:Int))),(11,.cN (aT e) 0),(12,.d (.int .i64 (k:Int))),(50,.d (.bool (Op.bytesLess x.Name.toList e.Name.toList)))],[],[]⟩:St)) [0,1,2,3,4,5,6,7,8,9,10,11,12,13] 0 sZ (by decide +kernel) rfl rfl rfl (by simp[lB,uY,yx,iZ,gB,gZ,Od,Ax];rfl) (λK2 S F C=>kx C (by decide +kernel) ⟨rfl,bw.2 (by simp[Od,Ax])⟩) (by simp) (by simp) λa w H=>?_));have h50:=H.bool (s:=50) (c:=Op.bytesLess x.Name.toList e.Name.toList) (by simp[St.look,get]);refine dz h50 (λhc=>oJ (dB ?_)) λhc=>qQ (eR (eR (ot ⟨rfl,?_⟩)))
    ·have hw:IntKind.i64.wrap ((k:Int)+1)=(k:Int)+1:=iI (by omega) (by have:=(aj.1 Ax).1;omega)
     refine gn (H.zM k1 (λK2=>ko [1,2,7,8,9,10,11,12] 3 (by simp;rfl) ct) (by simp) (by simp) λa w H=>lC ?_);refine⟨out.length - (k+1),by have:=(aj.1 Ax).1;omega,k+1,H.qR (by simp[bw,hw]),?_,rfl⟩;rcases iU k (lu e.Name out) with h |h
     ·omega
     ·have:k=lu e.Name out:=by omega
      rw[this] at Ax;rw[O8 Ax] at hc;cases hc
    ·have Xo:k=lu e.Name out:=by
      rcases iU k (lu e.Name out) with h |h
      ·rw[Rn h Ax] at hc;cases hc
      ·omega
     rw[← Xo];exact H.qR (by simp[bw])
  subst hex;refine dB ?_;have hk:=Eg e.Name out;obtain⟨k,Ut⟩:∃k,k=lu e.Name out:=⟨_,rfl⟩;rw[← Ut] at H hk;refine eU (hU (Q:=λex a w=>ex=.normal∧∃is:Bool,(is=true↔∃x,out[k]? =some x∧(x.Name.toList==e.Name.toList)=true)∧NI K' 2 7 v2 v7 2 (ak aw out) (⟨120,[(1,.d (.int .i64 a1)),(2,.cN (aK a0) 0),(7,.d (.slice (ak aw out))),(8,.d (.bool b1)),(9,.d (.bool b2)),(10,.d (.int .i64 (j:Int))),(11,.cN (aT e) 0),(12,.d (.int .i64 (k:Int))),(13,.d (.bool is))],[],[]⟩:St) a w) ?_ λex a w ⟨hex,is,PN,H⟩=>?_)
  case refine_1=>
   cases Ax:out[k]? with
   |none=>
    have Od:¬k < out.length:=by have:=List.getElem?_eq_none_iff.1 Ax;omega
    refine H.held k1 (S0:=(⟨120,[(1,.d (.int .i64 a1)),(2,.cN (aK a0) 0),(7,.d (.slice (ak aw out))),(8,.d (.bool b1)),(9,.d (.bool b2)),(10,.d (.int .i64 (j:Int))),(11,.cN (aT e) 0),(12,.d (.int .i64 (k:Int))),(13,.d (.bool false))],[],[]⟩:St)) [0,1,2,3,4,5,6,7,8,9,10,11,12,13,14] 0 sZ (by decide +kernel) rfl rfl rfl (by simp[lB,uY,yx,iZ,gB,gZ,Od];rfl) (λK2 S F C=>kx C (by decide +kernel) ⟨rfl,bw.2 (by simp[Od])⟩) (by simp) (by simp) λa w H=>?_
    exact⟨rfl,false,by simp,H⟩
   |some x=>
    have Od:decide (k < out.length)=true:=by have:=(aj.1 Ax).1;simp;omega
    refine H.held k1 (S0:=(⟨120,[(1,.d (.int .i64 a1)),(2,.cN (aK a0) 0),(7,.d (.slice (ak aw out))),(8,.d (.bool b1)),(9,.d (.bool b2)),(10,.d (.int .i64 (j:Int))),(11,.cN (aT e) 0),(12,.d (.int .i64 (k:Int))),(13,.d (.bool (x.Name.toList==e.Name.toList)))],[],[]⟩:St)) [0,1,2,3,4,5,6,7,8,9,10,11,12,13,14] 0 sZ (by decide +kernel) rfl rfl rfl (by simp[lB,uY,yx,iZ,gB,gZ,Od,Ax];rfl) (λK2 S F C=>kx C (by decide +kernel) ⟨rfl,bw.2 (by simp[Od,Ax])⟩) (by simp) (by simp) λa w H=>?_
    exact⟨rfl,_,by simp,H⟩
  subst hex;refine dB ?_;refine eU (hU (Q:=λex a w=>ex=.normal∧∃(kq:List aB) (b1':Bool) (v7':Value),NI K' 2 7 v2 v7' 2 (ak aw kq) (⟨120,[(1,.d (.int .i64 a1)),(8,.d (.bool b1')),(9,.d (.bool b2)),(10,.d (.int .i64 (j:Int)))],[],[]⟩:St) a w∧fL e (out,b1,b2)=(kq,b1',b2&&decide (kq.length≤32))) ?_ λex a w ⟨hex,kq,b1',v7',H,sV⟩=>?_)
  case refine_2=>
   subst hex;refine dB ?_;have Ul:=Iy kq;replace H:=H.show k2.symm Gq k1 Ul (cM:=(⟨120,[(1,.d (.int .i64 a1)),(2,.cN (aK a0) 0),(7,.d (.slice (ak aw kq))),(8,.d (.bool b1')),(9,.d (.bool b2)),(10,.d (.int .i64 (j:Int)))],[],[]⟩:St)) (by simp[bw,St.put]);rw[sV] at hn;have hw:IntKind.i64.wrap ((j:Int)+1)=(j:Int)+1:=iI (by omega) (by omega);have hlen:kq.length≤j+1:=by have:=zt e (out,b1,b2);rw[sV] at this;dsimp only at this;omega
   refine hU (Q:=λex a w=>ex=.normal∧NI K' 2 7 v2 v7' 2 (ak aw kq) (⟨120,[(1,.d (.int .i64 a1)),(2,.cN (aK a0) 0),(7,.d (.slice (ak aw kq))),(8,.d (.bool b1')),(9,.d (.bool (b2&&decide (kq.length≤32)))),(10,.d (.int .i64 (j:Int)))],[],[]⟩:St) a w) ?_ λex a w ⟨hex,H⟩=>?_
   ·cases b2 with
    |false=>exact H.zM k1 (λK2=>ko [1,2,7,8,9,10] 7 (by simp;rfl) ct) (by simp) (by simp) λa w H=>⟨rfl,H.qR (by simp[bw])⟩
    |true=>
     have hle:((kq.length:Int)≤32)↔kq.length≤32:=by omega
     refine H.zM k1 (λK2=>ko [1,2,7,8,9,10] 7 (by simp;rfl) ct) (by simp) (by simp) λa w H=>⟨rfl,H.qR (by simp[bw,hle])⟩
   ·subst hex
    refine lC (dB ?_);refine H.zM k1 (λK2=>ko [1,2,7,8,9,10] 3 (by simp;rfl) ct) (by simp) (by simp) λa w H=>?_
    exact⟨a0.aC.length - (j+1),by omega,j+1,kq,b1',_,v7',H.qR (by simp[bw,hw]),hn,by omega,by omega,rfl⟩
  case refine_1=>
   refine gn ?_;have Xp:(e.Kind==1)=decide (e.Kind=1):=rfl;by_cases uO:e.Kind=1
   ·refine eU (hU (Q:=λex a w=>ex=.normal∧NI K' 2 7 v2 v7 2 (ak aw out) (⟨120,[(1,.d (.int .i64 a1)),(2,.cN (aK a0) 0),(7,.d (.slice (ak aw out))),(8,.d (.bool b1)),(9,.d (.bool b2)),(10,.d (.int .i64 (j:Int))),(11,.cN (aT e) 0),(12,.d (.int .i64 (k:Int))),(13,.d (.bool is)),(67,.d (.bool is))],[],[]⟩:St) a w) ?_ λex a w ⟨hex,H⟩=>?_)
    ·exact H.zM k1 (λK2=>ko [1,2,7,8,9,10,11,12,13,67] 7 (by simp[uO]) ct) (by simp) (by simp) λa w H=>⟨rfl,H⟩
    ·subst hex
     refine dB ?_;have h67:=H.bool (s:=67) (c:=is) (by simp[St.look,get]);refine dz h67 (λhc=>?_) λhc=>?_
     ·subst hc
      obtain⟨x,Ax,Jh⟩:=PN.1 rfl;have MM:=(aj.1 Ax).1;obtain⟨p,R,h2,h7,S⟩:=H;have hS:=S;rcases S with ⟨XH,_⟩ |⟨g,c,cs,ty,rfl,_⟩
      ·have:out=[]:=by simpa[ak] using XH
       rw[this] at MM;simp at MM
      refine eW (jw (v:=.slice (some ⟨g,0,none⟩) (ak aw out).length c) (w':=w) rfl (by simp[execOp,h7]) ?_);have R2:=R.put (d:=74) (x:=.undef) (v:=.slice (some ⟨g,0,none⟩) (ak aw out).length c) .undef (by simp);have e74:(a.put (some 74) (.slice (some ⟨g,0,none⟩) (ak aw out).length c)).eval (.tmp 74)=_:=dm (by rw[R.nt];simp);have e2:(a.put (some 74) (.slice (some ⟨g,0,none⟩) (ak aw out).length c)).eval (.tmp 2)=v2:=(aX (by simp)).trans h2;have e7:(a.put (some 74) (.slice (some ⟨g,0,none⟩) (ak aw out).length c)).eval (.tmp 7)=_:=(aX (by simp)).trans h7;generalize a.put (some 74) (.slice (some ⟨g,0,none⟩) (ak aw out).length c)=a at *;refine QK 3 (G:=λa w=>∃p,Rel K' (⟨120,[(1,.d (.int .i64 a1)),(8,.d (.bool b1)),(9,.d (.bool b2)),(10,.d (.int .i64 (j:Int))),(75,.d (.int .i64 (k:Int))),(77,.d (.int .i64 e.dI))],[],[]⟩:St) a w p∧SL K' w p 2 (ak aw out) (.slice (some ⟨g,0,none⟩) (ak aw out).length c)∧a.eval (.tmp 2)=v2∧a.eval (.tmp 7)=.slice (some ⟨g,0,none⟩) (ak aw out).length c∧a.eval (.tmp 74)=.slice (some ⟨g,0,none⟩) (ak aw out).length c) ?_ λa w ⟨p,R,S,e2,e7,e74⟩=>?_
      ·refine xE (λex a w ⟨⟨h1,p,R,S,e2,e7⟩,h3⟩=>⟨h1,p,R,S,e2,e7,h3 h1⟩) _ _ _ (yG (t:=74) _ _ _ (by simp) e74 (BI (F:=λex a w=>ex=.normal∧∃p,Rel K' (⟨120,[(1,.d (.int .i64 a1)),(8,.d (.bool b1)),(9,.d (.bool b2)),(10,.d (.int .i64 (j:Int))),(75,.d (.int .i64 (k:Int))),(77,.d (.int .i64 e.dI))],[],[]⟩:St) a w p∧SL K' w p 2 (ak aw out) (.slice (some ⟨g,0,none⟩) (ak aw out).length c)∧a.eval (.tmp 2)=v2∧a.eval (.tmp 7)=.slice (some ⟨g,0,none⟩) (ak aw out).length c) (t:=2) (t':=7) k1 (λK2=>ko [1,8,9,10,75,77] 3 (by simp[St.put];rfl) ct) (by simp) (by simp) R2 e2 e7 λa w p R kp e2 e7=>?_))
       obtain⟨p2,R2,KL⟩:=R.oK (cM:=(⟨120,[(1,.d (.int .i64 a1)),(8,.d (.bool b1)),(9,.d (.bool b2)),(10,.d (.int .i64 (j:Int))),(75,.d (.int .i64 (k:Int))),(77,.d (.int .i64 e.dI))],[],[]⟩:St)) (by simp[bw]);exact⟨rfl,p2,R2,(hS.kept kp).wk KL,e2,e7⟩
      clear R2 hS;have e75:a.eval (.tmp 75)=.int .i64 (k:Int):=xG R (by simp[St.look,get]);have e77:a.eval (.tmp 77)=.int .i64 e.dI:=xG R (by simp[St.look,get]);refine jw (v:=.pointer (some ⟨g,k * 2,none⟩)) (w':=w) rfl (by simp[execOp,e74,e75,Instr.indexAt,aJ Tryz.underlying41,asIntOf,MM,ix]) ?_;have R3:=R.put (d:=78) (x:=.undef) (v:=.pointer (some ⟨g,k * 2,none⟩)) .undef (by simp);have f78:(a.put (some 78) (.pointer (some ⟨g,k * 2,none⟩))).eval (.tmp 78)=_:=dm (by rw[R.nt];simp);have f77:(a.put (some 78) (.pointer (some ⟨g,k * 2,none⟩))).eval (.tmp 77)=_:=(aX (by simp)).trans e77;have f2:(a.put (some 78) (.pointer (some ⟨g,k * 2,none⟩))).eval (.tmp 2)=_:=(aX (by simp)).trans e2;have f7:(a.put (some 78) (.pointer (some ⟨g,k * 2,none⟩))).eval (.tmp 7)=_:=(aX (by simp)).trans e7;clear e74 e75 e77 e2 e7;refine(?_:wpList _ _ _ _ (a.put (some 78) (.pointer (some ⟨g,k * 2,none⟩))) w);generalize a.put (some 78) (.pointer (some ⟨g,k * 2,none⟩))=a at *;refine jw (v:=.pointer (some ⟨g,k * 2+1,none⟩)) (w':=w) rfl (by simp[execOp,f78,Instr.fieldAt,Instr.sureAddr,aJ Tryz.underlying62,fieldPlace,ix]) ?_;have R4:=R3.put (d:=79) (x:=.undef) (v:=.pointer (some ⟨g,k * 2+1,none⟩)) .undef (by simp[St.put]);have g79:(a.put (some 79) (.pointer (some ⟨g,k * 2+1,none⟩))).eval (.tmp 79)=_:=dm (by rw[R3.nt];simp[St.put]);have g77:(a.put (some 79) (.pointer (some ⟨g,k * 2+1,none⟩))).eval (.tmp 77)=_:=(aX (by simp)).trans f77;have g2:(a.put (some 79) (.pointer (some ⟨g,k * 2+1,none⟩))).eval (.tmp 2)=_:=(aX (by simp)).trans f2;have g7:(a.put (some 79) (.pointer (some ⟨g,k * 2+1,none⟩))).eval (.tmp 7)=_:=(aX (by simp)).trans f7;clear f78 f77 f2 f7 R3;refine(?_:wpList _ _ _ _ (a.put (some 79) (.pointer (some ⟨g,k * 2+1,none⟩))) w);generalize a.put (some 79) (.pointer (some ⟨g,k * 2+1,none⟩))=a at *;obtain⟨p5,R5,hk5⟩:=R4.oK (cM:=(⟨120,[(1,.d (.int .i64 a1)),(8,.d (.bool b1)),(9,.d (.bool b2)),(10,.d (.int .i64 (j:Int)))],[],[]⟩:St)) (by simp[bw,St.put]);obtain⟨cs,ty,w',xf,PD,hw3,R6,S6⟩:=SL.set (i:=k) (o:=1) (d:=.int .i64 e.dI) (u:=.int .i64 e.dI) R5 (C2 (by simp[Au,qC])) (λn cs h=>by simp[get] at h) rfl (Iy out) (VE out) (S.wk hk5) (by rw[BS,Ax];rfl) (by decide) trivial .int (by simp[Value.oneCell'])
      ·refine OO rfl 3 (.tmp 79) (.tmp 77) rfl rfl g (k * 2+1) cs ty g79 g77 (by simp) xf PD ?_
       rw[← hw3];refine lC ⟨rfl,out.set k ⟨x.Name,e.dI⟩,b1,_,⟨p5,?_,g2,g7,?_⟩,?_⟩
       ·exact R6
       ·have KF:ak aw (out.set k ⟨x.Name,e.dI⟩)=(ak aw out).set k ((aw x).set 1 (.int .i64 e.dI)):=by rw[GR];rfl
        rw[KF];exact S6
       ·unfold fL
        simp only[← Ut,Ax,Jh,uO,eM]
     ·subst hc
      have Dz:fL e (out,b1,b2)=(out.take k++([(⟨e.Name,e.dI⟩:aB)]++out.drop k),b1,b2&&decide ((out.take k++([(⟨e.Name,e.dI⟩:aB)]++out.drop k)).length≤32)):=by
       unfold fL;simp only[← Ut,uO,eM];cases Ax:out[k]? with
       |none=>rfl
       |some x=>
        have:¬(x.Name.toList==e.Name.toList)=true:=λh=>by have:=PN.2 ⟨x,Ax,h⟩;cases this
        simp only[this];rfl
      have afD:1+(out.length - k)≤268435456:=by omega
      have afC:k+(out.length - k+1)≤268435456:=by omega
      refine H.xc k1 (λK2=>ko [1,2,7,8,9,10,11,12,80] 4 (by simp[uO];rfl) ct) (by simp) (by simp) λa w H=>?_
      have h80:=H.bool (s:=80) (c:=true) (by simp[St.look,get]);refine dz h80 (λ_=>?_) λhc=>by cases hc
      refine eU (H.held k1 (S0:=(⟨120,[(1,.d (.int .i64 a1)),(2,.cN (aK a0) 0),(7,.d (.slice (ak aw out))),(8,.d (.bool b1)),(9,.d (.bool b2)),(10,.d (.int .i64 (j:Int))),(12,.d (.int .i64 (k:Int))),(14,.vec 93)],[],[(93,⟨62,2,ak aw ([(⟨e.Name,e.dI⟩:aB)]++out.drop k)⟩)]⟩:St)) [0,1,2,3,6,7,8] 4 sZ (by decide +kernel) rfl rfl rfl (by simp[lB,uY,yx,iZ,gB,gZ,hk];rfl) (λK2 S F C=>?_) (by simp) (by simp) λa w H=>?_)
      ·refine ky C [4] (by decide +kernel) (by decide) ?_
       refine fa rfl (by simp;rfl) ?_ trivial;refine ky C [5] (by decide +kernel) (by decide) ?_;refine fa rfl (by simp;rfl) ?_ trivial;refine ky C [9] (by decide +kernel) (by decide) ?_;refine fa rfl (by simp[afD];rfl) ?_ trivial;refine ky C [10] (by decide +kernel) (by decide) ?_;refine fa rfl (by simp;rfl) ?_ trivial;exact kx C (by decide +kernel) ⟨rfl,bw.2 (by simp)⟩
      ·refine H.aeW k1 (n:=99) (e:=62) (rows':=ak aw (out.take k++([(⟨e.Name,e.dI⟩:aB)]++out.drop k))) (st1:=(⟨120,[(1,.d (.int .i64 a1)),(7,.vec 99),(8,.d (.bool b1)),(9,.d (.bool b2)),(10,.d (.int .i64 (j:Int)))],[],[(99,⟨62,2,ak aw (out.take k++([(⟨e.Name,e.dI⟩:aB)]++out.drop k))⟩)]⟩:St)) (st2:=(⟨120,[(1,.d (.int .i64 a1)),(8,.d (.bool b1)),(9,.d (.bool b2)),(10,.d (.int .i64 (j:Int)))],[],[]⟩:St)) (λK2=>ko [1,7,8,9,10] 7 (by simp[hk,afC];rfl) (lA cq ct)) (by simp) rfl (by decide) rfl (by simp[bw]) rfl λa w v' H=>lC ⟨rfl,_,_,v',H,Dz⟩
   ·have hkf:(e.Kind==1)=false:=by simp[uO]
    refine eU (hU (Q:=λex a w=>ex=.normal∧NI K' 2 7 v2 v7 2 (ak aw out) (⟨120,[(1,.d (.int .i64 a1)),(2,.cN (aK a0) 0),(7,.d (.slice (ak aw out))),(8,.d (.bool b1)),(9,.d (.bool b2)),(10,.d (.int .i64 (j:Int))),(11,.cN (aT e) 0),(12,.d (.int .i64 (k:Int))),(13,.d (.bool is)),(67,.d (.bool false))],[],[]⟩:St) a w) ?_ λex a w ⟨hex,H⟩=>?_)
    ·exact H.zM k1 (λK2=>ko [1,2,7,8,9,10,11,12,13,67] 7 (by simp[hkf]) ct) (by simp) (by simp) λa w H=>⟨rfl,H⟩
    ·subst hex
     refine dB ?_;have h67:=H.bool (s:=67) (c:=false) (by simp[St.look,get]);refine dz h67 (λhc=>by cases hc) λ_=>?_
     refine H.xc k1 (λK2=>ko [1,2,7,8,9,10,11,12,13,80] 4 (by simp[hkf];rfl) ct) (by simp) (by simp) λa w H=>?_
     have h80:=H.bool (s:=80) (c:=false) (by simp[St.look,get]);refine dz h80 (λhc=>by cases hc) λ_=>?_
     refine H.xc k1 (λK2=>ko [1,2,7,8,9,10,12,100] 2 (by simp;rfl) ct) (by simp) (by simp) λa w H=>?_
     have agT:=H.bool (s:=100) (c:=is) (by simp[St.look,get]);refine dz agT (λhc=>?_) λhc=>?_
     case refine_2=>
      refine H.zM k1 (λK2=>ko [1,8,9,10] 1 (by simp;rfl) ct) (by simp) (by simp) λa w H=>lC ⟨rfl,out,false,_,H.qR (by simp[bw]),?_⟩
      subst hc;unfold fL;simp only[← Ut,ah uO];cases Ax:out[k]? with
      |none=>rfl
      |some x=>
       have:¬(x.Name.toList==e.Name.toList)=true:=λh=>by have:=PN.2 ⟨x,Ax,h⟩;cases this
       simp only[this];rfl
     subst hc;obtain⟨x,Ax,Jh⟩:=PN.1 rfl;have MM:=(aj.1 Ax).1;have Dz:fL e (out,b1,b2)=(out.take k++out.drop (k+1),b1,b2&&decide ((out.take k++out.drop (k+1)).length≤32)):=by
      unfold fL;simp only[← Ut,Ax,Jh,ah uO,eM]
     have xf:IntKind.i64.wrap ((k:Int)+1)=((k+1:Nat):Int):=by rw[iI (by omega) (by omega)];rfl
     have hi1:0≤(k:Int)+1:=by omega
     have Xv:(k:Int)+1≤(out.length:Int):=by omega
     by_cases S5:k+1 < out.length
     ·have afB:k+(out.length - (k+1))≤268435456:=by omega
      have rW:0 < out.length - (k+1):=by omega
      have KL:k+1≤out.length:=by omega
      refine H.aeX k1 (n:=110) (e:=62) (rows':=ak aw (out.take k++out.drop (k+1))) (S0:=(⟨120,[(1,.d (.int .i64 a1)),(7,.vec 110),(8,.d (.bool b1)),(9,.d (.bool b2)),(10,.d (.int .i64 (j:Int)))],[],[(110,⟨62,2,ak aw (out.take k++out.drop (k+1))⟩)]⟩:St)) (st2:=(⟨120,[(1,.d (.int .i64 a1)),(8,.d (.bool b1)),(9,.d (.bool b2)),(10,.d (.int .i64 (j:Int)))],[],[]⟩:St)) [0,1,2,3,4,5,6,7] 2 sZ (by decide +kernel) rfl rfl rfl (by simp[lB,uY,yx,iZ,gB,gZ,hk,xf,KL,hi1,Xv];rfl) (λK2 S F C=>?_) (by simp) rfl (by decide) rfl (by simp[bw]) rfl λa w v' H=>lC ⟨rfl,_,_,v',H,Dz⟩
      refine ky C [8] (by decide +kernel) (by decide) ?_;refine fa rfl (by simp[afB,rW,hk];rfl) ?_ trivial;refine ky C [9] (by decide +kernel) (by decide) ?_;refine fa rfl (by simp;rfl) ?_ trivial;exact kx C (by decide +kernel) ⟨rfl,bw.2 (by simp)⟩
     ·have hlen:k+1=out.length:=by omega
      have Oh:out.drop (k+1)=[]:=cx (by omega);have KL:k+1≤out.length:=by omega
      obtain⟨p,R,h2,h7,S⟩:=H;have hS:=S;rcases S with ⟨XH,_⟩ |⟨g,c,cs,ty,rfl,V0,_⟩
      ·have:out=[]:=by simpa[ak] using XH
       rw[this] at MM;simp at MM
      have zB:(ak aw out).length=out.length:=by simp[ak]
      refine ug (S:=Agree K' p { w with drawn:=w.drawn+1 }) sZ ?_;have R:Rel K' _ a ({ w with drawn:=w.drawn+1 }:World) p:=R.drew;have hS:SL K' { w with drawn:=w.drawn+1 } p 2 (ak aw out) (.slice (some ⟨g,0,none⟩) (ak aw out).length c):=hS.kept λb hb=>⟨rfl,hb⟩
      generalize ({ w with drawn:=w.drawn+1 }:World)=wd at *;refine(?_:wpAnyH Tryz.prog .any _ _ _ (9+1) _ a wd);refine yL (i:=0) rfl (by decide +kernel) (by decide +kernel) (by decide +kernel) (λc a w q=>absurd q.1 (by simp)) rfl rfl rfl h7 (λ_ _=>rfl) ?_;have PY:(a.put (some 102) (.slice (some ⟨g,0,none⟩) (ak aw out).length c)).eval (.tmp 102)=_:=dm (by rw[R.nt];simp);have e2:(a.put (some 102) (.slice (some ⟨g,0,none⟩) (ak aw out).length c)).eval (.tmp 2)=v2:=(aX (by simp)).trans h2;have e7:(a.put (some 102) (.slice (some ⟨g,0,none⟩) (ak aw out).length c)).eval (.tmp 7)=_:=(aX (by simp)).trans h7;have R2:=R.put (d:=102) (x:=.undef) (v:=(.slice (some ⟨g,0,none⟩) (ak aw out).length c)) .undef (by simp);clear h2 h7 R;generalize a.put (some 102) (.slice (some ⟨g,0,none⟩) (ak aw out).length c)=a at *;refine pD [2,7,102] (by decide +kernel) (λc a w q=>absurd q.1 (by simp)) (λw2 h q hq=>h q hq) (λ_ _=>rfl) (n:=3) [1,2,4,5,6,7] _ (St.put (⟨120,[(1,.d (.int .i64 a1)),(2,.cN (aK a0) 0),(7,.d (.slice (ak aw out))),(8,.d (.bool b1)),(9,.d (.bool b2)),(10,.d (.int .i64 (j:Int))),(12,.d (.int .i64 (k:Int))),(100,.d (.bool true))],[],[]⟩:St) 102 .undef) _ (by decide +kernel) (yb (by decide +kernel)) R2 (tE rfl rfl rfl (by simp[gX,iZ,gB,gZ,St.put,xf,KL,hi1,Xv,hk,Oh];rfl)) λa4 R4 hkp=>?_
      have e2:a4.eval (.tmp 2)=v2:=(hkp 2 (by simp)).trans e2;have e7:a4.eval (.tmp 7)=_:=(hkp 7 (by simp)).trans e7;have PY:a4.eval (.tmp 102)=_:=(hkp 102 (by simp)).trans PY;have K4:a4.eval (.tmp 103)=.int .i64 (k:Int):=xG R4 (by simp[St.look,get,St.put]);have K3:a4.eval (.tmp 104)=.int .i64 (k:Int):=xG R4 (by simp[St.look,get,St.put]);obtain⟨a9,c9,V7⟩:=UH (s:=109) R4 (by simp[St.look,get,St.put]);clear hkp R2;refine(?_:wpAnyH Tryz.prog .any _ _ _ (2+1) _ a4 wd);refine ly (i:=3) (v:=(.slice (some ⟨g,0,none⟩) k k)) rfl (by decide +kernel) (by decide +kernel) (by decide +kernel) (λc a w q=>absurd q.1 (by simp)) (.inl ⟨rfl,λw' _=>?_⟩) (λ_ _=>rfl) ?_
      ·have hr:=Ic (P:=Tryz.prog) (t:=41) (e:=62) (z:=2) (g:=g) (n:=(ak aw out).length) (c:=c) (k:=k) (k1:=.i64) (k2:=.i64) Tryz.underlying41 (by kernel_rfl) (by omega) w'
       rw[zB] at hr;simp[execOp,PY,K4,K3,hr]
      have R5:=R4.put (d:=105) (x:=.undef) (v:=(.slice (some ⟨g,0,none⟩) k k)) .undef (by simp[St.put]);have ada:(a4.put (some 105) (.slice (some ⟨g,0,none⟩) k k)).eval (.tmp 105)=_:=dm (by rw[R4.nt];simp[St.put]);have e2:(a4.put (some 105) (.slice (some ⟨g,0,none⟩) k k)).eval (.tmp 2)=v2:=(aX (by simp)).trans e2;have V7:(a4.put (some 105) (.slice (some ⟨g,0,none⟩) k k)).eval (.tmp 109)=_:=(aX (by simp)).trans V7;clear PY K4 K3 e7 R4;refine(?_:wpAnyH Tryz.prog .any _ _ _ (1+1) _ (a4.put (some 105) (.slice (some ⟨g,0,none⟩) k k)) wd);generalize a4.put (some 105) (.slice (some ⟨g,0,none⟩) k k)=a5 at *;refine fv (rs:=[8]) (by decide +kernel) (by simp) λi hi=>?_
      rw[aD.1 hi];have acX:=λty=>Ra (P:=Tryz.prog) (t:=41) (ty:=ty) (e:=62) (zs:=[.d (.str ByteArray.empty),.d (.int .i64 0)]) Tryz.underlying41 (by kernel_rfl) (a:=a9) (b:=some ⟨g,0,none⟩) (n:=k) (m:=k) (c:=c9) (aM _) wd
      refine mF (v:=(.slice (some ⟨g,0,none⟩) k k)) (w':=wd) rfl rfl (by simp[execOp,resolve,invoke,builtin,ada,V7,acX]) ⟨λ_ _=>rfl,?_⟩;have R6:=R5.put (d:=110) (x:=.undef) (v:=(.slice (some ⟨g,0,none⟩) k k)) .undef (by simp[St.put]);have agZ:(a5.put (some 110) (.slice (some ⟨g,0,none⟩) k k)).eval (.tmp 110)=_:=dm (by rw[R5.nt];simp[St.put]);have e2:(a5.put (some 110) (.slice (some ⟨g,0,none⟩) k k)).eval (.tmp 2)=v2:=(aX (by simp)).trans e2;clear ada V7 R5 acX;refine(?_:wpAnyH Tryz.prog .any _ _ _ (0+1) _ (a5.put (some 110) (.slice (some ⟨g,0,none⟩) k k)) wd);generalize a5.put (some 110) (.slice (some ⟨g,0,none⟩) k k)=a6 at *;refine fv (rs:=[9]) (by decide +kernel) (by simp) λi hi=>?_
      rw[aD.1 hi];refine mF (v:=(.slice (some ⟨g,0,none⟩) k k)) (w':=wd) rfl rfl (by simp[execOp,agZ]) ⟨λ_ _=>rfl,?_⟩;have R7:=R6.put (d:=7) (x:=.undef) (v:=(.slice (some ⟨g,0,none⟩) k k)) .undef (by simp[St.put]);have e7:(a6.put (some 7) (.slice (some ⟨g,0,none⟩) k k)).eval (.tmp 7)=_:=dm (by rw[R6.nt];simp[St.put]);have e2:(a6.put (some 7) (.slice (some ⟨g,0,none⟩) k k)).eval (.tmp 2)=v2:=(aX (by simp)).trans e2;obtain⟨p7,R8,hk7⟩:=R7.oK (cM:=(⟨120,[(1,.d (.int .i64 a1)),(8,.d (.bool b1)),(9,.d (.bool b2)),(10,.d (.int .i64 (j:Int)))],[],[]⟩:St)) (by simp[bw,St.put]);have hS2:=(SL.take (n:=k) (c:=k) hS (by omega) (aM _)).wk hk7;have hrt:ak aw (out.take k++out.drop (k+1))=(ak aw out).take k:=by rw[Oh,kj];simp[ak]
      refine wpAnyH_done (by decide +kernel) ⟨rfl,out.take k++out.drop (k+1),b1,(.slice (some ⟨g,0,none⟩) k k),⟨p7,R8,e2,e7,?_⟩,Dz⟩ _;rw[hrt];exact hS2
theorem Ek {a0:ao} {a1:Int} {r:List aB×Bool×Bool} (h0:ja a0 a1=some r):dY Tryz.prog 106 [] [.agg (ay a0),.d (.int .i64 a1)] (.ia [.d (.slice (ak aw r.1)),.d (.bool r.2.1),.d (.bool r.2.2)]) []:=AY h0
theorem JT {a0:ao} {a1:Int} {r:List (Int×Bool)} (h0:vE a0 a1=some r):dY Tryz.prog 70 [] [.agg (ay a0),.d (.int .i64 a1)] (.d (.mp (bL 103 1 false false) 2 (ak (bB (aH .i64) gm) r))) []:=adm (λh=>AY h) h0
end Go.Vl
