/- What history.Valid answers, in plain words. Conditions: none. -/
import Derived.Test.YtjnflahicimmlaaGreatDoorJAx
set_option linter.unusedSimpArgs false
set_option linter.unusedVariables false
namespace Go.Vl
open Go
theorem gx {α ε:Type} {body:Int→Option (Lp Int (Unit ⊕ ε))} (l:List α) (p:α→Bool) (e:ε) (xr:∀(i:Nat) (h:i < l.length),body (i:Int)=some (if p l[i]=true then .go ((i+1:Nat):Int) else .out (.inr e)))
  (Ac:body (l.length:Int)=some (.out (.inl ()))):iter body 0=some (if l.all p=true then .inl () else .inr e):=by
 rw[vL l.length (λi=>match l[i]? with |some x=>p x |none=>true) e (λi hi=>by simp only[ae hi];exact xr i hi) Ac];by_cases h:l.all p=true
 ·rw[ai h,ai]
  intro i hi;simp only[ae hi];exact bE.1 h _ (bC hi)
 ·rw[ah h,ah]
  intro hn;refine h (bE.2 λx hx=>?_);obtain⟨i,hi,rfl⟩:=cu hx;have:=hn i hi;simp only[ae hi] at this;exact this
def xb {σ α ε:Type} (g:σ→α→ε ⊕ σ) (fin:σ→ε):List α→σ→ε
 |[],s=>fin s
 |x::l,s=>match g s x with
  | .inl e=>e
  | .inr s'=>xb g fin l s'
theorem zU {σ α ε:Type} {body:Int×σ→Option (Lp (Int×σ) ε)} (l:List α) (g:σ→α→ε ⊕ σ) (fin:σ→ε)
  (xr:∀(i:Nat) (h:i < l.length) (s:σ),body ((i:Int),s)=some (match g s l[i] with | .inl e=>.out e | .inr s'=>.go (((i+1:Nat):Int),s')))
  (Ac:∀s,body ((l.length:Int),s)=some (.out (fin s))) (s0:σ):iter body (0,s0)=some (xb g fin l s0):=by
 have key:∀(m i:Nat) (s:σ),i+m=l.length→iter body ((i:Int),s)=some (xb g fin (l.drop i) s):=λm=>by
  induction m with
  |zero=>
   intro i s h;have:i=l.length:=by omega
   subst this;rw[dP (Ac s)];simp[xb]
  |succ m ih=>
   intro i s h;have hi:i < l.length:=by omega
   have h1:=xr i hi s;rw[bN hi,xb];cases hg:g s l[i] with
   |inl e=>rw[hg] at h1;exact dP h1
   |inr s'=>rw[hg] at h1;rw[fT h1,ih (i+1) s' (by omega)]
 simpa using key l.length 0 s0 (by omega)
theorem Bi {α:Type} {body:Int→Option (Lp Int (Unit ⊕ Int))} (l:List α) (p:α→Bool)
  (xr:∀(i:Nat) (h:i < l.length),body (i:Int)=some (if p l[i]=true then .out (.inr (i:Int)) else .go (((i+1:Nat):Int))))
  (Ac:body (l.length:Int)=some (.out (.inl ()))):((iter body 0).bind λq=>match q with | .inl _=>some (-1) | .inr r=>some r).bind (λy:Int=>some (decide (0≤y)))=some (l.any p):=by
 obtain⟨h1,h2⟩:=E0 l p (λi _=>(.inr (i:Int):Unit ⊕ Int)) (.inl ()) xr Ac;cases h:l.any p with
 |false=>rw[h1 h];rfl
 |true=>
  obtain⟨i,hi,_,h3⟩:=h2 h;rw[h3];simp
def Wd (c:Int):Bool:=!(decide (c < 33)||(decide (126 < c)||(c==47)))
def Jd (s:ByteArray):Bool:=(fU s).all Wd&&(decide (1≤s.size)&&decide (s.size≤40))
theorem Ip {s:ByteArray} (h:s.size≤9223372036854775807):mi s=some (Jd s):=by
 have hl:=rq s;unfold mi;rw[gx (fU s) Wd false (λi hi=>?_) ?_]
 ·unfold Jd
  by_cases hb:(fU s).all Wd=true
  ·rw[ai hb,hb]
   simp only[aa,kY]
   congr 2
   ·simp;omega
   ·simp;omega
  ·rw[ah hb]
   have:(fU s).all Wd=false:=by simpa using hb
   rw[this];rfl
 ·unfold qq
  rw[ah (by simp)]
 ·unfold qq
  rw[ai (by simp;omega),dj hi,iI (by omega) (by omega)];simp only[aa];unfold Wd;cases (decide ((fU s)[i] < 33)||(decide (126 < (fU s)[i])||((fU s)[i]==47))) <;> rfl
def ya (x:Int):Bool:=decide (1≤x)&&decide (x≤1073741824)
theorem yQ (x:Int):lh x=some (ya x):=rfl
def vB (l:List aB) (i:Nat):Bool:=match l[i]? with
 |some x=>Jd x.Name&&(ya x.ID&&(i==0||match l[i - 1]? with |some y=>Op.bytesLess y.Name.toList x.Name.toList |none=>false))
 |none=>true
theorem UX {o:ab} (h:o.bd.length≤1000000) (hf:∀x∈o.bd,x.Name.size≤9223372036854775807):rR o=some (decide (∀i,i < o.bd.length→vB o.bd i=true)):=by
 unfold rR;rw[vL o.bd.length (vB o.bd) false (λi hi=>?_) ?_]
 ·by_cases hb:∀i,i < o.bd.length→vB o.bd i=true
  ·rw[ai hb,fD hb];rfl
  ·rw[ah hb,gy hb];rfl
 ·unfold qm
  rw[ah (by simp)]
 ·unfold qm
  rw[ai (by simp;omega),dj hi,iI (x:=(i:Int)+1) (by omega) (by omega)];simp only[aa];rw[Ip (hf _ (bC hi)),yQ];simp only[aa];unfold vB;rw[ae hi];simp only;rcases ft (Jd o.bd[i].Name) with uP |uP
  case inr=>simp[uP]
  case inl=>
   rcases ft (ya o.bd[i].ID) with pO |pO
   case inr=>simp[uP,pO]
   case inl=>
    simp only[uP,pO,Bool.not_true,bz,cS];cases i with
    |zero=>simp
    |succ i=>
     rw[ai (by simp)];have hw:IntKind.i64.wrap (((i+1:Nat):Int) - 1)=(i:Int):=by rw[iI (by omega) (by omega)];omega
     rw[hw,dj (show i < o.bd.length by omega)];simp only[aa,sh,ae (show i < o.bd.length by omega)];cases Op.bytesLess o.bd[i].Name.toList o.bd[i+1].Name.toList <;> simp
theorem contains_eq {l:List Int} (h:l.length≤1000000) (x:Int):slices_Contains_int l x=some (l.contains x):=by
 unfold slices_Contains_int slices_Index_int;have:=Bi (body:=jq l x) l (λy=>x==y) (λi hi=>?_) ?_
 ·rw[List.contains_eq_any_beq];exact this
 ·unfold jq
  rw[ai (by simp;omega),dj hi,iI (by omega) (by omega)];simp only[aa];cases x==l[i] <;> rfl
 ·unfold jq
  rw[ah (by simp)]
def Mn (l:List Int) (i:Nat):Bool:=match l[i]? with
 |some x=>ya x&& !(l.take i).contains x
 |none=>true
def yZ (o:ab):Bool:=decide (∀i,i < o.bf.length→Mn o.bf i=true)&&(ya o.Tree&&(Jd o.fJ&&(decide (0≤o.Time)&&decide (o.Time≤1099511627776))))
theorem P8 {o:ab} (h:o.bf.length≤1000000) (hf:o.fJ.size≤9223372036854775807):oP o=some (yZ o):=by
 unfold oP yZ;rw[vL o.bf.length (Mn o.bf) false (λi hi=>?_) ?_]
 ·by_cases hb:∀i,i < o.bf.length→Mn o.bf i=true
  ·rw[ai hb,fD hb,yQ,Ip hf]
   simp only[aa];cases ya o.Tree <;> cases Jd o.fJ <;> cases decide (0≤o.Time) <;> simp
  ·rw[ah hb,gy hb];rfl
 ·unfold oi
  rw[ah (by simp)]
 ·unfold oi
  rw[ai (by simp;omega),dj hi,iI (x:=(i:Int)+1) (by omega) (by omega)];simp only[aa];rw[yQ];unfold Mn;rw[ae hi];simp only[aa];rcases ft (ya o.bf[i]) with uP |uP
  case inr=>simp[uP]
  case inl=>
   simp only[uP];rw[eV (by omega),contains_eq (by simp;omega)];simp only[aa,eu];cases (o.bf.take i).contains o.bf[i] <;> simp
def pw (o:ab):Bool:=(o.Tree != 0)||((decide (0 < ((o.bf).length:Int)))||((!((o.fJ).toList==((⟨#[]⟩:ByteArray)).toList))||(o.Time != 0)))
def vb (o:ab):Bool:=
 if o.Kind=1 then o.bd.isEmpty&& !pw o else
 if o.Kind=2 then o.Data.isEmpty&&(!pw o&&decide (∀i,i < o.bd.length→vB o.bd i=true)) else
 if o.Kind=3 then o.Data.isEmpty&&(o.bd.isEmpty&&yZ o) else false
theorem Pw {α:Type} (l:List α):(((l.length:Nat):Int)==0)=l.isEmpty:=by cases l <;> simp <;> omega
def T9 (o:ab):Prop:=(∀x∈o.bd,x.Name.size≤9223372036854775807)∧o.fJ.size≤9223372036854775807
theorem Rg {o:ab} (h1:o.bd.length≤1000000) (h2:o.bf.length≤1000000) (hf:T9 o):qn o=some (vb o):=by
 unfold qn vb;rw[UX h1 hf.1,P8 h2 hf.2];simp only[aa,Pw];rw[show ((o.Tree != 0)||((decide (0 < ((o.bf).length:Int)))||((!((o.fJ).toList==((⟨#[]⟩:ByteArray)).toList))||(o.Time != 0))))=pw o from rfl];by_cases k1:o.Kind=1
 ·simp[k1]
 ·by_cases k2:o.Kind=2
  ·simp only[k2]
   cases o.Data.isEmpty <;> cases pw o <;> simp
  ·by_cases k3:o.Kind=3
   ·simp only[k3]
    cases o.Data.isEmpty <;> cases o.bd.isEmpty <;> simp
   ·simp[k1,k2,k3]
def uo (o:ab):Int:=
 if ya o.ID=false then 2 else
 if 65536 < o.Data.length∨64 < o.bd.length∨8 < o.bf.length then 3 else
 if vb o=false then 1 else 0
theorem Ka {o:ab} (hf:T9 o):qo o=some (uo o):=by
 unfold qo uo;rw[yQ];simp only[aa];cases ya o.ID with
 |false=>rfl
 |true=>
  by_cases hb:65536 < o.Data.length∨64 < o.bd.length∨8 < o.bf.length
  ·rw[ai hb]
   have:(decide (65536 < ((o.Data).length:Int))||((decide (64 < ((o.bd).length:Int)))||(decide (8 < ((o.bf).length:Int)))))=true:=by
    simp only[cj,bg];omega
   rw[this];rfl
  ·rw[ah hb]
   have:(decide (65536 < ((o.Data).length:Int))||((decide (64 < ((o.bd).length:Int)))||(decide (8 < ((o.bf).length:Int)))))=false:=by
    simp only[fm,jV];omega
   rw[this,Rg (by omega) (by omega) hf];cases vb o <;> rfl
theorem ZI {l:List ab} (hl:l.length≤1000000) (hf:∀o∈l,T9 o):dv l=some (l.any λo=>uo o != 0):=by
 unfold dv ef;refine Bi (body:=dt l) l _ (λi hi=>?_) ?_
 ·unfold dt pg
  rw[ai (by simp;omega),dj hi,iI (by omega) (by omega)];simp only[aa];rw[Ka (hf _ (bC hi))];simp only[aa];cases uo l[i] != 0 <;> rfl
 ·unfold dt
  rw[ah (by simp)]
def nn (e:az):Bool:=(e.Kind != 1&&e.Kind != 2)||(!Jd e.Name||(e.Kind==2&&e.dI != 0))
theorem QI {e:az} (hf:e.Name.size≤9223372036854775807):oS e=some (nn e):=by
 unfold oS nn;rw[Ip hf];simp only[aa];by_cases k1:e.Kind=1
 ·cases Jd e.Name <;> simp[k1]
 ·by_cases k2:e.Kind=2
  ·cases Jd e.Name <;> simp[k2]
  ·simp[k1,k2]
theorem TJ {l:List az} (hl:l.length≤1000000) (hf:∀e∈l,e.Name.size≤9223372036854775807):du l=some (l.any nn):=by
 unfold du ee;refine Bi (body:=dq l) l _ (λi hi=>?_) ?_
 ·unfold dq
  rw[ai (by simp;omega),dj hi,iI (by omega) (by omega)];simp only[aa];rw[QI (hf _ (bC hi))];simp only[aa];cases nn l[i] <;> rfl
 ·unfold dq
  rw[ah (by simp)]
noncomputable def MI (l:List ab):List (Int×ab):=l.foldl (λm o=>eD cK m o.ID o) []
theorem Ky {a0:ao} (h:a0.aq.length≤1000000):ic a0=some (MI a0.aq,decide ((MI a0.aq).length=a0.aq.length)):=by
 unfold ic;rw[nR a0.aq (λm o=>eD cK m o.ID o) (λm=>m) (λ_ _=>True) (λi hi s _=>⟨?_,trivial⟩) (λs _=>?_) [] trivial]
 ·simp only[aa]
  congr 2
  rw[Bool.eq_iff_iff,ew,bg];exact Int.ofNat_inj
 ·unfold oq
  rw[ai (by simp;omega),dj hi,iI (by omega) (by omega)]
  rfl
 ·unfold oq
  rw[ah (by simp)]
theorem E7:∀(l:List ab) (m:List (Int×ab)),(m.map (·.1)).Nodup→((l.foldl (λm o=>eD cK m o.ID o) m).map (·.1)).Nodup∧(l.foldl (λm o=>eD cK m o.ID o) m).length≤m.length+l.length∧
  (((m.map (·.1))++l.map (·.ID)).Nodup→l.foldl (λm o=>eD cK m o.ID o) m=m++l.map λo=>(o.ID,o))∧
  (¬((m.map (·.1))++l.map (·.ID)).Nodup→(l.foldl (λm o=>eD cK m o.ID o) m).length < m.length+l.length)
 |[],m,hm=>by simp[hm]
 |o::l,m,hm=>by
  obtain⟨k1,k2⟩:=fp eB m o.ID o;obtain⟨i1,i2,i3,i4⟩:=E7 l (eD cK m o.ID o) (zQ eB hm _ _);rw[ea];by_cases h:o.ID∈m.map (·.1)
  ·have e1:=k1 h
   have e2:(eD cK m o.ID o).length=m.length:=by have:=bR List.length e1;simpa using this
   refine⟨i1,by simp only[cQ];omega,λhn=>?_,λ_=>by simp only[cQ];omega⟩;rw[dh] at hn;exact absurd rfl (hn.2.2 _ h o.ID (by simp))
  ·have e1:=k2 h
   rw[e1] at i1 i2 i3 i4 ⊢;have e3:(List.map (·.1) (m++[(o.ID,o)]))++l.map (·.ID)=m.map (·.1)++(o::l).map (·.ID):=by simp
   rw[e3] at i3 i4;refine⟨i1,by simp at i2 ⊢;omega,λhn=>by rw[i3 hn];simp,λhn=>by have:=i4 hn;simp at this ⊢;omega⟩
noncomputable def bM (l:List ab):List (Int×ab):=l.map λo=>(o.ID,o)
theorem wL {l:List ab} (h:(l.map (·.ID)).Nodup):MI l=bM l:=by
 obtain⟨_,_,h3,_⟩:=E7 l [] (by simp);have:=h3 (by simpa using h);simpa[MI,bM] using this
theorem yj {l:List ab}:(MI l).length=l.length↔(l.map (·.ID)).Nodup:=by
 obtain⟨_,_,h3,h4⟩:=E7 l [] (by simp)
 constructor
 ·intro h
  refine ep λhn=>?_
  have:=h4 (by simpa using hn);unfold MI at h;simp at this;omega
 ·intro h
  rw[wL h];simp[bM]
def gj (all:List (Int×ab)) (id:Int):Int:=((br cK all id).getD (⟨0,0,[],[],0,[],ByteArray.empty,0⟩:ab)).Kind
def mK (all:List (Int×ab)) (o:ab):Bool:=
 o.bd.all (λx=>gj all x.ID==1||gj all x.ID==2)&&(o.bf.all (λp=>gj all p==3)&&(o.Kind != 3||gj all o.Tree==2))
theorem MB {all:List (Int×ab)} {o:ab} (h1:o.bd.length≤1000000) (h2:o.bf.length≤1000000):mJ all o=some (!mK all o):=by
 unfold mJ mK;rw[gx o.bd (λx=>gj all x.ID==1||gj all x.ID==2) true (λi hi=>?_) ?_]
 ·by_cases hb:o.bd.all (λx=>gj all x.ID==1||gj all x.ID==2)=true
  ·rw[ai hb,hb]
   simp only[aa,kY];rw[gx o.bf (λp=>gj all p==3) true (λi hi=>?_) ?_]
   ·by_cases hc:o.bf.all (λp=>gj all p==3)=true
    ·rw[ai hc,hc]
     simp only[aa,kY,gj]
     congr 1
     cases h:o.Kind==3 <;> simp[bne,h]
    ·rw[ah hc]
     have:o.bf.all (λp=>gj all p==3)=false:=by simpa using hc
     rw[this];rfl
   ·unfold mo
    rw[ah (by simp)]
   ·unfold mo
    rw[ai (by simp;omega),dj hi,iI (by omega) (by omega)];simp only[aa,gj,bne];rcases ft (((br cK all o.bf[i]).getD (⟨0,0,[],[],0,[],ByteArray.empty,0⟩:ab)).Kind==3) with uP |uP <;> simp only[uP] <;> rfl
  ·rw[ah hb]
   have:o.bd.all (λx=>gj all x.ID==1||gj all x.ID==2)=false:=by simpa using hb
   rw[this];rfl
 ·unfold mq
  rw[ah (by simp)]
 ·unfold mq
  rw[ai (by simp;omega),dj hi,iI (by omega) (by omega)];simp only[aa,gj,bne];rcases ft (((br cK all o.bd[i].ID).getD (⟨0,0,[],[],0,[],ByteArray.empty,0⟩:ab)).Kind==1) with uP |uP <;> rcases ft (((br cK all o.bd[i].ID).getD (⟨0,0,[],[],0,[],ByteArray.empty,0⟩:ab)).Kind==2) with pO |pO <;> simp only[uP,pO] <;> rfl
theorem Wh {l:List ab} (all:List (Int×ab)) (hl:l.length≤1000000) (h1:∀o∈l,o.bd.length≤1000000∧o.bf.length≤1000000):db l all=some (l.any (λo=>!mK all o),all):=by
 unfold db dU;have key:∀(m i:Nat),i+m=l.length→∃r:Int ⊕ Unit,iter (cz l) ((i:Int),all)=some (match r with | .inl k=>.inr (k,all) | .inr _=>.inl all)∧
   (match r with | .inl k=>0≤k∧(l.drop i).any (λo=>!mK all o)=true | .inr _=>(l.drop i).any (λo=>!mK all o)=false):=λm=>by
  induction m with
  |zero=>
   intro i h;have:i=l.length:=by omega
   subst this;refine⟨.inr (),?_,by simp⟩;refine dP ?_;unfold cz;rw[ah (by simp)]
  |succ m ih=>
   intro i h;have hi:i < l.length:=by omega
   have hb:cz l ((i:Int),all)=some (if mK all l[i]=true then .go (((i+1:Nat):Int),all) else .out (.inr ((i:Int),all))):=by
    unfold cz mu;obtain⟨g1,g2⟩:=h1 _ (bC hi);simp only;rw[ai (by simp;omega),dj hi,iI (by omega) (by omega)];simp only[aa,MB g1 g2];cases mK all l[i] <;> rfl
   rw[bN hi,List.any_cons];cases hh:mK all l[i] with
   |true=>
    rw[hh,ai rfl] at hb;rw[fT hb];simpa using ih (i+1) (by omega)
   |false=>
    rw[hh,ah (by decide)] at hb;exact⟨.inl (i:Int),dP hb,by omega,by simp⟩
 obtain⟨r,h2,h3⟩:=key l.length 0 (by omega);rw[tf] at h3;cases r with
 |inl k=>
  simp only at h2 h3;rw[show ((0:Nat):Int)=0 from rfl] at h2;rw[h2,h3.2];simp[h3.1]
 |inr u=>
  simp only at h2 h3;rw[show ((0:Nat):Int)=0 from rfl] at h2;rw[h2,h3];simp
end Go.Vl
namespace Go.Vl
open Go
def zC (all:List (Int×ab)) (m:List (ByteArray×Bool)) (e:az):Bool:=(e.Kind==1&&gj all e.dI != 3)||(e.Kind==2&& !((br pE m e.Name).getD false))
noncomputable def Pn (all:List (Int×ab)) (l:List az) (m:List (ByteArray×Bool)):Bool:=
 match xb (λm e=>if zC all m e=true then(.inl (.inr true):(Unit ⊕ Bool) ⊕ List (ByteArray×Bool)) else .inr (eD pE m e.Name (e.Kind==1))) (λ_=>.inl ()) l m with
 | .inl _=>false
 | .inr r=>r
theorem Sa (all:List (Int×ab)) (m:List (ByteArray×Bool)):Pn all [] m=false:=rfl
theorem NT (all:List (Int×ab)) (e:az) (l:List az) (m:List (ByteArray×Bool)):Pn all (e::l) m=(zC all m e||Pn all l (eD pE m e.Name (e.Kind==1))):=by
 unfold Pn;rw[xb];cases zC all m e <;> simp
theorem Ke {a0:ao} (h:a0.aC.length≤1000000) (all:List (Int×ab)):lS a0 all=some (Pn all a0.aC []):=by
 unfold lS Pn;rw[zU a0.aC (λm e=>if zC all m e=true then(.inl (.inr true):(Unit ⊕ Bool) ⊕ List (ByteArray×Bool)) else .inr (eD pE m e.Name (e.Kind==1))) (λ_=>.inl ()) (λi hi s=>?_) (λs=>?_)]
 ·simp only[aa]
  cases xb (λm e=>if zC all m e=true then(.inl (.inr true):(Unit ⊕ Bool) ⊕ List (ByteArray×Bool)) else .inr (eD pE m e.Name (e.Kind==1))) (λ_=>.inl ()) a0.aC [] <;> rfl
 ·unfold lF
  rw[ai (by simp;omega),dj hi,iI (by omega) (by omega)];simp only[aa];rw[show (bif (a0.aC[i].Kind==1) then(((((br cK all a0.aC[i].dI).getD (⟨0,0,[],[],0,[],ByteArray.empty,0⟩:ab)).Kind) != 3)||((a0.aC[i].Kind==2)&&(!((br pE s a0.aC[i].Name).getD false)))) else((a0.aC[i].Kind==2)&&(!((br pE s a0.aC[i].Name).getD false))))=zC all s a0.aC[i] from by
   unfold zC gj;cases a0.aC[i].Kind==1 <;> simp]
  cases zC all s a0.aC[i] <;> rfl
 ·unfold lF
  rw[ah (by simp)]
def xa (e:az):Bool:=decide (e.Time < 0)||decide (1099511627776 < e.Time)
theorem Wg {l:List az} (hl:l.length≤1000000):da l=some (l.any xa):=by
 unfold da dT;refine Bi (body:=cZ l) l _ (λi hi=>?_) ?_
 ·unfold cZ pf
  rw[ai (by simp;omega),dj hi,iI (by omega) (by omega)];simp only[aa];unfold xa;cases (decide (l[i].Time < 0)||decide (1099511627776 < l[i].Time)) <;> rfl
 ·unfold cZ
  rw[ah (by simp)]
def xM (l:List az):Bool:=decide (l.Pairwise λx y=>x.Time≤y.Time)
theorem ZD (x y:Int):cmp_Compare_int x y=some (if x < y then -1 else if y < x then 1 else 0):=by
 unfold cmp_Compare_int cmp_isNaN_int;simp only[bne_self_eq_false,aa];simp only[bz,cS];by_cases h:x < y
 ·simp[h]
 ·by_cases h2:y < x
  ·simp[h,h2]
  ·simp[h,h2]
theorem OV {l:List az} (hl:l.length≤1000000):cY l=some (xM l):=by
 have hb:∀(i:Nat) (h:i+1 < l.length),bG l ((i+1:Nat):Int)=some (if l[i].Time≤l[i+1].Time then .go (i:Int) else .out (.inr false)):=λi h=>by
  unfold bG pe;have hw:IntKind.i64.wrap (((i+1:Nat):Int) - 1)=(i:Int):=by rw[iI (by omega) (by omega)];omega
  rw[ai (by simp <;> omega),hw,dj h,dj (show i < l.length by omega)];simp only[aa,ZD];by_cases hc:l[i+1].Time < l[i].Time
  ·rw[ai hc,ah (show ¬l[i].Time≤l[i+1].Time by omega)];rfl
  ·rw[ah hc,ai (show l[i].Time≤l[i+1].Time by omega)]
   split <;> rfl
 have key:∀(n:Nat),n < l.length∨n=0→iter (bG l) (n:Int)=some (if ∀i,i < n→∀(h:i+1 < l.length),l[i].Time≤l[i+1].Time then .inl () else .inr false):=λn=>by
  induction n with
  |zero=>
   intro _;rw[ai (by simp)];refine dP ?_;unfold bG;rw[ah (by simp)]
  |succ n ih=>
   intro h;have h1:n+1 < l.length:=by omega
   have h2:=hb n h1;by_cases hc:l[n].Time≤l[n+1].Time
   ·rw[ai hc] at h2
    rw[fT h2,ih (by omega)]
    congr 1
    refine ite_congr (propext ⟨λg i hi hh=>?_,λg i hi hh=>g i (by omega) hh⟩) (λ_=>rfl) (λ_=>rfl);rcases eS.1 hi with h3 |h3
    ·exact g i h3 hh
    ·subst h3;exact hc
   ·rw[ah hc] at h2
    rw[dP h2,ah (λg=>hc (g n (by omega) h1))]
 have hP:(∀i,i < l.length - 1→∀(h:i+1 < l.length),l[i].Time≤l[i+1].Time)↔l.Pairwise λx y=>x.Time≤y.Time:=by
  constructor
  ·intro g
   rw[eh];intro i j hi hj rY
   induction j with
   |zero=>omega
   |succ j ih=>
    have g1:=g j (by omega) hj;rcases eS.1 rY with h3 |h3
    ·have:=ih (by omega) h3;omega
    ·subst h3;exact g1
  ·intro g i hi h
   exact eh.1 g i (i+1) (by omega) h (by omega)
 unfold cY xM;by_cases h0:l.length=0
 ·have:l=[]:=aI h0
  subst this;have e:iter (bG []) (IntKind.i64.wrap ((([]:List az).length:Int) - 1))=some (.inl ()):=by
   refine dP ?_;unfold bG;rw[ah (by simp[IntKind.wrap,IntKind.signed,IntKind.bits])]
  rw[e];simp
 ·have hw:IntKind.i64.wrap ((l.length:Int) - 1)=((l.length - 1:Nat):Int):=by rw[iI (by omega) (by omega)];omega
  rw[hw,key (l.length - 1) (by omega)];by_cases hc:∀i,i < l.length - 1→∀(h:i+1 < l.length),l[i].Time≤l[i+1].Time
  ·rw[ai hc,fD (hP.1 hc)];rfl
  ·rw[ah hc,gy (λg=>hc (hP.2 g))];rfl
noncomputable def er (m:List (ByteArray×Bool)) (e:az):List (ByteArray×Bool):=if e.Kind=1 then eD pE m e.Name true else wG pE m e.Name
noncomputable def uI:List az→List (ByteArray×Bool)→Bool
 |[],_=>false
 |e::l,m=>decide (32 < (er m e).length)||uI l (er m e)
theorem Vz {a0:ao} (h:a0.aC.length≤1000000):iter (lT a0) (0,[])=some (if uI a0.aC []=true then .inr 3 else .inl ()):=by
 rw[zU a0.aC (λm e=>if 32 < (er m e).length then(.inl (.inr 3):(Unit ⊕ Int) ⊕ List (ByteArray×Bool)) else .inr (er m e)) (λ_=>.inl ()) (λi hi s=>?_) (λs=>?_)]
 ·congr 1
  generalize a0.aC=l;generalize ([]:List (ByteArray×Bool))=m
  induction l generalizing m with
  |nil=>rfl
  |cons e l ih=>
   rw[xb,uI];by_cases hc:32 < (er m e).length
   ·simp[hc]
   ·rw[ah hc]
    simp only[hc,decide_false,hZ];exact ih _
 ·unfold lT er
  rw[ai (by simp;omega),dj hi];simp only[aa];by_cases k:a0.aC[i].Kind=1
  ·rw[ai (by simpa using k),ai k]
   unfold jD;rw[iI (by omega) (by omega)];by_cases hc:32 < (eD pE s a0.aC[i].Name true).length
   ·rw[ai (by simp;omega),ai hc]
   ·rw[ah (by simp;omega),ah hc];rfl
  ·rw[ah (by simpa using k),ah k]
   unfold jD;rw[iI (by omega) (by omega)];by_cases hc:32 < (wG pE s a0.aC[i].Name).length
   ·rw[ai (by simp;omega),ai hc]
   ·rw[ah (by simp;omega),ah hc];rfl
 ·unfold lT
  rw[ah (by simp)]
def FP (a0:ao):Prop:=(∀o∈a0.aq,T9 o)∧∀e∈a0.aC,e.Name.size≤9223372036854775807
noncomputable def tC (a0:ao):Int:=
 if 400 < a0.aq.length∨300 < a0.aC.length then 3 else
 if(a0.aq.any (λo=>uo o != 0)||a0.aC.any nn)=true then 1 else
 if ¬(a0.aq.map (·.ID)).Nodup then 7 else
 if(a0.aq.any (λo=>!mK (bM a0.aq) o)||Pn (bM a0.aq) a0.aC [])=true then 6 else
 if Ai (bM a0.aq)=true then 8 else
 if a0.aC.any xa=true then 2 else
 if xM a0.aC=false then 11 else
 if uI a0.aC []=true then 3 else 0
theorem pJ {o:ab}:uo o=0↔ya o.ID=true∧(o.Data.length≤65536∧o.bd.length≤64∧o.bf.length≤8)∧vb o=true:=by
 unfold uo;cases h:ya o.ID with
 |false=>simp
 |true=>
  simp only[Bool.true_eq_false,cS,oH];split
  ·simp;omega
  ·cases h2:vb o with
   |false=>simp
   |true=>simp;omega
theorem tu (l:List ab):(bM l).map (·.1)=l.map (·.ID):=by simp[bM]
theorem Jv {a0:ao} (hf:FP a0):jy a0=some (tC a0):=by
 unfold jy tC;by_cases h1:400 < a0.aq.length∨300 < a0.aC.length
 ·rw[ai h1]
  have:(decide (400 < ((a0.aq).length:Int))||decide (300 < ((a0.aC).length:Int)))=true:=by
   simp only[cj,bg];omega
  rw[this];rfl
 ·rw[ah h1]
  have:(decide (400 < ((a0.aq).length:Int))||decide (300 < ((a0.aC).length:Int)))=false:=by
   simp only[fm,jV];omega
  rw[this,ZI (by omega) hf.1,TJ (by omega) hf.2];simp only[aa,bz,cS];cases h2:a0.aq.any (λo=>uo o != 0) with
  |true=>rfl
  |false=>
   simp only[bz,cS,hZ,aa];cases h3:a0.aC.any nn with
   |true=>rfl
   |false=>
    simp only[bz,cS];rw[Ky (by omega)];simp only[aa];by_cases h4:(a0.aq.map (·.ID)).Nodup
    ·rw[fD (yj.2 h4),wL h4,ah (not_not_intro h4)]
     simp only[Bool.not_true,bz,cS];have hob:∀o∈a0.aq,uo o=0:=λo ho=>by
      have:=fk.1 h2 o ho;simpa using this
     have gS:∀o∈a0.aq,o.bd.length≤1000000∧o.bf.length≤1000000:=λo ho=>by
      have:=(pJ.1 (hob o ho)).2.1;omega
     rw[Wh _ (by omega) gS];simp only[aa];cases h5:a0.aq.any (λo=>!mK (bM a0.aq) o) with
     |true=>rfl
     |false=>
      simp only[bz,cS,hZ];rw[Ke (by omega)];simp only[aa];cases h6:Pn (bM a0.aq) a0.aC [] with
      |true=>rfl
      |false=>
       simp only[bz,cS];have hcy:oT (bM a0.aq)=some (Ai (bM a0.aq)):=by
        unfold oT;rw[ai];refine⟨by rw[tu];exact h4,λq hq=>?_⟩;obtain⟨o,ho,rfl⟩:=aG.1 hq;have:=gS o ho;simp only[zj,aR,bg];exact⟨this.2,this.1⟩
       rw[hcy];simp only[aa];cases h7:Ai (bM a0.aq) with
       |true=>rfl
       |false=>
        simp only[bz,cS];rw[Wg (by omega)];simp only[aa];cases h8:a0.aC.any xa with
        |true=>rfl
        |false=>
         simp only[bz,cS];rw[OV (by omega)];simp only[aa];cases h9:xM a0.aC with
         |false=>rfl
         |true=>
          simp only[Bool.not_true,Bool.true_eq_false,bz,cS];rw[Vz (by omega)];cases uI a0.aC [] <;> rfl
    ·rw[gy (λh=>h4 (yj.1 h)),ai h4];rfl
structure qB (a0:ao):Prop where
 no:a0.aq.length≤400
 ne:a0.aC.length≤300
 ob:∀o∈a0.aq,uo o=0
 ev:∀e∈a0.aC,nn e=false
 nd:(a0.aq.map (·.ID)).Nodup
 hr:∀o∈a0.aq,mK (bM a0.aq) o=true
 nl:Pn (bM a0.aq) a0.aC []=false
 cy:Ai (bM a0.aq)=false
 tm:∀e∈a0.aC,xa e=false
 so:a0.aC.Pairwise λx y=>x.Time≤y.Time
 mn:uI a0.aC []=false
theorem xH {a0:ao}:tC a0=0↔qB a0:=by
 constructor
 ·intro h
  unfold tC at h;split at h
  ·cases h
  split at h
  ·cases h
  split at h
  ·cases h
  split at h
  ·cases h
  split at h
  ·cases h
  split at h
  ·cases h
  split at h
  ·cases h
  split at h
  ·cases h
  rename_i h1 h2 h3 h4 h5 h6 h7 h8;have h2:(a0.aq.any (λo=>uo o != 0)||a0.aC.any nn)=false:=by simpa only[gH] using h2
  have h4:(a0.aq.any (λo=>!mK (bM a0.aq) o)||Pn (bM a0.aq) a0.aC [])=false:=by simpa only[gH] using h4
  have h6:a0.aC.any xa=false:=by simpa only[gH] using h6
  rw[fm] at h2 h4;exact⟨by omega,by omega,λo ho=>by simpa using fk.1 h2.1 o ho,λe he=>by simpa using fk.1 h2.2 e he,Classical.not_not.1 h3,λo ho=>by simpa using fk.1 h4.1 o ho,h4.2,by simpa using h5,λe he=>by simpa using fk.1 h6 e he,by
   have:xM a0.aC=true:=by simpa using h7
   exact gf this,by simpa using h8⟩
 ·intro h
  unfold tC;rw[ah (by have:=h.no;have:=h.ne;omega),ah,ah (not_not_intro h.nd),ah,ah (by rw[h.cy];decide),ah,ah,ah (by rw[h.mn];decide)]
  ·have:xM a0.aC=true:=fD h.so
   rw[this];decide
  ·rw[gH]
   exact fk.2 λe he=>by simpa using h.tm e he
  ·rw[gH,fm]
   exact⟨fk.2 λo ho=>by simpa using h.hr o ho,h.nl⟩
  ·rw[gH,fm]
   exact⟨fk.2 λo ho=>by simpa using h.ob o ho,fk.2 λe he=>by simpa using h.ev e he⟩
end Go.Vl
namespace Go.Vl
open Go
def TB (m:bQ) (b:Int):Prop:=0≤m.at_∧m.at_≤b
theorem TB.mono {m:bQ} {b c:Int} (h:TB m b) (hc:b≤c):TB m c:=⟨h.1,Int.le_trans h.2 hc⟩
theorem lj {m:bQ} {b:Int} (h:TB m b) (hb:b≤1000000000) {n:Int} (hn:0 < n):∃v m',cJ m n=some (v,m')∧0≤v∧v < n∧TB m' (b+1):=by
 obtain⟨h1,h2⟩:=h;unfold cJ;by_cases hx:(m.L.length:Int)≤m.at_
 ·rw[ai (by simpa using hx)]
  exact⟨0,m,rfl,by omega,hn,h1,by omega⟩
 ·rw[ah (by simpa using hx),pM h1 (by omega)]
  simp only[aa,eV (show n≠0 by omega),ZW];rw[Int.tmod_eq_emod_of_nonneg (Int.emod_nonneg _ (by omega)),iI (by omega) (by omega)];exact⟨_,_,rfl,Int.emod_nonneg _ (by omega),Int.emod_lt_of_pos _ hn,by simp only;omega,by simp only;omega⟩
theorem Cz {m:bQ} {b:Int} (h:TB m b) (hb:b≤1000000000) {x y:Int} (hxy:x≤y) (hx: -1000000≤x) (hy:y≤1000000):∃v m',ik m x y=some (v,m')∧x≤v∧v≤y∧TB m' (b+1):=by
 unfold ik;rw[iI (x:=y - x) (by omega) (by omega),iI (x:=y - x+1) (by omega) (by omega)];obtain⟨v,m',h1,h2,h3,h4⟩:=lj h hb (n:=y - x+1) (by omega);rw[h1];simp only[aa];rw[iI (by omega) (by omega)];exact⟨_,_,rfl,by omega,by omega,h4⟩
theorem WJ {b:ByteArray} {i:Int} (h0:0≤i) (h1:i < b.size):∃x,Df b i=some x∧0≤x∧x < 256:=by
 have h2:i.toNat < b.size:=by omega
 have h3:=(b[i.toNat]).toNat_lt;exact⟨((b[i.toNat]).toNat:Int),by unfold Df;rw[ai h0,cC b i.toNat h2];rfl,by omega,by omega⟩
theorem Wj {x0:Int×bQ} {m:bQ} {b:Int} (hm:TB m b) (hb:b≤1000000) {n i:Int} (hi:0≤i) (hn:n≤1000000) (Dz:i < n) {L:List Int} {p:Int} {out:List Int} (ho:(out.length:Int)=i) (w:Bool):
  ∃s',mO (x0.1,m) (i,L,p,out) w=some (.go s')∧s'.1=i+1∧(s'.2.2.2.length:Int)=i+1∧TB ⟨s'.2.1,s'.2.2.1⟩ (b+1):=by
 unfold mO;cases w with
 |true=>
  obtain⟨v,m1,e1,v1,v2,t1⟩:=lj hm (by omega) (n:=10) (by omega);simp only[eM,e1,aa];rw[eV (by simp <;> omega),iI (x:=i+1) (by omega) (by omega)];exact⟨_,rfl,rfl,by simp <;> omega,t1⟩
 |false=>
  obtain⟨v,m1,e1,v1,v2,t1⟩:=lj hm (by omega) (n:=8) (by omega);obtain⟨x,ex,_,_⟩:=WJ (b:=(⟨#[97,98,99,100,101,102,116,107]⟩:ByteArray)) (i:=v) v1 (by exact v2);simp only[bz,cS,e1,aa,ex];rw[eV (by simp <;> omega),iI (x:=i+1) (by omega) (by omega)];exact⟨_,rfl,rfl,by simp <;> omega,t1⟩
theorem Wl {m:bQ} {b:Int} (h:TB m b) (hb:b≤100000) {n:Int} (h0:0≤n) (hn:n≤1000):∃l m',tQ m n=some (l,m')∧(l.length:Int)=n∧TB m' (b+3 * n):=by
 unfold tQ;have key:∃e,iter (oQ n) (0,m.L,m.at_,[])=some e∧(TB ⟨e.1,e.2.1⟩ (b+3 * n)∧(e.2.2.length:Int)=n):=by
  refine qu (body:=oQ n) (λs=>0≤s.1∧s.1≤n∧TB ⟨s.2.1,s.2.2.1⟩ (b+3 * s.1)∧(s.2.2.2.length:Int)=s.1) (λs=>(n - s.1).toNat) _ ?_ ⟨by simp,h0,by simpa using h,by simp⟩
  rintro⟨i,L,p,out⟩ ⟨g1,g2,g3,g4⟩
  simp only at g1 g2 g3 g4;unfold oQ;simp only;by_cases hi:i < n
  ·left
   obtain⟨v,m1,e1,v1,v2,t1⟩:=lj g3 (by omega) (n:=8) (by omega);rw[ai (by simpa using hi),e1];simp only[aa];by_cases c0:v=0
   ·rw[ai (by simpa using c0)]
    obtain⟨v',m2,e2,w1,w2,t2⟩:=lj t1 (by omega) (n:=8) (by omega);obtain⟨x,ex,_,_⟩:=WJ (b:=(⟨#[32,10,61,37,43,47,45,46]⟩:ByteArray)) (i:=v') w1 (by exact w2);simp only[e2,aa,ex];rw[eV (by simp <;> omega),iI (x:=i+1) (by omega) (by omega)];refine⟨_,rfl,⟨by simp only;omega,by simp only;omega,t2.mono (by simp only;omega),by simp <;> omega⟩,by simp only;omega⟩
   ·rw[ah (by simpa using c0)]
    by_cases c1:v=1
    ·rw[ai (by simpa using c1)]
     obtain⟨v',m2,e2,w1,w2,t2⟩:=lj t1 (by omega) (n:=256) (by omega);simp only[e2,aa];rw[eV (by simp <;> omega),iI (x:=i+1) (by omega) (by omega)];refine⟨_,rfl,⟨by simp only;omega,by simp only;omega,t2.mono (by simp only;omega),by simp <;> omega⟩,by simp only;omega⟩
    ·rw[ah (by simpa using c1)]
     have hj:=λw=>Wj (x0:=(v,m1)) t1 (by omega) g1 (n:=n) (by omega) hi (L:=L) (p:=p) g4 w
     split
     ·obtain⟨s',e2,r1,r2,r3⟩:=hj (v==2)
      exact⟨s',e2,⟨by omega,by omega,r3.mono (by omega),by omega⟩,by omega⟩
     ·obtain⟨s',e2,r1,r2,r3⟩:=hj (v==3)
      exact⟨s',e2,⟨by omega,by omega,r3.mono (by omega),by omega⟩,by omega⟩
  ·right
   have:i=n:=by omega
   subst this;rw[ah (by simp)];exact⟨_,rfl,g3,g4⟩
 obtain⟨e,h1,h2,h3⟩:=key;rw[h1];exact⟨_,_,rfl,h3,h2⟩
def zg (os:List ab) (id k:Int):Prop:=∃o∈os,o.ID=id∧o.Kind=k
theorem zg.mono {os l:List ab} {id k:Int} (h:zg os id k):zg (os++l) id k:=by
 obtain⟨o,h1,h2⟩:=h;exact⟨o,jE _ h1,h2⟩
abbrev nA:ByteArray:=⟨#[97]⟩
abbrev nB:ByteArray:=⟨#[98]⟩
abbrev nD:ByteArray:=⟨#[100]⟩
abbrev aeZ:ByteArray:=⟨#[97,110,110]⟩
inductive Lx (os:List ab) (o:ab):Prop
 |Wm:o.Kind=1→o.Data.length≤20→o.bd=[]→o.Tree=0→o.bf=[]→o.fJ=ByteArray.empty→o.Time=0→Lx os o
 |tree:o.Kind=2→o.Data=[]→(o.bd.map (·.Name)).Sublist [nA,nB,nD]→(∀x∈o.bd,x.ID < o.ID∧(zg os x.ID 1∨zg os x.ID 2))→o.Tree=0→o.bf=[]→o.fJ=ByteArray.empty→o.Time=0→Lx os o
 |I4:o.Kind=3→o.Data=[]→o.bd=[]→o.Tree < o.ID→zg os o.Tree 2→(∀p∈o.bf,p < o.ID∧zg os p 3)→o.bf.Nodup→o.bf.length≤2→o.fJ=aeZ→0≤o.Time→o.Time≤20→Lx os o
theorem Lx.mono {os l:List ab} {o:ab} (h:Lx os o):Lx (os++l) o:=by
 cases h with
 |Wm h1 h2 h3 h4 h5 h6 h7=>exact .Wm h1 h2 h3 h4 h5 h6 h7
 |tree h1 h2 h3 h4 h5 h6 h7 h8=>exact .tree h1 h2 h3 (λx hx=>⟨(h4 x hx).1,(h4 x hx).2.imp zg.mono zg.mono⟩) h5 h6 h7 h8
 |I4 h1 h2 h3 h4 h5 h6 h7 h8 h9 h10 h11=>exact .I4 h1 h2 h3 h4 h5.mono (λp hp=>⟨(h6 p hp).1,(h6 p hp).2.mono⟩) h7 h8 h9 h10 h11
structure sc (os:List ab):Prop where
 ids:∀(i:Nat) (h:i < os.length),os[i].ID=(i:Int)+1
 obj:∀o∈os,Lx os o
def tn (os:List ab):Nat:=(os.filter λo=>o.Kind==2).length
theorem H4 (os:List ab) (o:ab):tn (os++[o])=tn os+if o.Kind=2 then 1 else 0:=by
 unfold tn;rw[List.filter_append,bF]
 congr 1
 by_cases h:o.Kind=2 <;> simp[h]
theorem sc.nil:sc []:=⟨λi h=>by simp at h,λo h=>by cases h⟩
theorem sc.le {os:List ab} (M:sc os) {id k:Int} (h:zg os id k):1≤id∧id≤os.length:=by
 obtain⟨o,ho,rfl,_⟩:=h;obtain⟨i,hi,rfl⟩:=cu ho;rw[M.ids i hi];omega
theorem sc.push {os:List ab} (M:sc os) {o:ab} (hid:o.ID=(os.length:Int)+1) (ho:Lx os o):sc (os++[o]):=by
 refine⟨λi h=>?_,λx hx=>?_⟩
 ·rw[List.getElem_append]
  split
  ·exact M.ids i _
  ·have:i=os.length:=by simp at h;omega
   subst this;simpa using hid
 ·rcases aQ.1 hx with h |h
  ·exact(M.obj x h).mono
  ·rw[aD.1 h];exact ho.mono
theorem add_eq {o:ab} {os:List ab} {ev:List az} {id:Int} (h:id=os.length) (hl:os.length≤1000):
  fq o id ⟨os,ev⟩=some (id+1,id+1,⟨os++[⟨id+1,o.Kind,o.Data,o.bd,o.Tree,o.bf,o.fJ,o.Time⟩],ev⟩):=by
 unfold fq;rw[eV (by simp <;> omega),iI (x:=id+1) (by omega) (by omega)]
 rfl
theorem abI {m:bQ} (h:TB m 10) {K:Int} (h1:1≤K) (h4:K≤4):∃e,iter jL (K,m.L,m.at_,[],0,[],[])=some e∧
  (TB ⟨e.1,e.2.1⟩ 200∧e.2.2.1=[]∧e.2.2.2.1=(e.2.2.2.2.2.length:Int)∧(sc e.2.2.2.2.2∧tn e.2.2.2.2.2=0)∧(e.2.2.2.2.2.length:Int)≤4∧(e.2.2.2.2.1.length:Int)=K∧∀x∈e.2.2.2.2.1,zg e.2.2.2.2.2 x 1):=by
 refine qu (body:=jL) (λs=>0≤s.1∧s.1≤K∧TB ⟨s.2.1,s.2.2.1⟩ (10+40 * (K - s.1))∧s.2.2.2.1=[]∧s.2.2.2.2.1=(s.2.2.2.2.2.2.length:Int)∧(sc s.2.2.2.2.2.2∧tn s.2.2.2.2.2.2=0)∧(s.2.2.2.2.2.2.length:Int)+s.1=K∧(s.2.2.2.2.2.1.length:Int)+s.1=K∧∀x∈s.2.2.2.2.2.1,zg s.2.2.2.2.2.2 x 1) (λs=>s.1.toNat) _ ?_ ⟨by simp only;omega,by simp only;omega,h.mono (by simp only;omega),rfl,rfl,⟨sc.nil,rfl⟩,by simp,by simp,by simp⟩
 rintro⟨k,L,p,ev,id,bl,os⟩ ⟨g1,g2,g3,g4,g5,g6,g7,g8,g9⟩
 simp only at g1 g2 g3 g4 g5 g6 g7 g8 g9;unfold jL;simp only;by_cases hk:0 < k
 ·left
  obtain⟨v,m1,e1,v1,v2,t1⟩:=lj g3 (by omega) (n:=12) (by omega);obtain⟨d,m2,e2,d1,t2⟩:=Wl t1 (by omega) v1 (by omega);rw[ai (by simpa using hk),e1];simp only[aa,e2];rw[add_eq g5 (by omega)];simp only[aa];rw[eV (by simp <;> omega),iI (x:=k - 1) (by omega) (by omega)];refine⟨_,rfl,⟨by simp only;omega,by simp only;omega,t2.mono (by simp only;omega),g4,by simp <;> omega,?_,by simp <;> omega,by simp <;> omega,?_⟩,by simp only;omega⟩
  ·refine⟨g6.1.push (by simp only;omega) (.Wm rfl (by simp only;omega) rfl rfl rfl rfl rfl),?_⟩
   simp only[H4,g6.2]
   rfl
  ·intro x hx
   simp only[aQ,aD] at hx;rcases hx with hx |rfl
   ·exact(g9 x hx).mono
   ·exact⟨_,eI _ (aD.2 rfl),rfl,rfl⟩
 ·right
  have:k=0:=by omega
  subst this;rw[ah (by simp)];exact⟨_,rfl,g3.mono (by omega),g4,g5,g6,by simp only;omega,by simp only;omega,g9⟩
theorem abE {v2:(List Int)×Int×(List az)×Int×(List Int)×(List ab)} {s18:Int×(List Int)×Int×(List az)×Int×(List ab)×(List Int)} {m:bQ} {b:Int} (h:TB m b) (hb:b≤10000) {os:List ab}
  (Ad:1≤v2.2.2.2.2.1.length) (acV:v2.2.2.2.2.1.length≤1000) (h1:∀x∈v2.2.2.2.2.1,zg os x 1) (htl:s18.2.2.2.2.2.2.length≤1000) (h2:∀x∈s18.2.2.2.2.2.2,zg os x 2):
  ∃e,iter (iM [nA,nB,nD] v2 s18) (0,m.L,m.at_,[])=some e∧(TB ⟨e.1,e.2.1⟩ (b+6)∧(e.2.2.map (·.Name)).Sublist [nA,nB,nD]∧∀x∈e.2.2,zg os x.ID 1∨zg os x.ID 2):=by
 refine qu (body:=iM [nA,nB,nD] v2 s18) (λs=>0≤s.1∧s.1≤3∧TB ⟨s.2.1,s.2.2.1⟩ (b+2 * s.1)∧(s.2.2.2.map (·.Name)).Sublist ([nA,nB,nD].take s.1.toNat)∧∀x∈s.2.2.2,zg os x.ID 1∨zg os x.ID 2) (λs=>(3 - s.1).toNat) _ ?_ ⟨by simp,by simp,h.mono (by simp only;omega),by simp,by simp⟩
 rintro⟨i,L,p,it⟩ ⟨g1,g2,g3,g4,g5⟩
 simp only at g1 g2 g3 g4 g5;unfold iM;simp only;have S4:it.length≤3:=by
  have:=g4.length_le;simp at this;omega
 by_cases hi:i < 3
 ·left
  rw[ai (by simp <;> omega),eV (by simp <;> omega),pM g1 (by simp <;> omega)];simp only[aa];obtain⟨v,m1,e1,v1,v2',t1⟩:=lj g3 (by omega) (n:=3) (by omega);rw[e1,iI (x:=i+1) (by omega) (by omega)];simp only[aa];obtain⟨j,rfl⟩:∃j:Nat,i=(j:Int):=⟨i.toNat,by omega⟩;have hj:j < [nA,nB,nD].length:=by simp <;> omega
  simp only[eu] at g4 ⊢;have xo:∀id,((it++[(⟨[nA,nB,nD][j],id⟩:aB)]).map (·.Name)).Sublist ([nA,nB,nD].take ((j:Int)+1).toNat):=λid=>by
   have e:((j:Int)+1).toNat=j+1:=by omega
   rw[e,eF hj,bV];exact g4.append (iX _)
  have Xe:(it.map (·.Name)).Sublist ([nA,nB,nD].take ((j:Int)+1).toNat):=by
   have e:((j:Int)+1).toNat=j+1:=by omega
   rw[e,eF hj];exact g4.trans (List.sublist_append_left _ _)
  have Dv:∀id,(zg os id 1∨zg os id 2)→∀x∈it++[(⟨[nA,nB,nD][j],id⟩:aB)],zg os x.ID 1∨zg os x.ID 2:=λid hid x hx=>by
   rcases aQ.1 hx with hx |hx
   ·exact g5 x hx
   ·rw[aD.1 hx];exact hid
  by_cases c0:v=0
  ·rw[ai (by simpa using c0)]
   obtain⟨v',m2,e2,w1,w2,t2⟩:=lj t1 (by omega) (n:=(v2.2.2.2.2.1.length:Int)) (by omega);rw[e2];simp only[aa];rw[eV (by omega),pM w1 (by omega)];simp only[aa];rw[eV (by simp <;> omega)];refine⟨_,rfl,⟨by simp only;omega,by simp only;omega,t2.mono (by simp only;omega),xo _,Dv _ (.inl (h1 _ (bC _)))⟩,by simp only;omega⟩
  ·rw[ah (by simpa using c0)]
   by_cases c1:v=1
   ·rw[ai (by simpa using c1)]
    by_cases c2:0 < (s18.2.2.2.2.2.2.length:Int)
    ·rw[ai (by simpa using c2)]
     obtain⟨v',m2,e2,w1,w2,t2⟩:=lj t1 (by omega) (n:=(s18.2.2.2.2.2.2.length:Int)) c2;rw[e2];simp only[aa];rw[eV (by omega),pM w1 (by omega)];simp only[aa];rw[eV (by simp <;> omega)];refine⟨_,rfl,⟨by simp only;omega,by simp only;omega,t2.mono (by simp only;omega),xo _,Dv _ (.inr (h2 _ (bC _)))⟩,by simp only;omega⟩
    ·rw[ah (by simpa using c2)]
     exact⟨_,rfl,⟨by simp only;omega,by simp only;omega,t1.mono (by simp only;omega),Xe,g5⟩,by simp only;omega⟩
   ·rw[ah (by simpa using c1)]
    exact⟨_,rfl,⟨by simp only;omega,by simp only;omega,t1.mono (by simp only;omega),Xe,g5⟩,by simp only;omega⟩
 ·right
  have:i=3:=by omega
  subst this;rw[ah (by simp)];exact⟨_,rfl,g3.mono (by omega),g4,g5⟩
theorem abH {v2:(List Int)×Int×(List az)×Int×(List Int)×(List ab)} {m:bQ} (h:TB m 210) {Pf:List ab} (M:sc Pf) (Mt:tn Pf=0) (KK:Pf.length≤4) (Ad:1≤v2.2.2.2.2.1.length) (acV:v2.2.2.2.2.1.length≤1000) (hb:∀x∈v2.2.2.2.2.1,zg Pf x 1) {W8:Int} (hid:W8=Pf.length) {K:Int} (h1:1≤K) (h4:K≤4):
  ∃e,iter (jK v2) (K,m.L,m.at_,[],W8,Pf,[])=some e∧(TB ⟨e.1,e.2.1⟩ 300∧e.2.2.1=[]∧e.2.2.2.1=(e.2.2.2.2.1.length:Int)∧(sc e.2.2.2.2.1∧tn e.2.2.2.2.1≤4)∧(e.2.2.2.2.1.length:Int)≤8∧(e.2.2.2.2.2.length:Int)=K∧∀x∈e.2.2.2.2.2,zg e.2.2.2.2.1 x 2):=by
 refine qu (body:=jK v2) (λs=>0≤s.1∧s.1≤K∧TB ⟨s.2.1,s.2.2.1⟩ (210+10 * (K - s.1))∧s.2.2.2.1=[]∧s.2.2.2.2.1=(s.2.2.2.2.2.1.length:Int)∧(sc s.2.2.2.2.2.1∧(tn s.2.2.2.2.2.1:Int)+s.1≤4)∧(s.2.2.2.2.2.1.length:Int)+s.1≤8∧(s.2.2.2.2.2.2.length:Int)+s.1=K∧(∀x∈s.2.2.2.2.2.2,zg s.2.2.2.2.2.1 x 2)∧∀x∈v2.2.2.2.2.1,zg s.2.2.2.2.2.1 x 1) (λs=>s.1.toNat) _ ?_ ⟨by simp only;omega,by simp only;omega,h.mono (by simp only;omega),rfl,hid,⟨M,by simp only;omega⟩,by simp only;omega,by simp,by simp,hb⟩
 rintro⟨k,L,p,ev,id,os,tr⟩ ⟨g1,g2,g3,g4,g5,g6,g7,g8,g9,g10⟩
 simp only at g1 g2 g3 g4 g5 g6 g7 g8 g9 g10;unfold jK;simp only;by_cases hk:0 < k
 ·left
  obtain⟨e,e1,t1,i1,i2⟩:=abE (s18:=(k,L,p,ev,id,os,tr)) g3 (by omega) Ad acV g10 (by simp only;omega) g9;rw[ai (by simpa using hk)];simp only[aa];have Zv:iter (iM [(⟨#[97]⟩:ByteArray),(⟨#[98]⟩:ByteArray),(⟨#[100]⟩:ByteArray)] v2 (k,L,p,ev,id,os,tr)) (0,L,p,[])=some e:=e1;rw[Zv];simp only[aa];rw[add_eq g5 (by omega)];simp only[aa];rw[eV (by simp <;> omega),iI (x:=k - 1) (by omega) (by omega)];refine⟨_,rfl,⟨by simp only;omega,by simp only;omega,t1.mono (by simp only;omega),g4,by simp <;> omega,?_,by simp <;> omega,by simp <;> omega,?_,λx hx=>(g10 x hx).mono⟩,by simp only;omega⟩
  ·refine⟨g6.1.push (by simp only;omega) (.tree rfl rfl i1 (λx hx=>⟨?_,i2 x hx⟩) rfl rfl rfl rfl),by simp only[H4];have:=g6.2;simp;omega⟩
   rcases i2 x hx with h |h
   ·have:=g6.1.le h;simp only;omega
   ·have:=g6.1.le h;simp only;omega
  ·intro x hx
   simp only[aQ,aD] at hx;rcases hx with hx |rfl
   ·exact(g9 x hx).mono
   ·exact⟨_,eI _ (aD.2 rfl),rfl,rfl⟩
 ·right
  have:k=0:=by omega
  subst this;rw[ah (by simp)];exact⟨_,rfl,g3.mono (by omega),g4,g5,⟨g6.1,by have:=g6.2;simp only;omega⟩,by simp only;omega,by simp only;omega,g9⟩
theorem abF {s8:Int×(List Int)×Int×(List az)×Int×(List ab)×(List Int)} {m:bQ} {b:Int} (h:TB m b) (hb:b≤10000) (hl:s8.2.2.2.2.2.2.length≤1000) (hn:s8.2.2.2.2.2.2.Nodup):
  ∃e,iter (jI s8) (IntKind.i64.wrap (((s8.2.2.2.2.2.2).length:Int) - 1),m.L,m.at_,[])=some e∧(TB ⟨e.1,e.2.1⟩ (b+s8.2.2.2.2.2.2.length)∧e.2.2.Nodup∧e.2.2.length≤2∧∀x∈e.2.2,x∈s8.2.2.2.2.2.2):=by
 generalize je:s8.2.2.2.2.2.2=cs at *;rw[iI (by omega) (by omega)];refine qu (body:=jI s8) (λs=> -1≤s.1∧s.1 < cs.length∧TB ⟨s.2.1,s.2.2.1⟩ (b+(cs.length - 1 - s.1))∧s.2.2.2.Nodup∧s.2.2.2.length≤2∧∀x∈s.2.2.2,∃j:Nat,s.1 < (j:Int)∧cs[j]? =some x) (λs=>(s.1+1).toNat) _ ?_ ⟨by simp only;omega,by simp only;omega,h.mono (by simp only;omega),.nil,by simp,by simp⟩
 rintro⟨q,L,p,ps⟩ ⟨g1,g2,g3,g4,g5,g6⟩
 simp only at g1 g2 g3 g4 g5 g6;unfold jI;simp only[aa];by_cases hc:0≤q∧ps.length < 2
 ·left
  have hcb:(decide (0≤q)&&decide ((ps.length:Int) < 2))=true:=by simp only[aR,bg];omega
  rw[ai hcb];obtain⟨v,m1,e1,v1,v2,t1⟩:=lj g3 (by omega) (n:=2) (by omega);rw[e1,iI (x:=q - 1) (by omega) (by omega)];simp only[aa];by_cases c0:v=0
  ·rw[ai (by simpa using c0),je,eV (by omega),pM hc.1 (by omega)]
   simp only[aa];rw[eV (by simp <;> omega)];refine⟨_,rfl,⟨by simp only;omega,by simp only;omega,t1.mono (by simp only;omega),?_,by simp <;> omega,λx hx=>?_⟩,by simp only;omega⟩
   ·rw[dh]
    refine⟨g4,by simp,λa ha c wP=>?_⟩;rw[aD] at wP;subst wP;obtain⟨j,h1,h2⟩:=g6 a ha;intro e;subst e;have hj:j < cs.length:=(aj.1 h2).1;have:=(eh.1 hn) q.toNat j (by omega) hj (by omega);rw[ae hj] at h2;exact this (af h2).symm
   ·simp only[aQ,aD] at hx
    rcases hx with hx |rfl
    ·obtain⟨j,h1,h2⟩:=g6 x hx
     exact⟨j,by simp only;omega,h2⟩
    ·exact⟨q.toNat,by simp only;omega,ae (by omega)⟩
  ·rw[ah (by simpa using c0)]
   refine⟨_,rfl,⟨by simp only;omega,by simp only;omega,t1.mono (by simp only;omega),g4,g5,λx hx=>?_⟩,by simp only;omega⟩;obtain⟨j,h1,h2⟩:=g6 x hx;exact⟨j,by simp only;omega,h2⟩
 ·right
  have hcb:¬(decide (0≤q)&&decide ((ps.length:Int) < 2))=true:=by simp only[aR,bg];omega
  rw[ah hcb];refine⟨_,rfl,g3.mono (by omega),g4,g5,λx hx=>?_⟩;obtain⟨j,_,h2⟩:=g6 x hx;exact bm h2
theorem abG {v4:(List Int)×Int×(List az)×Int×(List ab)×(List Int)} {m:bQ} (h:TB m 310) {Pf:List ab} (M:sc Pf) (Mt:tn Pf≤4) (KK:Pf.length≤8) (htl:1≤v4.2.2.2.2.2.length) (aj8:v4.2.2.2.2.2.length≤1000) (hb:∀x∈v4.2.2.2.2.2,zg Pf x 2) {W8:Int} (hid:W8=Pf.length) {K:Int} (h1:1≤K) (h4:K≤5):
  ∃e,iter (jJ v4) (K,m.L,m.at_,[],W8,Pf,[])=some e∧(TB ⟨e.1,e.2.1⟩ 400∧e.2.2.1=[]∧(sc e.2.2.2.1∧tn e.2.2.2.1≤4)∧(e.2.2.2.1.length:Int)≤13∧(e.2.2.2.2.length:Int)=K∧∀x∈e.2.2.2.2,zg e.2.2.2.1 x 3):=by
 refine qu (body:=jJ v4) (λs=>0≤s.1∧s.1≤K∧TB ⟨s.2.1,s.2.2.1⟩ (310+10 * (K - s.1))∧s.2.2.2.1=[]∧s.2.2.2.2.1=(s.2.2.2.2.2.1.length:Int)∧(sc s.2.2.2.2.2.1∧tn s.2.2.2.2.2.1≤4)∧(s.2.2.2.2.2.1.length:Int)+s.1≤13∧((s.2.2.2.2.2.2.length:Int)+s.1=K∧s.2.2.2.2.2.2.Nodup)∧(∀x∈s.2.2.2.2.2.2,zg s.2.2.2.2.2.1 x 3)∧∀x∈v4.2.2.2.2.2,zg s.2.2.2.2.2.1 x 2) (λs=>s.1.toNat) _ ?_ ⟨by simp only;omega,by simp only;omega,h.mono (by simp only;omega),rfl,hid,⟨M,Mt⟩,by simp only;omega,⟨by simp,.nil⟩,by simp,hb⟩
 rintro⟨k,L,p,ev,id,os,cs⟩ ⟨g1,g2,g3,g4,g5,g6,g7,⟨g8,g8n⟩,g9,g10⟩
 simp only at g1 g2 g3 g4 g5 g6 g7 g8 g8n g9 g10;unfold jJ;simp only;by_cases hk:0 < k
 ·left
  obtain⟨v,m1,e1,v1,v2,t1⟩:=lj g3 (by omega) (n:=(v4.2.2.2.2.2.length:Int)) (by omega);rw[ai (by simpa using hk),e1];simp only[aa];rw[eV (by omega),pM v1 (by omega)];simp only[aa];obtain⟨u,m2,e2,u1,u2,t2⟩:=lj t1 (by omega) (n:=20) (by omega);rw[e2];simp only[aa];obtain⟨e,e3,t3,i1,i2,i3⟩:=abF (s8:=(k,L,p,ev,id,os,cs)) t2 (by omega) (by simp only;omega) g8n;simp only at e3 t3 i3;rw[e3];simp only[aa];rw[add_eq g5 (by omega)];simp only[aa];rw[eV (by simp <;> omega),iI (x:=k - 1) (by omega) (by omega)];have hT:zg os (v4.2.2.2.2.2[v.toNat]'(by omega)) 2:=g10 _ (bC _);refine⟨_,rfl,⟨by simp only;omega,by simp only;omega,t3.mono (by simp only;omega),g4,by simp <;> omega,?_,by simp <;> omega,⟨by simp <;> omega,?_⟩,?_,λx hx=>(g10 x hx).mono⟩,by simp only;omega⟩
  ·refine⟨g6.1.push (by simp only;omega) (.I4 rfl rfl rfl ?_ hT (λx hx=>⟨?_,g9 x (i3 x hx)⟩) i1 i2 rfl u1 (by simp only;omega)),by simp only[H4];have:=g6.2;simp;omega⟩
   ·have:=g6.1.le hT;simp only;omega
   ·have:=g6.1.le (g9 x (i3 x hx));simp only;omega
  ·simp only
   rw[dh];refine⟨g8n,by simp,λa ha c hc=>?_⟩;rw[aD] at hc;subst hc;have:=g6.1.le (g9 a ha);omega
  ·intro x hx
   simp only[aQ,aD] at hx;rcases hx with hx |rfl
   ·exact(g9 x hx).mono
   ·exact⟨_,eI _ (aD.2 rfl),rfl,rfl⟩
 ·right
  have:k=0:=by omega
  subst this;rw[ah (by simp)];exact⟨_,rfl,g3.mono (by omega),g4,g6,by simp only;omega,by simp only;omega,g9⟩
abbrev CT:ByteArray:=⟨#[109,97,105,110]⟩
abbrev Kf:ByteArray:=⟨#[111,108,100]⟩
abbrev nX:ByteArray:=⟨#[120]⟩
abbrev Vu:ByteArray:=⟨#[110,101,119]⟩
structure adt (os:List ab) (e:az):Prop where
 k:(e.Kind=1∧zg os e.dI 3)∨(e.Kind=2∧e.dI=0)
 n:e.Name∈[CT,Kf,nX,Vu]
 t:0≤e.Time∧e.Time≤100
noncomputable def nmF (l:List az):List (ByteArray×Bool):=l.foldl (λm e=>eD pE m e.Name (e.Kind==1)) []
noncomputable def K8:List az→List (ByteArray×Bool)→Bool
 |[],_=>true
 |e::l,m=>(e.Kind != 2||(br pE m e.Name).getD false)&&K8 l (eD pE m e.Name (e.Kind==1))
theorem C5:∀(l l2:List az) (m:List (ByteArray×Bool)),K8 (l++l2) m=(K8 l m&&K8 l2 (l.foldl (λm e=>eD pE m e.Name (e.Kind==1)) m))
 |[],l2,m=>by simp[K8]
 |e::l,l2,m=>by simp only[cv,K8,ea,C5 l l2];rw[Bool.and_assoc]
structure HL (os:List ab) (l:List az):Prop where
 ok:∀e∈l,adt os e
 so:l.Pairwise λx y=>x.Time≤y.Time
 dl:K8 l []=true
theorem PU {m:bQ} (h:TB m 400) {os:List ab} {cs:List Int} (hl:1≤cs.length) (PK:cs.length≤1000) (hc:∀x∈cs,zg os x 3):∃l m',rS m cs=some (l,m')∧HL os l∧l.length≤7∧(∀e∈l,e.Time≤20)∧TB m' 500:=by
 unfold rS;obtain⟨v,m1,e1,v1,v2,t1⟩:=lj h (by omega) (n:=4) (by omega);rw[e1];simp only[aa];obtain⟨K,m2,e2,u1,u2,t2⟩:=lj t1 (by omega) (n:=8) (by omega);rw[e2];simp only[aa];have key:∃e,iter (nP cs) (v,K,m2.L,m2.at_,[],[])=some e∧(TB ⟨e.1,e.2.1⟩ 500∧HL os e.2.2∧e.2.2.length≤7∧∀x∈e.2.2,x.Time≤20):=by
  refine qu (body:=nP cs) (λs=>0≤s.2.1∧s.2.1≤7∧(0≤s.1∧s.1+2 * s.2.1≤20)∧TB ⟨s.2.2.1,s.2.2.2.1⟩ (410+5 * (7 - s.2.1))∧s.2.2.2.2.1=nmF s.2.2.2.2.2∧(s.2.2.2.2.2.length:Int)+s.2.1≤7∧HL os s.2.2.2.2.2∧∀e∈s.2.2.2.2.2,e.Time≤s.1) (λs=>s.2.1.toNat) _ ?_ ⟨u1,by simp only;omega,⟨v1,by simp only;omega⟩,t2.mono (by simp only;omega),rfl,by simp only[List.length_nil];omega,⟨by simp,.nil,rfl⟩,by simp⟩
  rintro⟨now,k,L,p,th,out⟩ ⟨g1,g2,⟨g3,g3'⟩,g4,g5,g6,g7,g8⟩
  simp only at g1 g2 g3 g3' g4 g5 g6 g7 g8;unfold nP;simp only;by_cases hk:0 < k
  ·left
   rw[ai (by simpa using hk)];obtain⟨a,m3,e3,a1,a2,t3⟩:=lj g4 (by omega) (n:=3) (by omega);rw[e3];simp only[aa];obtain⟨b,m4,e4,b1,b2,t4⟩:=lj t3 (by omega) (n:=3) (by omega);rw[e4];simp only[aa];rw[eV (by simp <;> omega),pM b1 (by simp <;> omega)];simp only[aa];have Hu:([CT,Kf,nX][b.toNat]'(by simp <;> omega))∈[CT,Kf,nX,Vu]:=by
    have:([CT,Kf,nX][b.toNat]'(by simp <;> omega))∈[CT,Kf,nX]:=bC _;exact jE [Vu] this
   rw[show ([(⟨#[109,97,105,110]⟩:ByteArray),(⟨#[111,108,100]⟩:ByteArray),(⟨#[120]⟩:ByteArray)][b.toNat]'(by simp <;> omega))=([CT,Kf,nX][b.toNat]'(by simp <;> omega)) from rfl];generalize [CT,Kf,nX][b.toNat]'(by simp <;> omega)=nm at Hu ⊢;rw[iI (x:=now+a) (by omega) (by omega),iI (x:=k - 1) (by omega) (by omega)];have VX:∀(e:az),adt os e→e.Time=now+a→e.Name=nm→(e.Kind=2→(br pE th nm).getD false=true)→HL os (out++[e])∧(∀x∈out++[e],x.Time≤now+a)∧eD pE th nm (e.Kind==1)=nmF (out++[e]):=λe gD ht hn hd=>by
    refine⟨⟨λx hx=>?_,?_,?_⟩,λx hx=>?_,?_⟩
    ·rcases aQ.1 hx with h |h
     ·exact g7.ok x h
     ·rw[aD.1 h];exact gD
    ·rw[gv]
     exact⟨g7.so,List.pairwise_singleton _ _,λx hx y hy=>by rw[aD.1 hy,ht];have:=g8 x hx;omega⟩
    ·rw[C5,g7.dl]
     have:out.foldl (λm e=>eD pE m e.Name (e.Kind==1)) []=th:=g5.symm;rw[this];simp only[K8,kY,Bool.and_true,hn];by_cases k2:e.Kind=2
     ·rw[hd k2];simp
     ·simp[k2]
    ·rcases aQ.1 hx with h |h
     ·have:=g8 x h;omega
     ·rw[aD.1 h,ht];exact su _
    ·unfold nmF
     rw[List.foldl_append,ea,List.foldl_nil];have:out.foldl (λm e=>eD pE m e.Name (e.Kind==1)) []=th:=g5.symm;rw[this,hn]
   have VI:∀(L':List Int) (p':Int),TB ⟨L',p'⟩ (413+5 * (7 - k))→∃s',((cJ (⟨L',p'⟩:bQ) ((cs).length:Int)).bind λy9=>
     (idx cs y9.1).bind λwo=>
     (ck ((out).length+([(⟨1,nm,wo,now+a⟩:az)]).length≤268435456)).bind λ_=>
     some (Lp.go (ε:=(List Int)×Int×(List az)) (now+a,k - 1,y9.2.L,y9.2.at_,(eD pE th nm true),(out++[(⟨1,nm,wo,now+a⟩:az)]))))=some (.go s')∧(0≤s'.2.1∧s'.2.1≤7∧(0≤s'.1∧s'.1+2 * s'.2.1≤20)∧TB ⟨s'.2.2.1,s'.2.2.2.1⟩ (410+5 * (7 - s'.2.1))∧s'.2.2.2.2.1=nmF s'.2.2.2.2.2∧(s'.2.2.2.2.2.length:Int)+s'.2.1≤7∧HL os s'.2.2.2.2.2∧∀e∈s'.2.2.2.2.2,e.Time≤s'.1)∧s'.2.1.toNat < k.toNat:=λL' p' ht=>by
    obtain⟨c,m5,e5,c1,c2,t5⟩:=lj ht (by omega) (n:=(cs.length:Int)) (by omega);rw[e5];simp only[aa];rw[pM c1 (by omega)];simp only[aa];rw[eV (by simp <;> omega)];obtain⟨f1,f2,f3⟩:=VX ⟨1,nm,cs[c.toNat]'(by omega),now+a⟩ ⟨.inl ⟨rfl,hc _ (bC _)⟩,Hu,by simp only;omega⟩ rfl rfl (λh=>by cases h);exact⟨_,rfl,⟨by simp only;omega,by simp only;omega,⟨by simp only;omega,by simp only;omega⟩,t5.mono (by simp only;omega),f3,by simp <;> omega,f1,f2⟩,by simp only;omega⟩
   by_cases hth:(br pE th nm).getD false=true
   ·rw[ai hth]
    obtain⟨d,m5,e5,d1,d2,t5⟩:=lj t4 (by omega) (n:=3) (by omega);rw[e5];simp only[aa];by_cases c0:d=0
    ·rw[ai (by simpa using c0),eV (by simp <;> omega)]
     obtain⟨f1,f2,f3⟩:=VX ⟨2,nm,0,now+a⟩ ⟨.inr ⟨rfl,rfl⟩,Hu,by simp only;omega⟩ rfl rfl (λ_=>hth);exact⟨_,rfl,⟨by simp only;omega,by simp only;omega,⟨by simp only;omega,by simp only;omega⟩,t5.mono (by simp only;omega),f3,by simp <;> omega,f1,f2⟩,by simp only;omega⟩
    ·rw[ah (by simpa using c0)]
     exact VI m5.L m5.at_ (t5.mono (by omega))
   ·rw[ah hth]
    simp only[aa,bz,cS];exact VI m4.L m4.at_ (t4.mono (by omega))
  ·right
   have:k=0:=by omega
   subst this;rw[ah (by simp)];exact⟨_,rfl,g4.mono (by omega),g7,by simp only;omega,λe he=>by have:=g8 e he;omega⟩
 obtain⟨e,h1,h2,h3,h4,h5⟩:=key;rw[h1];exact⟨_,_,rfl,h3,h4,h5,h2⟩
structure Dd (r:ao):Prop where
 o:sc r.aq
 lo:r.aq.length≤13
 cm:∃o∈r.aq,o.Kind=3
 e:HL r.aq r.aC
 le:r.aC.length≤10
 tn:tn r.aq≤4
theorem U8 (a:List Int):∃r m,mI ⟨a,0⟩=some (r,m)∧Dd r∧r.aC.length≤7∧(∀e∈r.aC,e.Time≤20)∧TB m 500:=by
 unfold mI;obtain⟨k1,m1,e1,a1,b1,t1⟩:=Cz (m:=⟨a,0⟩) (b:=0) ⟨su _,su _⟩ (by omega) (x:=1) (y:=4) (by omega) (by omega) (by omega);rw[e1];simp only[aa];obtain⟨⟨L1,p1,ev1,W7,bl1,os1⟩,e2,t2,x1,x2,x3,x4,x5,x6⟩:=abI (t1.mono (by omega)) a1 b1;rw[e2];simp only at t2 x1 x2 x3 x4 x5 x6;simp only[aa];subst x1;obtain⟨k2,m2,e3,a2,b2,t3⟩:=Cz t2 (by omega) (x:=1) (y:=4) (by omega) (by omega) (by omega);rw[e3];simp only[aa];obtain⟨⟨L2,p2,ev2,id2,os2,tr2⟩,e4,t4,y1,y2,y3,y4,y5,y6⟩:=abH (v2:=(L1,p1,[],W7,bl1,os1)) (t3.mono (by omega)) x3.1 x3.2 (by omega) (by simp only;omega) (by simp only;omega) x6 x2 a2 b2;rw[e4];simp only at t4 y1 y2 y3 y4 y5 y6;simp only[aa];subst y1;obtain⟨k3,m3,e5,a3,b3,t5⟩:=Cz t4 (by omega) (x:=1) (y:=5) (by omega) (by omega) (by omega);rw[e5];simp only[aa];obtain⟨⟨L3,p3,ev3,os3,cs3⟩,e6,t6,z1,z2,z3,z4,z5⟩:=abG (v4:=(L2,p2,[],id2,os2,tr2)) (t5.mono (by omega)) y3.1 y3.2 (by omega) (by simp only;omega) (by simp only;omega) y6 y2 a3 b3;rw[e6];simp only at t6 z1 z2 z3 z4 z5;simp only[aa];obtain⟨ev,m4,e7,w1,w2,w3,t7⟩:=PU t6 (cs:=cs3) (by omega) (by omega) z5;rw[e7];simp only[aa];refine⟨_,_,rfl,⟨z2.1,by simp only;omega,?_,w1,by simp only;omega,z2.2⟩,w2,w3,t7⟩;obtain⟨o,h1,_,h2⟩:=z5 (cs3[0]'(by omega)) (bC _);exact⟨o,h1,h2⟩
end Go.Vl
namespace Go.Vl
open Go
theorem Px (l:List (Int×ab)):(py l).Sublist l:=fB
theorem NW:∀{l:List (Int×ab)},l≠[]→∃q∈l,∀r∈l,q.1≤r.1
 |[],h=>absurd rfl h
 |[q],_=>⟨q,by simp,by simp⟩
 |q::r::l,_=>by
  obtain⟨p,hp,h⟩:=NW (l:=r::l) (by simp);by_cases hc:q.1≤p.1
  ·refine⟨q,by simp,λx hx=>?_⟩
   rcases aZ.1 hx with rfl |hx
   ·exact su _
   ·exact Int.le_trans hc (h x hx)
  ·refine⟨p,cW _ hp,λx hx=>?_⟩
   rcases aZ.1 hx with rfl |hx
   ·omega
   ·exact h x hx
theorem Sk {l:List (Int×ab)} (h:∀q∈l,∀j∈gp q.2,j < q.1) (iA:l≠[]):(py l).length < l.length:=by
 obtain⟨q,hq,Y7⟩:=NW iA;refine pC.2 ⟨q,hq,?_⟩;rw[gH];refine fk.2 λj hj hk=>?_
 unfold qx at hk;rw[mH eB] at hk;obtain⟨r,hr,h2⟩:=aG.1 hk;have h1:=h q hq j hj;have h3:=Y7 r hr;omega
theorem Lc:∀(n:Nat) {l:List (Int×ab)},(∀q∈l,∀j∈gp q.2,j < q.1)→l.length≤n→ou n l=[]
 |0,l,_,hl=>by
  have:l=[]:=aI (by omega);subst this;rfl
 |n+1,l,h,hl=>by
  rw[ou];refine Lc n (λq hq=>h q ((Px l).subset hq)) ?_;by_cases iA:l=[]
  ·subst iA;simp[py]
  ·have:=Sk h iA;omega
theorem Zz {l:List (Int×ab)} (h:∀q∈l,∀j∈gp q.2,j < q.1):Ai l=false:=by
 unfold Ai;rw[Lc l.length h (aM _)];rfl
theorem aeV:∀n∈[CT,Kf,nX,Vu],n.size≤1000:=by
 intro n hn;simp only[aZ,fE,td] at hn;rcases hn with rfl |rfl |rfl |rfl <;> decide
theorem Dd.fit {r:ao} (M:Dd r):FP r:=by
 refine⟨λo ho=>?_,λe he=>by have:=aeV _ (M.e.ok e he).n;omega⟩;cases M.o.obj o ho with
 |Wm h1 h2 h3 h4 h5 h6 h7=>exact⟨by rw[h3];simp,by rw[h6];decide⟩
 |tree h1 h2 h3 h4 h5 h6 h7 h8=>
  refine⟨λx hx=>?_,by rw[h7];decide⟩;have:=h3.subset (qM (f:=(·.Name)) hx);simp only[aZ,fE,td] at this;rcases this with e |e |e <;> rw[e] <;> decide
 |I4 h1 h2 h3 h4 h5 h6 h7 h8 h9=>exact⟨by rw[h3];simp,by rw[h9];decide⟩
end Go.Vl
