/- Walk: the tree, the index, in plain words. Conditions: none. -/
import Derived.Test.YtjnflahicimmlaaGreatDoorJzB
import Derived.Test.YtjnflahicimmlaaGreatDoorJrS
set_option linter.unusedSimpArgs false
set_option linter.unusedVariables false
namespace Go.Vl
open Go
theorem Ho {σ ε:Type} {b1 b2:σ→Option (Lp σ ε)} (h:∀s o,b1 s=some o→b2 s=some o):∀(n:Nat) (s:σ) (e:ε),E2 b1 n s=some e→E2 b2 n s=some e
 |0,_,_,h1=>by simp[E2] at h1
 |n+1,s,e,h1=>by
  simp only[E2] at h1 ⊢;cases hb:b1 s with
  |none=>rw[hb] at h1;simp at h1
  |some o=>
   rw[hb] at h1;rw[h s o hb];cases o with
   |go s'=>exact Ho h n s' e h1
   |out e'=>exact h1
theorem EZ {σ ε:Type} {b1 b2:σ→Option (Lp σ ε)} (h:∀s o,b1 s=some o→b2 s=some o) {s:σ} {e:ε} (h1:iter b1 s=some e):iter b2 s=some e:=by
 obtain⟨n,hn⟩:=tS.1 h1;exact tS.2 ⟨n,Ho h n s e hn⟩
theorem LX {f g:cw→ByteArray→Int→Option (Bool×cw)} (h:∀a b c r,f a b c=some r→g a b c=some r) {a:cw} {b:ByteArray} {c:Int} {r:Bool×cw} (h1:dD f a b c=some r):dD g a b c=some r:=by
 unfold dD at h1 ⊢;obtain⟨e,he,h1⟩:=bI h1;rw[EZ (b2:=bK a c b g) (λs o ho=>?_) he]
 ·exact h1
 ·unfold bK at ho ⊢
  split at ho
  ·rename_i hc
   rw[ai hc];obtain⟨x,hx,ho⟩:=bI ho;rw[hx];obtain⟨u,hu,ho⟩:=bI ho;simp only[aa];rw[hu];simp only[aa];split at ho
   ·rename_i hk
    rw[ai hk];obtain⟨u,hu,ho⟩:=bI ho;rw[hu];obtain⟨y,hy,ho⟩:=bI ho;simp only[aa];rw[h _ _ _ _ hy];exact ho
   ·rename_i hk
    rw[ah hk];exact ho
  ·rename_i hc
   rw[ah hc];exact ho
theorem CH:∀(n:Nat) (a:cw) (b:ByteArray) (c:Int) (r:Bool×cw),bH n a b c=some r→bH (n+1) a b c=some r
 |0,_,_,_,_,h=>by simp[bH] at h
 |n+1,a,b,c,r,h=>LX (CH n) h
theorem DU {n m:Nat} (h:n≤m) {a:cw} {b:ByteArray} {c:Int} {r:Bool×cw} (h1:bH n a b c=some r):bH m a b c=some r:=by
 induction h with
 |refl=>exact h1
 |step _ ih=>exact CH _ _ _ _ _ ih
theorem HY {n:Nat} {a:cw} {b:ByteArray} {c:Int} {r:Bool×cw} (h:bH n a b c=some r):gw a b c=some r:=by
 have hex:∃n r,bH n a b c=some r:=⟨n,r,h⟩;unfold gw;rw[dif_pos hex];obtain⟨r',h'⟩:=de hex;have e1:=DU (Nat.le_max_left n (Classical.choose hex)) h;have e2:=DU (Nat.le_max_right n (Classical.choose hex)) h';rw[e1] at e2;rw[h',e2]
theorem rj {a0:ao} (V:qB a0):po a0=some (iO (bM a0.aq)):=by
 have Bc:=V.no;unfold po;have h1:iter (oL a0) (0,[])=some (MI a0.aq):=by
  refine nR a0.aq (λm o=>eD cK m o.ID o) (λm=>m) (λ_ _=>True) (λi hi s _=>⟨?_,trivial⟩) (λs _=>?_) [] trivial
  ·unfold oL
   rw[ai (by simp;omega),dj hi,iI (by omega) (by omega)]
   rfl
  ·unfold oL
   rw[ah (by simp)]
 rw[h1,wL V.nd];simp only[aa];have hq:∀q∈bM a0.aq,q.2.bd.length≤268435456:=λq hq=>by
  unfold bM at hq;obtain⟨o,ho,rfl⟩:=aG.1 hq;have:=(pJ.1 (V.ob o ho)).2.1.2.1;simp only;omega
 rw[eV ⟨by rw[tu];exact V.nd,hq⟩]
 rfl
theorem M7 {M:List (Int×ab)} (h:∀q∈M,q.2.Kind=2→q.2.bd≠[]):iO M=M:=by
 have hd:∀k,¬FQ M k:=λk hk=>by
  induction hk with
  |@mk k o hm hk hi ih=>
   cases hx:o.bd with
   |nil=>exact h _ hm hk hx
   |cons x l=>exact ih x (by rw[hx];simp)
 unfold iO;have:∀q∈M,(q.1,({ q.2 with bd:=vf M q.2.bd }:ab))=q:=λq _=>by
  unfold vf;rw[fC.2 λx _=>by simp[hd]]
 rw[fW this,List.map_id']
def bA:ByteArray:=⟨#[97]⟩
def bX:ByteArray:=⟨#[120]⟩
def bY:ByteArray:=⟨#[121]⟩
structure Pyr (M:List (Int×ab)) (d:Nat):Prop where
 k1:((br cK M 1).getD (⟨0,0,[],[],0,[],ByteArray.empty,0⟩:ab)).Kind=1
 i2:((br cK M 2).getD (⟨0,0,[],[],0,[],ByteArray.empty,0⟩:ab)).bd=[⟨bA,1⟩]
 kt:∀i:Nat,i≤d→((br cK M (2+i:Int)).getD (⟨0,0,[],[],0,[],ByteArray.empty,0⟩:ab)).Kind=2
 it:∀i:Nat,i < d→((br cK M (3+i:Int)).getD (⟨0,0,[],[],0,[],ByteArray.empty,0⟩:ab)).bd=[⟨bX,2+i⟩,⟨bY,2+i⟩]
end Go.Vl
namespace Go.Vl
open Go
theorem AU {l:List ab} (hn:(l.map (·.ID)).Nodup) {o:ab} (ho:o∈l):br cK (bM l) o.ID=some o:=
 nN (by rw[tu];exact hn) (aG.2 ⟨o,ho,rfl⟩)
def wO:List ab:=[⟨3,1,[],[],0,[],ByteArray.empty,0⟩,⟨4,2,[],[⟨bA,3⟩],0,[],ByteArray.empty,0⟩,⟨5,2,[],[⟨⟨#[100]⟩,4⟩],0,[],ByteArray.empty,0⟩,⟨7,3,[],[],5,[],⟨#[120]⟩,0⟩]
theorem QV:(wO.map (·.ID)).Nodup:=by decide +kernel
theorem aeB:∀o∈wO,uo o=0:=by decide +kernel
theorem aeC:∀o∈wO,mK (bM wO) o=true:=by decide +kernel
theorem aeD:∀q∈bM wO,∀j∈gp q.2,j < q.1:=by decide +kernel
theorem XY:∀q∈bM wO,q.2.Kind=2→q.2.bd.length≠0:=by decide +kernel
theorem aaL:∀o∈wO,(∀x∈o.bd,x.Name.size≤9223372036854775807)∧o.fJ.size≤9223372036854775807:=by decide +kernel
theorem abJ:xB 7=⟨#[55]⟩:=by decide +kernel
theorem AT {a0:ao} (hf:FP a0) (V:qB a0):jy a0=some 0:=by
 rw[Jv hf,xH.2 V]
theorem agW {l:List ab} (h:∀o∈l,(∀x∈o.bd,x.Name.size≤9223372036854775807)∧o.fJ.size≤9223372036854775807):FP ⟨l,[]⟩:=⟨h,λe he=>by simp at he⟩
theorem Qc {l:List ab} (h:∀q∈bM l,q.2.Kind=2→q.2.bd.length≠0):iO (bM l)=bM l:=M7 λq hq hk e=>h q hq hk (by rw[e];rfl)
open Classical in
theorem JD {ls:List aB} (h:ls.length≤268435456) (h1:∀x∈ls,∀y∈ls,x.Name=y.Name→x=y):dH ls=some (wx ls):=by
 unfold dH;rw[eV ⟨h,h1⟩];rfl
theorem L4 (ls:List aB):(wx ls).length=ls.length:=by unfold wx;exact ui ls
theorem Hm {n:Int} (h: -9223372036854775808≤n∧n≤9223372036854775807):strconv_Itoa n=some (xB n):=by
 unfold strconv_Itoa;rw[eV h];rfl
theorem aaK:qB ⟨wO,[]⟩:={
 no:=by decide
 ne:=by simp
 ob:=aeB
 ev:=λe he=>by simp at he
 nd:=QV
 hr:=aeC
 nl:=Sa _ _
 cy:=Zz aeD
 tm:=λe he=>by simp at he
 so:=by simp
 mn:=rfl }
theorem XX:gw ⟨bM wO,2000,[]⟩ ⟨#[55,58]⟩ 5=some (true,⟨bM wO,1999,[⟨⟨#[55,58,100,47,97]⟩,3⟩]⟩):=by
 have g3:br cK (bM wO) 3=some ⟨3,1,[],[],0,[],ByteArray.empty,0⟩:=AU QV (o:=⟨3,1,[],[],0,[],ByteArray.empty,0⟩) (by simp[wO]);have g4:br cK (bM wO) 4=some ⟨4,2,[],[⟨bA,3⟩],0,[],ByteArray.empty,0⟩:=AU QV (o:=⟨4,2,[],[⟨bA,3⟩],0,[],ByteArray.empty,0⟩) (by simp[wO]);have g5:br cK (bM wO) 5=some ⟨5,2,[],[⟨⟨#[100]⟩,4⟩],0,[],ByteArray.empty,0⟩:=AU QV (o:=⟨5,2,[],[⟨⟨#[100]⟩,4⟩],0,[],ByteArray.empty,0⟩) (by simp[wO]);refine HY (n:=2) ?_;have Dz:bH 1 ⟨bM wO,2000,[]⟩ ⟨#[55,58,100,47]⟩ 4=some (true,⟨bM wO,1999,[⟨⟨#[55,58,100,47,97]⟩,3⟩]⟩):=by
  show dD _ _ _ _=_;unfold dD;rw[fT (s':=(1,bM wO,1999,[⟨⟨#[55,58,100,47,97]⟩,3⟩])) (by
   unfold bK;simp only[g4,cg];rw[ai (by decide),show idx ([⟨bA,3⟩]:List aB) 0=some ⟨bA,3⟩ from rfl];simp only[aa];rw[eV (by decide)];simp only[aa,g3,cg];rw[ah (by decide),ah (by decide),eV (by decide)]
   rfl),dP (e:=.inl (bM wO,1999,[⟨⟨#[55,58,100,47,97]⟩,3⟩])) (by
   unfold bK;simp only[g4,cg];rw[ah (by decide)])]
  rfl
 show dD _ _ _ _=_;unfold dD;rw[fT (s':=(1,bM wO,1999,[⟨⟨#[55,58,100,47,97]⟩,3⟩])) (by
  unfold bK;simp only[g5,cg];rw[ai (by decide),show idx ([⟨⟨#[100]⟩,4⟩]:List aB) 0=some ⟨⟨#[100]⟩,4⟩ from rfl];simp only[aa];rw[eV (by decide)];simp only[aa,g4,cg];rw[ai (by decide),eV (by decide)];simp only[aa];rw[show ((⟨#[55,58]⟩:ByteArray)++⟨#[100]⟩)++⟨#[47]⟩=⟨#[55,58,100,47]⟩ by decide +kernel,Dz]
  rfl),dP (e:=.inl (bM wO,1999,[⟨⟨#[55,58,100,47,97]⟩,3⟩])) (by
  unfold bK;simp only[g5,cg];rw[ah (by decide)])]
 rfl
theorem UK:kZ ⟨wO,[]⟩ 7=some ([⟨⟨#[55,58,100,47,97]⟩,3⟩],0):=by
 unfold kZ;rw[AT (agW aaL) aaK,rj aaK,Qc XY];simp only[aa];have gc:br cK (bM wO) 7=some ⟨7,3,[],[],5,[],⟨#[120]⟩,0⟩:=AU QV (o:=⟨7,3,[],[],5,[],⟨#[120]⟩,0⟩) (by simp[wO]);rw[ah (by decide),gc];simp only[cg];rw[ah (by decide)];unfold iH;rw[Hm (by decide),abJ];simp only[aa];rw[eV (by decide),gc];simp only[aa,cg];rw[show (⟨#[55]⟩:ByteArray)++⟨#[58]⟩=⟨#[55,58]⟩ by decide +kernel,XX];simp only[aa];rw[ah (by decide),JD (by decide) (λx hx y hy _=>by
  rw[aD] at hx hy;rw[hx,hy])]
 simp only[aa];rw[ah (by decide)];unfold wx;rw[List.mergeSort_singleton]
theorem Wp:rU=some true:=by
 unfold rU;have:=UK;unfold wO bA at this;rw[this];simp only[aa];rw[ai (by decide),ai (by decide),show idx ([⟨⟨#[55,58,100,47,97]⟩,3⟩]:List aB) 0=some ⟨⟨#[55,58,100,47,97]⟩,3⟩ from rfl];simp only[aa]
 congr 1
 simp
end Go.Vl
namespace Go.Vl
open Go
def vJ (M:List (Int×ab)) (id:Int):Int:=((br cK M id).getD (⟨0,0,[],[],0,[],ByteArray.empty,0⟩:ab)).Kind
def mf (M:List (Int×ab)) (id:Int):List aB:=((br cK M id).getD (⟨0,0,[],[],0,[],ByteArray.empty,0⟩:ab)).bd
def JF:ByteArray:=⟨#[47]⟩
def fK (M:List (Int×ab)):Nat→Int→List (ByteArray×Int)
 |0,_=>[]
 |n+1,id=>(mf M id).flatMap λx=>if vJ M x.ID=2 then(fK M n x.ID).map (λq=>((x.Name++JF)++q.1,q.2)) else [(x.Name,x.ID)]
structure Dag (M:List (Int×ab)):Prop where
 sub:∀id,((mf M id).map (·.Name)).Sublist [nA,nB,nD]
 dn:∀id,∀x∈mf M id,1≤x.ID∧x.ID < id
end Go.Vl
namespace Go.Vl
open Go
def pre (p:ByteArray) (x:aB):aB:=⟨p++x.Name,x.ID⟩
theorem Hg {ν μ:Type} (g:ν→μ) (k:Int):∀M:List (Int×ν),eJ cK k (M.map λq=>(q.1,g q.2))=(eJ cK k M).map λr=>(r.1,g r.2)
 |[]=>rfl
 |q::M=>by
  rw[aW,eJ,eJ];by_cases h:cK k q.1=true
  ·rw[ai h,ai h];rfl
  ·rw[ah h,ah h,Hg g k M]
   cases eJ cK k M <;> rfl
theorem tO (M:List (Int×ab)) (k:Int):br cK (iO M) k=(br cK M k).map λo=>{ o with bd:=vf M o.bd }:=by
 unfold br iO;rw[Hg (λo:ab=>({ o with bd:=vf M o.bd }:ab))];cases eJ cK k M <;> rfl
end Go.Vl
namespace Go.Vl
open Go
theorem OW {l:List Int} {x:Int}:x∈xL l↔x∈l:=(iY l _).mem_iff
theorem JE {l:List Int} (h:l.Nodup):(xL l).Nodup:=(iY l _).nodup_iff.2 h
theorem H9 (l:List Int):(xL l).Pairwise (·≤·):=by
 unfold xL;refine List.Pairwise.imp (λ{a b} h=>?_) (jX (le:=λx y:Int=>decide (x≤y)) (λa b c h1 h2=>by simp at h1 h2 ⊢;omega) (λa b=>by simp;omega) l);simpa using h
theorem EK {α:Type}:∀{l m:List α},l.Nodup→l ⊆ m→l.length≤m.length
 |[],_,_,_=>cE _
 |x::l,m,h1,h2=>by
  rw[dZ] at h1;obtain⟨s,t,rfl⟩:=List.append_of_mem (h2 (iC ..));have:l ⊆ s++t:=λy hy=>by
   rcases aQ.1 (h2 (cW _ hy)) with h |h
   ·exact jE _ h
   ·rcases aZ.1 h with rfl |h
    ·exact absurd hy h1.1
    ·exact eI _ h
  have:=EK h1.2 this;simp only[bF,cQ] at this ⊢;omega
theorem Vv {κ ν:Type} {e:κ→κ→Bool} {m:List (κ×ν)} {k:κ} {v:ν} {q:κ×ν} (h:q∈eD e m k v):q=(k,v)∨q∈m:=by
 induction m with
 |nil=>rw[EP] at h;exact .inl (aD.1 h)
 |cons r m ih=>
  rw[yR] at h;split at h
  ·rcases aZ.1 h with h |h
   ·exact .inl h
   ·exact .inr (cW _ h)
  ·rcases aZ.1 h with h |h
   ·exact .inr (h▸iC ..)
   ·rcases ih h with h |h
    ·exact .inl h
    ·exact .inr (cW _ h)
theorem GW {t:Int}:∀{l:List az} {m:List (ByteArray×Int)} {q:ByteArray×Int},q∈pF t m l→q∈m∨∃e∈l,e.Kind=1∧e.Time≤t∧q=(e.Name,e.dI)
 |[],m,q,h=>.inl h
 |e::l,m,q,h=>by
  simp only[pF] at h;split at h
  ·exact .inl h
  ·rename_i ht
   rcases GW h with h |⟨e',h1,h2⟩
   ·unfold oW at h
    split at h
    ·rename_i hk
     rcases Vv h with h |h
     ·exact .inr ⟨e,iC ..,hk,by omega,h⟩
     ·exact .inl h
    ·exact .inl ((ye m e.Name).subset h)
   ·exact .inr ⟨e',cW _ h1,h2⟩
theorem Hf {all:List (Int×ab)}:∀{l:List az} {m:List (ByteArray×Bool)},Pn all l m=false→∀e∈l,e.Kind=1→gj all e.dI=3
 |[],_,_,e,he,_=>by cases he
 |e'::l,m,h,e,he,hk=>by
  rw[NT,fm] at h;rcases aZ.1 he with rfl |he
  ·have:=h.1
   unfold zC at this;rw[fm,Bool.and_eq_false_iff] at this;rcases this.1 with h2 |h2
   ·simp[hk] at h2
   ·simpa using h2
  ·exact Hf h.2 e he hk
theorem QR {n:Nat}:∀{l:List (Int×ab)},(∀q∈l,(gp q.2).length≤n)→DS (λ_=>false) l≤l.length * n
 |[],_=>by simp[DS]
 |q::l,h=>by
  have h1:=h q (by simp);have h2:=QR (l:=l) λr hr=>h r (by simp[hr])
  simp only[DS,bz,cS,cQ,dQ];omega
theorem Pp (o:ab):(gp o).length≤o.bf.length+o.bd.length+1:=by
 unfold gp;split <;> simp <;> omega
section
variable {a0:ao} (V:qB a0)
include V
theorem qB.obj {o:ab} (h:o∈a0.aq):o.Data.length≤65536∧o.bd.length≤64∧o.bf.length≤8:=(pJ.1 (V.ob o h)).2.1
theorem qB.idx:ic a0=some (bM a0.aq,true):=by
 rw[Ky (by have:=V.no;omega),fD (yj.2 V.nd),wL V.nd]
theorem qB.okH:OkH a0 (bM a0.aq):=by
 refine⟨by have:=V.ne;omega,by rw[tu];exact V.nd,λq hq=>?_,?_⟩
 ·obtain⟨o,ho,rfl⟩:=aG.1 hq
  have:=V.obj ho;simp only[zj,aR,bg];omega
 ·have:=QR (n:=73) (l:=bM a0.aq) λq hq=>by
   obtain⟨o,ho,rfl⟩:=aG.1 hq;have h1:=V.obj ho;have h2:=Pp o;show(gp o).length≤73;omega
  have h2:=V.no;have h3:(bM a0.aq).length=a0.aq.length:=by simp[bM]
  rw[h3] at this;omega
theorem qB.get {o:ab} (h:o∈a0.aq):br cK (bM a0.aq) o.ID=some o:=qs eB (by rw[tu];exact V.nd) (aG.2 ⟨o,h,rfl⟩)
omit V in
theorem vF {l:List ab} {id:Int} {o:ab} (h:br cK (bM l) id=some o):o∈l∧o.ID=id:=by
 obtain⟨o',h1,h2⟩:=aG.1 (lQ eB h);cases h2;exact⟨h1,rfl⟩
omit V in
theorem N1 {l:List ab} {id:Int} (h:gj (bM l) id≠0):∃o∈l,o.ID=id∧gj (bM l) id=o.Kind:=by
 unfold gj at h ⊢;cases hg:br cK (bM l) id with
 |none=>rw[hg] at h;exact absurd rfl h
 |some o=>exact⟨o,(vF hg).1,(vF hg).2,rfl⟩
theorem qB.kind {o:ab} (h:o∈a0.aq):gj (bM a0.aq) o.ID=o.Kind:=by
 unfold gj;rw[V.get h];rfl
theorem qB.nm {o:ab} (h:o∈a0.aq):Mz (bM a0.aq) o.ID=gp o:=by
 unfold Mz;rw[V.get h];rfl
theorem qB.named {o:ab} (h:o∈a0.aq) {j:Int} (hj:j∈gp o):∃p∈a0.aq,p.ID=j:=by
 have h1:=V.hr o h;unfold mK at h1;simp only[aR,bE,cj,ew,bne_iff_ne] at h1;obtain⟨h2,h3,h4⟩:=h1;unfold gp at hj;simp only[aQ,aG] at hj;have hk:gj (bM a0.aq) j≠0:=by
  rcases hj with (hj |⟨x,hx,rfl⟩) |hj
  ·rw[h3 j hj];decide
  ·rcases h2 x hx with e |e <;> rw[e] <;> decide
  ·split at hj
   ·rename_i hk
    rw[aD.1 hj];rcases h4 with e |e
    ·exact absurd hk e
    ·rw[e];decide
   ·cases hj
 obtain⟨p,hp,h5,_⟩:=N1 hk;exact⟨p,hp,h5⟩
theorem qB.kM {t id:Int} (h:id∈fA a0 t):∃p∈a0.aq,p.ID=id∧p.Kind=3:=by
 unfold fA at h;obtain⟨q,hq,rfl⟩:=aG.1 h;rcases GW hq with h |⟨e,he,hk,_,rfl⟩
 ·cases h
 ·have:=Hf V.nl e he hk
  obtain⟨p,hp,h1,h2⟩:=N1 (l:=a0.aq) (id:=e.dI) (by rw[this];decide);exact⟨p,hp,h1,by rw[← h2];exact this⟩
theorem qB.rch {kM:List Int} (hs:∀id∈kM,∃p∈a0.aq,p.ID=id) {id:Int} (h:DG (bM a0.aq) kM id):∃p∈a0.aq,p.ID=id:=by
 induction h with
 |O1 h=>exact hs _ h
 |step _ h2 ih=>
  obtain⟨p,hp,rfl⟩:=ih;rw[V.nm hp] at h2;exact V.named hp h2
theorem qB.Rs {t id:Int} (h:DG (bM a0.aq) (fA a0 t) id):∃p∈a0.aq,p.ID=id:=V.rch (λid hid=>by obtain⟨p,hp,h1,_⟩:=V.kM hid;exact⟨p,hp,h1⟩) h
theorem qB.Yi (t:Int):∃m,Qp (bM a0.aq) (fA a0 t) m:=by
 have H:=V.okH;have hl:=xO a0 t;have Qy:=V.ne;have hz:=H.sz;obtain⟨m,_,h⟩:=Eo (all:=bM a0.aq) (kM:=fA a0 t) (ss:=fA a0 t) ⟨H.nd,H.fit,by omega⟩ λ_=>Iff.rfl
 exact⟨m,h⟩
theorem qB.Q8 (n:Nat):∃m,sb a0 (bM a0.aq) n m:=by
 induction n with
 |zero=>exact⟨[],BP _ _⟩
 |succ n ih=>
  obtain⟨m,hm⟩:=ih;cases he:a0.aC[n]? with
  |none=>exact⟨m,hm.nd,λid=>by rw[hm.eq];simp only[iP,he];cases iP a0 (bM a0.aq) n id <;> rfl⟩
  |some e=>
   cases hs:gz a0.aC n e.Time with
   |true=>exact⟨m,BQ he hs hm⟩
   |false=>
    obtain⟨rr,hr⟩:=V.Yi e.Time;exact⟨_,GO he hs hm hr (ti _)⟩
omit V in
theorem NA {l:List Int} {os:List ab} (h1:l.Nodup) (h2:∀x∈l,∃p∈os,p.ID=x):l.length≤os.length:=by
 have:l ⊆ os.map (·.ID):=λx hx=>by
  obtain⟨p,hp,rfl⟩:=h2 x hx;exact qM hp
 have:=EK h1 this;simpa using this
omit V in
theorem yN {all:List (Int×ab)} {id:Int}:∀(n:Nat),(iP a0 all n id=none→∀i,i < n→∀e,a0.aC[i]? =some e→gz a0.aC i e.Time=false→¬DG all (fA a0 e.Time) id)∧
  ∀u,iP a0 all n id=some u→∃i,i < n∧∃e,a0.aC[i]? =some e∧gz a0.aC i e.Time=false∧DG all (fA a0 e.Time) id∧u=e.Time∧∀j,j < i→∀e',a0.aC[j]? =some e'→gz a0.aC j e'.Time=false→¬DG all (fA a0 e'.Time) id
 |0=>⟨λ_ i hi=>by omega,λu h=>by simp[iP] at h⟩
 |n+1=>by
  obtain⟨h1,h2⟩:=yN (all:=all) (id:=id) n;have hd:iP a0 all (n+1) id=match iP a0 all n id with
   |some t=>some t
   |none=>match a0.aC[n]? with
    |some e=>open Classical in if gz a0.aC n e.Time=false∧DG all (fA a0 e.Time) id then some e.Time else none
    |none=>none:=rfl
  cases hg:iP a0 all n id with
  |some t=>
   rw[hg] at hd;refine⟨λh=>(by rw[hd] at h;cases h),λu h=>?_⟩;rw[hd] at h;cases h;obtain⟨i,hi,e,h3⟩:=h2 t hg;exact⟨i,by omega,e,h3⟩
  |none=>
   rw[hg] at hd;have Bc:=h1 hg;cases he:a0.aC[n]? with
   |none=>
    rw[he] at hd;refine⟨λ_ i hi e xC hs=>?_,λu h=>(by rw[hd] at h;cases h)⟩;rcases eS.1 hi with h3 |h3
    ·exact Bc i h3 e xC hs
    ·subst h3;rw[he] at xC;cases xC
   |some e=>
    rw[he] at hd;simp only at hd;by_cases hc:gz a0.aC n e.Time=false∧DG all (fA a0 e.Time) id
    ·rw[ai hc] at hd
     refine⟨λh=>(by rw[hd] at h;cases h),λu h=>?_⟩;rw[hd] at h;cases h;exact⟨n,by omega,e,he,hc.1,hc.2,rfl,Bc⟩
    ·rw[ah hc] at hd
     refine⟨λ_ i hi e' xC hs hr=>?_,λu h=>(by rw[hd] at h;cases h)⟩;rcases eS.1 hi with h3 |h3
     ·exact Bc i h3 e' xC hs hr
     ·subst h3;rw[he] at xC;cases xC;exact hc ⟨hs,hr⟩
omit V in
theorem D4 {n:Nat} {id u:Int} (h:iP a0 (bM a0.aq) n id=some u):DG (bM a0.aq) (fA a0 u) id:=by
 obtain⟨i,_,e,_,_,h1,rfl,_⟩:=(yN n).2 u h;exact h1
theorem qB.Bj {x:Int}:x∈vU a0 (bM a0.aq)↔(iP a0 (bM a0.aq) a0.aC.length x).isSome=true:=by
 obtain⟨m,hm⟩:=V.Q8 a0.aC.length;rw[← Bk hm,OW];exact D5 hm x
theorem qB.Ov:(vU a0 (bM a0.aq)).Nodup:=by
 obtain⟨m,hm⟩:=V.Q8 a0.aC.length;rw[← Bk hm];exact JE hm.nd
theorem qB.V5:(vU a0 (bM a0.aq)).Pairwise (·≤·):=by
 obtain⟨m,hm⟩:=V.Q8 a0.aC.length;rw[← Bk hm];exact H9 _
theorem qB.IZ {x:Int} (h:x∈vU a0 (bM a0.aq)):∃p∈a0.aq,p.ID=x:=by
 have h1:=V.Bj.1 h;obtain⟨u,hu⟩:=aY.1 h1;exact V.Rs (D4 hu)
theorem qB.Fw:(vU a0 (bM a0.aq)).length≤400:=by
 have:=NA V.Ov λx hx=>V.IZ hx
 have:=V.no;omega
variable (hf:FP a0)
include hf
end
theorem CM {t t':Int}:∀{l:List az} {m:List (ByteArray×Int)},(∀e∈l,t < e.Time↔t' < e.Time)→pF t m l=pF t' m l
 |[],_,_=>rfl
 |e::l,m,h=>by
  simp only[pF];have h1:=h e (by simp);have h2:=CM (l:=l) (m:=oW m e) λx hx=>h x (by simp[hx])
  by_cases hc:t < e.Time
  ·rw[ai hc,ai (h1.1 hc)]
  ·rw[ah hc,ah (λg=>hc (h1.2 g)),h2]
theorem N0 {p:Nat→Prop}:∀{n:Nat},(∃i,i < n∧p i)→∃i,i < n∧p i∧∀j,i < j→j < n→¬p j
 |0,⟨i,hi,_⟩=>by omega
 |n+1,⟨i,hi,h⟩=>by
  by_cases hn:p n
  ·exact⟨n,by omega,hn,λj h1 h2=>by omega⟩
  ·rcases eS.1 hi with h3 |h3
   ·obtain⟨k,h4,h5,h6⟩:=N0 (n:=n) ⟨i,h3,h⟩
    refine⟨k,by omega,h5,λj h7 h8=>?_⟩;rcases eS.1 h8 with h9 |h9
    ·exact h6 j h7 h9
    ·subst h9;exact hn
   ·subst h3;exact absurd h hn
theorem Vd {all:List (Int×ab)} {id:Int} (h:DG all [] id):False:=by
 induction h with
 |O1 h=>cases h
 |step _ _ ih=>exact ih
theorem Mk {t:Int}:∀{l:List az} {m:List (ByteArray×Int)},(∀e∈l,t < e.Time)→pF t m l=m
 |[],_,_=>rfl
 |e::l,m,h=>by simp only[pF];rw[ai (h e (by simp))]
theorem Rr {a0:ao} {all:List (Int×ab)} (so:a0.aC.Pairwise λx y=>x.Time≤y.Time) {t id:Int} (h:DG all (fA a0 t) id):∃u,iP a0 all a0.aC.length id=some u∧u≤t:=by
 by_cases hx:∃i,i < a0.aC.length∧∃e,a0.aC[i]? =some e∧e.Time≤t
 ·obtain⟨i,hi,⟨e,he,ht⟩,S5⟩:=N0 hx
  have Of:a0.aC[i]=e:=by rw[ae hi] at he;exact af he
  have Y0:fA a0 t=fA a0 e.Time:=by
   unfold fA;rw[CM λx hx=>?_];obtain⟨j,hj,rfl⟩:=cu hx;by_cases Xr:i < j
   ·have h1:=S5 j Xr hj
    have h2:t < a0.aC[j].Time:=by
     refine ep λhn=>h1 ⟨_,ae hj,by omega⟩
    constructor
    ·intro _;omega
    ·intro _;exact h2
   ·have h2:a0.aC[j].Time≤e.Time:=by
     rcases Nat.lt_or_eq_of_le (Nat.le_of_not_lt Xr) with h3 |h3
     ·rw[← Of];exact eh.1 so j i hj hi h3
     ·subst h3;rw[Of];exact su _
    constructor <;> intro _ <;> omega
  have hs:gz a0.aC i e.Time=false:=by
   unfold gz;cases hn:a0.aC[i+1]? with
   |none=>rfl
   |some e'=>
    have hl:i+1 < a0.aC.length:=(aj.1 hn).1;have h1:=S5 (i+1) (by omega) hl;have:¬e'.Time≤t:=λg=>h1 ⟨e',hn,g⟩
    simp only[nc];omega
  rw[Y0] at h;cases hg:iP a0 all a0.aC.length id with
  |none=>exact absurd h ((yN _).1 hg i hi e he hs)
  |some u=>
   refine⟨u,rfl,?_⟩;obtain⟨k,hk,e',h1,h2,h3,rfl,h4⟩:=(yN _).2 u hg;have hki:k≤i:=by
    refine Nat.le_of_not_lt λg=>h4 i g e he hs h
   have agj:a0.aC[k]=e':=by rw[ae hk] at h1;exact af h1
   rcases Nat.lt_or_eq_of_le hki with h5 |h5
   ·have:=eh.1 so k i hk hi h5
    rw[Of,agj] at this;omega
   ·subst h5
    rw[he] at h1;cases h1;exact ht
 ·exfalso
  unfold fA at h;rw[Mk λe he=>?_] at h
  ·exact Vd h
  ·obtain⟨i,hi,rfl⟩:=cu he
   refine ep λhn=>hx ⟨i,hi,_,ae hi,by omega⟩
end Go.Vl
set_option linter.unusedSectionVars false
namespace Go.Vl
open Go
theorem JV (t:Int) (L:List (Int×List dG)) (x:aB) (id:Int):(br cK (pb t L x) id).getD []=(br cK L id).getD []++if x.ID=id then [⟨0,x.Name,t⟩] else []:=by
 unfold pb;obtain⟨h1,h2⟩:=iK eB L x.ID ((br cK L x.ID).getD []++[⟨0,x.Name,t⟩]) id;by_cases h:x.ID=id
 ·subst h;rw[h1 rfl,ai rfl];rfl
 ·rw[h2 (eN h),ah h,kj]
theorem Ev (t:Int):∀(l:List aB) (L:List (Int×List dG)) (id:Int),(br cK (l.foldl (pb t) L) id).getD []=(br cK L id).getD []++(l.filter λx=>x.ID==id).map λx=>⟨0,x.Name,t⟩
 |[],L,id=>by simp
 |x::l,L,id=>by
  rw[ea,Ev t l,JV,ez,eX];by_cases h:x.ID=id <;> simp[h]
theorem Ew (sf:Int→Int) (lv:Int→List aB):∀(cs:List Int) (L:List (Int×List dG)) (id:Int),(br cK (cs.foldl (λL c=>(lv c).foldl (pb (sf c)) L) L) id).getD []=(br cK L id).getD []++cs.flatMap λc=>((lv c).filter λx=>x.ID==id).map λx=>⟨0,x.Name,sf c⟩
 |[],L,id=>by simp
 |c::cs,L,id=>by
  rw[ea,Ew sf lv cs,Ev,jZ,eX]
theorem XO (objs:List (Int×ab)) (sf:Int→Int) (lv:Int→List aB):∀(cs:List Int),(∀c∈cs,∀left:Int,((lv c).length:Int)≤left→left≤2000→iH objs c left=some (lv c,true))→∀(left:Int) (uV:Nat) (L:List (Int×List dG)),(((cs.map λc=>(lv c).length).sum:Nat):Int)≤left→left≤2000→uV+(cs.map λc=>(lv c).length).sum≤200000000→
  nU objs sf cs left uV L=some (some (cs.foldl (λL c=>(lv c).foldl (pb (sf c)) L) L))
 |[],_,_,_,_,_,_,_=>rfl
 |c::cs,hw,left,uV,L,h1,h2,h3=>by
  rw[aW,uS] at h1 h3;rw[nU,hw c (by simp) left (by omega) h2];simp only[aa];rw[ah (by simp),eV (by omega)];simp only[aa];rw[iI (by omega) (by omega)];exact XO objs sf lv cs (λc hc=>hw c (by simp[hc])) _ _ _ (by omega) (by omega) (by omega)
section
variable {r:ao} (M:Dd r)
include M
end
section
variable {r:ao} (M:Dd r) {c:ab} (hc:c∈r.aq)
include M hc
variable (hk:c.Kind=3)
include hk
end
theorem KU {α β:Type} (f:α→β):∀(l:List α) (s:List β),l.foldl (λs x=>s++[f x]) s=s++l.map f
 |[],s=>by simp
 |x::l,s=>by rw[ea,KU f l];simp
section
variable {r:ao} (M:Dd r) (ht:∀e∈r.aC,e.Time≤20)
include M
include ht
end
end Go.Vl
