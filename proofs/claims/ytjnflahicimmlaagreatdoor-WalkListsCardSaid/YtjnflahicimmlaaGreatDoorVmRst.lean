/- The value logic: what one operation leads to, and that what it reads is all that it hangs on. Conditions: none. -/
import Derived.Test.YtjnflahicimmlaaGreatDoorVmO
set_option linter.unusedSimpArgs false
set_option linter.unusedVariables false
namespace Go.Vl
open Go Go.RowKit
section
variable {P:Program} {K:Ctx P} {ops:Array Oper} {st cM:St} {a:Act} {w:World} {p:Pl}
def LQ (P:Program) (K:Ctx P) (ops:Array Oper) (o:Oper) (st cM:St):Prop:=
 ∀(next:Act→World→Prop) (Q:Exit→Act→World→Prop) (a:Act) (w:World) (p:Pl),Rel K st a w p→(∀a' w' p',Rel K cM a' w' p'→next a' w')→
  if Region.wanted o (yielded ops a.tmps) then o.wp P a w next Q∨(o.asks P a w∧LetsOut Q) else next (a.put o.dst undef) w
theorem LQ.aaN {o:Oper} {l:List Oper} {Q:Exit→St→Prop} (h:LQ P K ops o st cM) (H:fc P K ops l cM Q):fc P K ops (o::l) st Q:=by
 intro a w p R;unfold wpList;exact h _ _ a w p R λa' w' p' R'=>H a' w' p' R'
theorem LQ.wpOp {i:Nat} {o:Oper} {next:Act→World→Prop} {Q:Exit→Act→World→Prop} (hi:ops[i]? =some o) (h:LQ P K ops o st cM) (R:Rel K st a w p) (H:∀a' w' p',Rel K cM a' w' p'→next a' w'):wpOp P ops Q i next a w:=by
 unfold Go.wpOp;simp only[hi];exact h _ _ a w p R H
theorem Vp {o:Oper} {x:AV} (hg:pW ops st o=some true) (h:gI P st o=some x) (hd:∀d,o.dst=some d→d < st.nt):LQ P K ops o st (match o.dst with |some d=>st.put d x |none=>st):=by
 intro next Q a w p R H
 rw[fH R hg,ai rfl];refine .inl ?_;obtain⟨v,h1,h2⟩:=rI R h;unfold Oper.wp;rw[h1];refine H _ _ p (R.BX h2 ?_);cases hq:o.dst with
 |none=>rfl
 |some d=>simp[hd d hq]
theorem EF {o:Oper} (hg:pW ops st o=some false) (hd:∀d,o.dst=some d→d < st.nt):LQ P K ops o st (match o.dst with |some d=>st.put d (.ia []) |none=>st):=by
 intro next Q a w p R H
 rw[fH R hg,ah (by simp)];cases hq:o.dst with
 |none=>rw[hq] at H;exact H _ _ p (by simpa[Act.put] using R)
 |some d=>rw[hq] at H;exact H _ _ p (R.put (RA.ia (l:=[]) (cs:=#[]) rfl (λi a v ha=>by simp at ha)) (hd d hq))
theorem rQ {o:Oper} (hg:pW ops st o=some true) (h:step P st o=some cM):LQ P K ops o st cM:=by
 intro next Q a w p R H
 rw[fH R hg,ai rfl];refine .inl ?_;obtain⟨w',p',h1⟩:=tF R h;unfold Oper.wp;rcases h1 with ⟨v,h1,R'⟩ |⟨h1,R'⟩
 ·rw[h1];exact H _ _ p' R'
 ·rw[h1];exact H _ _ p' R'
structure HN (st cM:St):Prop where
 nt:cM.nt=st.nt
 env:∀t,get cM.env t=get st.env t
 box:∀n,get cM.box n=get st.box n
 vec:∀n,get cM.vec n=get st.vec n
theorem HN.refl (st:St):HN st st:=⟨rfl,λ_=>rfl,λ_=>rfl,λ_=>rfl⟩
theorem Rel.eqv (R:Rel K st a w p) (E:HN st cM):Rel K cM a w p where
 lb:=by rw[R.lb];funext n;simp[St.lb,E.box]
 lv:=by rw[R.lv];funext n;simp[St.lv,E.vec]
 pj:=R.pj
 nt:=by rw[R.nt,E.nt]
 pK:=by rw[E.nt];exact R.pK
 oB:=R.oB
 size:=R.size
 os:=R.os
 tape:=R.tape
 dr:=R.dr
 output:=R.output
 old:=R.old
 env:=λt x h=>R.env t x (by rw[← E.env,h])
 box:=λn cs h=>R.box n cs (by rw[← E.box,h])
 vec:=λn s h=>R.vec n s (by rw[← E.vec,h])
 oF:=R.oF
 my:=R.my
 mX:=R.mX
theorem QT {lb lv:Nat→Bool} {n:Nat} (hn:lv n=false) (rows:D) (x:AV):x.wf lb lv=true→x.sY n rows=x:=by
 refine AV.rec (motive_1:=λx=>x.wf lb lv=true→x.sY n rows=x) (motive_2:=λl=>AV.we lb lv l=true→AV.Gu n rows l=l) ?_ ?_ ?_ ?_ ?_ ?_ ?_ ?_ ?_ ?_ ?_ ?_ ?_ ?_ ?_ ?_ x
 all_goals intros
 all_goals simp_all [AV.wf,AV.we,AV.sY,AV.Gu]
 all_goals intro e;subst e;simp_all
theorem Lr {t:TypeId} {n d:Nat} {parts:List (Nat×AV)} {s:VS} (h:mA P st d t n parts=some (St.put { st with vec:=(d,s)::st.vec } d (.vec d))):s.rC=false:=by
 unfold mA at h;split at h
 case h_2=>cases h
 rename_i e hu;cases hz:fZ P e with
 |none=>simp[hz] at h
 |some zs=>
  simp only[hz,aa] at h;split at h
  case isFalse=>cases h
  rename_i hb;cases hf:tZ (λi=>some (i * zs.length,zs.length)) (List.replicate (n * zs.length) .undef) parts with
  |none=>rw[hf] at h;simp at h
  |some r=>
   rw[hf] at h;simp only[aa] at h;cases IM:uW r with
   |none=>simp[IM] at h
   |some ds=>
    simp only[IM,aa] at h;cases zx:get st.vec d with
    |some _=>simp[zx] at h
    |none=>
     simp only[zx,ba,St.put,St.mk.injEq,iy,jx,oH,kB] at h;rw[← h];exact pz hb.2.2.2
theorem Lq (R:Rel K st a w p) {o:Oper} {t:TypeId} {n d:Nat} {parts:Array (Nat×Operand)} (ho:o.op=.buildSlice t n parts) (hd:o.dst=some d) {s:VS}
  (h:mA P st d t n (parts.toList.map λ(i,x)=>(i,ca st x))=some (St.put { st with vec:=(d,s)::st.vec } d (.vec d))) (hv:get st.vec d=none):
  ∃w' p',∃v,(execOp a.eval o).run P w=.ok (.value v) w'∧Rel K (st.put d (.d (.slice s.rows))) (a.put o.dst v) w' p':=by
 obtain⟨w',p',h1⟩:=Bq R ho hd h;have key:∀{b:Act},Rel K (St.put { st with vec:=(d,s)::st.vec } d (.vec d)) b w' p'→∃p2,Rel K (st.put d (.d (.slice s.rows))) b w' p2:=λ{b} R1=>by
  obtain⟨p2,R2,_⟩:=R1.sY d;refine⟨p2,R2.eqv ?_⟩;have hl:st.lv d=false:=by simp[St.lv,hv]
  have uq:get (St.put { st with vec:=(d,s)::st.vec } d (.vec d)).vec d=some s:=by simp[St.put,get]
  have hM:=Lr h;have Te:s.QB=.slice s.rows:=by unfold VS.QB;rw[hM,ah (by decide)]
  unfold St.sY;rw[uq];simp only[Te];refine⟨rfl,λt=>?_,λm=>?_,λm=>?_⟩
  ·simp only[St.put,jS,get]
   by_cases e:d=t
   ·simp[e,AV.sY]
   ·simp only[ah e]
    cases hx:get st.env t with
    |none=>rfl
    |some x=>simp only[cr];rw[QT hl _ x ((R.env t x hx).names (λn hn=>(R.vg n).1 hn) (λn hn=>(R.sT n).1 hn))]
  ·simp only[St.put,jS]
   cases hx:get st.box m with
   |none=>rfl
   |some cs=>
    simp only[cr]
    congr 1
    obtain⟨⟨vs,ty,g1,g2,g3,_⟩,_⟩:=R.box m cs hx;refine(eH λi=>?_).symm;rw[aA];cases hc:cs[i]? with
    |none=>rfl
    |some c=>
     have hi:i < vs.size:=by have:=(aj.1 hc).1;omega
     simp only[cr];rw[QT hl _ c ((g3 i c _ hc (bp hi)).names (λn hn=>(R.vg n).1 hn) (λn hn=>(R.sT n).1 hn))]
  ·simp only[St.put,iG,get]
   by_cases e:d=m
   ·subst e;simp[hv]
   ·simp[e]
 rcases h1 with ⟨v,h1,R1⟩ |⟨h1,R1⟩
 ·obtain⟨p2,R2⟩:=key R1
  exact⟨w',p2,v,h1,R2⟩
 ·exfalso
  simp only[execOp,ho] at h1;simp only[bk] at h1;generalize (Instr.buildSlice t n (parts.map λ(i,x)=>(i,a.eval x))).run P w=q at h1;cases q <;> simp[Result.andThen] at h1
theorem RS {o:Oper} {t:TypeId} {n d:Nat} {parts:Array (Nat×Operand)} {s:VS} (hg:pW ops st o=some true) (ho:o.op=.buildSlice t n parts) (hd:o.dst=some d)
  (h:mA P st d t n (parts.toList.map λ(i,x)=>(i,ca st x))=some (St.put { st with vec:=(d,s)::st.vec } d (.vec d))) (hv:get st.vec d=none):LQ P K ops o st (st.put d (.d (.slice s.rows))):=by
 intro next Q a w p R H
 rw[fH R hg,ai rfl];refine .inl ?_;obtain⟨w',p',v,h1,R'⟩:=Lq R ho hd h hv;unfold Oper.wp;rw[h1];exact H _ _ p' R'
theorem Bt (υ σ0:List Nat):∀(σ:List Nat) (bx:List (List AV)) (l:List (Nat×List AV)),iw υ σ0 σ bx l=iw υ σ0 σ bx []++l
 |[],[],l=>rfl
 |[],_::_,l=>rfl
 |_::_,[],l=>rfl
 |n::σ,c::bx,l=>by simp only[iw,cv,Bt υ σ0 σ bx l]
theorem Pg {f:FuncId} {bx:List (List AV)} {vx:List VS} {fb:List AV} {res:AV} {bx':List (List AV)} {vx':List VS} {o:Oper} {c:Call} {y:Operand} {d:Nat} (σ τ υ:List Nat) (C:nV P f bx vx fb res bx' vx') (ho:o.op=.call c) (hc:c.callee=.value y) (hd:o.dst=some d)
  (jz:∀(args:Array Value) (w:World),(callFunc f args).run P w=.ok (.enter f args) w) (hH:FR st ops o c y f σ τ υ bx vx fb bx' vx' d):
  LQ P K ops o st ((lX st σ τ υ bx' vx').put d (res.back υ σ)):=by
 intro next Q a w p R H
 rw[fH R hH.gd,ai rfl];refine .inl ?_;unfold Oper.wp;obtain⟨caps,hf,eZ⟩:=hH.fn;obtain⟨cs,hy,hl,hh⟩:=yW R hf;rw[tw ho hc hy jz];show Calls P f (c.args.map a.eval++cs) w _;refine(HH C R hH ⟨caps,hl,hh,eZ⟩).mono λe w' ⟨v,p',he,R',hv⟩=>?_
 subst he;show next (a.put o.dst v) w'
 rw[hd];exact H _ _ _ (R'.put hv hH.dn)
theorem RT {f:FuncId} {bx:List (List AV)} {fb:List AV} {res:AV} {bx':List (List AV)} {o:Oper} {c:Call} {y:Operand} {d:Nat} (σ:List Nat) (C:dY P f bx fb res bx') (hg:pW ops st o=some true) (ho:o.op=.call c) (hc:c.callee=.value y) (hd:o.dst=some d)
  (jz:∀(args:Array Value) (w:World),(callFunc f args).run P w=.ok (.enter f args) w) (nW:d < st.nt) (hσ:σ.Nodup) (eZ:∃caps,ca st y=.fn f caps∧(c.args.toList.map (ca st)++caps).map (AV.view [] [] σ)=fb) (sX:lI st [] σ σ bx) (hl:bx.length=bx'.length):
  LQ P K ops o st ({ st with box:=iw [] σ σ bx' st.box }.put d (res.back [] σ)):=
 Pg σ [] [] C ho hc hd jz ⟨hg,nW,hσ,dL,dL,eZ,sX,trivial,hl,rfl,λn hn=>by simp at hn⟩
structure HO (ops:Array Oper) (o:Oper) (S st:St):Prop where
 nt:st.nt=S.nt
 vec:∀n s,get S.vec n=some s→get st.vec n=some s
 look:∀t∈o.looksAt ops,st.look t=S.look t
 box:∀n cs,get S.box n=some cs→get st.box n=some cs
variable {o:Oper} {S:St}
theorem HO.ca (A:HO ops o S st) {x:Operand} (hx:x∈o.op.operands.toList):ca st x=ca S x:=by
 cases x with
 |tmp t=>
  refine A.look t ?_;unfold Oper.looksAt;exact aQ.2 (.inl (lz.2 ⟨_,hx,rfl⟩))
 |_=>rfl
theorem HO.gd (A:HO ops o S st):pW ops st o=pW ops S o:=by
 unfold pW;cases hg:o.guard with
 |none=>rfl
 |some g=>
  obtain⟨j,want⟩:=g;simp only;cases ht:(ops[j]?).bind (·.dst) with
  |none=>rfl
  |some t=>
   have:st.look t=S.look t:=A.look t (by unfold Oper.looksAt;exact aQ.2 (.inr (by simp[hg,ht])));simp only[this]
theorem HO.rows (A:HO ops o S st) {x:AV} {r:List (List D)} (h:rowsOf S x=some r):rowsOf st x=some r:=by
 cases x with
 |vec n=>
  simp only[rowsOf] at h ⊢;cases hb:get S.vec n with
  |none=>simp[hb] at h
  |some s=>rw[A.vec n s hb];rwa [hb] at h
 |cut n z lo k=>
  simp only[rowsOf] at h ⊢;cases hb:get S.vec n with
  |none=>simp[hb] at h
  |some s=>rw[A.vec n s hb];rwa [hb] at h
 |d y=>cases y <;> exact h
 |_=>exact h
theorem HO.len (A:HO ops o S st) {P:Program} {t:TypeId} {x:AV} {n:Int} (h:Gj P S t x=some n):Gj P st t x=some n:=by
 unfold Gj at h ⊢;split at h
 ·split at h
  ·exact h
  ·exact h
  ·rename_i hnc
   cases hr:rowsOf S x with
   |none=>rw[hr] at h;cases h
   |some r=>
    rw[hr] at h;rw[A.rows hr];exact h
 ·exact h
 ·exact h
 ·exact h
 ·cases h
theorem HO.DC (A:HO ops o S st) {P:Program} {e:TypeId} {n DK k0:Nat} {lo hi mx:Option Int} {y:AV} (h:Vl.DC P S e n DK k0 lo hi mx=some y):Vl.DC P st e n DK k0 lo hi mx=some y:=by
 unfold Vl.DC at h ⊢;cases hb:get S.vec n with
 |none=>rw[hb] at h;cases h
 |some s=>rw[hb] at h;rw[A.vec n s hb];exact h
theorem HO.cut (A:HO ops o S st) {P:Program} (t:TypeId) (x:AV) (lo hi mx:Option Int) {y:AV} (h:M5 P S t x lo hi mx=some y):M5 P st t x lo hi mx=some y:=by
 unfold M5 at h ⊢;split at h
 ·split at h
  ·rename_i n
   cases hb:get S.vec n with
   |none=>rw[hb] at h;cases h
   |some s=>rw[hb] at h;simp only[A.vec n s hb];exact A.DC h
  ·rename_i n z DK k0
   cases hb:get S.vec n with
   |none=>rw[hb] at h;cases h
   |some s=>
    rw[hb] at h;simp only[A.vec n s hb];simp only[aa] at h ⊢;split at h
    ·rename_i hz;rw[ai hz];exact A.DC h
    ·cases h
  ·rename_i h1 h2
   cases hr:rowsOf S x with
   |none=>rw[hr] at h;cases h
   |some r=>
    have LH:=A.rows hr;rw[hr] at h;cases x with
    |vec n=>exact absurd rfl (h1 n)
    |cut n z a b=>exact absurd rfl (h2 n z a b)
    |_=>simp only;rw[LH];exact h
 ·exact h
 ·cases h
theorem HO.ixp (A:HO ops o S st) {P:Program} {t:TypeId} {y x:AV} {i:Int} (h:uL P t y i S=some x):uL P t y i st=some x:=by
 unfold uL at h ⊢;split at h
 ·split at h
  case isFalse=>cases h
  rename_i h0;rw[ai h0];split at h
  ·exact h
  ·exact h
  ·rename_i n
   cases hb:get S.vec n with
   |none=>rw[hb] at h;cases h
   |some s=>rw[hb] at h;rw[A.vec n s hb];exact h
  ·exact h
  ·cases h
 ·exact h
 ·cases h
theorem HO.load (A:HO ops o S st) {t:TypeId} {x y:AV} (h:sH P S t x=some y):sH P st t x=some y:=by
 cases x with
 |ptr n k=>
  simp only[sH] at h ⊢;cases hb:get S.box n with
  |none=>simp[hb] at h
  |some cs=>rw[A.box n cs hb];rwa [hb] at h
 |iR n z i k=>
  simp only[sH] at h ⊢;cases hb:get S.vec n with
  |none=>simp[hb] at h
  |some s=>rw[A.vec n s hb];rwa [hb] at h
 |_=>simpa only[sH] using h
theorem HO.gI (A:HO ops o S st) {x:AV} (h:gI P S o=some x):Vl.gI P st o=some x:=by
 have AO:∀y∈o.op.operands.toList,Vl.ca st y=Vl.ca S y:=λy hy=>A.ca hy
 have AL:=λ(t:TypeId) (x y:AV) (h:sH P S t x=some y)=>A.load h
 unfold Vl.gI at h ⊢;cases ho:o.op
 all_goals (try simp only[ho] at h ⊢)
 all_goals (try (simp only[ho,Op.operands] at AO))
 all_goals (try (cases h;done))
 case move y=>rwa [AO y (by simp)]
 case assign y=>rwa [AO y (by simp)]
 case pick c y z=>rwa [AO c (by simp),AO y (by simp),AO z (by simp)]
 case nilCheck y=>rwa [AO y (by simp)]
 case load t y=>rw[AO y (by simp)];exact AL _ _ _ h
 case fieldAddr s y f=>rwa [AO y (by simp)]
 case field s y f=>rwa [AO y (by simp)]
 case indexAddr t y i=>
  rw[AO y (by simp),AO i (by simp)];cases hi:pA (Vl.ca S i) with
  |none=>rw[hi] at h;cases h
  |some n=>rw[hi] at h;exact A.ixp h
 case index t y i=>rwa [AO y (by simp),AO i (by simp)]
 case extract y i=>rwa [AO y (by simp)]
 case binOp op t y z t'=>rwa [AO y (by simp),AO z (by simp)]
 case unOp op t y=>rwa [AO y (by simp)]
 case convert s d y=>rwa [AO y (by simp)]
 case build t parts=>
  have e:(parts.toList.map λx=>(x.1,Vl.ca st x.2))=parts.toList.map λx=>(x.1,Vl.ca S x.2):=fW λq hq=>by
   rw[AO q.2 (aG.2 ⟨q,hq,rfl⟩)]
  rw[e];exact h
 case slice t y lo hi mx=>
  have e1:lo.map (Vl.ca st)=lo.map (Vl.ca S):=by cases lo with |none=>rfl |some q=>simp[AO q (by simp)]
  have e2:hi.map (Vl.ca st)=hi.map (Vl.ca S):=by cases hi with |none=>rfl |some q=>simp[AO q (by simp)]
  have e3:mx.map (Vl.ca st)=mx.map (Vl.ca S):=by cases mx with |none=>rfl |some q=>simp[AO q (by simp)]
  rw[e1,e2,e3,AO y (by simp)];cases h1:zk (lo.map (Vl.ca S)) with
  |none=>rw[h1] at h;cases h
  |some l=>
   cases h2:zk (hi.map (Vl.ca S)) with
   |none=>rw[h1,h2] at h;cases h
   |some u=>
    cases h3:zk (mx.map (Vl.ca S)) with
    |none=>rw[h1,h2,h3] at h;cases h
    |some m=>rw[h1,h2,h3] at h;exact A.cut _ _ _ _ _ h
 case makeFunc fn first caps=>
  have e:caps.toList.map (Vl.ca st)=caps.toList.map (Vl.ca S):=fW λy hy=>AO y (by simp;exact .inr (by simpa using hy))
  rw[e];exact h
 case call c=>
  have e:∀y∈c.args.toList,Vl.ca st y=Vl.ca S y:=λy hy=>AO y (by simp[Call.operands];exact .inr (by simpa using hy))
  have em:c.args.toList.map (Vl.ca st)=c.args.toList.map (Vl.ca S):=fW e;unfold Ls at h ⊢;split at h
  ·rename_i x t h1 h2 h3
   rw[e x (by rw[h2];simp)];cases hn:Gj P S t (Vl.ca S x) with
   |none=>rw[hn] at h;cases h
   |some n=>rw[hn] at h;rw[A.len hn];exact h
  ·rename_i h1;rw[em];exact h
  ·rename_i h1;rw[em];exact h
  ·cases h
end
end Go.Vl
namespace Go.Vl
open Go Go.RowKit
structure mN where
 d:Option Nat
 v:AV
 al:Option (List AV)
 bs:List (Nat×List AV)
 nv:Option VS
 rm:Option Nat
instance:Inhabited mN:=⟨⟨none,.undef,none,[],none,none⟩⟩
def vq (e:mN) (l:List (Nat×AV)):List (Nat×AV):=match e.d with |some d=>(d,e.v)::l |none=>l
def GC (e:mN) (l:List (Nat×List AV)):List (Nat×List AV):=match e.al,e.d with |some cs,some d=>(d,cs)::l |_,_=>l
def Io (e:mN) (l:List (Nat×VS)):List (Nat×VS):=match e.nv,e.d with |some s,some d=>(d,s)::l |_,_=>l
def JM (g:Option Nat) (x:AV):AV:=match g with |some n=>x.gi n |none=>x
def ta (g:Option Nat) (l:List (Nat×VS)):List (Nat×VS):=match g with |some n=>del l n |none=>l
def mN.on (e:mN) (st:St):St:={ nt:=st.nt,env:=vq e (me (JM e.rm) st.env),box:=GC e (e.bs++st.box),vec:=Io e (ta e.rm st.vec)}
def P3:List Nat→List (Nat×List AV)→List (Nat×List AV)
 |[],l=>l
 |n::W,l=>P3 W (del l n)
def FE (As:List (List Nat)) (C:List Nat) (i:Nat):Bool:=C.all λc=>c==i||(As.getD i []).contains c||(As.getD c []).contains i
def FL (As:List (List Nat)) (C:List Nat) (i:Nat):List Nat:=(C.filter λc=>(As.getD i []).contains c).reverse
def Qi (As:List (List Nat)) (V:Option (Nat×Nat)) (i:Nat):Bool:=match V with |some (c,_)=>c==i||(As.getD c []).contains i |none=>true
def iQ (es:List mN) (i:Nat):mN:=es.getD i default
def Jp (es:List mN):List Nat→List (Nat×List AV)→List (Nat×List AV)
 |[],b=>b
 |c::L,b=>(iQ es c).bs++Jp es L b
def wS (es:List mN):List Nat→List (Nat×AV)→List (Nat×AV)
 |[],b=>b
 |j::A,b=>vq (iQ es j) (wS es A b)
def QD (es:List mN):List Nat→List (Nat×List AV)→List (Nat×List AV)
 |[],b=>b
 |j::A,b=>GC (iQ es j) (QD es A b)
def Pk (es:List mN):List Nat→List (Nat×VS)→List (Nat×VS)
 |[],b=>b
 |j::A,b=>Io (iQ es j) (Pk es A b)
def Fc (As:List (List Nat)) (i:Nat):List (Nat×List Nat)→List Nat
 |[]=>[]
 |q::W=>if FE As q.2 i=true then Fc As i W else q.1::Fc As i W
def lR (As:List (List Nat)) (C:List Nat) (W:List (Nat×List Nat)) (V:Option (Nat×Nat)) (st0:St) (es:List mN) (i:Nat):St:=
 {nt:=st0.nt,env:=wS es (As.getD i []) st0.env,box:=QD es (As.getD i []) (P3 (Fc As i W) (Jp es (FL As C i) st0.box)),
  vec:=Pk es (As.getD i []) (ta (if Qi As V i=true then none else V.map (·.2)) st0.vec)}
inductive Loc (P:Program) (ops:Array Oper) (st0 S:St) (o:Oper):mN→Prop
 |val {x:AV} (hg:pW ops S o=some true) (h:gI P S o=some x) (hd:∀d,o.dst=some d→d < st0.nt):Loc P ops st0 S o ⟨o.dst,x,none,[],none,none⟩
 |look {t:TypeId} {x k:Operand} {px:Bool} {v:AV} {e z:Nat} {rows:List (List D)} (hg:pW ops S o=some true) (ho:o.op=.lookup t x k px) (hm:ca S x=.d (.mp e z rows)) (h:rT P S t (ca S x) (ca S k) px=some v) (hd:∀d,o.dst=some d→d < st0.nt):Loc P ops st0 S o ⟨o.dst,v,none,[],none,none⟩
 |skip (hg:pW ops S o=some false) (hd:∀d,o.dst=some d→d < st0.nt):Loc P ops st0 S o ⟨o.dst,.ia [],none,[],none,none⟩
 |alloc {t:TypeId} {cs:List AV} {d:Nat} (hg:pW ops S o=some true) (ho:o.op=.alloc t) (hz:fZ P t=some cs) (hd:o.dst=some d) (hn:get st0.box d=none) (nW:d < st0.nt):Loc P ops st0 S o ⟨some d,.ptr d 0,some cs,[],none,none⟩
 |box {t:TypeId} {x:Operand} {cs:List AV} {d:Nat} (hg:pW ops S o=some true) (ho:o.op=.box t x) (hz:gq (ca S x)=some cs) (hd:o.dst=some d) (hn:get st0.box d=none) (nW:d < st0.nt):Loc P ops st0 S o ⟨some d,.ptr d 0,some cs,[],none,none⟩
 |data {t:TypeId} {n d:Nat} {parts:Array (Nat×Operand)} {s:VS} (hg:pW ops S o=some true) (ho:o.op=.buildSlice t n parts) (hd:o.dst=some d) (hv:get st0.vec d=none)
   (h:mA P S d t n (parts.toList.map λx=>(x.1,ca S x.2))=some (St.put { S with vec:=(d,s)::S.vec } d (.vec d))):Loc P ops st0 S o ⟨some d,.d (.slice s.rows),none,[],none,none⟩
 |app {t t':TypeId} {x y:Operand} {d:Nat} {s:VS} {c:Call} (hg:pW ops S o=some true) (ho:o.op=.call c) (hc:c.callee=.builtin .append) (ha:c.args.toList=[x,y]) (ht:c.argTypes.toList=[t,t']) (hd:o.dst=some d) (hx:ca S x=.dK) (hv:get st0.vec d=none)
   (h:zl P S d t t' (ca S x) (ca S y)=some (St.put { S with vec:=(d,s)::S.vec } d (.vec d))):Loc P ops st0 S o ⟨some d,.vec d,none,[],some s,none⟩
 |call {f:FuncId} {bx:List (List AV)} {fb:List AV} {res:AV} {bx':List (List AV)} {c:Call} {y:Operand} {d:Nat} (σ:List Nat) (F:dY P f bx fb res bx') (hg:pW ops S o=some true) (ho:o.op=.call c) (hc:c.callee=.value y) (hd:o.dst=some d)
   (jz:∀(args:Array Value) (w:World),(callFunc f args).run P w=.ok (.enter f args) w) (nW:d < st0.nt) (hσ:σ.Nodup) (eZ:∃caps,ca S y=.fn f caps∧(c.args.toList.map (ca S)++caps).map (AV.view [] [] σ)=fb) (sX:lI S [] σ σ bx) (hl:bx.length=bx'.length):
   Loc P ops st0 S o ⟨some d,res.back [] σ,none,iw [] σ σ bx' [],none,none⟩
 |store {t:TypeId} {x y:Operand} {l cs:List AV} {m k:Nat} (hg:pW ops S o=some true) (ho:o.op=.store t x y) (hd:o.dst=none) (hx:ca S x=.ptr m k) (hl:gq (ca S y)=some l) (hz:fh P t=some l.length) (hb:get S.box m=some cs)
   (hle:k+l.length≤cs.length):Loc P ops st0 S o ⟨none,.undef,none,[(m,JL cs l k)],none,none⟩
 |T1 {t:TypeId} {cs:List AV} {d:Nat} (hg:pW ops S o=some true) (ho:o.op=.alloc t) (hz:fZ P t=some cs) (hd:o.dst=some d) (hn:get S.box d=none) (nW:d < st0.nt):Loc P ops st0 S o ⟨some d,.ptr d 0,none,[(d,cs)],none,none⟩
 |adl {t:TypeId} {x:Operand} {cs:List AV} {d:Nat} (hg:pW ops S o=some true) (ho:o.op=.box t x) (hz:gq (ca S x)=some cs) (hd:o.dst=some d) (hn:get S.box d=none) (nW:d < st0.nt):Loc P ops st0 S o ⟨some d,.ptr d 0,none,[(d,cs)],none,none⟩
 |adp {t t':TypeId} {x y:Operand} {d m:Nat} {s s':VS} {bs:List (Nat×List AV)} {c:Call} (hg:pW ops S o=some true) (ho:o.op=.call c) (hc:c.callee=.builtin .append) (ha:c.args.toList=[x,y]) (ht:c.argTypes.toList=[t,t']) (hd:o.dst=some d) (hx:ca S x=.vec m)
   (hs:get S.vec m=some s) (hv:get st0.vec d=none)
   (h:zl P S d t t' (ca S x) (ca S y)=some (St.put { nt:=S.nt,env:=me (AV.gi m) S.env,box:=me (List.map (AV.gi m)) S.box,vec:=(d,s')::del S.vec m } d (.vec d))):Loc P ops st0 S o ⟨some d,.vec d,none,bs,some s',some m⟩
section
variable {P:Program} {K:Ctx P} {ops:Array Oper} {st0 st S:St} {o:Oper} {e:mN}
theorem Bu {τ σ0:List Nat} (hb:∀n cs,get S.box n=some cs→get st.box n=some cs):∀{σ:List Nat} {bx:List (List AV)},lI S τ σ0 σ bx→lI st τ σ0 σ bx
 |[],[],_=>trivial
 |n::σ,cs::bx,⟨⟨rF,h1,h2⟩,h3⟩=>⟨⟨rF,hb n rF h1,h2⟩,Bu hb h3⟩
 |[],_::_,h=>h.elim
 |_::_,[],h=>h.elim
theorem KT {α:Type}:∀(l m:List (Nat×α)) (t:Nat),get (l++m) t=match get l t with |some x=>some x |none=>get m t
 |[],_,_=>rfl
 |(k,v)::l,m,t=>by
  simp only[cv,get];split
  ·rfl
  ·exact KT l m t
theorem LQ.eqv {st1 st2:St} (h:LQ P K ops o st st1) (E:HN st1 st2):LQ P K ops o st st2:=λnext Q a w p R H=>h next Q a w p R λa' w' p' R'=>H a' w' p' (R'.eqv E)
theorem D7 {n:Nat} {x:AV} (h:x.wf (λ_=>true) (λm=>m != n)=true):x.gi n=x:=by unfold AV.gi;rw[ai h]
theorem GQ {n:Nat} {cs:List AV} (h:AV.we (λ_=>true) (λm=>m != n) cs=true):cs.map (AV.gi n)=cs:=by
 refine eH λi=>?_
 rw[aA];cases hc:cs[i]? with
 |none=>rfl
 |some c=>simp[D7 (AV.pY h hc)]
theorem iz:∀l:List (Nat×AV),me (JM none) l=l
 |[]=>rfl
 |(k,x)::l=>by simp only[me,iz l];rfl
theorem Sg {S':St} {t:TypeId} {e z:Nat} {rows:List (List D)} {k:AV} {px:Bool}:rT P S t (.d (.mp e z rows)) k px=rT P S' t (.d (.mp e z rows)) k px:=by
 unfold rT;cases P.underlying t with
 |none=>rfl
 |some u=>cases u <;> rfl
theorem Loc.run (h:Loc P ops st0 S o e) (A:HO ops o S st) (zX:st.nt=st0.nt) (Gp:∀d,o.dst=some d→get st0.vec d=none→get st.vec d=none∧get S.vec d=none) (Jn:∀d cs,e.al=some cs→e.d=some d→get st.box d=none)
  (agx:∀n,e.rm=some n→∀m cs,get st.box m=some cs→get e.bs m=some (cs.map (AV.gi n))∨(get e.bs m=none∧cs.map (AV.gi n)=cs)) (agz:∀n,e.rm=some n→∀m,get st.box m=none→get e.bs m=none) (sW:∀d cs,(d,cs)∈e.bs→get S.box d=none→get st.box d=none):LQ P K ops o st (e.on st):=by
 cases h with
 |val hg h hd=>
  have:=Vp (K:=K) (by rw[A.gd];exact hg) (A.gI h) (λd h1=>by rw[zX];exact hd d h1);cases hq:o.dst with
  |none=>simpa[mN.on,iz,ta,vq,GC,Io,hq] using this
  |some d=>simpa[mN.on,iz,ta,vq,GC,Io,hq,St.put] using this
 |look hg ho hm h hd=>
  rename_i t x k px v e z rows;refine rQ (by rw[A.gd];exact hg) ?_;have hx:=A.ca (x:=x) (by simp[ho,Op.operands]);have hk:=A.ca (x:=k) (by simp[ho,Op.operands]);have hl:rT P st t (ca st x) (ca st k) px=some v:=by
   rw[hx,hk,hm];rw[hm] at h;exact Sg.trans h
  cases hq:o.dst with
  |none=>simp[step,ho,hl,Es,hq,mN.on,iz,ta,vq,GC,Io]
  |some d=>simp[step,ho,hl,Es,hq,zX,hd d hq,mN.on,iz,ta,vq,GC,Io,St.put]
 |skip hg hd=>
  have:=EF (P:=P) (K:=K) (st:=st) (by rw[A.gd];exact hg) (λd h1=>by rw[zX];exact hd d h1);cases hq:o.dst with
  |none=>simpa[mN.on,iz,ta,vq,GC,Io,hq] using this
  |some d=>simpa[mN.on,iz,ta,vq,GC,Io,hq,St.put] using this
 |alloc hg ho hz hd hn nW=>
  rename_i t cs d;refine rQ (by rw[A.gd];exact hg) ?_;simp[step,ho,hd,hz,ue,Jn d cs rfl rfl,zX,nW,mN.on,iz,ta,vq,GC,Io,St.put]
 |box hg ho hz hd hn nW=>
  rename_i t x cs d;refine rQ (by rw[A.gd];exact hg) ?_;rw[← A.ca (x:=x) (by simp[ho,Op.operands])] at hz;simp[step,ho,hd,hz,ue,Jn d cs rfl rfl,zX,nW,mN.on,iz,ta,vq,GC,Io,St.put]
 |data hg ho hd hv h=>
  rename_i t n d parts s;have e1:(parts.toList.map λx=>(x.1,ca st x.2))=parts.toList.map λx=>(x.1,ca S x.2):=fW λq hq=>by
   rw[A.ca (x:=q.2) (by simp only[ho,Op.operands];exact aG.2 ⟨q,hq,rfl⟩)]
  have zw:get st.vec d=none:=(Gp d hd hv).1;have hvS:get S.vec d=none:=(Gp d hd hv).2;have h2:mA P st d t n (parts.toList.map λx=>(x.1,ca st x.2))=some (St.put { st with vec:=(d,s)::st.vec } d (.vec d)):=by
   rw[e1];unfold mA at h ⊢;split at h
   case h_2=>cases h
   rename_i e0 he;cases hz:fZ P e0 with
   |none=>simp[hz] at h
   |some zs=>
    simp only[hz,aa] at h ⊢;split at h
    case isFalse=>cases h
    rename_i hc;rw[ai ⟨hc.1,hc.2.1,by rw[A.nt];exact hc.2.2⟩];cases hr:tZ (λi=>some (i * zs.length,zs.length)) (List.replicate (n * zs.length) .undef) (parts.toList.map λx=>(x.1,ca S x.2)) with
    |none=>simp[hr] at h
    |some r=>
     simp only[hr,aa] at h ⊢;cases Ff:uW r with
     |none=>simp[Ff] at h
     |some ds=>
      simp only[Ff,aa,zw] at h ⊢;simp only[hvS,ba,St.put,St.mk.injEq,iy,jx,oH,kB] at h ⊢;exact h
  simpa[mN.on,iz,ta,vq,GC,Io,St.put] using RS (K:=K) (by rw[A.gd];exact hg) ho hd h2 zw
 |app hg ho hc ha ht hd hx hv h=>
  rename_i t t' x y d s c;obtain⟨zw,hvS⟩:=Gp d hd hv;have ex:ca st x=ca S x:=A.ca (by simp[ho,Op.operands,Call.operands];exact .inr (by rw[← vw,ha];simp));have ey:ca st y=ca S y:=A.ca (by simp[ho,Op.operands,Call.operands];exact .inr (by rw[← vw,ha];simp));refine rQ (by rw[A.gd];exact hg) ?_;simp only[step,ho,hc,ha,ht,hd,aa,ex,ey,hx] at h ⊢;unfold zl at h ⊢;rw[A.nt];split at h
  case isFalse=>cases h
  rename_i h0;rw[ai h0];split at h
  case h_2=>cases h
  rename_i e he;cases hz:fZ P e with
  |none=>simp[hz] at h
  |some zs=>
   simp only[hz,aa] at h ⊢;cases hr:rowsOf S (ca S y) with
   |none=>simp[hr] at h
   |some ys=>
    rw[A.rows hr];simp only[hr,aa] at h ⊢;split at h
    case isFalse=>cases h
    rename_i h1;rw[ai h1];split at h
    case isFalse=>cases h
    rename_i h2;rw[ai h2];simp only[hvS,zw] at h ⊢;simp only[ba,St.put,St.mk.injEq,iy,jx,oH,kB] at h;simp[mN.on,iz,ta,vq,GC,Io,St.put,h,A.nt]
 |call σ F hg ho hc hd jz nW hσ eZ sX hl=>
  rename_i f bx fb res bx' c y d;have e2:ca st y=ca S y:=A.ca (by simp only[ho,Op.operands,Call.operands,hc,kD,aQ];exact .inl (by simp));have e1:c.args.toList.map (ca st)=c.args.toList.map (ca S):=fW λq hq=>A.ca (by simp only[ho,Op.operands,Call.operands,kD,aQ];exact .inr hq)
  have:=RT (K:=K) (st:=st) σ F (by rw[A.gd];exact hg) ho hc hd jz (by rw[zX];exact nW) hσ (by rw[e1,e2];exact eZ) (Bu A.box sX) hl;rw[Bt] at this;simpa[mN.on,iz,ta,vq,GC,Io,St.put] using this
 |store hg ho hd hx hl hz hb hle=>
  rename_i t x y l cs m k;have ex:ca st x=.ptr m k:=by rw[A.ca (by simp[ho,Op.operands])];exact hx
  have ey:gq (ca st y)=some l:=by rw[A.ca (by simp[ho,Op.operands])];exact hl
  refine rQ (by rw[A.gd];exact hg) ?_;simp[step,ho,hd,D0,ey,hz,ex,A.box m cs hb,hle,mN.on,iz,ta,vq,GC,Io]
 |T1 hg ho hz hd hn nW=>
  rename_i t cs d;refine rQ (by rw[A.gd];exact hg) ?_;simp[step,ho,hd,hz,ue,sW d cs (by simp) hn,zX,nW,mN.on,iz,ta,vq,GC,Io,St.put]
 |adl hg ho hz hd hn nW=>
  rename_i t x cs d;refine rQ (by rw[A.gd];exact hg) ?_;rw[← A.ca (x:=x) (by simp[ho,Op.operands])] at hz;simp[step,ho,hd,hz,ue,sW d cs (by simp) hn,zX,nW,mN.on,iz,ta,vq,GC,Io,St.put]
 |adp hg ho hc ha ht hd hx hs hv h=>
  rename_i t t' x y d m s s' bs c;obtain⟨zw,hvS⟩:=Gp d hd hv;have ex:ca st x=ca S x:=A.ca (by simp[ho,Op.operands,Call.operands];exact .inr (by rw[← vw,ha];simp));have ey:ca st y=ca S y:=A.ca (by simp[ho,Op.operands,Call.operands];exact .inr (by rw[← vw,ha];simp));have sV:get st.vec m=some s:=A.vec m s hs;have key:step P st o=some (St.put { nt:=st.nt,env:=me (AV.gi m) st.env,box:=me (List.map (AV.gi m)) st.box,vec:=(d,s')::del st.vec m } d (.vec d)):=by
   simp only[step,ho,hc,ha,ht,hd,aa,ex,ey,hx] at h ⊢;unfold zl at h ⊢;rw[A.nt];split at h
   case isFalse=>cases h
   rename_i h0;rw[ai h0];split at h
   case h_2=>cases h
   rename_i e he;cases hz:fZ P e with
   |none=>simp[hz] at h
   |some zs=>
    simp only[hz,aa] at h ⊢;cases hr:rowsOf S (ca S y) with
    |none=>simp[hr] at h
    |some ys=>
     rw[A.rows hr];simp only[hr,aa] at h ⊢;split at h
     case isFalse=>cases h
     rename_i h1;rw[ai h1];simp only[hs,sV,aa] at h ⊢;split at h
     case isFalse=>cases h
     rename_i h2;rw[ai ⟨h2.1,h2.2.1,h2.2.2.1,.inr (by simp[zw])⟩];simp only[ba,St.put,St.mk.injEq,iy,jx,oH,kB] at h ⊢;exact h
  have hm:∀(l:List (Nat×AV)),me (JM (some m)) l=me (AV.gi m) l:=λl=>rfl
  refine(rQ (by rw[A.gd];exact hg) key).eqv ⟨rfl,λt=>rfl,λb=>?_,λb=>rfl⟩;simp only[mN.on,GC,St.put,jS];rw[KT];cases hb:get st.box b with
  |none=>rw[agz m rfl b hb];rfl
  |some cs=>
   rcases agx m rfl b cs hb with h1 |⟨h1,h2⟩
   ·rw[h1];rfl
   ·rw[h1];simp[h2]
def wT (o:Oper):List Nat:=(o.after.toList.filter λe=>Region.binds .any e).map (·.on)
def Wy (ops:Array Oper) (As:List (List Nat)):Bool:=
 (List.range ops.size).all λi=>match ops[i]? with
  |none=>false
  |some o=>(wT o).all (λj=>decide (j < i))&&(As.getD i []).all λj=>(wT o).any λk=>k==j||(As.getD k []).contains j
def Nz (ops:Array Oper) (As:List (List Nat)) (n:Nat):Bool:=
 decide (n≤ops.size)&&((List.range ops.size).all λk=>decide (k < n)||(List.range n).all λj=>(As.getD k []).contains j)&&Region.seqB .any ops (ops.size - n) n (Array.replicate n true++Array.replicate (ops.size - n) false)
def PZ (ops:Array Oper) (n:Nat):Bool:=
 (List.range n).all λi=>(List.range n).all λj=>i==j||match ops[i]?.bind (·.dst),ops[j]?.bind (·.dst) with |some d,some d'=>d != d' |_,_=>true
def Yf (ops:Array Oper) (As:List (List Nat)) (n:Nat):Bool:=
 (List.range n).all λi=>match ops[i]? with
  |none=>true
  |some o=>(List.range n).all λj=>match ops[j]?.bind (·.dst) with
   |none=>true
   |some d=>!((o.looksAt ops).contains d)||(As.getD i []).contains j||i==j||(As.getD j []).contains i
def chainB (As:List (List Nat)) (C:List Nat) (n:Nat):Bool:=
 C.all (λc=>decide (c < n))&&(match C with |[]=>true |_=>true)&&go C
where
 go:List Nat→Bool
  |[]=>true
  |c::C=>C.all (λc'=>(As.getD c' []).contains c)&& !C.contains c&&go C
def Oj (ops:Array Oper) (As:List (List Nat)) (W:List (Nat×List Nat)) (V:Option (Nat×Nat)) (T:List Nat) (n:Nat):Bool:=
 match V with
 |none=>true
 |some (c,_)=>(W.all λq=>q.2.contains c)&&decide (c < n)&&(List.range n).all λi=>Qi As V i||match ops[i]? with
  |none=>true
  |some o=>(o.looksAt ops).all λt=>!T.contains t
def QJ (W:List (Nat×List Nat)) (m c:Nat):Bool:=W.any λq=>q.1==m&&q.2.contains c
def K6 (ops:Array Oper) (As:List (List Nat)) (C:List Nat) (W:List (Nat×List Nat)) (V:Option (Nat×Nat)) (T:List Nat) (n:Nat):Bool:=Wy ops As&&Nz ops As n&&PZ ops n&&Yf ops As n&&C.all (λc=>decide (c < n))&&Oj ops As W V T n&&(W.all λq=>q.2.all λc=>C.contains c)&&W.all λq=>chainB.go As (C.filter (QJ W q.1))
def Qu (V:Option (Nat×Nat)) (T:List Nat) (W:List (Nat×List Nat)) (st:St):Bool:=
 match V with
 |none=>true
 |some (_,m)=>(st.env.all λx=>T.contains x.1||x.2.wf (λ_=>true) (λk=>k != m))&&(st.box.all λx=>(W.any λq=>q.1==x.1)||AV.we (λ_=>true) (λk=>k != m) x.2)&&(get st.vec m).isSome
inductive Ex (n:Nat) (As:List (List Nat)):List Nat→Prop
 |nil:Ex n As []
 |cons {L:List Nat} {i:Nat} (h:Ex n As L) (hi:i < n) (hn:i∉L) (ha:∀j∈As.getD i [],j∈L):Ex n As (i::L)
def vX (es:List mN) (b:List (Nat×List AV)):List Nat→List (Nat×List AV)
 |[]=>b
 |i::L=>GC (iQ es i) ((iQ es i).bs++vX es b L)
def gone (V:Option (Nat×Nat)) (L:List Nat):Option Nat:=match V with |some (c,m)=>if c∈L then some m else none |none=>none
def Bl (V:Option (Nat×Nat)) (es:List mN) (st0:St) (L:List Nat):St:=
 {nt:=st0.nt,env:=me (JM (gone V L)) (wS es L st0.env),box:=vX es st0.box L,vec:=Pk es L (ta (gone V L) st0.vec)}
variable {V:Option (Nat×Nat)} {T:List Nat}
variable {n:Nat} {As:List (List Nat)} {C:List Nat} {W:List (Nat×List Nat)} {es:List mN}
theorem Ex.lt {L:List Nat} (h:Ex n As L):∀i∈L,i < n:=by
 induction h with
 |nil=>intro i h;simp at h
 |cons _ hi _ _ ih=>intro i h;rcases aZ.1 h with rfl |h;exact hi;exact ih i h
theorem Ex.nodup {L:List Nat} (h:Ex n As L):L.Nodup:=by
 induction h with
 |nil=>exact dL
 |cons _ _ hn _ ih=>exact dZ.2 ⟨hn,ih⟩
theorem Ex.down {L:List Nat} (h:Ex n As L):∀i∈L,∀j∈As.getD i [],j∈L:=by
 induction h with
 |nil=>intro i h;simp at h
 |cons _ _ _ ha ih=>
  intro i h j hj;rcases aZ.1 h with rfl |h
  ·exact cW _ (ha j hj)
  ·exact cW _ (ih i h j hj)
theorem Ex.len {L:List Nat} (h:Ex n As L):L.length≤n:=by
 have:=List.Nodup.jc h.nodup (l':=List.range n) λi hi=>fj.2 (h.lt i hi)
 simpa using this
where
 List.Nodup.jc {l l':List Nat} (h:l.Nodup) (hs:∀i∈l,i∈l'):l.length≤l'.length:=by
  induction l generalizing l' with
  |nil=>simp
  |cons x l ih=>
   rw[dZ] at h;have hx:x∈l':=hs x (by simp);have:=ih h.2 (l':=l'.erase x) λi hi=>(List.mem_erase_of_ne (λe=>h.1 (by rw[← e];exact hi))).2 (hs i (by simp[hi]))
   rw[List.length_erase_of_mem hx] at this;have:0 < l'.length:=List.length_pos_of_mem hx;simp;omega
theorem Ex.full {L:List Nat} (h:Ex n As L) (hl:L.length=n):∀i < n,i∈L:=by
 intro i hi;refine ep λhn=>?_
 have:=Ex.len.List.Nodup.jc (l:=i::L) (l':=List.range n) (dZ.2 ⟨hn,h.nodup⟩) λj hj=>by
  rcases aZ.1 hj with rfl |hj
  ·exact fj.2 hi
  ·exact fj.2 (h.lt j hj)
 simp at this;omega
theorem OD (L:List Nat):(Bl V es st0 L).nt=st0.nt:=rfl
theorem vW (L:List Nat):(Bl V es st0 L).vec=Pk es L (ta (gone V L) st0.vec):=rfl
theorem uQ {α:Type}:∀(l m:List (Nat×α)) (t:Nat),get (l++m) t=match get l t with |some x=>some x |none=>get m t
 |[],_,_=>rfl
 |(k,v)::l,m,t=>by
  simp only[cv,get];split
  ·rfl
  ·exact uQ l m t
theorem get_none {α:Type}:∀{l:List (Nat×α)} {t:Nat},(∀x∈l,x.1≠t)→get l t=none
 |[],_,_=>rfl
 |(k,v)::l,t,h=>by
  simp only[get];rw[ah (h (k,v) (by simp)),get_none λx hx=>h x (by simp[hx])]
theorem Fo:∀(W:List Nat) (l:List (Nat×List AV)) (n:Nat),get (P3 W l) n=if n∈W then none else get l n
 |[],l,n=>by simp[P3]
 |m::W,l,n=>by
  simp only[P3,Fo W,iG,aZ];by_cases h:n∈W
  ·simp[h]
  ·by_cases h2:m=n
   ·simp[h2]
   ·simp[h,h2,eN h2]
theorem Ag {t i:Nat} (hu:∀i j,(iQ es i).d=some t→(iQ es j).d=some t→i=j) (b:List (Nat×AV)):∀{A:List Nat},i∈A→(iQ es i).d=some t→get (wS es A b) t=some (iQ es i).v
 |j::A,hi,hd=>by
  simp only[wS,vq];by_cases e:(iQ es j).d=some t
  ·have:=hu i j hd e;subst this;rw[e];simp[get]
  ·rcases aZ.1 hi with rfl |hi
   ·exact absurd hd e
   ·have ih:=Ag hu b hi hd
    cases hq:(iQ es j).d with
    |none=>exact ih
    |some d=>simp only[get];rw[ah (λe2=>e (by rw[hq,e2]))];exact ih
theorem Cr {t:Nat} (b:List (Nat×AV)):∀{A:List Nat},(∀j∈A,(iQ es j).d≠some t)→get (wS es A b) t=get b t
 |[],_=>rfl
 |j::A,h=>by
  simp only[wS,vq];have ih:=Cr b (A:=A) λk hk=>h k (by simp[hk])
  cases hq:(iQ es j).d with
  |none=>exact ih
  |some d=>simp only[get];rw[ah (λe2=>h j (by simp) (by rw[hq,e2]))];exact ih
theorem yw (L:List Nat) (t:Nat):get (Bl V es st0 L).env t=(get (wS es L st0.env) t).map (JM (gone V L)):=jS _ _ _
theorem KS {e:mN} {l:List (Nat×AV)} {t:Nat}:get (vq e l) t=if e.d=some t then some e.v else get l t:=by
 unfold vq;cases hd:e.d with
 |none=>simp
 |some d=>simp only[get,ba]
def makes (es:List mN) (j m:Nat):Prop:=(iQ es j).d=some m∧(iQ es j).al.isSome=true
theorem BA {e:mN} {l:List (Nat×List AV)} {m:Nat}:get (GC e l) m=if e.d=some m∧e.al.isSome=true then e.al else get l m:=by
 unfold GC;cases ha:e.al with
 |none=>simp
 |some cs=>
  cases hd:e.d with
  |none=>simp
  |some d=>
   simp only[get,ba,se,kB]
theorem HK {m i:Nat} (hu:∀i j,(iQ es i).d=some m→(iQ es j).d=some m→i=j) (b:List (Nat×List AV)):∀{A:List Nat},i∈A→makes es i m→get (QD es A b) m=(iQ es i).al
 |j::A,hi,hm=>by
  simp only[QD,BA];by_cases e:makes es j m
  ·have:=hu i j hm.1 e.1;subst this;rw[ai (show (iQ es _).d=some m∧(iQ es _).al.isSome=true from e)]
  ·rw[ah (show ¬((iQ es j).d=some m∧(iQ es j).al.isSome=true) from e)]
   rcases aZ.1 hi with rfl |hi
   ·exact absurd hm e
   ·exact HK hu b hi hm
theorem Dc {m:Nat} (b:List (Nat×List AV)):∀{A:List Nat},(∀j∈A,¬makes es j m)→get (QD es A b) m=get b m
 |[],_=>rfl
 |j::A,h=>by
  simp only[QD,BA];rw[ah (show ¬((iQ es j).d=some m∧(iQ es j).al.isSome=true) from h j (by simp)),Dc b λk hk=>h k (by simp[hk])]
def yf (es:List mN) (j m:Nat):Prop:=(iQ es j).d=some m∧(iQ es j).nv.isSome=true
theorem AX {e:mN} {l:List (Nat×VS)} {m:Nat}:get (Io e l) m=if e.d=some m∧e.nv.isSome=true then e.nv else get l m:=by
 unfold Io;cases ha:e.nv with
 |none=>simp
 |some cs=>
  cases hd:e.d with
  |none=>simp
  |some d=>
   simp only[get,ba,se,kB]
theorem EI {m i:Nat} (hu:∀i j,(iQ es i).d=some m→(iQ es j).d=some m→i=j) (b:List (Nat×VS)):∀{A:List Nat},i∈A→yf es i m→get (Pk es A b) m=(iQ es i).nv
 |j::A,hi,hm=>by
  simp only[Pk,AX];by_cases e:yf es j m
  ·have:=hu i j hm.1 e.1;subst this;rw[ai (show (iQ es _).d=some m∧(iQ es _).nv.isSome=true from e)]
  ·rw[ah (show ¬((iQ es j).d=some m∧(iQ es j).nv.isSome=true) from e)]
   rcases aZ.1 hi with rfl |hi
   ·exact absurd hm e
   ·exact EI hu b hi hm
theorem AW {m:Nat} (b:List (Nat×VS)):∀{A:List Nat},(∀j∈A,¬yf es j m)→get (Pk es A b) m=get b m
 |[],_=>rfl
 |j::A,h=>by
  simp only[Pk,AX];rw[ah (show ¬((iQ es j).d=some m∧(iQ es j).nv.isSome=true) from h j (by simp)),AW b λk hk=>h k (by simp[hk])]
def okV (V:Option (Nat×Nat)) (x:AV):Bool:=match V with |some (_,m)=>x.wf (λ_=>true) (λk=>k != m) |none=>true
def abu (V:Option (Nat×Nat)) (l:List AV):Bool:=match V with |some (_,m)=>AV.we (λ_=>true) (λk=>k != m) l |none=>true
def Dh (V:Option (Nat×Nat)) (i:Nat):Option Nat:=match V with |some (c,m)=>if c=i then some m else none |none=>none
structure Cert (P:Program) (ops:Array Oper) (st0:St) (As:List (List Nat)) (C:List Nat) (W:List (Nat×List Nat)) (V:Option (Nat×Nat)) (T:List Nat) (es:List mN):Prop where
 loc:∀i,i < es.length→∃o,ops[i]? =some o∧Loc P ops st0 (lR As C W V st0 (es.take i) i) o (iQ es i)∧(iQ es i).d=o.dst∧(∀d,(iQ es i).al.isSome=true→(iQ es i).d=some d→d∉W.map (·.1)∧get st0.box d=none)∧(∀d,(iQ es i).nv.isSome=true→(iQ es i).d=some d→get st0.vec d=none)∧
  (∀x∈(iQ es i).bs,∃q∈W,q.1=x.1∧i∈q.2)∧(i∉C→(iQ es i).bs=[])
 rm:∀i,i < es.length→(iQ es i).rm=Dh V i
 ok:∀i,i < es.length→okV V (iQ es i).v=true∨∃c m d,V=some (c,m)∧i∈As.getD c []∧(iQ es i).d=some d∧d∈T
 al:∀i,i < es.length→∀cs,(iQ es i).al=some cs→abu V cs=true
 bx:∀i,i < es.length→∀k,(iQ es i).rm=some k→∀m∈W.map (·.1),∀cs,get (lR As C W V st0 (es.take i) i).box m=some cs→get (iQ es i).bs m=some (cs.map (AV.gi k))∨(get (iQ es i).bs m=none∧cs.map (AV.gi k)=cs)
 bn:∀i,i < es.length→∀k,(iQ es i).rm=some k→∀m∈W.map (·.1),get (lR As C W V st0 (es.take i) i).box m=none→get (iQ es i).bs m=none
 un:∀i,i < es.length→∀x∈(iQ es i).bs,∀q∈W,q.1=x.1→i∈q.2
theorem vZ {i:Nat} (h:es.length≤i):iQ es i=default:=by simp[iQ,h]
theorem Cert.bsQ (H:Cert P ops st0 As C W V T es) (i:Nat):∀x∈(iQ es i).bs,∃q∈W,q.1=x.1∧i∈q.2:=by
 rcases iU i es.length with h |h
 ·obtain⟨_,_,_,_,_,_,h1,_⟩:=H.loc i h;exact h1
 ·rw[vZ h];intro x hx;exact absurd hx (by simp[default])
theorem Cert.bsW (H:Cert P ops st0 As C W V T es) (i:Nat):∀x∈(iQ es i).bs,x.1∈W.map (·.1):=λx hx=>by
 obtain⟨q,h1,h2,_⟩:=H.bsQ i x hx;exact aG.2 ⟨q,h1,h2⟩
theorem Cert.bsC (H:Cert P ops st0 As C W V T es) {i:Nat} (hi:i∉C):(iQ es i).bs=[]:=by
 rcases iU i es.length with h |h
 ·obtain⟨_,_,_,_,_,_,_,h1⟩:=H.loc i h;exact h1 hi
 ·rw[vZ h];rfl
theorem Cert.mkW (H:Cert P ops st0 As C W V T es) {i d:Nat} (h:makes es i d):d∉W.map (·.1)∧get st0.box d=none:=by
 rcases iU i es.length with hl |hl
 ·obtain⟨_,_,_,_,h1,_⟩:=H.loc i hl;exact h1 d h.2 h.1
 ·rw[makes,vZ hl] at h;exact absurd h.1 (by simp[default])
theorem Cert.mkV (H:Cert P ops st0 As C W V T es) {i d:Nat} (h:yf es i d):get st0.vec d=none:=by
 rcases iU i es.length with hl |hl
 ·obtain⟨_,_,_,_,_,h1,_⟩:=H.loc i hl;exact h1 d h.2 h.1
 ·rw[yf,vZ hl] at h;exact absurd h.1 (by simp[default])
theorem mz (H:Cert P ops st0 As C W V T es) {m:Nat} (hm:m∉W.map (·.1)):∀L,get (vX es st0.box L) m=get (QD es L st0.box) m
 |[]=>rfl
 |i::L=>by
  simp only[vX,QD,BA];rw[uQ,get_none (l:=(iQ es i).bs) λx hx e=>hm (by rw[← e];exact H.bsW i x hx),mz H hm L]
theorem sa (H:Cert P ops st0 As C W V T es) {m:Nat} (hm:m∈W.map (·.1)):∀L,get (vX es st0.box L) m=get (Jp es (L.filter (C.contains ·)) st0.box) m
 |[]=>rfl
 |i::L=>by
  simp only[vX,BA];rw[ah (show ¬((iQ es i).d=some m∧(iQ es i).al.isSome=true) from λh=>(H.mkW h).1 hm),uQ,sa H hm L,ez];by_cases hi:i∈C
  ·rw[ai (by simpa using hi)];simp only[Jp,uQ]
  ·rw[ah (by simpa using hi),H.bsC hi];rfl
theorem ua:∀{C:List Nat},chainB.go As C=true→C.Nodup∧C.Pairwise λc c'=>c∈As.getD c' []
 |[],_=>⟨dL,.nil⟩
 |c::C,h=>by
  simp only[chainB.go,aR,dF,bE] at h;obtain⟨⟨h1,h2⟩,h3⟩:=h;obtain⟨g1,g2⟩:=ua h3;exact⟨dZ.2 ⟨by simpa using h2,g1⟩,.cons (λc' hc=>by simpa using h1 c' hc) g2⟩
theorem Ex.chain {L:List Nat} (hc:chainB.go As C=true) (h:Ex n As L):∃m,L.filter (C.contains ·)=(C.take m).reverse:=by
 obtain⟨sI,hpw⟩:=ua hc
 induction h with
 |nil=>exact⟨0,by simp⟩
 |cons hL hi hn ha ih=>
  rename_i L i;obtain⟨m,hm⟩:=ih;rw[ez];by_cases hiC:i∈C
  ·rw[ai (by simpa using hiC)]
   obtain⟨pre,post,rfl⟩:=List.append_of_mem hiC;have dN:∀c∈pre,c∈L:=λc hcp=>ha c ((gv.1 hpw).2.2 c hcp i (by simp))
   have rX:∀c,c∈(pre++i::post).take m↔(c∈L∧c∈pre++i::post):=λc=>by
    rw[← uu,←hm,bP];simp
   have hni:i∉(pre++i::post).take m:=λh=>hn ((rX i).1 h).1
   have ais:i∉pre:=λh=>(dh.1 sI).2.2 i h i (by simp) rfl
   have hle:m≤pre.length:=by
    refine Nat.le_of_not_lt λiN=>hni ?_
    rw[bJ];exact⟨pre.length,by rw[dR iN];simp⟩
   have Of:pre.length≤m:=by
    refine Nat.le_of_not_lt λiN=>?_
    have hx:pre[m]∈(pre++i::post).take m:=(rX _).2 ⟨dN _ (bC iN),by simp⟩;obtain⟨k,hk⟩:=bJ.1 hx;have hkm:k < m:=by
     have:=(aj.1 hk).1;simp at this;omega
    rw[dR hkm,ek (by omega)] at hk;have hnp:pre.Nodup:=(dh.1 sI).1;have:=(pn (i:=k) (j:=m) (by omega) hnp).1 (by rw[hk];simp[iN]);omega
   refine⟨pre.length+1,?_⟩;have:m=pre.length:=by omega
   subst this;rw[hm];simp[List.take_append,fP (Nat.le_succ pre.length)]
  ·rw[ah (by simpa using hiC)];exact⟨m,hm⟩
theorem KX {C:List Nat} (h:C.Nodup) (m:Nat):C.filter (λc=>decide (c∈C.take m))=C.take m:=by
 have e:(C.take m++C.drop m).filter (λc=>decide (c∈C.take m))=C.take m:=by
  rw[List.filter_append,fC.2 (λa ha=>by simpa using ha),oz.2 (λa ha=>by
   have sI:(C.take m++C.drop m).Nodup:=by rw[fw];exact h
   have:=(dh.1 sI).2.2;simpa using λhc=>this a hc a ha rfl),kj]
 rwa [fw] at e
theorem Fb {i m:Nat}:∀{W:List (Nat×List Nat)},m∉Fc As i W→∀q∈W,q.1=m→FE As q.2 i=true
 |[],_,q,hq,_=>by simp at hq
 |p::W,h,q,hq,e=>by
  simp only[Fc] at h;rcases aZ.1 hq with rfl |hq
  ·split at h
   ·assumption
   ·exact absurd (by simp[e]) h
  ·split at h
   ·exact Fb h q hq e
   ·exact Fb (λh'=>h (by simp[h'])) q hq e
theorem Bp (H:Cert P ops st0 As C W V T es) {m:Nat} (p:Nat→Bool) (hp:∀c,(∃q∈W,q.1=m∧c∈q.2)→p c=true) (b:List (Nat×List AV)):∀M:List Nat,get (Jp es M b) m=get (Jp es (M.filter p) b) m
 |[]=>rfl
 |c::M=>by
  simp only[Jp,uQ,ez];by_cases h:p c=true
  ·rw[ai h];simp only[Jp,uQ];rw[Bp H p hp b M]
  ·rw[ah h,get_none (l:=(iQ es c).bs) λx hx e=>?_]
   ·exact Bp H p hp b M
   ·obtain⟨q,h1,h2,h3⟩:=H.bsQ c x hx
    exact h (hp c ⟨q,h1,h2.trans e,h3⟩)
theorem Ex.at {C:List Nat} {L:List Nat} (hc:chainB.go As C=true) (h:Ex n As L) {i:Nat} (hiC:FE As C i=true) (hn:i∉L) (ha:∀j∈As.getD i [],j∈L):L.filter (C.contains ·)=FL As C i:=by
 obtain⟨sI,hpw⟩:=ua hc;obtain⟨m,hm⟩:=h.chain hc;have rX:∀c,c∈C.take m↔(c∈L∧c∈C):=λc=>by
  rw[← uu,←hm,bP];simp
 unfold FL;rw[hm]
 congr 1
 rw[← KX sI m];refine iW λc hcC=>?_
 simp only[FE,bE] at hiC;have h1:=hiC c hcC;simp only[cj,ew,cd] at h1;rw[Bool.eq_iff_iff,bg,cd,rX]
 constructor
 ·rintro⟨hL,_⟩
  rcases h1 with (h1 |h1) |h1
  ·exact absurd (h1▸hL) hn
  ·exact h1
  ·exact absurd (h.down c hL i h1) hn
 ·exact λh2=>⟨ha c h2,hcC⟩
theorem DH {m c:Nat}:QJ W m c=true↔∃q∈W,q.1=m∧c∈q.2:=by
 simp only[QJ,lq,aR,ew,cd]
theorem M8 (H:Cert P ops st0 As C W V T es) (m:Nat) (b:List (Nat×List AV)) (L:List Nat):get (Jp es (L.filter (C.contains ·)) b) m=get (Jp es (L.filter ((C.filter (QJ W m)).contains ·)) b) m:=by
 rw[Bp H (QJ W m) (λc h=>DH.2 h),ow]
 congr 2
 refine iW λc _=>?_
 rw[Bool.eq_iff_iff,aR,cd,cd,bP];exact⟨λh=>⟨h.2,h.1⟩,λh=>⟨h.2,h.1⟩⟩
theorem Ex.seen (H:Cert P ops st0 As C W V T es) {L:List Nat} {i m:Nat} (hc:chainB.go As (C.filter (QJ W m))=true) (h:Ex n As L) (hm:m∉Fc As i W) (hn:i∉L) (ha:∀j∈As.getD i [],j∈L):
  get (Jp es (L.filter (C.contains ·)) st0.box) m=get (Jp es (FL As C i) st0.box) m:=by
 have Zi:FE As (C.filter (QJ W m)) i=true:=by
  simp only[FE,bE];intro c V1;obtain⟨q,h1,h2,h3⟩:=DH.1 (bP.1 V1).2;have:=Fb hm q h1 h2;simp only[FE,bE] at this;exact this c h3
 rw[M8 H,h.at hc Zi hn ha,Bp H (QJ W m) (λc h=>DH.2 h) _ (FL As C i)];unfold FL;rw[List.filter_reverse,ow,ow]
 congr 2
 congr 1
 refine iW λc _=>?_
 rw[Bool.and_comm]
end
end Go.Vl
namespace Go.Vl
open Go Go.RowKit
section
variable {P:Program} {K:Ctx P} {st0:St} {l:List Oper} {n:Nat} {As:List (List Nat)} {C:List Nat} {W:List (Nat×List Nat)} {V:Option (Nat×Nat)} {T:List Nat} {es:List mN} {Q:Exit→St→Prop}
theorem Bz {ops:Array Oper} (h:Wy ops As=true) {i:Nat} {o:Oper} (hi:ops[i]? =some o):
  (∀j∈wT o,j < i)∧∀j∈As.getD i [],∃k∈wT o,k=j∨j∈As.getD k []:=by
 have iN:i < ops.size:=(aL.1 hi).1;simp only[Wy,bE,fj] at h;have:=h i iN;simp only[hi,aR,bE,bg,lq,cj,ew,cd] at this;exact⟨this.1,this.2⟩
theorem HE {o:Oper} {j:Nat}:j∈wT o↔∃e∈o.after,Region.binds .any e=true∧e.on=j:=by
 simp[wT,and_assoc]
theorem GY {ops:Array Oper} {listed:Array Bool} {i:Nat}:i∈Region.ready .any ops listed↔i < ops.size∧listed.getD i true=false∧∃o,ops[i]? =some o∧∀j∈wT o,listed.getD j false=true:=by
 unfold Region.ready;rw[bP,fj];refine and_congr_right λhi=>?_
 rw[aR,dF];refine and_congr_right λ_=>?_
 have h0:ops[i]? =some ops[i]:=bp hi;rw[h0];simp only[cr,cg,tl,ba,exists_eq_left']
 constructor
 ·intro h j hj
  obtain⟨e,he,hb,rfl⟩:=HE.1 hj;have:=h e he;rw[hb] at this;simpa using this
 ·intro h e he
  cases hb:Region.binds .any e with
  |false=>rfl
  |true=>simpa using h e.on (HE.2 ⟨e,he,hb,rfl⟩)
structure Fl (N:Nat) (L:List Nat) (listed:Array Bool):Prop where
 size:listed.size=N
 at_:∀i,i < N→(listed.getD i true=true↔i∈L)
theorem Fl.ac2 {size:Nat} {L:List Nat} {listed:Array Bool} (F:Fl size L listed) {i:Nat} (hi:i < size):listed.getD i false=true↔i∈L:=by
 rw[← F.at_ i hi];have:i < listed.size:=by rw[F.size];exact hi
 simp[Array.getD,this]
theorem Fl.cons {size:Nat} {L:List Nat} {listed:Array Bool} (F:Fl size L listed) {i:Nat}:Fl size (i::L) (listed.setIfInBounds i true) where
 size:=by simp[F.size]
 at_:=λj hj=>by
  have wm:j < listed.size:=by rw[F.size];exact hj
  have:=F.at_ j hj;simp only[Array.getD,Array.size_setIfInBounds,wm,dite_true,wb,Array.getElem_setIfInBounds] at this ⊢;by_cases e:i=j
  ·simp[e]
  ·simp[e,this,eN e]
theorem Cert.dd {ops:Array Oper} (H:Cert P ops st0 As C W V T es) (hd:PZ ops n=true) (hn:es.length=n) {t i j:Nat} (h1:(iQ es i).d=some t) (h2:(iQ es j).d=some t):i=j:=by
 have lt:∀{i},(iQ es i).d=some t→i < n:=λ{i} h=>by
  rcases iU i es.length with hl |hl
  ·omega
  ·rw[vZ hl] at h;exact absurd h (by simp[default])
 obtain⟨o,a1,_,a2,_⟩:=H.loc i (by rw[hn];exact lt h1);obtain⟨o',b1,_,b2,_⟩:=H.loc j (by rw[hn];exact lt h2);simp only[PZ,bE,fj,cj,ew] at hd;rcases hd i (lt h1) j (lt h2) with h |h
 ·exact h
 ·rw[a1,b1] at h
  simp only[aa,←a2,←b2,h1,h2] at h;simp at h
theorem Fy {es':List mN}:∀{A:List Nat} {b:List (Nat×AV)},(∀j∈A,iQ es j=iQ es' j)→wS es A b=wS es' A b
 |[],_,_=>rfl
 |j::A,b,h=>by simp only[wS];rw[h j (by simp),Fy λk hk=>h k (by simp[hk])]
theorem CC {es':List mN}:∀{A:List Nat} {b:List (Nat×List AV)},(∀j∈A,iQ es j=iQ es' j)→QD es A b=QD es' A b
 |[],_,_=>rfl
 |j::A,b,h=>by simp only[QD];rw[h j (by simp),CC λk hk=>h k (by simp[hk])]
theorem B6 {es':List mN}:∀{A:List Nat} {b:List (Nat×VS)},(∀j∈A,iQ es j=iQ es' j)→Pk es A b=Pk es' A b
 |[],_,_=>rfl
 |j::A,b,h=>by simp only[Pk];rw[h j (by simp),B6 λk hk=>h k (by simp[hk])]
theorem Cu {es':List mN}:∀{A:List Nat} {b:List (Nat×List AV)},(∀j∈A,iQ es j=iQ es' j)→Jp es A b=Jp es' A b
 |[],_,_=>rfl
 |j::A,b,h=>by simp only[Jp];rw[h j (by simp),Cu λk hk=>h k (by simp[hk])]
theorem uc {i j:Nat} (h:j < i):iQ (es.take i) j=iQ es j:=by simp[iQ,List.getD,dR h]
structure zm (ops:Array Oper) (n:Nat) (As:List (List Nat)) (C:List Nat) (W:List (Nat×List Nat)) (V:Option (Nat×Nat)) (T:List Nat):Prop where
 anc:Wy ops As=true
 tail:Nz ops As n=true
 dst:PZ ops n=true
 si:Yf ops As n=true
 cn:C.all (λc=>decide (c < n))=true
 gone:Oj ops As W V T n=true
 wc:(W.all λq=>q.2.all λc=>C.contains c)=true
 chs:(W.all λq=>chainB.go As (C.filter (QJ W q.1)))=true
theorem ag1 {ops:Array Oper} (h:K6 ops As C W V T n=true):zm ops n As C W V T:=by
 simp only[K6,aR] at h;obtain⟨⟨⟨⟨⟨⟨⟨h1,h2⟩,h3⟩,h4⟩,h5⟩,h6⟩,h7⟩,h8⟩:=h;exact⟨h1,h2,h3,h4,h5,h6,h7,h8⟩
theorem zm.ch {ops:Array Oper} (D:zm ops n As C W V T):∀m∈W.map (·.1),chainB.go As (C.filter (QJ W m))=true:=λm hm=>by
 have:=D.chs;simp only[bE] at this;obtain⟨q,hq,rfl⟩:=aG.1 hm;exact this q hq
theorem zm.cl {ops:Array Oper} (D:zm ops n As C W V T):∀c∈C,c < n:=by
 have:=D.cn;simp only[bE,bg] at this;exact this
theorem zm.lt {ops:Array Oper} (D:zm ops n As C W V T):∀(i:Nat) (o:Oper),ops[i]? =some o→∀j∈As.getD i [],j < i:=λi=>by
 induction i using Nat.strongRecOn with
 |_ i ih=>
  intro o ho j hj;obtain⟨g1,g2⟩:=Bz D.anc ho;obtain⟨k,hk,rfl |hjk⟩:=g2 j hj
  ·exact g1 _ hk
  ·have hki:=g1 k hk
   have Zb:k < ops.size:=by have:=(aL.1 ho).1;omega
   exact Nat.lt_trans (ih k hki _ (bp Zb) j hjk) hki
theorem Fj {L:List Nat} (X:Ex n As L) {i m:Nat} (hL:i∉L) (h:gone V L=some m):Qi As V i=false∧∃c,V=some (c,m)∧c∈L:=by
 unfold gone at h;split at h
 ·rename_i c k
  split at h
  ·rename_i hc
   cases h;refine⟨?_,c,rfl,hc⟩;simp only[Qi,fm,nc];refine⟨λe=>hL (e▸hc),?_⟩;rw[← gH,cd];exact λh=>hL (X.down c hc i h)
  ·cases h
 ·cases h
theorem Fm {α:Type}:∀{l:List (Nat×α)} {n:Nat} {x:α},get l n=some x→∃q∈l,q=(n,x)
 |[],_,_,h=>by simp[get] at h
 |(k,v)::l,n,x,h=>by
  simp only[get] at h;split at h
  ·rename_i e;subst e;cases h;exact⟨_,by simp,rfl⟩
  ·obtain⟨q,hq,e⟩:=Fm h;exact⟨q,by simp[hq],e⟩
theorem Tl:gone V []=none:=by unfold gone;split <;> simp
theorem Lk:Bl V es st0 []=st0:=by
 unfold Bl;rw[Tl];show({ nt:=st0.nt,env:=me (JM none) st0.env,box:=st0.box,vec:=st0.vec }:St)=st0;rw[iz]
theorem Zy {ops:Array Oper} (D:zm ops n As C W V T) (H:Cert P ops st0 As C W V T es) (hV:Qu V T W st0=true) (hn:es.length=n) {L:List Nat} (X:Ex n As L) {i:Nat} (hi:i < n) (hL:i∉L) (ha:∀j∈As.getD i [],j∈L) {o:Oper} (ho:ops[i]? =some o):
  HO ops o (lR As C W V st0 (es.take i) i) (Bl V es st0 L):=by
 have IQ:∀j∈As.getD i [],j < i:=D.lt i o ho;have hu:∀{t:Nat} (i j:Nat),(iQ es i).d=some t→(iQ es j).d=some t→i=j:=λi j h1 h2=>H.dd D.dst hn h1 h2
 have Zm:∀c∈FL As C i,c < i:=λc hc=>IQ c (by simpa[FL] using (bP.1 (uu.1 hc)).2)
 refine⟨OD L,λm s hm=>?_,λt ht=>?_,λm cs hm=>?_⟩
 ·simp only[lR] at hm
  rw[B6 (es:=es.take i) (es':=es) λj hj=>uc (IQ j hj)] at hm;rw[vW];by_cases hex:∃j∈As.getD i [],yf es j m
  ·obtain⟨j,hj,hk⟩:=hex
   rw[EI hu _ hj hk] at hm;rw[EI hu _ (ha j hj) hk,hm]
  ·rw[AW _ λj hj h=>hex ⟨j,hj,h⟩] at hm
   have h0:get st0.vec m=some s:=by
    cases hq:(if Qi As V i=true then none else V.map (·.2)) with
    |none=>rw[hq] at hm;exact hm
    |some k=>
     rw[hq] at hm;simp only[ta,iG] at hm;split at hm
     ·cases hm
     ·exact hm
   rw[AW _ λj hj h=>?_]
   ·cases hg:gone V L with
    |none=>exact h0
    |some k=>
     obtain⟨hb,c,rfl,hc⟩:=Fj X hL hg;rw[hb] at hm;exact hm
   ·have:=H.mkV h
    rw[h0] at this;cases this
 ·simp only[St.look,yw,lR]
  rw[Fy (es:=es.take i) (es':=es) λj hj=>uc (IQ j hj)];have ym:get (wS es L st0.env) t=get (wS es (As.getD i []) st0.env) t:=by
   by_cases hex:∃j∈As.getD i [],(iQ es j).d=some t
   ·obtain⟨j,hj,hd⟩:=hex
    rw[Ag hu _ (ha j hj) hd,Ag hu _ hj hd]
   ·rw[Cr,Cr]
    ·exact λj hj h=>hex ⟨j,hj,h⟩
    ·intro j hj hd
     have S8:=X.lt j hj;obtain⟨oj,hoj,_,Oi,_⟩:=H.loc j (by rw[hn];exact S8);have hs:=D.si;simp only[Yf,bE,fj] at hs;have:=hs i hi;rw[ho] at this;simp only[bE,fj] at this;have:=this j S8;rw[hoj] at this;simp only[aa,←Oi,hd,cj,dF,ew,cd] at this;rcases this with ((h |h) |h) |h
     ·rw[← gH,cd] at h;exact h ht
     ·exact hex ⟨j,h,hd⟩
     ·exact hL (h▸hj)
     ·exact hL (X.down j hj i h)
  rw[ym];cases hg:gone V L with
  |none=>cases get (wS es (As.getD i []) st0.env) t <;> rfl
  |some m=>
   obtain⟨hb,c,rfl,hc⟩:=Fj X hL hg;have htT:t∉T:=by
    have h1:=D.gone;simp only[Oj,aR,bE,fj,cj] at h1;rcases h1.2 i hi with h2 |h2
    ·rw[hb] at h2;cases h2
    ·rw[ho] at h2
     simp only[bE,dF] at h2;have:=h2 t ht;rw[← gH,cd] at this;exact this
   cases hx:get (wS es (As.getD i []) st0.env) t with
   |none=>rfl
   |some x=>
    have gD:x.wf (λ_=>true) (λk=>k != m)=true:=by
     by_cases hex:∃j∈As.getD i [],(iQ es j).d=some t
     ·obtain⟨j,hj,hd⟩:=hex
      rw[Ag hu _ hj hd] at hx;cases hx;rcases H.ok j (by rw[hn];exact X.lt j (ha j hj)) with h2 |⟨c',m',d,h2,h3,h4,h5⟩
      ·exact h2
      ·rw[hd] at h4;cases h4;exact absurd h5 htT
     ·rw[Cr _ λj hj h=>hex ⟨j,hj,h⟩] at hx
      simp only[Qu,aR,bE,cj,cd] at hV;obtain⟨q,hq,hqe⟩:=Fm hx;rcases hV.1.1 q hq with h2 |h2
      ·rw[hqe] at h2;exact absurd h2 htT
      ·rw[hqe] at h2;exact h2
    show(some (x.gi m)).getD .undef=x;rw[D7 gD];rfl
 ·simp only[lR] at hm
  rw[CC (es:=es.take i) (es':=es) λj hj=>uc (IQ j hj)] at hm;show get (vX es st0.box L) m=some cs;by_cases hex:∃j∈As.getD i [],makes es j m
  ·obtain⟨j,hj,hk⟩:=hex
   rw[HK hu _ hj hk] at hm;rw[mz H (H.mkW hk).1,HK hu _ (ha j hj) hk,hm]
  ·rw[Dc _ λj hj h=>hex ⟨j,hj,h⟩] at hm
   rw[Fo] at hm;split at hm
   ·cases hm
   rename_i VV;rw[Cu (es:=es.take i) (es':=es) λj hj=>uc (Zm j hj)] at hm;by_cases SX:m∈W.map (·.1)
   ·rw[sa H SX,Ex.seen H (D.ch m SX) X VV hL ha,hm]
   ·have h0:get st0.box m=some cs:=by
     have:∀L,get (Jp es L st0.box) m=get st0.box m:=λL=>by
      induction L with
      |nil=>rfl
      |cons c L ih=>
       simp only[Jp];rw[uQ,get_none (l:=(iQ es c).bs) (t:=m) (λx hx e=>SX (by rw[← e];exact H.bsW c x hx)),ih]
     rwa [this] at hm
    rw[mz H SX,Dc _ λj hj h=>?_,h0];have:=(H.mkW h).2;rw[h0] at this;cases this
theorem HG {ops:Array Oper} (D:zm ops n As C W V T) (H:Cert P ops st0 As C W V T es) (hV:Qu V T W st0=true) (hn:es.length=n) {L:List Nat} (X:Ex n As L) {i:Nat} (hi:i < n) (hL:i∉L) (ha:∀j∈As.getD i [],j∈L):
  HN ((iQ es i).on (Bl V es st0 L)) (Bl V es st0 (i::L)):=by
 have KG:=H.rm i (by rw[hn];exact hi);have xh:gone V (i::L)=match gone V L with |some m=>some m |none=>Dh V i:=by
  unfold gone Dh;cases V with
  |none=>rfl
  |some q=>
   obtain⟨c,m⟩:=q;by_cases h1:c∈L
   ·simp[h1]
   ·by_cases h2:c=i
    ·subst h2;simp[h1]
    ·simp[h1,h2]
 have vj:∀m,gone V L=some m→Dh V i=none:=λm h=>by
  obtain⟨_,c,rfl,hc⟩:=Fj X hL h;unfold Dh;have:c≠i:=λe=>hL (e▸hc)
  simp[this]
 have sA:∀m,gone V (i::L)=some m→(iQ es i).v.gi m=(iQ es i).v∨(iQ es i).d=none:=λm h=>by
  rcases H.ok i (by rw[hn];exact hi) with h1 |⟨c,k,d,h1,h2,h3,h4⟩
  ·unfold gone at h
   split at h
   ·split at h
    ·cases h;exact .inl (D7 h1)
    ·cases h
   ·cases h
  ·exfalso
   subst h1;unfold gone at h;simp only at h;split at h
   ·rename_i hc
    rcases aZ.1 hc with rfl |hc
    ·-- c is not ahead of ae7
     obtain⟨o,ho,_⟩:=H.loc c (by rw[hn];exact hi);have:=D.lt c o ho c h2;omega
    ·exact hL (X.down c hc i h2)
   ·cases h
 refine⟨rfl,λt=>?_,λm=>rfl,λm=>?_⟩
 ·rw[yw]
  simp only[mN.on,KS,jS,yw,wS];rw[KG];by_cases hd:(iQ es i).d=some t
  ·rw[ai hd,ai hd]
   cases hg:gone V (i::L) with
   |none=>rfl
   |some m=>
    rcases sA m hg with h1 |h1
    ·show some _=_;simp only[cr,JM];rw[h1]
    ·rw[h1] at hd;cases hd
  ·rw[ah hd,ah hd,xh]
   cases hg:gone V L with
   |none=>
    simp only;cases get (wS es L st0.env) t with
    |none=>rfl
    |some x=>rfl
   |some m=>
    rw[vj m hg];simp only;cases get (wS es L st0.env) t with
    |none=>rfl
    |some x=>rfl
 ·rw[vW]
  simp only[mN.on,vW,Pk];rw[KG,AX,AX];split
  ·rfl
  ·rw[xh]
   cases hg:gone V L with
   |none=>
    simp only;cases hr:Dh V i with
    |none=>rfl
    |some k=>
     simp only[ta,iG];have hu:∀{t:Nat} (i j:Nat),(iQ es i).d=some t→(iQ es j).d=some t→i=j:=λi j h1 h2=>H.dd D.dst hn h1 h2
     by_cases hex:∃j∈L,yf es j m
     ·obtain⟨j,hj,hk⟩:=hex
      rw[EI hu _ hj hk,EI hu _ hj hk];have h0:=H.mkV hk;split
      ·rename_i e
       subst e
       -- WI row aeG goes al0 was there from WI start
       have vO:(get st0.vec k).isSome=true:=by
        unfold Dh at hr;split at hr
        ·split at hr
         ·cases hr
          simp only[Qu,aR] at hV;exact hV.2
         ·cases hr
        ·cases hr
       rw[h0] at vO;cases vO
      ·rfl
     ·rw[AW _ λj hj h=>hex ⟨j,hj,h⟩,AW _ λj hj h=>hex ⟨j,hj,h⟩,iG]
   |some k=>rw[vj k hg];rfl
theorem Zx {ops:Array Oper} (D:zm ops n As C W V T) (H:Cert P ops st0 As C W V T es) (hn:es.length=n) {L L':List Nat} (X:Ex n As L) (hl:L.length=n) (X':Ex n As L') (hl':L'.length=n):HN (Bl V es st0 L) (Bl V es st0 L'):=by
 have hu:∀{t:Nat} (i j:Nat),(iQ es i).d=some t→(iQ es j).d=some t→i=j:=λi j h1 h2=>H.dd D.dst hn h1 h2
 have mem:∀i,i∈L↔i∈L':=λi=>⟨λh=>X'.full hl' i (X.lt i h),λh=>X.full hl i (X'.lt i h)⟩
 have hg:gone V L=gone V L':=by unfold gone;split <;> simp[mem]
 have yq:∀{M:List Nat} {C':List Nat},chainB.go As C'=true→(∀c∈C',c∈C)→Ex n As M→M.length=n→M.filter (C'.contains ·)=C'.reverse:=λ{L} {C'} xr ab3 X hl=>by
  obtain⟨m,hm⟩:=X.chain xr;rw[hm];have hlen:(L.filter (C'.contains ·)).length=(C'.take m).length:=by rw[hm];simp
  have xo:∀c∈C',c∈C'.take m:=λc hc=>by
   rw[← uu,←hm,bP];exact⟨X.full hl c (D.cl c (ab3 c hc)),by simpa using hc⟩
  have:=Ex.len.List.Nodup.jc (ua xr).1 xo;rw[fP (by simp at this;omega)]
 refine⟨rfl,λt=>?_,λm=>?_,λm=>by
  rw[vW,vW,hg];by_cases hex:∃j∈L,yf es j m
  ·obtain⟨j,hj,hd⟩:=hex
   rw[EI hu _ hj hd,EI hu _ ((mem j).1 hj) hd]
  ·rw[AW _ λj hj h=>hex ⟨j,(mem j).2 hj,h⟩,AW _ λj hj h=>hex ⟨j,hj,h⟩]⟩
 ·rw[yw,yw,hg]
  congr 1
  by_cases hex:∃j∈L,(iQ es j).d=some t
  ·obtain⟨j,hj,hd⟩:=hex
   rw[Ag hu _ hj hd,Ag hu _ ((mem j).1 hj) hd]
  ·rw[Cr _ λj hj h=>hex ⟨j,(mem j).2 hj,h⟩,Cr _ λj hj h=>hex ⟨j,hj,h⟩]
 ·show get (vX es st0.box L') m=get (vX es st0.box L) m
  by_cases SX:m∈W.map (·.1)
  ·rw[sa H SX,sa H SX,M8 H,M8 H,yq (D.ch m SX) (λc hc=>(bP.1 hc).1) X hl,yq (D.ch m SX) (λc hc=>(bP.1 hc).1) X' hl']
  ·rw[mz H SX,mz H SX]
   by_cases hex:∃j∈L,makes es j m
   ·obtain⟨j,hj,hd⟩:=hex
    rw[HK hu _ hj hd,HK hu _ ((mem j).1 hj) hd]
   ·rw[Dc _ λj hj h=>hex ⟨j,(mem j).2 hj,h⟩,Dc _ λj hj h=>hex ⟨j,hj,h⟩]
theorem X0 {ops:Array Oper} (D:zm ops n As C W V T) (Ur:n≤ops.size):∀k≤n,Ex n As (List.range k).reverse:=λk=>by
 induction k with
 |zero=>intro _;exact .nil
 |succ k ih=>
  intro hk;rw[List.range_succ,List.reverse_append];refine .cons (ih (by omega)) hk (by simp) λj hj=>?_
  have Zb:k < ops.size:=by omega
  simpa using D.lt k _ (bp Zb) j hj
theorem Zw {ops:Array Oper} (D:zm ops n As C W V T) (H:Cert P ops st0 As C W V T es) (hV:Qu V T W st0=true) (hn:es.length=n) (hl:∀j,(l.drop n)[j]? =ops[n+j]?) (gS:ops.size=l.length) {F:St} (hF:HN (Bl V es st0 (List.range n).reverse) F)
  (HT:fc P K ops (l.drop n) F Q):∀(k:Nat) (L:List Nat) (listed:Array Bool) (a:Act) (w:World) (p:Pl),L.length+k=n→Ex n As L→Fl ops.size L listed→Rel K (Bl V es st0 L) a w p→
  wpAny P .any ops (FZ K Q) (k+(ops.size - n)) listed a w:=by
 have ht:=D.tail;simp only[Nz,aR,bg,bE,fj,cj,cd] at ht;obtain⟨⟨Ur,htl⟩,afH⟩:=ht;intro k
 induction k with
 |zero=>
  intro L listed a w p hlen X fl R;have hLn:L.length=n:=by omega
  have acu:listed=Array.replicate n true++Array.replicate (ops.size - n) false:=by
   refine Array.ext_getElem? λj=>?_
   rw[oV];simp only[Array.size_replicate,Array.getElem?_replicate];by_cases hj:j < n
   ·have hjs:j < ops.size:=by omega
    have h1:=(fl.at_ j hjs).2 (X.full hLn j hj);have wj:j < listed.size:=by rw[fl.size];exact hjs
    simp only[Array.getD,wj,dite_true,wb] at h1;simp[hj,bp wj,h1]
   ·by_cases hjs:j < ops.size
    ·have h1:¬listed.getD j true=true:=λh=>hj (X.lt j ((fl.at_ j hjs).1 h))
     have wj:j < listed.size:=by rw[fl.size];exact hjs
     simp only[Array.getD,wj,dite_true,wb] at h1;simp[hj,bp wj,h1,show j - n < ops.size - n by omega]
    ·simp[hj,show ¬j - n < ops.size - n by omega,tj (show listed.size≤j by rw[fl.size];omega)]
  have Tg:(l.drop n).length=ops.size - n:=by simp[gS]
  have R2:Rel K F a w p:=(R.eqv (Zx D H hn X hLn (X0 D Ur n (aM n)) (by simp))).eqv hF;have:=wpAny_of_seq (md:=.any) (Q':=FZ K Q) (l.drop n) n listed a w hl (by rw[Tg,acu];exact afH) (HT a w p R2);rw[Tg] at this;rw[gg];exact this
 |succ k ih=>
  intro L listed a w p hlen X fl R;rw[show k+1+(ops.size - n)=(k+(ops.size - n))+1 by omega];have Tz:∀{i:Nat} {o:Oper},ops[i]? =some o→∀j∈wT o,j < ops.size:=λ{i o} ho j hj=>by
   have:=(Bz D.anc ho).1 j hj;have:=(aL.1 ho).1;omega
  refine⟨λhr=>?_,λi hi=>?_⟩
  ·exfalso
   -- WI least one aeG is not yet carried out is ready
   have hex:∃i,i < n∧i∉L:=by
    refine ep λBc=>?_
    have tX:∀i∈List.range n,i∈L:=λi hi=>ep λh=>Bc ⟨i,fj.1 hi,h⟩
    have:=Ex.len.List.Nodup.jc List.nodup_range tX;simp at this;omega
   have Y7:∀m,(∀i < m,i < n→i∈L)∨∃i,i < n∧i∉L∧∀j < i,j∈L:=λm=>by
    induction m with
    |zero=>exact .inl λi hi=>by omega
    |succ m ihm=>
     rcases ihm with h |h
     ·by_cases hm:m < n∧m∉L
      ·exact .inr ⟨m,hm.1,hm.2,λj hj=>h j hj (by omega)⟩
      ·refine .inl λi hi Dz=>?_
       rcases eS.1 hi with h1 |h1
       ·exact h i h1 Dz
       ·subst h1;exact ep λh2=>hm ⟨Dz,h2⟩
     ·exact .inr h
   obtain⟨i,Dz,Xu,agB⟩:∃i,i < n∧i∉L∧∀j < i,j∈L:=by
    rcases Y7 n with h |h
    ·obtain⟨i,h1,h2⟩:=hex;exact absurd (h i h1 h1) h2
    ·exact h
   have PN:i < ops.size:=by omega
   have ho:ops[i]? =some ops[i]:=bp PN;have:i∈Region.ready .any ops listed:=GY.2 ⟨PN,by
    have:=fl.at_ i PN;cases hq:listed.getD i true with
    |false=>rfl
    |true=>exact absurd (this.1 hq) Xu,_,ho,λj hj=>(fl.ac2 (Tz ho j hj)).2 (agB j ((Bz D.anc ho).1 j hj))⟩
   rw[hr] at this;cases this
  ·obtain⟨PN,hun,o,ho,hed⟩:=GY.1 hi
   have Xu:i∉L:=λh=>by rw[(fl.at_ i PN).2 h] at hun;cases hun
   have acJ:∀j∈wT o,j∈L:=λj hj=>(fl.ac2 (Tz ho j hj)).1 (hed j hj)
   have ha:∀j∈As.getD i [],j∈L:=λj hj=>by
    obtain⟨m,hm,rfl |hjm⟩:=(Bz D.anc ho).2 j hj
    ·exact acJ _ hm
    ·exact X.down m (acJ m hm) j hjm
   have Dz:i < n:=by
    refine ep λOf=>?_
    rcases htl i PN with h |h
    ·exact Of h
    ·have:=Ex.len.List.Nodup.jc List.nodup_range (l':=L) λj hj=>ha j (h j (fj.1 hj))
     simp at this;omega
   obtain⟨o',Bb,af0,Jk,Jn,_,_,_⟩:=H.loc i (by rw[hn];exact Dz);rw[ho] at Bb;cases Bb;have A:=Zy D H hV hn X Dz Xu ha ho;have IQ:∀j∈As.getD i [],j < i:=D.lt i o ho;have Ta:i < es.length:=by rw[hn];exact Dz
   have Zm:∀c∈FL As C i,c < i:=λc hc=>IQ c (by simpa[FL] using (bP.1 (uu.1 hc)).2)
   have Th:∀(g:Option Nat) (m:Nat),get st0.vec m=none→get (ta g st0.vec) m=none:=λg m h=>by
    cases g with
    |none=>exact h
    |some k=>simp only[ta,iG];split;rfl;exact h
   have XD:∀m∈W.map (·.1),(∀q∈W,q.1=m→i∈q.2)→get (lR As C W V st0 (es.take i) i).box m=get (vX es st0.box L) m:=λm hm hcw=>by
    have VV:m∉Fc As i W:=λh=>by
     have key:∀{W':List (Nat×List Nat)},m∈Fc As i W'→∃q∈W',q.1=m∧FE As q.2 i=false:=λ{W'}=>by
      induction W' with
      |nil=>intro h;simp[Fc] at h
      |cons q W' ih=>
       intro h;simp only[Fc] at h;split at h
       ·obtain⟨q',h1,h2⟩:=ih h;exact⟨q',by simp[h1],h2⟩
       ·rename_i hq
        rcases aZ.1 h with rfl |h
        ·exact⟨q,by simp,rfl,by simpa using hq⟩
        ·obtain⟨q',h1,h2⟩:=ih h;exact⟨q',by simp[h1],h2⟩
     obtain⟨q,hq,hqm,hcf⟩:=key h;have hqC:∀c∈q.2,c∈C.filter (QJ W m):=λc hc=>by
      have h1:=D.wc;simp only[bE,cd] at h1;exact bP.2 ⟨h1 q hq c hc,DH.2 ⟨q,hq,hqm,hc⟩⟩
     have hci:=hqC i (hcw q hq hqm);obtain⟨sI,hpw⟩:=ua (D.ch m hm);obtain⟨pre,post,e⟩:=List.append_of_mem hci;rw[e] at hpw hqC;have:FE As q.2 i=true:=by
      simp only[FE,bE,cj,ew,cd];intro c hc;have hc:=hqC c hc;rw[aQ,aZ] at hc;rcases hc with hc |hc |hc
      ·exact .inl (.inr ((gv.1 hpw).2.2 c hc i (by simp)))
      ·exact .inl (.inl hc)
      ·exact .inr (List.rel_of_pairwise_cons (gv.1 hpw).2.1 hc)
     rw[this] at hcf;cases hcf
    simp only[lR];rw[CC (es:=es.take i) (es':=es) λj hj=>uc (IQ j hj),Cu (es:=es.take i) (es':=es) λj hj=>uc (Zm j hj),Dc _ λj _ hk=>(H.mkW hk).1 hm,Fo,ah VV,sa H hm,Ex.seen H (D.ch m hm) X VV Xu ha]
   have XC:∀k,(iQ es i).rm=some k→∀m∈W.map (·.1),get (lR As C W V st0 (es.take i) i).box m=get (vX es st0.box L) m:=λk hk m hm=>by
    have KG:=H.rm i Ta;rw[hk] at KG;refine XD m hm λq hq _=>?_
    have h1:=D.gone;unfold Dh at KG;split at KG
    ·split at KG
     ·rename_i c m' e
      subst e;simp only[Oj,aR,bE,cd] at h1;exact h1.1.1 q hq
     ·cases KG
    ·cases KG
   have acS:∀k,(iQ es i).rm=some k→∀m,m∉W.map (·.1)→∀cs,get (vX es st0.box L) m=some cs→AV.we (λ_=>true) (λq=>q != k) cs=true:=λk hk m hm cs je=>by
    have KG:=H.rm i Ta;rw[hk] at KG;obtain⟨c,rfl⟩:∃c,V=some (c,k):=by
     unfold Dh at KG;split at KG
     ·split at KG
      ·cases KG;exact⟨_,rfl⟩
      ·cases KG
     ·cases KG
    rw[mz H hm] at je;have hu:∀{t:Nat} (i j:Nat),(iQ es i).d=some t→(iQ es j).d=some t→i=j:=λi j h1 h2=>H.dd D.dst hn h1 h2
    by_cases hex:∃j∈L,makes es j m
    ·obtain⟨j,hj,hd⟩:=hex
     rw[HK hu _ hj hd] at je;exact H.al j (by rw[hn];exact X.lt j hj) cs je
    ·rw[Dc _ λj hj h=>hex ⟨j,hj,h⟩] at je
     obtain⟨q,hq,rfl⟩:=Fm je;simp only[Qu,aR,bE,cj,cd,lq,ew] at hV;rcases hV.1.2 _ hq with ⟨q,h2,h3⟩ |h2
     ·exact absurd (aG.2 ⟨q,h2,h3⟩) hm
     ·exact h2
   have sB:=af0.run (K:=K) A (OD L) (λd h1 h2=>⟨by
    rw[vW,AW _ λj hj hk=>?_]
    ·exact Th _ _ h2
    ·have:=H.dd D.dst hn hk.1 (Jk.trans h1);subst this;exact Xu hj,by
    simp only[lR];rw[B6 (es:=es.take i) (es':=es) λj hj=>uc (IQ j hj),AW _ λj hj hk=>?_]
    ·exact Th _ _ h2
    ·have:=H.dd D.dst hn hk.1 (Jk.trans h1);subst this;have:=IQ _ hj;omega⟩) (λd cs h1 h2=>by
    have Qx:makes es i d:=⟨h2,by rw[h1];rfl⟩;show get (vX es st0.box L) d=none;rw[mz H (H.mkW Qx).1,Dc _ λj hj hk=>?_]
    ·exact(H.mkW Qx).2
    ·have:=H.dd D.dst hn hk.1 h2;subst this;exact Xu hj) (λk hk m cs je=>by
    by_cases hm:m∈W.map (·.1)
    ·exact H.bx i Ta k hk m hm cs (by rw[XC k hk m hm];exact je)
    ·refine .inr ⟨get_none λx hx e=>hm (by rw[← e];exact H.bsW i x hx),GQ (acS k hk m hm cs je)⟩) (λk hk m je=>by
    by_cases hm:m∈W.map (·.1)
    ·exact H.bn i Ta k hk m hm (by rw[XC k hk m hm];exact je)
    ·exact get_none λx hx e=>hm (by rw[← e];exact H.bsW i x hx)) (λd cs hx hS=>by
    obtain⟨q,hq,hqd,hqi⟩:=H.bsQ i _ hx;have sI:∀q'∈W,q'.1=d→i∈q'.2:=λq' VK e=>by
     have h1:=H.un i Ta (d,cs) hx;exact h1 q' VK e
    have:=XD d (aG.2 ⟨q,hq,hqd⟩) sI;rw[hS] at this;exact this.symm)
   exact sB.wpOp ho R λa' w' p' R'=>ih (i::L) _ a' w' p' (by simp;omega) (.cons X Dz Xu ha) fl.cons (R'.eqv (HG D H hV hn X Dz Xu ha))
def CF (P:Program) (K:Ctx P) (l:List Oper) (st0:St) (As:List (List Nat)) (C:List Nat) (W:List (Nat×List Nat)) (V:Option (Nat×Nat)) (T:List Nat) (n:Nat) (Q:Exit→St→Prop) (es:List mN):Prop:=
 zm l.toArray n As C W V T→Qu V T W st0=true→Cert P l.toArray st0 As C W V T es→∀(a:Act) (w:World) (p:Pl),Rel K st0 a w p→wpAny P .any l.toArray (FZ K Q) l.toArray.size (Array.replicate l.toArray.size false) a w
theorem K7 {id:Nat} (As:List (List Nat)) (C:List Nat) (W:List (Nat×List Nat)) (V:Option (Nat×Nat)) (T:List Nat) (n:Nat) (hm:P.follows .mixedOrders=true) (hB:K6 l.toArray As C W V T n=true) (hV:Qu V T W st0=true) (h:CF P K l st0 As C W V T n Q []):Tr P K (.region id l.toArray true) st0 Q:=λa w p R=>
 wp_region_any hm (h (ag1 hB) hV ⟨λi hi=>by simp at hi,λi hi=>by simp at hi,λi hi=>by simp at hi,λi hi=>by simp at hi,λi hi=>by simp at hi,λi hi=>by simp at hi,λi hi=>by simp at hi⟩ a _ p R.drew)
def Yt:List mN→St→St
 |[],st=>st
 |e::es,st=>Yt es (e.on st)
theorem NP:∀(es:List mN) (e:mN) (st:St),Yt (es++[e]) st=e.on (Yt es st)
 |[],_,_=>rfl
 |_::es,e,st=>NP es e _
theorem HN.on {a b:St} (E:HN a b) (e:mN):HN (e.on a) (e.on b):=⟨E.nt,λt=>by simp only[mN.on,KS,jS,E.env],λm=>by simp only[mN.on,BA,uQ,E.box],λm=>by
 simp only[mN.on,AX];split
 ·rfl
 ·cases e.rm with
  |none=>exact E.vec m
  |some k=>simp only[ta,iG,E.vec]⟩
theorem HN.trans {a b c:St} (E:HN a b) (E':HN b c):HN a c:=⟨E'.nt.trans E.nt,λt=>(E'.env t).trans (E.env t),λt=>(E'.box t).trans (E.box t),λt=>(E'.vec t).trans (E.vec t)⟩
theorem HN.symm {a b:St} (E:HN a b):HN b a:=⟨E.nt.symm,λt=>(E.env t).symm,λt=>(E.box t).symm,λt=>(E.vec t).symm⟩
theorem FD {ops:Array Oper} (D:zm ops n As C W V T) (H:Cert P ops st0 As C W V T es) (hV:Qu V T W st0=true) (hn:es.length=n) (Ur:n≤ops.size):∀k,k≤n→HN (Bl V es st0 (List.range k).reverse) (Yt (es.take k) st0)
 |0,_=>by
  show HN (Bl V es st0 []) st0;rw[Lk];exact HN.refl _
 |k+1,h=>by
  have ih:=FD D H hV hn Ur k (by omega);have X:=X0 D Ur (k+1) h;rw[List.range_succ,List.reverse_append] at X ⊢;have X':=X0 D Ur k (by omega);have Zb:k < ops.size:=by omega
  have sV:=HG (i:=k) D H hV hn X' (by omega) (by simp) (λj hj=>by simpa using D.lt k _ (bp Zb) j hj);refine sV.symm.trans ?_;rw[List.take_add_one,ae (by omega),Option.toList_some,NP];have e1:iQ es k=es[k]:=by simp[iQ,show k < es.length by omega]
  rw[e1];exact ih.on _
theorem fu (hlen:es.length=n) (h:fc P K l.toArray (l.drop n) (Yt es st0) Q):CF P K l st0 As C W V T n Q es:=λD hV H a w p R=>by
 have Ur:n≤l.toArray.size:=by
  have ht:=D.tail;simp only[Nz,aR,bg] at ht;exact ht.1.1
 have:=Zw (K:=K) (Q:=Q) D H hV hlen (by simp) (by simp) (F:=Yt es st0) (by
  have:=FD D H hV hlen Ur n (aM n)
  rwa [fP (by omega)] at this) h n [] (Array.replicate l.toArray.size false) a w p (by simp) .nil ⟨by simp,λi hi=>by simp[Array.getD,show i < l.length from by simpa using hi]⟩ (by rw[Lk];exact R)
 rwa [show n+(l.toArray.size - n)=l.toArray.size by omega] at this
def yv (As:List (List Nat)) (C:List Nat) (W:List (Nat×List Nat)) (V:Option (Nat×Nat)) (T:List Nat) (i:Nat) (e:mN):Bool:=
 (match V with
  |none=>e.rm.isNone
  |some (c,m)=>(if c=i then e.rm==some m else e.rm.isNone)&&(e.v.wf (λ_=>true) (λk=>k != m)||((As.getD c []).contains i&&match e.d with |some d=>T.contains d |none=>false))&&(match e.al with |some cs=>AV.we (λ_=>true) (λk=>k != m) cs |none=>true))&&
 (C.contains i||e.bs.isEmpty)&&e.bs.all λx=>(W.any λq=>q.1==x.1&&q.2.contains i)&&W.all λq=>q.1 != x.1||q.2.contains i
theorem KZ {i:Nat} {e:mN} (h:yv As C W V T i e=true):e.rm=Dh V i∧(okV V e.v=true∨∃c m d,V=some (c,m)∧i∈As.getD c []∧e.d=some d∧d∈T)∧(∀cs,e.al=some cs→abu V cs=true)∧(∀x∈e.bs,∃q∈W,q.1=x.1∧i∈q.2)∧(i∉C→e.bs=[])∧(∀x∈e.bs,∀q∈W,q.1=x.1→i∈q.2):=by
 simp only[yv,aR,cj,cd,List.isEmpty_iff,bE,lq,ew] at h;obtain⟨⟨h1,h2⟩,h3⟩:=h;refine⟨?_,?_,?_,λx hx=>(h3 x hx).1,λhC=>h2.elim (λh=>absurd h hC) id,λx hx q hq e=>by
  have:=(h3 x hx).2 q hq;simpa[e] using this⟩
 ·cases V with
  |none=>simpa[Dh] using h1
  |some q=>
   obtain⟨c,m⟩:=q;simp only[aR] at h1;unfold Dh;by_cases e1:c=i
   ·have:=h1.1.1;rw[ai e1] at this;simp only;rw[ai e1];simpa using this
   ·have:=h1.1.1;rw[ah e1] at this;simp only;rw[ah e1];simpa using this
 ·cases V with
  |none=>exact .inl rfl
  |some q=>
   obtain⟨c,m⟩:=q;simp only[aR,cj,cd] at h1;rcases h1.1.2 with h4 |⟨h4,h5⟩
   ·exact .inl h4
   ·cases hd:e.d with
    |none=>rw[hd] at h5;cases h5
    |some d=>rw[hd] at h5;exact .inr ⟨c,m,d,rfl,h4,rfl,by simpa using h5⟩
 ·intro cs je
  cases V with
  |none=>rfl
  |some q=>
   obtain⟨c,m⟩:=q;simp only[aR] at h1;have:=h1.2;rw[je] at this;exact this
theorem Cert.add {ops:Array Oper} (H:Cert P ops st0 As C W V T es) {o:Oper} {e:mN} (ho:ops[es.length]? =some o) (hL:Loc P ops st0 (lR As C W V st0 es es.length) o e) (hd:e.d=o.dst) (Jn:∀d,e.al.isSome=true→e.d=some d→d∉W.map (·.1)∧get st0.box d=none) (hnv:∀d,e.nv.isSome=true→e.d=some d→get st0.vec d=none)
  (tv:yv As C W V T es.length e=true)
  (sX:∀k,e.rm=some k→∀m∈W.map (·.1),(∀cs,get (lR As C W V st0 es es.length).box m=some cs→get e.bs m=some (cs.map (AV.gi k))∨(get e.bs m=none∧cs.map (AV.gi k)=cs))∧(get (lR As C W V st0 es es.length).box m=none→get e.bs m=none)):Cert P ops st0 As C W V T (es++[e]):=by
 obtain⟨c1,c2,c3,c4,c5,c6⟩:=KZ tv;have lt:∀{i},i < (es++[e]).length→i < es.length∨i=es.length:=λh=>by simp at h;omega
 have eo:∀{i},i < es.length→iQ (es++[e]) i=iQ es i:=λh=>by simp[iQ,List.getD,ek h]
 have en:iQ (es++[e]) es.length=e:=by simp[iQ]
 have tk:∀{i},i≤es.length→(es++[e]).take i=es.take i:=λh=>nY h
 refine⟨λi hi=>?_,λi hi=>?_,λi hi=>?_,λi hi=>?_,λi hi=>?_,λi hi=>?_,λi hi=>?_⟩
 ·rcases lt hi with h |rfl
  ·rw[eo h,tk (by omega)];exact H.loc i h
  ·rw[en,tk (aM _),ll];exact⟨o,ho,hL,hd,Jn,hnv,c4,c5⟩
 ·rcases lt hi with h |rfl
  ·rw[eo h];exact H.rm i h
  ·rw[en];exact c1
 ·rcases lt hi with h |rfl
  ·rw[eo h];exact H.ok i h
  ·rw[en];exact c2
 ·rcases lt hi with h |rfl
  ·rw[eo h];exact H.al i h
  ·rw[en];exact c3
 ·rcases lt hi with h |rfl
  ·rw[eo h,tk (by omega)];exact H.bx i h
  ·rw[en,tk (aM _),ll];exact λk hk m hm=>(sX k hk m hm).1
 ·rcases lt hi with h |rfl
  ·rw[eo h,tk (by omega)];exact H.bn i h
  ·rw[en,tk (aM _),ll];exact λk hk m hm=>(sX k hk m hm).2
 ·rcases lt hi with h |rfl
  ·rw[eo h];exact H.un i h
  ·rw[en];exact c6
def Qf:List Nat→Nat→St→List (Nat×List AV)
 |[],_,_=>[]
 |b::W,m,S=>match get S.box b with
  |some cs=>if AV.we (λ_=>true) (λk=>k != m) cs=true then Qf W m S else(b,cs.map (AV.gi m))::Qf W m S
  |none=>Qf W m S
theorem Lt {S:St} {m:Nat}:∀(W:List Nat) (b:Nat),(∀cs,get S.box b=some cs→(get (Qf W m S) b=some (cs.map (AV.gi m))∧b∈W)∨(get (Qf W m S) b=none∧(b∈W→cs.map (AV.gi m)=cs)))∧(get S.box b=none→get (Qf W m S) b=none)
 |[],b=>⟨λcs _=>.inr ⟨rfl,λh=>by simp at h⟩,λ_=>rfl⟩
 |c::W,b=>by
  obtain⟨i1,i2⟩:=Lt (S:=S) (m:=m) W b;have lift:∀cs,get S.box b=some cs→(c=b→cs.map (AV.gi m)=cs)→(get (Qf W m S) b=some (cs.map (AV.gi m))∧b∈c::W)∨(get (Qf W m S) b=none∧(b∈c::W→cs.map (AV.gi m)=cs)):=λcs je hc=>by
   rcases i1 cs je with ⟨h1,h2⟩ |⟨h1,h2⟩
   ·exact .inl ⟨h1,by simp[h2]⟩
   ·refine .inr ⟨h1,λh=>?_⟩
    rcases aZ.1 h with h |h
    ·exact hc h.symm
    ·exact h2 h
  simp only[Qf];cases hc:get S.box c with
  |none=>exact⟨λcs je=>lift cs je (λe=>by subst e;rw[hc] at je;cases je),i2⟩
  |some rF=>
   simp only;split
   ·rename_i hw
    exact⟨λcs je=>lift cs je (λe=>by subst e;rw[hc] at je;cases je;exact GQ hw),i2⟩
   ·refine⟨λcs je=>?_,λhn=>?_⟩
    ·simp only[get]
     split
     ·rename_i e;subst e;rw[hc] at je;cases je;exact .inl ⟨rfl,by simp⟩
     ·rename_i e;exact lift cs je λe'=>absurd e' e
    ·simp only[get]
     split
     ·rename_i e;subst e;rw[hc] at hn;cases hn
     ·exact i2 hn
def Ty (P:Program) (ops:Array Oper) (st0 S:St) (o:Oper) (W:List (Nat×List Nat)):Option mN:=
 match pW ops S o with
 |none=>none
 |some false=>match o.dst with
  |some d=>if d < st0.nt then some ⟨some d,.ia [],none,[],none,none⟩ else none
  |none=>some ⟨none,.ia [],none,[],none,none⟩
 |some true=>match o.op with
  | .alloc t=>o.dst.bind λd=>(fZ P t).bind λz=>if(W.map (·.1)).contains d=true then(if d < st0.nt∧(get S.box d).isNone=true then some ⟨some d,.ptr d 0,none,[(d,z)],none,none⟩ else none) else if d < st0.nt∧(get st0.box d).isNone=true then some ⟨some d,.ptr d 0,some z,[],none,none⟩ else none
  | .box _ x=>o.dst.bind λd=>(gq (ca S x)).bind λz=>if(W.map (·.1)).contains d=true then(if d < st0.nt∧(get S.box d).isNone=true then some ⟨some d,.ptr d 0,none,[(d,z)],none,none⟩ else none) else if d < st0.nt∧(get st0.box d).isNone=true then some ⟨some d,.ptr d 0,some z,[],none,none⟩ else none
  | .buildSlice t n parts=>o.dst.bind λd=>if(get st0.vec d).isNone=true then(mA P S d t n (parts.toList.map λx=>(x.1,ca S x.2))).bind λcM=>match cM.vec with
    |(_,s)::_=>some ⟨some d,.d (.slice s.rows),none,[],none,none⟩
    |[]=>none else none
  | .call c=>match c.callee,c.args.toList,c.argTypes.toList with
   | .builtin .append,[x,y],[t,t']=>o.dst.bind λd=>match ca S x with
    | .dK=>if(get st0.vec d).isNone=true then(zl P S d t t' .dK (ca S y)).bind λcM=>match cM.vec with
     |(_,s)::_=>some ⟨some d,.vec d,none,[],some s,none⟩
     |[]=>none else none
    | .vec m=>if(get st0.vec d).isNone=true∧(get S.vec m).isSome=true then(zl P S d t t' (.vec m) (ca S y)).bind λcM=>match cM.vec with
     |(_,s)::_=>some ⟨some d,.vec d,none,Qf (W.map (·.1)) m S,some s,some m⟩
     |[]=>none else none
    |_=>none
   |_,_,_=>(gI P S o).bind λx=>match o.dst with
    |some d=>if d < st0.nt then some ⟨some d,x,none,[],none,none⟩ else none
    |none=>some ⟨none,x,none,[],none,none⟩
  | .lookup t x k px=>match ca S x with
   | .d (.mp e z rows)=>(rT P S t (.d (.mp e z rows)) (ca S k) px).bind λv=>match o.dst with
    |some d=>if d < st0.nt then some ⟨some d,v,none,[],none,none⟩ else none
    |none=>some ⟨none,v,none,[],none,none⟩
   |_=>none
  | .store t x y=>match o.dst,ca S x with
   |none,.ptr m k=>(gq (ca S y)).bind λl=>(get S.box m).bind λcs=>if fh P t=some l.length∧k+l.length≤cs.length then some ⟨none,.undef,none,[(m,JL cs l k)],none,none⟩ else none
   |_,_=>none
  |_=>(gI P S o).bind λx=>match o.dst with
   |some d=>if d < st0.nt then some ⟨some d,x,none,[],none,none⟩ else none
   |none=>some ⟨none,x,none,[],none,none⟩
theorem I' {S cM:St} {d:Nat} {t:TypeId} {n:Nat} {parts:List (Nat×AV)} (h:mA P S d t n parts=some cM):∃s,cM=St.put { S with vec:=(d,s)::S.vec } d (.vec d):=by
 unfold mA at h;split at h
 case h_2=>cases h
 rename_i e0 he;cases hz:fZ P e0 with
 |none=>simp[hz] at h
 |some zs=>
  simp only[hz,aa] at h;split at h
  case isFalse=>cases h
  rename_i hc;cases hr:tZ (λi=>some (i * zs.length,zs.length)) (List.replicate (n * zs.length) .undef) parts with
  |none=>simp[hr] at h
  |some r=>
   simp only[hr,aa] at h;cases Ff:uW r with
   |none=>simp[Ff] at h
   |some ds=>
    simp only[Ff,aa] at h;split at h
    ·cases h;exact⟨_,rfl⟩
    ·cases h
theorem Qk {S cM:St} {d:Nat} {t t':TypeId} {y:AV} (h:zl P S d t t' .dK y=some cM):∃s,cM=St.put { S with vec:=(d,s)::S.vec } d (.vec d):=by
 unfold zl at h;split at h
 case isFalse=>cases h
 split at h
 case h_2=>cases h
 rename_i e he;cases hz:fZ P e with
 |none=>simp[hz] at h
 |some zs=>
  simp only[hz,aa] at h;cases hr:rowsOf S y with
  |none=>simp[hr] at h
  |some ys=>
   simp only[hr,aa] at h;split at h
   case isFalse=>cases h
   split at h
   case isFalse=>cases h
   split at h
   ·cases h;exact⟨_,rfl⟩
   ·cases h
theorem Nj {S cM:St} {d m:Nat} {t t':TypeId} {y:AV} (h:zl P S d t t' (.vec m) y=some cM):∃s,cM=St.put { nt:=S.nt,env:=me (AV.gi m) S.env,box:=me (List.map (AV.gi m)) S.box,vec:=(d,s)::del S.vec m } d (.vec d):=by
 unfold zl at h;split at h
 case isFalse=>cases h
 split at h
 case h_2=>cases h
 rename_i e he;cases hz:fZ P e with
 |none=>simp[hz] at h
 |some zs=>
  simp only[hz,aa] at h;cases hr:rowsOf S y with
  |none=>simp[hr] at h
  |some ys=>
   simp only[hr,aa] at h;split at h
   case isFalse=>cases h
   cases hs:get S.vec m with
   |none=>simp[hs] at h
   |some s0=>
    simp only[hs,aa] at h;split at h
    case isFalse=>cases h
    cases h;exact⟨_,rfl⟩
theorem Tx {ops:Array Oper} {S:St} {o:Oper} {e:mN} (h:Ty P ops st0 S o W=some e):
  Loc P ops st0 S o e∧e.d=o.dst∧(∀d,e.al.isSome=true→e.d=some d→d∉W.map (·.1)∧get st0.box d=none)∧(∀d,e.nv.isSome=true→e.d=some d→get st0.vec d=none)∧(∀k,e.rm=some k→e.bs=Qf (W.map (·.1)) k S):=by
 unfold Ty at h;split at h
 ·cases h
 ·rename_i hg
  split at h
  ·rename_i d hd
   split at h
   case isFalse=>cases h
   rename_i iN;cases h;have:=Loc.skip (P:=P) (st0:=st0) hg (λd' h'=>by rw[hd] at h';cases h';exact iN);rw[hd] at this;exact⟨this,hd.symm,λ_ h1=>(by simp at h1),λ_ h1=>(by simp at h1),λ_ h1=>(by simp at h1)⟩
  ·rename_i hd
   cases h;have:=Loc.skip (P:=P) (st0:=st0) hg (λd' h'=>by rw[hd] at h';cases h');rw[hd] at this;exact⟨this,hd.symm,λ_ h1=>(by simp at h1),λ_ h1=>(by simp at h1),λ_ h1=>(by simp at h1)⟩
 ·rename_i hg
  have XM:((gI P S o).bind λx=>match o.dst with
    |some d=>if d < st0.nt then some ⟨some d,x,none,[],none,none⟩ else none
    |none=>some ⟨none,x,none,[],none,none⟩:Option mN)=some e→Loc P ops st0 S o e∧e.d=o.dst∧(∀d,e.al.isSome=true→e.d=some d→d∉W.map (·.1)∧get st0.box d=none)∧(∀d,e.nv.isSome=true→e.d=some d→get st0.vec d=none)∧(∀k,e.rm=some k→e.bs=Qf (W.map (·.1)) k S):=λh=>by
   cases hx:gI P S o with
   |none=>simp[hx] at h
   |some x=>
    simp only[hx,aa] at h;split at h
    ·rename_i d hd
     split at h
     case isFalse=>cases h
     rename_i iN;cases h;have:=Loc.val (P:=P) (st0:=st0) hg hx (λd' h'=>by rw[hd] at h';cases h';exact iN);rw[hd] at this;exact⟨this,hd.symm,λ_ h1=>(by simp at h1),λ_ h1=>(by simp at h1),λ_ h1=>(by simp at h1)⟩
    ·rename_i hd
     cases h;have:=Loc.val (P:=P) (st0:=st0) hg hx (λd' h'=>by rw[hd] at h';cases h');rw[hd] at this;exact⟨this,hd.symm,λ_ h1=>(by simp at h1),λ_ h1=>(by simp at h1),λ_ h1=>(by simp at h1)⟩
  split at h
  ·rename_i t ho
   cases hd:o.dst with
   |none=>simp[hd] at h
   |some d=>
    simp only[hd,aa] at h;cases hz:fZ P t with
    |none=>simp[hz] at h
    |some z=>
     simp only[hz,aa] at h;split at h
     ·rename_i hw
      split at h
      case isFalse=>cases h
      rename_i hc;cases h;exact⟨.T1 hg ho hz hd (by simpa using hc.2) hc.1,rfl,λd' h1 _=>(by simp at h1),λ_ h1=>(by simp at h1),λ_ h1=>(by simp at h1)⟩
     ·rename_i hw
      split at h
      case isFalse=>cases h
      rename_i hc;cases h;exact⟨.alloc hg ho hz hd (by simpa using hc.2) hc.1,rfl,λd' _ h2=>(by cases h2;exact⟨by rw[cd] at hw;exact hw,by simpa using hc.2⟩),λ_ h1=>(by simp at h1),λ_ h1=>(by simp at h1)⟩
  ·rename_i t x ho
   cases hd:o.dst with
   |none=>simp[hd] at h
   |some d=>
    simp only[hd,aa] at h;cases hz:gq (ca S x) with
    |none=>simp[hz] at h
    |some z=>
     simp only[hz,aa] at h;split at h
     ·rename_i hw
      split at h
      case isFalse=>cases h
      rename_i hc;cases h;exact⟨.adl hg ho hz hd (by simpa using hc.2) hc.1,rfl,λd' h1 _=>(by simp at h1),λ_ h1=>(by simp at h1),λ_ h1=>(by simp at h1)⟩
     ·rename_i hw
      split at h
      case isFalse=>cases h
      rename_i hc;cases h;exact⟨.box hg ho hz hd (by simpa using hc.2) hc.1,rfl,λd' _ h2=>(by cases h2;exact⟨by rw[cd] at hw;exact hw,by simpa using hc.2⟩),λ_ h1=>(by simp at h1),λ_ h1=>(by simp at h1)⟩
  ·rename_i t n parts ho
   cases hd:o.dst with
   |none=>simp[hd] at h
   |some d=>
    simp only[hd,aa] at h;split at h
    case isFalse=>cases h
    rename_i hv;cases hb:mA P S d t n (parts.toList.map λx=>(x.1,ca S x.2)) with
    |none=>simp[hb] at h
    |some cM=>
     obtain⟨s,rfl⟩:=I' hb;simp only[hb,aa,St.put] at h;cases h;exact⟨.data hg ho hd (by simpa using hv) hb,rfl,λ_ h1=>(by simp at h1),λ_ h1=>(by simp at h1),λ_ h1=>(by simp at h1)⟩
  ·rename_i c ho
   split at h
   ·rename_i x y t t' hc ha ht
    cases hd:o.dst with
    |none=>simp[hd] at h
    |some d=>
     simp only[hd,aa] at h;split at h
     case h_3=>cases h
     case h_2=>
      rename_i m hx;split at h
      case isFalse=>cases h
      rename_i hv;obtain⟨s0,hs0⟩:=aY.1 hv.2;cases hb:zl P S d t t' (.vec m) (ca S y) with
      |none=>simp[hb] at h
      |some cM=>
       obtain⟨s,rfl⟩:=Nj hb;simp only[hb,aa,St.put] at h;cases h;exact⟨.adp hg ho hc ha ht hd hx hs0 (by simpa using hv.1) (by rw[hx];exact hb),rfl,λ_ h1=>(by simp at h1),λd' _ h2=>(by cases h2;simpa using hv.1),λk h1=>(by cases h1;rfl)⟩
     rename_i hx;split at h
     case isFalse=>cases h
     rename_i hv;cases hb:zl P S d t t' .dK (ca S y) with
     |none=>simp[hb] at h
     |some cM=>
      obtain⟨s,rfl⟩:=Qk hb;simp only[hb,aa,St.put] at h;cases h;exact⟨.app hg ho hc ha ht hd hx (by simpa using hv) (by rw[hx];exact hb),rfl,λ_ h1=>(by simp at h1),λd' _ h2=>(by cases h2;simpa using hv),λ_ h1=>(by simp at h1)⟩
   ·exact XM h
  ·rename_i t x k px ho
   split at h
   case h_2=>cases h
   rename_i e' z rows hx;cases hl:rT P S t (.d (.mp e' z rows)) (ca S k) px with
   |none=>simp[hl] at h
   |some v=>
    simp only[hl,aa] at h;rw[← hx] at hl;split at h
    ·rename_i d hd
     split at h
     case isFalse=>cases h
     rename_i iN;cases h;have:=Loc.look (P:=P) (st0:=st0) hg ho hx hl (λd' h'=>by rw[hd] at h';cases h';exact iN);rw[hd] at this;exact⟨this,hd.symm,λ_ h1=>(by simp at h1),λ_ h1=>(by simp at h1),λ_ h1=>(by simp at h1)⟩
    ·rename_i hd
     cases h;have:=Loc.look (P:=P) (st0:=st0) hg ho hx hl (λd' h'=>by rw[hd] at h';cases h');rw[hd] at this;exact⟨this,hd.symm,λ_ h1=>(by simp at h1),λ_ h1=>(by simp at h1),λ_ h1=>(by simp at h1)⟩
  ·rename_i t x y ho
   split at h
   ·rename_i m k hd hx
    cases hl:gq (ca S y) with
    |none=>simp[hl] at h
    |some l=>
     simp only[hl,aa] at h;cases hb:get S.box m with
     |none=>simp[hb] at h
     |some cs=>
      simp only[hb,aa] at h;split at h
      case isFalse=>cases h
      rename_i hq;cases h;exact⟨.store hg ho hd hx hl hq.1 hb hq.2,hd.symm,λ_ h1=>(by simp at h1),λ_ h1=>(by simp at h1),λ_ h1=>(by simp at h1)⟩
   ·cases h
  ·exact XM h
def PX (P:Program) (ops:Array Oper) (st0:St) (As:List (List Nat)) (C:List Nat) (W:List (Nat×List Nat)) (V:Option (Nat×Nat)) (T:List Nat):List Oper→Nat→List mN→Option (List mN)
 |[],_,es=>some es
 |o::os,i,es=>(Ty P ops st0 (lR As C W V st0 es i) o W).bind λe=>if yv As C W V T i e=true then PX P ops st0 As C W V T os (i+1) (es++[e]) else none
theorem HD {ops:Array Oper}:∀{os:List Oper} {es es':List mN},(∀j o,os[j]? =some o→ops[es.length+j]? =some o)→PX P ops st0 As C W V T os es.length es=some es'→Cert P ops st0 As C W V T es→Cert P ops st0 As C W V T es'
 |[],es,es',_,h,H=>by simp[PX] at h;subst h;exact H
 |o::os,es,es',sB,h,H=>by
  simp only[PX] at h;cases he:Ty P ops st0 (lR As C W V st0 es es.length) o W with
  |none=>simp[he] at h
  |some e=>
   simp only[he,aa] at h;split at h
   case isFalse=>cases h
   rename_i tv;obtain⟨h1,h2,h3,h5,h4⟩:=Tx he;refine HD (es:=es++[e]) (λj o' hj=>?_) (by simpa using h) (H.add (by simpa using sB 0 o rfl) h1 h2 h3 h5 tv λk hk m hm=>?_)
   ·have:=sB (j+1) o' (by simpa using hj)
    simpa[Nat.add_assoc,Nat.add_comm 1 j] using this
   ·rw[h4 k hk]
    obtain⟨b1,b2⟩:=Lt (S:=lR As C W V st0 es es.length) (m:=k) (W.map (·.1)) m;exact⟨λcs je=>(b1 cs je).elim (λh=>.inl h.1) (λh=>.inr ⟨h.1,h.2 hm⟩),b2⟩
theorem bj (i k:Nat) {es':List mN} (hlen:es.length=i) (h:PX P l.toArray st0 As C W V T ((l.drop i).take k) i es=some es') (H:CF P K l st0 As C W V T n Q es'):CF P K l st0 As C W V T n Q es:=λD hV H0=>
 H D hV (HD (λj o hj=>by
  have hjk:j < k:=by
   have h2:j < ((l.drop i).take k).length:=(aj.1 hj).1;rw[dV] at h2;omega
  have h3:((l.drop i).take k)[j]? =some o:=hj;rw[dR hjk,dc] at h3;rw[hlen];simpa using h3) (by rw[hlen];exact h) H0)
def Sz (v:AV) (want:Bool):Bool:=match v with | .d (.bool b)=>b== !want | .ia []=>true |_=>false
def abw (V:Option (Nat×Nat)) (i:Nat):Bool:=match V with |some (c,_)=>c != i |none=>true
def X9 (l:List Oper) (As:List (List Nat)) (V:Option (Nat×Nat)) (nt:Nat) (es:List mN) (i:Nat):Option mN:=
 match l[i]? with
 |none=>none
 |some o=>match o.guard with
  |none=>none
  |some (j,want)=>if(As.getD i []).contains j=true then match (l[j]?).bind (·.dst),(iQ es j).d with
   |some t,some t'=>if t=t' then
     if Sz (iQ es j).v want=true then
      if abw V i=true then match o.dst with
       |some d=>if d < nt then some ⟨some d,.ia [],none,[],none,none⟩ else none
       |none=>some ⟨none,.ia [],none,[],none,none⟩
      else none
     else none
    else none
   |_,_=>none
  else none
def X8 (l:List Oper) (As:List (List Nat)) (V:Option (Nat×Nat)) (nt:Nat):Nat→Nat→List mN→Option (List mN)
 |0,_,es=>some es
 |k+1,i,es=>(X9 l As V nt es i).bind λe=>X8 l As V nt k (i+1) (es++[e])
theorem Cert.dd' {ops:Array Oper} (H:Cert P ops st0 As C W V T es) (hd:PZ ops n=true) (hn:es.length≤n) {t i j:Nat} (h1:(iQ es i).d=some t) (h2:(iQ es j).d=some t):i=j:=by
 have lt:∀{i},(iQ es i).d=some t→i < es.length:=λ{i} h=>by
  rcases iU i es.length with hl |hl
  ·exact hl
  ·rw[vZ hl] at h;exact absurd h (by simp[default])
 obtain⟨o,a1,_,a2,_⟩:=H.loc i (lt h1);obtain⟨o',b1,_,b2,_⟩:=H.loc j (lt h2);simp only[PZ,bE,fj,cj,ew] at hd;rcases hd i (by have:=lt h1;omega) j (by have:=lt h2;omega) with h |h
 ·exact h
 ·rw[a1,b1] at h
  simp only[aa,←a2,←b2,h1,h2] at h;simp at h
theorem U3 (D:zm l.toArray n As C W V T) (H:Cert P l.toArray st0 As C W V T es) (hle:es.length≤n) {e:mN} (h:X9 l As V st0.nt es es.length=some e):Cert P l.toArray st0 As C W V T (es++[e]):=by
 unfold X9 at h;split at h
 ·cases h
 rename_i o ho;split at h
 ·cases h
 rename_i j want hgd;split at h
 case isFalse=>cases h
 rename_i hj;split at h
 case h_2=>cases h
 rename_i t t' ht Up;split at h
 case isFalse=>cases h
 rename_i htt;subst htt;split at h
 case isFalse=>cases h
 rename_i hv;split at h
 case isFalse=>cases h
 rename_i hV;have S3:(lR As C W V st0 es es.length).look t=(iQ es j).v:=by
  simp only[St.look,lR];rw[Ag (λi j h1 h2=>H.dd' D.dst hle h1 h2) _ (by simpa using hj) Up];rfl
 have hg:pW l.toArray (lR As C W V st0 es es.length) o=some false:=by
  unfold pW;rw[hgd];simp only[hD];rw[ht];simp only;rw[S3];unfold Sz at hv;split at hv
  ·rename_i b hb;rw[hb];cases b <;> cases want <;> simp_all
  ·rename_i hb;rw[hb]
  ·cases hv
 have tv:∀d:Option Nat,yv As C W V T es.length ⟨d,.ia [],none,[],none,none⟩=true:=λd=>by
  unfold yv;cases V with
  |none=>simp
  |some q=>
   obtain⟨c,m⟩:=q;have:c≠es.length:=by simpa[abw] using hV
   simp[this,AV.wf,AV.we]
 split at h
 ·rename_i d hd
  split at h
  case isFalse=>cases h
  rename_i nW;cases h;have hL:Loc P l.toArray st0 (lR As C W V st0 es es.length) o ⟨o.dst,.ia [],none,[],none,none⟩:=.skip hg (λd' h'=>by rw[hd] at h';cases h';exact nW);rw[hd] at hL;exact H.add (by simpa using ho) hL hd.symm (λ_ h=>by simp at h) (λ_ h=>by simp at h) (tv _) (λ_ h=>by simp at h)
 ·rename_i hd
  cases h;have hL:Loc P l.toArray st0 (lR As C W V st0 es es.length) o ⟨o.dst,.ia [],none,[],none,none⟩:=.skip hg (λd' h'=>by rw[hd] at h';cases h');rw[hd] at hL;exact H.add (by simpa using ho) hL hd.symm (λ_ h=>by simp at h) (λ_ h=>by simp at h) (tv _) (λ_ h=>by simp at h)
theorem JG (D:zm l.toArray n As C W V T):∀(k:Nat) {es es':List mN},es.length+k≤n→X8 l As V st0.nt k es.length es=some es'→Cert P l.toArray st0 As C W V T es→Cert P l.toArray st0 As C W V T es'
 |0,es,es',_,h,H=>by simp only[X8] at h;cases h;exact H
 |k+1,es,es',hle,h,H=>by
  simp only[X8] at h;cases he:X9 l As V st0.nt es es.length with
  |none=>rw[he] at h;cases h
  |some e=>
   rw[he] at h;simp only[aa] at h;exact JG D k (es:=es++[e]) (by simp;omega) (by simpa using h) (U3 D H (by omega) he)
def uZ (d:Option Nat):mN:=⟨d,.ia [],none,[],none,none⟩
def U2 (l:List Oper) (As:List (List Nat)) (V:Option (Nat×Nat)) (nt:Nat):List (Option Nat)→Nat→List mN→Bool
 |[],_,_=>true
 |d::ds,i,es=>(match X9 l As V nt es i with |some e=>e.d==d |none=>false)&&U2 l As V nt ds (i+1) (es++[uZ d])
theorem Q6 {nt i:Nat} {e:mN} (h:X9 l As V nt es i=some e):e=uZ e.d:=by
 unfold X9 at h;split at h
 ·cases h
 split at h
 ·cases h
 split at h
 case isFalse=>cases h
 split at h
 case h_2=>cases h
 split at h
 case isFalse=>cases h
 split at h
 case isFalse=>cases h
 split at h
 case isFalse=>cases h
 split at h
 ·split at h
  ·cases h;rfl
  ·cases h
 ·cases h;rfl
theorem JH {nt:Nat}:∀{ds:List (Option Nat)} {i:Nat} {es:List mN},U2 l As V nt ds i es=true→X8 l As V nt ds.length i es=some (es++ds.map uZ)
 |[],i,es,_=>by simp[X8]
 |d::ds,i,es,h=>by
  simp only[U2,aR] at h;obtain⟨h1,h2⟩:=h;split at h1
  ·rename_i e he
   have h3:e=uZ d:=by rw[Q6 he];congr 1;simpa using h1
   subst h3;simp only[cQ,X8,he,aa];rw[JH h2];simp
  ·cases h1
theorem mw (i nt:Nat) (ds:List (Option Nat)) (hlen:es.length=i) (zX:st0.nt=nt) (hle:i+ds.length≤n) (h:U2 l As V nt ds i es=true) {es':List mN} (he:es++ds.map uZ=es') (H:CF P K l st0 As C W V T n Q es'):CF P K l st0 As C W V T n Q es:=λD hV H0=>by
 subst hlen;subst zX;subst he;exact H D hV (JG D ds.length hle (JH h) H0)
theorem iu (i:Nat) {f:FuncId} {bx:List (List AV)} {fb:List AV} {res:AV} {bx':List (List AV)} {o:Oper} {c:Call} {y:Operand} {d:Nat} (σ:List Nat) (F:dY P f bx fb res bx') (hlen:es.length=i) (ho0:l[i]? =some o) (ho:o.op=.call c) (hc:c.callee=.value y) (hd:o.dst=some d)
  (jz:∀(args:Array Value) (w:World),(callFunc f args).run P w=.ok (.enter f args) w)
  (tX:pW l.toArray (lR As C W V st0 es i) o=some true∧d < st0.nt∧σ.Nodup∧(∃caps,ca (lR As C W V st0 es i) y=.fn f caps∧(c.args.toList.map (ca (lR As C W V st0 es i))++caps).map (AV.view [] [] σ)=fb)∧lI (lR As C W V st0 es i) [] σ σ bx∧bx.length=bx'.length∧yv As C W V T i ⟨some d,res.back [] σ,none,iw [] σ σ bx' [],none,none⟩=true)
  (H:CF P K l st0 As C W V T n Q (es++[⟨some d,res.back [] σ,none,iw [] σ σ bx' [],none,none⟩])):CF P K l st0 As C W V T n Q es:=λD hV H0=>by
 obtain⟨hg,nW,hσ,eZ,sX,hl,tv⟩:=tX;subst hlen;exact H D hV (H0.add (by simpa using ho0) (.call σ F hg ho hc hd jz nW hσ eZ sX hl) hd.symm (λ_ h=>(by simp at h)) (λ_ h=>(by simp at h)) tv (λ_ h=>(by simp at h)))
end
end Go.Vl
