/- The value logic: what one operation leads to, and that what it reads is all that it hangs on. Conditions: none. -/
import Derived.Test.YtbnfogbfphakmaaGreatDoorVmO
set_option linter.unusedSimpArgs false
set_option linter.unusedVariables false
namespace Go.Vl
open Go Go.RowKit
section
variable {P:Program} {K:Ctx P} {ops:Array Oper} {st st':St} {a:Act} {w:World} {p:Pl}
def OpR (P:Program) (K:Ctx P) (ops:Array Oper) (o:Oper) (st st':St):Prop:=
 ∀(next:Act→World→Prop) (Q:Exit→Act→World→Prop) (a:Act) (w:World) (p:Pl),Rel K st a w p→(∀a' w' p',Rel K st' a' w' p'→next a' w')→
  if Region.wanted o (yielded ops a.tmps) then o.wp P a w next Q∨(o.asks P a w∧LetsOut Q) else next (a.put o.dst undef) w
theorem OpR.tops {o:Oper} {l:List Oper} {Q:Exit→St→Prop} (h:OpR P K ops o st st') (H:Az P K ops l st' Q):Az P K ops (o::l) st Q:=by
 intro a w p R
 unfold wpList
 exact h _ _ a w p R fun a' w' p' R'=>H a' w' p' R'
theorem OpR.wpOp {i:Nat} {o:Oper} {next:Act→World→Prop} {Q:Exit→Act→World→Prop} (hi:ops[i]? =some o) (h:OpR P K ops o st st') (R:Rel K st a w p) (H:∀a' w' p',Rel K st' a' w' p'→next a' w'):wpOp P ops Q i next a w:=by
 unfold Go.wpOp
 simp only[hi]
 exact h _ _ a w p R H
theorem S7 {o:Oper} {x:AV} (hg:gdA ops st o=some true) (h:vstep P st o=some x) (hd:∀d,o.dst=some d→d < st.nt):OpR P K ops o st (match o.dst with |some d=>st.put d x |none=>st):=by
 intro next Q a w p R H
 rw[A9 R hg,if_pos rfl]
 refine .inl ?_
 obtain⟨v,h1,h2⟩:=Dr R h
 unfold Oper.wp
 rw[h1]
 refine H _ _ p (R.puto h2 ?_)
 cases hq:o.dst with
 |none=>rfl
 |some d=>simp[hd d hq]
theorem I1 {o:Oper} (hg:gdA ops st o=some false) (hd:∀d,o.dst=some d→d < st.nt):OpR P K ops o st (match o.dst with |some d=>st.put d (.tup []) |none=>st):=by
 intro next Q a w p R H
 rw[A9 R hg,if_neg (by simp)]
 cases hq:o.dst with
 |none=>rw[hq] at H;exact H _ _ p (by simpa[Act.put] using R)
 |some d=>rw[hq] at H;exact H _ _ p (R.put (RA.tup (l:=[]) (cs:=#[]) rfl (fun i a v ha=>by simp at ha)) (hd d hq))
theorem C5 {o:Oper} (hg:gdA ops st o=some true) (h:step P st o=some st'):OpR P K ops o st st':=by
 intro next Q a w p R H
 rw[A9 R hg,if_pos rfl]
 refine .inl ?_
 obtain⟨w',p',h1⟩:=F5 R h
 unfold Oper.wp
 rcases h1 with ⟨v,h1,R'⟩ |⟨h1,R'⟩
 ·rw[h1];exact H _ _ p' R'
 ·rw[h1];exact H _ _ p' R'
structure Eqv (st st':St):Prop where
 nt:st'.nt=st.nt
 env:∀t,get st'.env t=get st.env t
 box:∀n,get st'.box n=get st.box n
 vec:∀n,get st'.vec n=get st.vec n
theorem Eqv.refl (st:St):Eqv st st:=⟨rfl,fun _=>rfl,fun _=>rfl,fun _=>rfl⟩
theorem Rel.eqv (R:Rel K st a w p) (E:Eqv st st'):Rel K st' a w p where
 lb:=by rw[R.lb];funext n;simp[St.lb,E.box]
 lv:=by rw[R.lv];funext n;simp[St.lv,E.vec]
 dfr:=R.dfr
 nt:=by rw[R.nt,E.nt]
 ntl:=by rw[E.nt];exact R.ntl
 ion:=R.ion
 size:=R.size
 os:=R.os
 tape:=R.tape
 dr:=R.dr
 output:=R.output
 old:=R.old
 env:=fun t x h=>R.env t x (by rw[← E.env,h])
 box:=fun n cs h=>R.box n cs (by rw[← E.box,h])
 vec:=fun n s h=>R.vec n s (by rw[← E.vec,h])
 dbb:=R.dbb
 dbv:=R.dbv
 dvv:=R.dvv
theorem QT {lb lv:Nat→Bool} {n:Nat} (hn:lv n=false) (rows:D) (x:AV):x.wf lb lv=true→x.frz n rows=x:=by
 refine AV.rec (motive_1:=fun x=>x.wf lb lv=true→x.frz n rows=x) (motive_2:=fun l=>AV.wfL lb lv l=true→AV.frzL n rows l=l) ?_ ?_ ?_ ?_ ?_ ?_ ?_ ?_ ?_ ?_ ?_ ?_ ?_ ?_ ?_ ?_ x
 all_goals intros
 all_goals simp_all [AV.wf,AV.wfL,AV.frz,AV.frzL]
 all_goals intro e;subst e;simp_all
theorem L6 {t:TypeId} {n d:Nat} {parts:List (Nat×AV)} {s:VS} (h:Bf P st d t n parts=some (St.put { st with vec:=(d,s)::st.vec } d (.vec d))):s.isM=false:=by
 unfold Bf at h
 split at h
 case h_2=>cases h
 rename_i e hu
 cases hz:Aw P e with
 |none=>simp[hz] at h
 |some zs=>
  simp only[hz,Option.bind_some] at h
  split at h
  case isFalse=>cases h
  rename_i hb
  cases hf:DZ (fun i=>some (i * zs.length,zs.length)) (List.replicate (n * zs.length) .undef) parts with
  |none=>rw[hf] at h;simp at h
  |some r=>
   rw[hf] at h
   simp only[Option.bind_some] at h
   cases hds:EC r with
   |none=>simp[hds] at h
   |some ds=>
    simp only[hds,Option.bind_some] at h
    cases hvd:get st.vec d with
    |some _=>simp[hvd] at h
    |none=>
     simp only[hvd,Option.some.injEq,St.put,St.mk.injEq,List.cons.injEq,Prod.mk.injEq,true_and,and_true] at h
     rw[← h]
     exact CK hb.2.2.2
theorem L8 (R:Rel K st a w p) {o:Oper} {t:TypeId} {n d:Nat} {parts:Array (Nat×Operand)} (ho:o.op=.buildSlice t n parts) (hd:o.dst=some d) {s:VS}
  (h:Bf P st d t n (parts.toList.map fun (i,x)=>(i,opd st x))=some (St.put { st with vec:=(d,s)::st.vec } d (.vec d))) (hv:get st.vec d=none):
  ∃w' p',∃v,(execOp a.eval o).run P w=.ok (.value v) w'∧Rel K (st.put d (.d (.slice s.rows))) (a.put o.dst v) w' p':=by
 obtain⟨w',p',h1⟩:=DN R ho hd h
 have key:∀{b:Act},Rel K (St.put { st with vec:=(d,s)::st.vec } d (.vec d)) b w' p'→∃p2,Rel K (st.put d (.d (.slice s.rows))) b w' p2:=fun {b} R1=>by
  obtain⟨p2,R2,_⟩:=R1.frz d
  refine⟨p2,R2.eqv ?_⟩
  have hl:st.lv d=false:=by simp[St.lv,hv]
  have hget:get (St.put { st with vec:=(d,s)::st.vec } d (.vec d)).vec d=some s:=by simp[St.put,get]
  have hM:=L6 h
  have hdt:s.dat=.slice s.rows:=by unfold VS.dat;rw[hM,if_neg (by decide)]
  unfold St.frz
  rw[hget]
  simp only[hdt]
  refine⟨rfl,fun t=>?_,fun m=>?_,fun m=>?_⟩
  ·simp only[St.put,BF,get]
   by_cases e:d=t
   ·simp[e,AV.frz]
   ·simp only[if_neg e]
    cases hx:get st.env t with
    |none=>rfl
    |some x=>simp only[Option.map_some];rw[QT hl _ x ((R.env t x hx).names (fun n hn=>(R.lbi n).1 hn) (fun n hn=>(R.lvi n).1 hn))]
  ·simp only[St.put,BF]
   cases hx:get st.box m with
   |none=>rfl
   |some cs=>
    simp only[Option.map_some]
    congr 1
    obtain⟨⟨vs,ty,g1,g2,g3,_⟩,_⟩:=R.box m cs hx
    refine(List.ext_getElem? fun i=>?_).symm
    rw[List.getElem?_map]
    cases hc:cs[i]? with
    |none=>rfl
    |some c=>
     have hi:i < vs.size:=by have:=(List.getElem?_eq_some_iff.1 hc).1;omega
     simp only[Option.map_some]
     rw[QT hl _ c ((g3 i c _ hc (Array.getElem?_eq_getElem hi)).names (fun n hn=>(R.lbi n).1 hn) (fun n hn=>(R.lvi n).1 hn))]
  ·simp only[St.put,Av,get]
   by_cases e:d=m
   ·subst e;simp[hv]
   ·simp[e]
 rcases h1 with ⟨v,h1,R1⟩ |⟨h1,R1⟩
 ·obtain⟨p2,R2⟩:=key R1
  exact⟨w',p2,v,h1,R2⟩
 ·exfalso
  simp only[execOp,ho] at h1
  simp only[Sem.run_bind] at h1
  generalize (Instr.buildSlice t n (parts.map fun (i,x)=>(i,a.eval x))).run P w=q at h1
  cases q <;> simp[Result.andThen] at h1
theorem QU {o:Oper} {t:TypeId} {n d:Nat} {parts:Array (Nat×Operand)} {s:VS} (hg:gdA ops st o=some true) (ho:o.op=.buildSlice t n parts) (hd:o.dst=some d)
  (h:Bf P st d t n (parts.toList.map fun (i,x)=>(i,opd st x))=some (St.put { st with vec:=(d,s)::st.vec } d (.vec d))) (hv:get st.vec d=none):OpR P K ops o st (st.put d (.d (.slice s.rows))):=by
 intro next Q a w p R H
 rw[A9 R hg,if_pos rfl]
 refine .inl ?_
 obtain⟨w',p',v,h1,R'⟩:=L8 R ho hd h hv
 unfold Oper.wp
 rw[h1];exact H _ _ p' R'
theorem GQ (υ σ0:List Nat):∀(σ:List Nat) (bx:List (List AV)) (l:List (Nat×List AV)),A1 υ σ0 σ bx l=A1 υ σ0 σ bx []++l
 |[],[],l=>rfl
 |[],_::_,l=>rfl
 |_::_,[],l=>rfl
 |n::σ,c::bx,l=>by simp only[A1,List.cons_append,GQ υ σ0 σ bx l]
theorem PF {f:FuncId} {bx:List (List AV)} {vx:List VS} {cargs:List AV} {res:AV} {bx':List (List AV)} {vx':List VS} {o:Oper} {c:Call} {y:Operand} {d:Nat} (σ τ υ:List Nat) (C:DI P f bx vx cargs res bx' vx') (ho:o.op=.call c) (hc:c.callee=.value y) (hd:o.dst=some d)
  (hcall:∀(args:Array Value) (w:World),(callFunc f args).run P w=.ok (.enter f args) w) (hH:LD st ops o c y f σ τ υ bx vx cargs bx' vx' d):
  OpR P K ops o st ((CN st σ τ υ bx' vx').put d (res.back υ σ)):=by
 intro next Q a w p R H
 rw[A9 R hH.gd,if_pos rfl]
 refine .inl ?_
 unfold Oper.wp
 obtain⟨caps,hf,hargs⟩:=hH.fn
 obtain⟨cs,hy,hl,hh⟩:=LE R hf
 rw[HH ho hc hy hcall]
 show Calls P f (c.args.map a.eval++cs) w _
 refine(KQ C R hH ⟨caps,hl,hh,hargs⟩).mono fun e w' ⟨v,p',he,R',hv⟩=>?_
 subst he
 show next (a.put o.dst v) w'
 rw[hd]
 exact H _ _ _ (R'.put hv hH.dn)
theorem QV {f:FuncId} {bx:List (List AV)} {cargs:List AV} {res:AV} {bx':List (List AV)} {o:Oper} {c:Call} {y:Operand} {d:Nat} (σ:List Nat) (C:Ac P f bx cargs res bx') (hg:gdA ops st o=some true) (ho:o.op=.call c) (hc:c.callee=.value y) (hd:o.dst=some d)
  (hcall:∀(args:Array Value) (w:World),(callFunc f args).run P w=.ok (.enter f args) w) (hdn:d < st.nt) (hσ:σ.Nodup) (hargs:∃caps,opd st y=.fn f caps∧(c.args.toList.map (opd st)++caps).map (AV.view [] [] σ)=cargs) (hbx:Bu st [] σ σ bx) (hl:bx.length=bx'.length):
  OpR P K ops o st ({ st with box:=A1 [] σ σ bx' st.box }.put d (res.back [] σ)):=
 PF σ [] [] C ho hc hd hcall ⟨hg,hdn,hσ,List.nodup_nil,List.nodup_nil,hargs,hbx,trivial,hl,rfl,fun n hn=>by simp at hn⟩
structure Agr (ops:Array Oper) (o:Oper) (S st:St):Prop where
 nt:st.nt=S.nt
 vec:∀n s,get S.vec n=some s→get st.vec n=some s
 look:∀t∈o.looksAt ops,st.look t=S.look t
 box:∀n cs,get S.box n=some cs→get st.box n=some cs
variable {o:Oper} {S:St}
theorem Agr.opd (A:Agr ops o S st) {x:Operand} (hx:x∈o.op.operands.toList):opd st x=opd S x:=by
 cases x with
 |tmp t=>
  refine A.look t ?_
  unfold Oper.looksAt
  exact List.mem_append.2 (.inl (List.mem_filterMap.2 ⟨_,hx,rfl⟩))
 |_=>rfl
theorem Agr.gd (A:Agr ops o S st):gdA ops st o=gdA ops S o:=by
 unfold gdA
 cases hg:o.guard with
 |none=>rfl
 |some g=>
  obtain⟨j,want⟩:=g
  simp only
  cases ht:(ops[j]?).bind (·.dst) with
  |none=>rfl
  |some t=>
   have:st.look t=S.look t:=A.look t (by unfold Oper.looksAt;exact List.mem_append.2 (.inr (by simp[hg,ht])))
   simp only[this]
theorem Agr.rows (A:Agr ops o S st) {x:AV} {r:List (List D)} (h:rowsOf S x=some r):rowsOf st x=some r:=by
 cases x with
 |vec n=>
  simp only[rowsOf] at h ⊢
  cases hb:get S.vec n with
  |none=>simp[hb] at h
  |some s=>rw[A.vec n s hb];rwa [hb] at h
 |cut n z lo k=>
  simp only[rowsOf] at h ⊢
  cases hb:get S.vec n with
  |none=>simp[hb] at h
  |some s=>rw[A.vec n s hb];rwa [hb] at h
 |d y=>cases y <;> exact h
 |_=>exact h
theorem Agr.len (A:Agr ops o S st) {P:Program} {t:TypeId} {x:AV} {n:Int} (h:KC P S t x=some n):KC P st t x=some n:=by
 unfold KC at h ⊢
 split at h
 ·split at h
  ·exact h
  ·exact h
  ·rename_i hnc
   cases hr:rowsOf S x with
   |none=>rw[hr] at h;cases h
   |some r=>
    rw[hr] at h
    rw[A.rows hr]
    exact h
 ·exact h
 ·exact h
 ·exact h
 ·cases h
theorem Agr.cutV (A:Agr ops o S st) {P:Program} {e:TypeId} {n lo0 k0:Nat} {lo hi mx:Option Int} {y:AV} (h:Vl.cutV P S e n lo0 k0 lo hi mx=some y):Vl.cutV P st e n lo0 k0 lo hi mx=some y:=by
 unfold Vl.cutV at h ⊢
 cases hb:get S.vec n with
 |none=>rw[hb] at h;cases h
 |some s=>rw[hb] at h;rw[A.vec n s hb];exact h
theorem Agr.cut (A:Agr ops o S st) {P:Program} (t:TypeId) (x:AV) (lo hi mx:Option Int) {y:AV} (h:Mx P S t x lo hi mx=some y):Mx P st t x lo hi mx=some y:=by
 unfold Mx at h ⊢
 split at h
 ·split at h
  ·rename_i n
   cases hb:get S.vec n with
   |none=>rw[hb] at h;cases h
   |some s=>rw[hb] at h;simp only[A.vec n s hb];exact A.cutV h
  ·rename_i n z lo0 k0
   cases hb:get S.vec n with
   |none=>rw[hb] at h;cases h
   |some s=>
    rw[hb] at h;simp only[A.vec n s hb]
    simp only[Option.bind_some] at h ⊢
    split at h
    ·rename_i hz;rw[if_pos hz];exact A.cutV h
    ·cases h
  ·rename_i h1 h2
   cases hr:rowsOf S x with
   |none=>rw[hr] at h;cases h
   |some r=>
    have hr':=A.rows hr
    rw[hr] at h
    cases x with
    |vec n=>exact absurd rfl (h1 n)
    |cut n z a b=>exact absurd rfl (h2 n z a b)
    |_=>simp only;rw[hr'];exact h
 ·exact h
 ·cases h
theorem Agr.ixp (A:Agr ops o S st) {P:Program} {t:TypeId} {y x:AV} {i:Int} (h:Dq P t y i S=some x):Dq P t y i st=some x:=by
 unfold Dq at h ⊢
 split at h
 ·split at h
  case isFalse=>cases h
  rename_i h0
  rw[if_pos h0]
  split at h
  ·exact h
  ·exact h
  ·rename_i n
   cases hb:get S.vec n with
   |none=>rw[hb] at h;cases h
   |some s=>rw[hb] at h;rw[A.vec n s hb];exact h
  ·exact h
  ·cases h
 ·exact h
 ·cases h
theorem Agr.load (A:Agr ops o S st) {t:TypeId} {x y:AV} (h:DG P S t x=some y):DG P st t x=some y:=by
 cases x with
 |ptr n k=>
  simp only[DG] at h ⊢
  cases hb:get S.box n with
  |none=>simp[hb] at h
  |some cs=>rw[A.box n cs hb];rwa [hb] at h
 |vptr n z i k=>
  simp only[DG] at h ⊢
  cases hb:get S.vec n with
  |none=>simp[hb] at h
  |some s=>rw[A.vec n s hb];rwa [hb] at h
 |_=>simpa only[DG] using h
theorem Agr.vstep (A:Agr ops o S st) {x:AV} (h:vstep P S o=some x):Vl.vstep P st o=some x:=by
 have AO:∀y∈o.op.operands.toList,Vl.opd st y=Vl.opd S y:=fun y hy=>A.opd hy
 have AL:=fun (t:TypeId) (x y:AV) (h:DG P S t x=some y)=>A.load h
 unfold Vl.vstep at h ⊢
 cases ho:o.op
 all_goals (try simp only[ho] at h ⊢)
 all_goals (try (simp only[ho,Op.operands] at AO))
 all_goals (try (cases h;done))
 case move y=>rwa [AO y (by simp)]
 case assign y=>rwa [AO y (by simp)]
 case pick c y z=>rwa [AO c (by simp),AO y (by simp),AO z (by simp)]
 case nilCheck y=>rwa [AO y (by simp)]
 case load t y=>rw[AO y (by simp)];exact AL _ _ _ h
 case fieldAddr s y f=>rwa [AO y (by simp)]
 case field s y f=>rwa [AO y (by simp)]
 case indexAddr t y i=>
  rw[AO y (by simp),AO i (by simp)]
  cases hi:CU (Vl.opd S i) with
  |none=>rw[hi] at h;cases h
  |some n=>rw[hi] at h;exact A.ixp h
 case index t y i=>rwa [AO y (by simp),AO i (by simp)]
 case extract y i=>rwa [AO y (by simp)]
 case binOp op t y z t'=>rwa [AO y (by simp),AO z (by simp)]
 case unOp op t y=>rwa [AO y (by simp)]
 case convert s d y=>rwa [AO y (by simp)]
 case build t parts=>
  have e:(parts.toList.map fun x=>(x.1,Vl.opd st x.2))=parts.toList.map fun x=>(x.1,Vl.opd S x.2):=List.map_congr_left fun q hq=>by
   rw[AO q.2 (List.mem_map.2 ⟨q,hq,rfl⟩)]
  rw[e];exact h
 case slice t y lo hi mx=>
  have e1:lo.map (Vl.opd st)=lo.map (Vl.opd S):=by cases lo with |none=>rfl |some q=>simp[AO q (by simp)]
  have e2:hi.map (Vl.opd st)=hi.map (Vl.opd S):=by cases hi with |none=>rfl |some q=>simp[AO q (by simp)]
  have e3:mx.map (Vl.opd st)=mx.map (Vl.opd S):=by cases mx with |none=>rfl |some q=>simp[AO q (by simp)]
  rw[e1,e2,e3,AO y (by simp)]
  cases h1:Fh (lo.map (Vl.opd S)) with
  |none=>rw[h1] at h;cases h
  |some l=>
   cases h2:Fh (hi.map (Vl.opd S)) with
   |none=>rw[h1,h2] at h;cases h
   |some u=>
    cases h3:Fh (mx.map (Vl.opd S)) with
    |none=>rw[h1,h2,h3] at h;cases h
    |some m=>rw[h1,h2,h3] at h;exact A.cut _ _ _ _ _ h
 case makeFunc fn first caps=>
  have e:caps.toList.map (Vl.opd st)=caps.toList.map (Vl.opd S):=List.map_congr_left fun y hy=>AO y (by simp;exact .inr (by simpa using hy))
  rw[e];exact h
 case call c=>
  have e:∀y∈c.args.toList,Vl.opd st y=Vl.opd S y:=fun y hy=>AO y (by simp[Call.operands];exact .inr (by simpa using hy))
  have em:c.args.toList.map (Vl.opd st)=c.args.toList.map (Vl.opd S):=List.map_congr_left e
  unfold Lr at h ⊢
  split at h
  ·rename_i x t h1 h2 h3
   rw[e x (by rw[h2];simp)]
   cases hn:KC P S t (Vl.opd S x) with
   |none=>rw[hn] at h;cases h
   |some n=>rw[hn] at h;rw[A.len hn];exact h
  ·rename_i h1;rw[em];exact h
  ·rename_i h1;rw[em];exact h
  ·cases h
end
end Go.Vl
namespace Go.Vl
open Go Go.RowKit
structure Eff where
 d:Option Nat
 v:AV
 al:Option (List AV)
 bs:List (Nat×List AV)
 nv:Option VS
 rm:Option Nat
instance:Inhabited Eff:=⟨⟨none,.undef,none,[],none,none⟩⟩
def D4 (e:Eff) (l:List (Nat×AV)):List (Nat×AV):=match e.d with |some d=>(d,e.v)::l |none=>l
def alE (e:Eff) (l:List (Nat×List AV)):List (Nat×List AV):=match e.al,e.d with |some cs,some d=>(d,cs)::l |_,_=>l
def nvE (e:Eff) (l:List (Nat×VS)):List (Nat×VS):=match e.nv,e.d with |some s,some d=>(d,s)::l |_,_=>l
def Ew (g:Option Nat) (x:AV):AV:=match g with |some n=>x.scrub n |none=>x
def DO (g:Option Nat) (l:List (Nat×VS)):List (Nat×VS):=match g with |some n=>del l n |none=>l
def Eff.on (e:Eff) (st:St):St:={ nt:=st.nt,env:=D4 e (Bl (Ew e.rm) st.env),box:=alE e (e.bs++st.box),vec:=nvE e (DO e.rm st.vec)}
def PG:List Nat→List (Nat×List AV)→List (Nat×List AV)
 |[],l=>l
 |n::W,l=>PG W (del l n)
def I2 (As:List (List Nat)) (C:List Nat) (i:Nat):Bool:=C.all fun c=>c==i||(As.getD i []).contains c||(As.getD c []).contains i
def I3 (As:List (List Nat)) (C:List Nat) (i:Nat):List Nat:=(C.filter fun c=>(As.getD i []).contains c).reverse
def PH (As:List (List Nat)) (V:Option (Nat×Nat)) (i:Nat):Bool:=match V with |some (c,_)=>c==i||(As.getD c []).contains i |none=>true
def atE (es:List Eff) (i:Nat):Eff:=es.getD i default
def chE (es:List Eff):List Nat→List (Nat×List AV)→List (Nat×List AV)
 |[],b=>b
 |c::L,b=>(atE es c).bs++chE es L b
def EZ (es:List Eff):List Nat→List (Nat×AV)→List (Nat×AV)
 |[],b=>b
 |j::A,b=>D4 (atE es j) (EZ es A b)
def alL (es:List Eff):List Nat→List (Nat×List AV)→List (Nat×List AV)
 |[],b=>b
 |j::A,b=>alE (atE es j) (alL es A b)
def nvL (es:List Eff):List Nat→List (Nat×VS)→List (Nat×VS)
 |[],b=>b
 |j::A,b=>nvE (atE es j) (nvL es A b)
def I4 (As:List (List Nat)) (i:Nat):List (Nat×List Nat)→List Nat
 |[]=>[]
 |q::W=>if I2 As q.2 i=true then I4 As i W else q.1::I4 As i W
def Bc (As:List (List Nat)) (C:List Nat) (W:List (Nat×List Nat)) (V:Option (Nat×Nat)) (st0:St) (es:List Eff) (i:Nat):St:=
 {nt:=st0.nt,env:=EZ es (As.getD i []) st0.env,box:=alL es (As.getD i []) (PG (I4 As i W) (chE es (I3 As C i) st0.box)),
  vec:=nvL es (As.getD i []) (DO (if PH As V i=true then none else V.map (·.2)) st0.vec)}
inductive Loc (P:Program) (ops:Array Oper) (st0 S:St) (o:Oper):Eff→Prop
 |val {x:AV} (hg:gdA ops S o=some true) (h:vstep P S o=some x) (hd:∀d,o.dst=some d→d < st0.nt):Loc P ops st0 S o ⟨o.dst,x,none,[],none,none⟩
 |look {t:TypeId} {x k:Operand} {okb:Bool} {v:AV} {e z:Nat} {rows:List (List D)} (hg:gdA ops S o=some true) (ho:o.op=.lookup t x k okb) (hm:opd S x=.d (.mp e z rows)) (h:En P S t (opd S x) (opd S k) okb=some v) (hd:∀d,o.dst=some d→d < st0.nt):Loc P ops st0 S o ⟨o.dst,v,none,[],none,none⟩
 |skip (hg:gdA ops S o=some false) (hd:∀d,o.dst=some d→d < st0.nt):Loc P ops st0 S o ⟨o.dst,.tup [],none,[],none,none⟩
 |alloc {t:TypeId} {cs:List AV} {d:Nat} (hg:gdA ops S o=some true) (ho:o.op=.alloc t) (hz:Aw P t=some cs) (hd:o.dst=some d) (hn:get st0.box d=none) (hdn:d < st0.nt):Loc P ops st0 S o ⟨some d,.ptr d 0,some cs,[],none,none⟩
 |box {t:TypeId} {x:Operand} {cs:List AV} {d:Nat} (hg:gdA ops S o=some true) (ho:o.op=.box t x) (hz:An (opd S x)=some cs) (hd:o.dst=some d) (hn:get st0.box d=none) (hdn:d < st0.nt):Loc P ops st0 S o ⟨some d,.ptr d 0,some cs,[],none,none⟩
 |data {t:TypeId} {n d:Nat} {parts:Array (Nat×Operand)} {s:VS} (hg:gdA ops S o=some true) (ho:o.op=.buildSlice t n parts) (hd:o.dst=some d) (hv:get st0.vec d=none)
   (h:Bf P S d t n (parts.toList.map fun x=>(x.1,opd S x.2))=some (St.put { S with vec:=(d,s)::S.vec } d (.vec d))):Loc P ops st0 S o ⟨some d,.d (.slice s.rows),none,[],none,none⟩
 |app {t t':TypeId} {x y:Operand} {d:Nat} {s:VS} {c:Call} (hg:gdA ops S o=some true) (ho:o.op=.call c) (hc:c.callee=.builtin .append) (ha:c.args.toList=[x,y]) (ht:c.argTypes.toList=[t,t']) (hd:o.dst=some d) (hx:opd S x=.nilS) (hv:get st0.vec d=none)
   (h:Fi P S d t t' (opd S x) (opd S y)=some (St.put { S with vec:=(d,s)::S.vec } d (.vec d))):Loc P ops st0 S o ⟨some d,.vec d,none,[],some s,none⟩
 |call {f:FuncId} {bx:List (List AV)} {cargs:List AV} {res:AV} {bx':List (List AV)} {c:Call} {y:Operand} {d:Nat} (σ:List Nat) (F:Ac P f bx cargs res bx') (hg:gdA ops S o=some true) (ho:o.op=.call c) (hc:c.callee=.value y) (hd:o.dst=some d)
   (hcall:∀(args:Array Value) (w:World),(callFunc f args).run P w=.ok (.enter f args) w) (hdn:d < st0.nt) (hσ:σ.Nodup) (hargs:∃caps,opd S y=.fn f caps∧(c.args.toList.map (opd S)++caps).map (AV.view [] [] σ)=cargs) (hbx:Bu S [] σ σ bx) (hl:bx.length=bx'.length):
   Loc P ops st0 S o ⟨some d,res.back [] σ,none,A1 [] σ σ bx' [],none,none⟩
 |store {t:TypeId} {x y:Operand} {l cs:List AV} {m k:Nat} (hg:gdA ops S o=some true) (ho:o.op=.store t x y) (hd:o.dst=none) (hx:opd S x=.ptr m k) (hl:An (opd S y)=some l) (hz:Ad P t=some l.length) (hb:get S.box m=some cs)
   (hle:k+l.length≤cs.length):Loc P ops st0 S o ⟨none,.undef,none,[(m,Lw cs l k)],none,none⟩
 |allocW {t:TypeId} {cs:List AV} {d:Nat} (hg:gdA ops S o=some true) (ho:o.op=.alloc t) (hz:Aw P t=some cs) (hd:o.dst=some d) (hn:get S.box d=none) (hdn:d < st0.nt):Loc P ops st0 S o ⟨some d,.ptr d 0,none,[(d,cs)],none,none⟩
 |boxW {t:TypeId} {x:Operand} {cs:List AV} {d:Nat} (hg:gdA ops S o=some true) (ho:o.op=.box t x) (hz:An (opd S x)=some cs) (hd:o.dst=some d) (hn:get S.box d=none) (hdn:d < st0.nt):Loc P ops st0 S o ⟨some d,.ptr d 0,none,[(d,cs)],none,none⟩
 |appv {t t':TypeId} {x y:Operand} {d m:Nat} {s s':VS} {bs:List (Nat×List AV)} {c:Call} (hg:gdA ops S o=some true) (ho:o.op=.call c) (hc:c.callee=.builtin .append) (ha:c.args.toList=[x,y]) (ht:c.argTypes.toList=[t,t']) (hd:o.dst=some d) (hx:opd S x=.vec m)
   (hs:get S.vec m=some s) (hv:get st0.vec d=none)
   (h:Fi P S d t t' (opd S x) (opd S y)=some (St.put { nt:=S.nt,env:=Bl (AV.scrub m) S.env,box:=Bl (List.map (AV.scrub m)) S.box,vec:=(d,s')::del S.vec m } d (.vec d))):Loc P ops st0 S o ⟨some d,.vec d,none,bs,some s',some m⟩
section
variable {P:Program} {K:Ctx P} {ops:Array Oper} {st0 st S:St} {o:Oper} {e:Eff}
theorem GR {τ σ0:List Nat} (hb:∀n cs,get S.box n=some cs→get st.box n=some cs):∀{σ:List Nat} {bx:List (List AV)},Bu S τ σ0 σ bx→Bu st τ σ0 σ bx
 |[],[],_=>trivial
 |n::σ,cs::bx,⟨⟨cs0,h1,h2⟩,h3⟩=>⟨⟨cs0,hb n cs0 h1,h2⟩,GR hb h3⟩
 |[],_::_,h=>h.elim
 |_::_,[],h=>h.elim
theorem L9 {α:Type}:∀(l m:List (Nat×α)) (t:Nat),get (l++m) t=match get l t with |some x=>some x |none=>get m t
 |[],_,_=>rfl
 |(k,v)::l,m,t=>by
  simp only[List.cons_append,get]
  split
  ·rfl
  ·exact L9 l m t
theorem OpR.eqv {st1 st2:St} (h:OpR P K ops o st st1) (E:Eqv st1 st2):OpR P K ops o st st2:=fun next Q a w p R H=>h next Q a w p R fun a' w' p' R'=>H a' w' p' (R'.eqv E)
theorem I5 {n:Nat} {x:AV} (h:x.wf (fun _=>true) (fun m=>m != n)=true):x.scrub n=x:=by unfold AV.scrub;rw[if_pos h]
theorem KR {n:Nat} {cs:List AV} (h:AV.wfL (fun _=>true) (fun m=>m != n) cs=true):cs.map (AV.scrub n)=cs:=by
 refine List.ext_getElem? fun i=>?_
 rw[List.getElem?_map]
 cases hc:cs[i]? with
 |none=>rfl
 |some c=>simp[I5 (AV.wfL_get h hc)]
theorem Ay:∀l:List (Nat×AV),Bl (Ew none) l=l
 |[]=>rfl
 |(k,x)::l=>by simp only[Bl,Ay l];rfl
theorem QW {S':St} {t:TypeId} {e z:Nat} {rows:List (List D)} {k:AV} {okb:Bool}:En P S t (.d (.mp e z rows)) k okb=En P S' t (.d (.mp e z rows)) k okb:=by
 unfold En
 cases P.underlying t with
 |none=>rfl
 |some u=>cases u <;> rfl
theorem Loc.run (h:Loc P ops st0 S o e) (A:Agr ops o S st) (hnt:st.nt=st0.nt) (hvec:∀d,o.dst=some d→get st0.vec d=none→get st.vec d=none∧get S.vec d=none) (hal:∀d cs,e.al=some cs→e.d=some d→get st.box d=none)
  (hbs0:∀n,e.rm=some n→∀m cs,get st.box m=some cs→get e.bs m=some (cs.map (AV.scrub n))∨(get e.bs m=none∧cs.map (AV.scrub n)=cs)) (hbn0:∀n,e.rm=some n→∀m,get st.box m=none→get e.bs m=none) (hsee:∀d cs,(d,cs)∈e.bs→get S.box d=none→get st.box d=none):OpR P K ops o st (e.on st):=by
 cases h with
 |val hg h hd=>
  have:=S7 (K:=K) (by rw[A.gd];exact hg) (A.vstep h) (fun d h1=>by rw[hnt];exact hd d h1)
  cases hq:o.dst with
  |none=>simpa[Eff.on,Ay,DO,D4,alE,nvE,hq] using this
  |some d=>simpa[Eff.on,Ay,DO,D4,alE,nvE,hq,St.put] using this
 |look hg ho hm h hd=>
  rename_i t x k okb v e z rows
  refine C5 (by rw[A.gd];exact hg) ?_
  have hx:=A.opd (x:=x) (by simp[ho,Op.operands])
  have hk:=A.opd (x:=k) (by simp[ho,Op.operands])
  have hl:En P st t (opd st x) (opd st k) okb=some v:=by
   rw[hx,hk,hm];rw[hm] at h
   exact QW.trans h
  cases hq:o.dst with
  |none=>simp[step,ho,hl,Is,hq,Eff.on,Ay,DO,D4,alE,nvE]
  |some d=>simp[step,ho,hl,Is,hq,hnt,hd d hq,Eff.on,Ay,DO,D4,alE,nvE,St.put]
 |skip hg hd=>
  have:=I1 (P:=P) (K:=K) (st:=st) (by rw[A.gd];exact hg) (fun d h1=>by rw[hnt];exact hd d h1)
  cases hq:o.dst with
  |none=>simpa[Eff.on,Ay,DO,D4,alE,nvE,hq] using this
  |some d=>simpa[Eff.on,Ay,DO,D4,alE,nvE,hq,St.put] using this
 |alloc hg ho hz hd hn hdn=>
  rename_i t cs d
  refine C5 (by rw[A.gd];exact hg) ?_
  simp[step,ho,hd,hz,Da,hal d cs rfl rfl,hnt,hdn,Eff.on,Ay,DO,D4,alE,nvE,St.put]
 |box hg ho hz hd hn hdn=>
  rename_i t x cs d
  refine C5 (by rw[A.gd];exact hg) ?_
  rw[← A.opd (x:=x) (by simp[ho,Op.operands])] at hz
  simp[step,ho,hd,hz,Da,hal d cs rfl rfl,hnt,hdn,Eff.on,Ay,DO,D4,alE,nvE,St.put]
 |data hg ho hd hv h=>
  rename_i t n d parts s
  have e1:(parts.toList.map fun x=>(x.1,opd st x.2))=parts.toList.map fun x=>(x.1,opd S x.2):=List.map_congr_left fun q hq=>by
   rw[A.opd (x:=q.2) (by simp only[ho,Op.operands];exact List.mem_map.2 ⟨q,hq,rfl⟩)]
  have hvs:get st.vec d=none:=(hvec d hd hv).1
  have hvS:get S.vec d=none:=(hvec d hd hv).2
  have h2:Bf P st d t n (parts.toList.map fun x=>(x.1,opd st x.2))=some (St.put { st with vec:=(d,s)::st.vec } d (.vec d)):=by
   rw[e1]
   unfold Bf at h ⊢
   split at h
   case h_2=>cases h
   rename_i e0 he
   cases hz:Aw P e0 with
   |none=>simp[hz] at h
   |some zs=>
    simp only[hz,Option.bind_some] at h ⊢
    split at h
    case isFalse=>cases h
    rename_i hc
    rw[if_pos ⟨hc.1,hc.2.1,by rw[A.nt];exact hc.2.2⟩]
    cases hr:DZ (fun i=>some (i * zs.length,zs.length)) (List.replicate (n * zs.length) .undef) (parts.toList.map fun x=>(x.1,opd S x.2)) with
    |none=>simp[hr] at h
    |some r=>
     simp only[hr,Option.bind_some] at h ⊢
     cases hd2:EC r with
     |none=>simp[hd2] at h
     |some ds=>
      simp only[hd2,Option.bind_some,hvs] at h ⊢
      simp only[hvS,Option.some.injEq,St.put,St.mk.injEq,List.cons.injEq,Prod.mk.injEq,true_and,and_true] at h ⊢
      exact h
  simpa[Eff.on,Ay,DO,D4,alE,nvE,St.put] using QU (K:=K) (by rw[A.gd];exact hg) ho hd h2 hvs
 |app hg ho hc ha ht hd hx hv h=>
  rename_i t t' x y d s c
  obtain⟨hvs,hvS⟩:=hvec d hd hv
  have ex:opd st x=opd S x:=A.opd (by simp[ho,Op.operands,Call.operands];exact .inr (by rw[← Array.mem_toList_iff,ha];simp))
  have ey:opd st y=opd S y:=A.opd (by simp[ho,Op.operands,Call.operands];exact .inr (by rw[← Array.mem_toList_iff,ha];simp))
  refine C5 (by rw[A.gd];exact hg) ?_
  simp only[step,ho,hc,ha,ht,hd,Option.bind_some,ex,ey,hx] at h ⊢
  unfold Fi at h ⊢
  rw[A.nt]
  split at h
  case isFalse=>cases h
  rename_i h0
  rw[if_pos h0]
  split at h
  case h_2=>cases h
  rename_i e he
  cases hz:Aw P e with
  |none=>simp[hz] at h
  |some zs=>
   simp only[hz,Option.bind_some] at h ⊢
   cases hr:rowsOf S (opd S y) with
   |none=>simp[hr] at h
   |some ys=>
    rw[A.rows hr]
    simp only[hr,Option.bind_some] at h ⊢
    split at h
    case isFalse=>cases h
    rename_i h1
    rw[if_pos h1]
    split at h
    case isFalse=>cases h
    rename_i h2
    rw[if_pos h2]
    simp only[hvS,hvs] at h ⊢
    simp only[Option.some.injEq,St.put,St.mk.injEq,List.cons.injEq,Prod.mk.injEq,true_and,and_true] at h
    simp[Eff.on,Ay,DO,D4,alE,nvE,St.put,h,A.nt]
 |call σ F hg ho hc hd hcall hdn hσ hargs hbx hl=>
  rename_i f bx cargs res bx' c y d
  have e2:opd st y=opd S y:=A.opd (by simp only[ho,Op.operands,Call.operands,hc,Array.toList_append,List.mem_append];exact .inl (by simp))
  have e1:c.args.toList.map (opd st)=c.args.toList.map (opd S):=List.map_congr_left fun q hq=>A.opd (by simp only[ho,Op.operands,Call.operands,Array.toList_append,List.mem_append];exact .inr hq)
  have:=QV (K:=K) (st:=st) σ F (by rw[A.gd];exact hg) ho hc hd hcall (by rw[hnt];exact hdn) hσ (by rw[e1,e2];exact hargs) (GR A.box hbx) hl
  rw[GQ] at this
  simpa[Eff.on,Ay,DO,D4,alE,nvE,St.put] using this
 |store hg ho hd hx hl hz hb hle=>
  rename_i t x y l cs m k
  have ex:opd st x=.ptr m k:=by rw[A.opd (by simp[ho,Op.operands])];exact hx
  have ey:An (opd st y)=some l:=by rw[A.opd (by simp[ho,Op.operands])];exact hl
  refine C5 (by rw[A.gd];exact hg) ?_
  simp[step,ho,hd,Iq,ey,hz,ex,A.box m cs hb,hle,Eff.on,Ay,DO,D4,alE,nvE]
 |allocW hg ho hz hd hn hdn=>
  rename_i t cs d
  refine C5 (by rw[A.gd];exact hg) ?_
  simp[step,ho,hd,hz,Da,hsee d cs (by simp) hn,hnt,hdn,Eff.on,Ay,DO,D4,alE,nvE,St.put]
 |boxW hg ho hz hd hn hdn=>
  rename_i t x cs d
  refine C5 (by rw[A.gd];exact hg) ?_
  rw[← A.opd (x:=x) (by simp[ho,Op.operands])] at hz
  simp[step,ho,hd,hz,Da,hsee d cs (by simp) hn,hnt,hdn,Eff.on,Ay,DO,D4,alE,nvE,St.put]
 |appv hg ho hc ha ht hd hx hs hv h=>
  rename_i t t' x y d m s s' bs c
  obtain⟨hvs,hvS⟩:=hvec d hd hv
  have ex:opd st x=opd S x:=A.opd (by simp[ho,Op.operands,Call.operands];exact .inr (by rw[← Array.mem_toList_iff,ha];simp))
  have ey:opd st y=opd S y:=A.opd (by simp[ho,Op.operands,Call.operands];exact .inr (by rw[← Array.mem_toList_iff,ha];simp))
  have hst:get st.vec m=some s:=A.vec m s hs
  have key:step P st o=some (St.put { nt:=st.nt,env:=Bl (AV.scrub m) st.env,box:=Bl (List.map (AV.scrub m)) st.box,vec:=(d,s')::del st.vec m } d (.vec d)):=by
   simp only[step,ho,hc,ha,ht,hd,Option.bind_some,ex,ey,hx] at h ⊢
   unfold Fi at h ⊢
   rw[A.nt]
   split at h
   case isFalse=>cases h
   rename_i h0
   rw[if_pos h0]
   split at h
   case h_2=>cases h
   rename_i e he
   cases hz:Aw P e with
   |none=>simp[hz] at h
   |some zs=>
    simp only[hz,Option.bind_some] at h ⊢
    cases hr:rowsOf S (opd S y) with
    |none=>simp[hr] at h
    |some ys=>
     rw[A.rows hr]
     simp only[hr,Option.bind_some] at h ⊢
     split at h
     case isFalse=>cases h
     rename_i h1
     rw[if_pos h1]
     simp only[hs,hst,Option.bind_some] at h ⊢
     split at h
     case isFalse=>cases h
     rename_i h2
     rw[if_pos ⟨h2.1,h2.2.1,h2.2.2.1,.inr (by simp[hvs])⟩]
     simp only[Option.some.injEq,St.put,St.mk.injEq,List.cons.injEq,Prod.mk.injEq,true_and,and_true] at h ⊢
     exact h
  have hm:∀(l:List (Nat×AV)),Bl (Ew (some m)) l=Bl (AV.scrub m) l:=fun l=>rfl
  refine(C5 (by rw[A.gd];exact hg) key).eqv ⟨rfl,fun t=>rfl,fun b=>?_,fun b=>rfl⟩
  simp only[Eff.on,alE,St.put,BF]
  rw[L9]
  cases hb:get st.box b with
  |none=>rw[hbn0 m rfl b hb];rfl
  |some cs=>
   rcases hbs0 m rfl b cs hb with h1 |⟨h1,h2⟩
   ·rw[h1];rfl
   ·rw[h1];simp[h2]
def Ea (o:Oper):List Nat:=(o.after.toList.filter fun e=>Region.binds .any e).map (·.on)
def S8 (ops:Array Oper) (As:List (List Nat)):Bool:=
 (List.range ops.size).all fun i=>match ops[i]? with
  |none=>false
  |some o=>(Ea o).all (fun j=>decide (j < i))&&(As.getD i []).all fun j=>(Ea o).any fun k=>k==j||(As.getD k []).contains j
def OG (ops:Array Oper) (As:List (List Nat)) (n:Nat):Bool:=
 decide (n≤ops.size)&&((List.range ops.size).all fun k=>decide (k < n)||(List.range n).all fun j=>(As.getD k []).contains j)&&Region.seqB .any ops (ops.size - n) n (Array.replicate n true++Array.replicate (ops.size - n) false)
def PI (ops:Array Oper) (n:Nat):Bool:=
 (List.range n).all fun i=>(List.range n).all fun j=>i==j||match ops[i]?.bind (·.dst),ops[j]?.bind (·.dst) with |some d,some d'=>d != d' |_,_=>true
def Wg (ops:Array Oper) (As:List (List Nat)) (n:Nat):Bool:=
 (List.range n).all fun i=>match ops[i]? with
  |none=>true
  |some o=>(List.range n).all fun j=>match ops[j]?.bind (·.dst) with
   |none=>true
   |some d=>!((o.looksAt ops).contains d)||(As.getD i []).contains j||i==j||(As.getD j []).contains i
def chainB (As:List (List Nat)) (C:List Nat) (n:Nat):Bool:=
 C.all (fun c=>decide (c < n))&&(match C with |[]=>true |_=>true)&&go C
where
 go:List Nat→Bool
  |[]=>true
  |c::C=>C.all (fun c'=>(As.getD c' []).contains c)&& !C.contains c&&go C
def OH (ops:Array Oper) (As:List (List Nat)) (W:List (Nat×List Nat)) (V:Option (Nat×Nat)) (T:List Nat) (n:Nat):Bool:=
 match V with
 |none=>true
 |some (c,_)=>(W.all fun q=>q.2.contains c)&&decide (c < n)&&(List.range n).all fun i=>PH As V i||match ops[i]? with
  |none=>true
  |some o=>(o.looksAt ops).all fun t=>!T.contains t
def wrB (W:List (Nat×List Nat)) (m c:Nat):Bool:=W.any fun q=>q.1==m&&q.2.contains c
def KS (ops:Array Oper) (As:List (List Nat)) (C:List Nat) (W:List (Nat×List Nat)) (V:Option (Nat×Nat)) (T:List Nat) (n:Nat):Bool:=S8 ops As&&OG ops As n&&PI ops n&&Wg ops As n&&C.all (fun c=>decide (c < n))&&OH ops As W V T n&&(W.all fun q=>q.2.all fun c=>C.contains c)&&W.all fun q=>chainB.go As (C.filter (wrB W q.1))
def stV (V:Option (Nat×Nat)) (T:List Nat) (W:List (Nat×List Nat)) (st:St):Bool:=
 match V with
 |none=>true
 |some (_,m)=>(st.env.all fun x=>T.contains x.1||x.2.wf (fun _=>true) (fun k=>k != m))&&(st.box.all fun x=>(W.any fun q=>q.1==x.1)||AV.wfL (fun _=>true) (fun k=>k != m) x.2)&&(get st.vec m).isSome
inductive Ex (n:Nat) (As:List (List Nat)):List Nat→Prop
 |nil:Ex n As []
 |cons {L:List Nat} {i:Nat} (h:Ex n As L) (hi:i < n) (hn:i∉L) (ha:∀j∈As.getD i [],j∈L):Ex n As (i::L)
def EH (es:List Eff) (b:List (Nat×List AV)):List Nat→List (Nat×List AV)
 |[]=>b
 |i::L=>alE (atE es i) ((atE es i).bs++EH es b L)
def gone (V:Option (Nat×Nat)) (L:List Nat):Option Nat:=match V with |some (c,m)=>if c∈L then some m else none |none=>none
def GT (V:Option (Nat×Nat)) (es:List Eff) (st0:St) (L:List Nat):St:=
 {nt:=st0.nt,env:=Bl (Ew (gone V L)) (EZ es L st0.env),box:=EH es st0.box L,vec:=nvL es L (DO (gone V L) st0.vec)}
variable {V:Option (Nat×Nat)} {T:List Nat}
variable {n:Nat} {As:List (List Nat)} {C:List Nat} {W:List (Nat×List Nat)} {es:List Eff}
theorem Ex.lt {L:List Nat} (h:Ex n As L):∀i∈L,i < n:=by
 induction h with
 |nil=>intro i h;simp at h
 |cons _ hi _ _ ih=>intro i h;rcases List.mem_cons.1 h with rfl |h;exact hi;exact ih i h
theorem Ex.nodup {L:List Nat} (h:Ex n As L):L.Nodup:=by
 induction h with
 |nil=>exact List.nodup_nil
 |cons _ _ hn _ ih=>exact List.nodup_cons.2 ⟨hn,ih⟩
theorem Ex.down {L:List Nat} (h:Ex n As L):∀i∈L,∀j∈As.getD i [],j∈L:=by
 induction h with
 |nil=>intro i h;simp at h
 |cons _ _ _ ha ih=>
  intro i h j hj
  rcases List.mem_cons.1 h with rfl |h
  ·exact List.mem_cons_of_mem _ (ha j hj)
  ·exact List.mem_cons_of_mem _ (ih i h j hj)
theorem Ex.len {L:List Nat} (h:Ex n As L):L.length≤n:=by
 have:=List.Nodup.length_le_of_subset' h.nodup (l':=List.range n) fun i hi=>List.mem_range.2 (h.lt i hi)
 simpa using this
where
 List.Nodup.length_le_of_subset' {l l':List Nat} (h:l.Nodup) (hs:∀i∈l,i∈l'):l.length≤l'.length:=by
  induction l generalizing l' with
  |nil=>simp
  |cons x l ih=>
   rw[List.nodup_cons] at h
   have hx:x∈l':=hs x (by simp)
   have:=ih h.2 (l':=l'.erase x) fun i hi=>(List.mem_erase_of_ne (fun e=>h.1 (by rw[← e];exact hi))).2 (hs i (by simp[hi]))
   rw[List.length_erase_of_mem hx] at this
   have:0 < l'.length:=List.length_pos_of_mem hx
   simp;omega
theorem Ex.full {L:List Nat} (h:Ex n As L) (hl:L.length=n):∀i < n,i∈L:=by
 intro i hi
 refine Classical.byContradiction fun hn=>?_
 have:=Ex.len.List.Nodup.length_le_of_subset' (l:=i::L) (l':=List.range n) (List.nodup_cons.2 ⟨hn,h.nodup⟩) fun j hj=>by
  rcases List.mem_cons.1 hj with rfl |hj
  ·exact List.mem_range.2 hi
  ·exact List.mem_range.2 (h.lt j hj)
 simp at this;omega
theorem OI (L:List Nat):(GT V es st0 L).nt=st0.nt:=rfl
theorem EI (L:List Nat):(GT V es st0 L).vec=nvL es L (DO (gone V L) st0.vec):=rfl
theorem Dw {α:Type}:∀(l m:List (Nat×α)) (t:Nat),get (l++m) t=match get l t with |some x=>some x |none=>get m t
 |[],_,_=>rfl
 |(k,v)::l,m,t=>by
  simp only[List.cons_append,get]
  split
  ·rfl
  ·exact Dw l m t
theorem EJ {α:Type}:∀{l:List (Nat×α)} {t:Nat},(∀x∈l,x.1≠t)→get l t=none
 |[],_,_=>rfl
 |(k,v)::l,t,h=>by
  simp only[get]
  rw[if_neg (h (k,v) (by simp)),EJ fun x hx=>h x (by simp[hx])]
theorem I6:∀(W:List Nat) (l:List (Nat×List AV)) (n:Nat),get (PG W l) n=if n∈W then none else get l n
 |[],l,n=>by simp[PG]
 |m::W,l,n=>by
  simp only[PG,I6 W,Av,List.mem_cons]
  by_cases h:n∈W
  ·simp[h]
  ·by_cases h2:m=n
   ·simp[h2]
   ·simp[h,h2,Ne.symm h2]
theorem F7 {t i:Nat} (hu:∀i j,(atE es i).d=some t→(atE es j).d=some t→i=j) (b:List (Nat×AV)):∀{A:List Nat},i∈A→(atE es i).d=some t→get (EZ es A b) t=some (atE es i).v
 |j::A,hi,hd=>by
  simp only[EZ,D4]
  by_cases e:(atE es j).d=some t
  ·have:=hu i j hd e;subst this;rw[e];simp[get]
  ·rcases List.mem_cons.1 hi with rfl |hi
   ·exact absurd hd e
   ·have ih:=F7 hu b hi hd
    cases hq:(atE es j).d with
    |none=>exact ih
    |some d=>simp only[get];rw[if_neg (fun e2=>e (by rw[hq,e2]))];exact ih
theorem HI {t:Nat} (b:List (Nat×AV)):∀{A:List Nat},(∀j∈A,(atE es j).d≠some t)→get (EZ es A b) t=get b t
 |[],_=>rfl
 |j::A,h=>by
  simp only[EZ,D4]
  have ih:=HI b (A:=A) fun k hk=>h k (by simp[hk])
  cases hq:(atE es j).d with
  |none=>exact ih
  |some d=>simp only[get];rw[if_neg (fun e2=>h j (by simp) (by rw[hq,e2]))];exact ih
theorem FE (L:List Nat) (t:Nat):get (GT V es st0 L).env t=(get (EZ es L st0.env) t).map (Ew (gone V L)):=BF _ _ _
theorem MA {e:Eff} {l:List (Nat×AV)} {t:Nat}:get (D4 e l) t=if e.d=some t then some e.v else get l t:=by
 unfold D4
 cases hd:e.d with
 |none=>simp
 |some d=>simp only[get,Option.some.injEq]
def makes (es:List Eff) (j m:Nat):Prop:=(atE es j).d=some m∧(atE es j).al.isSome=true
theorem GU {e:Eff} {l:List (Nat×List AV)} {m:Nat}:get (alE e l) m=if e.d=some m∧e.al.isSome=true then e.al else get l m:=by
 unfold alE
 cases ha:e.al with
 |none=>simp
 |some cs=>
  cases hd:e.d with
  |none=>simp
  |some d=>
   simp only[get,Option.some.injEq,Option.isSome_some,and_true]
theorem KT {m i:Nat} (hu:∀i j,(atE es i).d=some m→(atE es j).d=some m→i=j) (b:List (Nat×List AV)):∀{A:List Nat},i∈A→makes es i m→get (alL es A b) m=(atE es i).al
 |j::A,hi,hm=>by
  simp only[alL,GU]
  by_cases e:makes es j m
  ·have:=hu i j hm.1 e.1;subst this;rw[if_pos (show (atE es _).d=some m∧(atE es _).al.isSome=true from e)]
  ·rw[if_neg (show ¬((atE es j).d=some m∧(atE es j).al.isSome=true) from e)]
   rcases List.mem_cons.1 hi with rfl |hi
   ·exact absurd hm e
   ·exact KT hu b hi hm
theorem Ht {m:Nat} (b:List (Nat×List AV)):∀{A:List Nat},(∀j∈A,¬makes es j m)→get (alL es A b) m=get b m
 |[],_=>rfl
 |j::A,h=>by
  simp only[alL,GU]
  rw[if_neg (show ¬((atE es j).d=some m∧(atE es j).al.isSome=true) from h j (by simp)),Ht b fun k hk=>h k (by simp[hk])]
def FF (es:List Eff) (j m:Nat):Prop:=(atE es j).d=some m∧(atE es j).nv.isSome=true
theorem GV {e:Eff} {l:List (Nat×VS)} {m:Nat}:get (nvE e l) m=if e.d=some m∧e.nv.isSome=true then e.nv else get l m:=by
 unfold nvE
 cases ha:e.nv with
 |none=>simp
 |some cs=>
  cases hd:e.d with
  |none=>simp
  |some d=>
   simp only[get,Option.some.injEq,Option.isSome_some,and_true]
theorem I7 {m i:Nat} (hu:∀i j,(atE es i).d=some m→(atE es j).d=some m→i=j) (b:List (Nat×VS)):∀{A:List Nat},i∈A→FF es i m→get (nvL es A b) m=(atE es i).nv
 |j::A,hi,hm=>by
  simp only[nvL,GV]
  by_cases e:FF es j m
  ·have:=hu i j hm.1 e.1;subst this;rw[if_pos (show (atE es _).d=some m∧(atE es _).nv.isSome=true from e)]
  ·rw[if_neg (show ¬((atE es j).d=some m∧(atE es j).nv.isSome=true) from e)]
   rcases List.mem_cons.1 hi with rfl |hi
   ·exact absurd hm e
   ·exact I7 hu b hi hm
theorem GW {m:Nat} (b:List (Nat×VS)):∀{A:List Nat},(∀j∈A,¬FF es j m)→get (nvL es A b) m=get b m
 |[],_=>rfl
 |j::A,h=>by
  simp only[nvL,GV]
  rw[if_neg (show ¬((atE es j).d=some m∧(atE es j).nv.isSome=true) from h j (by simp)),GW b fun k hk=>h k (by simp[hk])]
def okV (V:Option (Nat×Nat)) (x:AV):Bool:=match V with |some (_,m)=>x.wf (fun _=>true) (fun k=>k != m) |none=>true
def Y0 (V:Option (Nat×Nat)) (l:List AV):Bool:=match V with |some (_,m)=>AV.wfL (fun _=>true) (fun k=>k != m) l |none=>true
def IH (V:Option (Nat×Nat)) (i:Nat):Option Nat:=match V with |some (c,m)=>if c=i then some m else none |none=>none
structure CG (P:Program) (ops:Array Oper) (st0:St) (As:List (List Nat)) (C:List Nat) (W:List (Nat×List Nat)) (V:Option (Nat×Nat)) (T:List Nat) (es:List Eff):Prop where
 loc:∀i,i < es.length→∃o,ops[i]? =some o∧Loc P ops st0 (Bc As C W V st0 (es.take i) i) o (atE es i)∧(atE es i).d=o.dst∧(∀d,(atE es i).al.isSome=true→(atE es i).d=some d→d∉W.map (·.1)∧get st0.box d=none)∧(∀d,(atE es i).nv.isSome=true→(atE es i).d=some d→get st0.vec d=none)∧
  (∀x∈(atE es i).bs,∃q∈W,q.1=x.1∧i∈q.2)∧(i∉C→(atE es i).bs=[])
 rm:∀i,i < es.length→(atE es i).rm=IH V i
 ok:∀i,i < es.length→okV V (atE es i).v=true∨∃c m d,V=some (c,m)∧i∈As.getD c []∧(atE es i).d=some d∧d∈T
 al:∀i,i < es.length→∀cs,(atE es i).al=some cs→Y0 V cs=true
 bx:∀i,i < es.length→∀k,(atE es i).rm=some k→∀m∈W.map (·.1),∀cs,get (Bc As C W V st0 (es.take i) i).box m=some cs→get (atE es i).bs m=some (cs.map (AV.scrub k))∨(get (atE es i).bs m=none∧cs.map (AV.scrub k)=cs)
 bn:∀i,i < es.length→∀k,(atE es i).rm=some k→∀m∈W.map (·.1),get (Bc As C W V st0 (es.take i) i).box m=none→get (atE es i).bs m=none
 un:∀i,i < es.length→∀x∈(atE es i).bs,∀q∈W,q.1=x.1→i∈q.2
theorem EK {i:Nat} (h:es.length≤i):atE es i=default:=by simp[atE,h]
theorem CG.bsQ (H:CG P ops st0 As C W V T es) (i:Nat):∀x∈(atE es i).bs,∃q∈W,q.1=x.1∧i∈q.2:=by
 rcases Nat.lt_or_ge i es.length with h |h
 ·obtain⟨_,_,_,_,_,_,h1,_⟩:=H.loc i h;exact h1
 ·rw[EK h];intro x hx;exact absurd hx (by simp[default])
theorem CG.bsW (H:CG P ops st0 As C W V T es) (i:Nat):∀x∈(atE es i).bs,x.1∈W.map (·.1):=fun x hx=>by
 obtain⟨q,h1,h2,_⟩:=H.bsQ i x hx
 exact List.mem_map.2 ⟨q,h1,h2⟩
theorem CG.bsC (H:CG P ops st0 As C W V T es) {i:Nat} (hi:i∉C):(atE es i).bs=[]:=by
 rcases Nat.lt_or_ge i es.length with h |h
 ·obtain⟨_,_,_,_,_,_,_,h1⟩:=H.loc i h;exact h1 hi
 ·rw[EK h];rfl
theorem CG.mkW (H:CG P ops st0 As C W V T es) {i d:Nat} (h:makes es i d):d∉W.map (·.1)∧get st0.box d=none:=by
 rcases Nat.lt_or_ge i es.length with hl |hl
 ·obtain⟨_,_,_,_,h1,_⟩:=H.loc i hl;exact h1 d h.2 h.1
 ·rw[makes,EK hl] at h;exact absurd h.1 (by simp[default])
theorem CG.mkV (H:CG P ops st0 As C W V T es) {i d:Nat} (h:FF es i d):get st0.vec d=none:=by
 rcases Nat.lt_or_ge i es.length with hl |hl
 ·obtain⟨_,_,_,_,_,h1,_⟩:=H.loc i hl;exact h1 d h.2 h.1
 ·rw[FF,EK hl] at h;exact absurd h.1 (by simp[default])
theorem Bg (H:CG P ops st0 As C W V T es) {m:Nat} (hm:m∉W.map (·.1)):∀L,get (EH es st0.box L) m=get (alL es L st0.box) m
 |[]=>rfl
 |i::L=>by
  simp only[EH,alL,GU]
  rw[Dw,EJ (l:=(atE es i).bs) fun x hx e=>hm (by rw[← e];exact H.bsW i x hx),Bg H hm L]
theorem C6 (H:CG P ops st0 As C W V T es) {m:Nat} (hm:m∈W.map (·.1)):∀L,get (EH es st0.box L) m=get (chE es (L.filter (C.contains ·)) st0.box) m
 |[]=>rfl
 |i::L=>by
  simp only[EH,GU]
  rw[if_neg (show ¬((atE es i).d=some m∧(atE es i).al.isSome=true) from fun h=>(H.mkW h).1 hm),Dw,C6 H hm L,List.filter_cons]
  by_cases hi:i∈C
  ·rw[if_pos (by simpa using hi)];simp only[chE,Dw]
  ·rw[if_neg (by simpa using hi),H.bsC hi];rfl
theorem De:∀{C:List Nat},chainB.go As C=true→C.Nodup∧C.Pairwise fun c c'=>c∈As.getD c' []
 |[],_=>⟨List.nodup_nil,.nil⟩
 |c::C,h=>by
  simp only[chainB.go,Bool.and_eq_true,Bool.not_eq_true',List.all_eq_true] at h
  obtain⟨⟨h1,h2⟩,h3⟩:=h
  obtain⟨g1,g2⟩:=De h3
  exact⟨List.nodup_cons.2 ⟨by simpa using h2,g1⟩,.cons (fun c' hc=>by simpa using h1 c' hc) g2⟩
theorem Ex.chain {L:List Nat} (hc:chainB.go As C=true) (h:Ex n As L):∃m,L.filter (C.contains ·)=(C.take m).reverse:=by
 obtain⟨hnd,hpw⟩:=De hc
 induction h with
 |nil=>exact⟨0,by simp⟩
 |cons hL hi hn ha ih=>
  rename_i L i
  obtain⟨m,hm⟩:=ih
  rw[List.filter_cons]
  by_cases hiC:i∈C
  ·rw[if_pos (by simpa using hiC)]
   obtain⟨pre,post,rfl⟩:=List.append_of_mem hiC
   have hpre:∀c∈pre,c∈L:=fun c hcp=>ha c ((List.pairwise_append.1 hpw).2.2 c hcp i (by simp))
   have hmem:∀c,c∈(pre++i::post).take m↔(c∈L∧c∈pre++i::post):=fun c=>by
    rw[← List.mem_reverse,←hm,List.mem_filter];simp
   have hni:i∉(pre++i::post).take m:=fun h=>hn ((hmem i).1 h).1
   have hipre:i∉pre:=fun h=>(List.nodup_append.1 hnd).2.2 i h i (by simp) rfl
   have hle:m≤pre.length:=by
    refine Nat.le_of_not_lt fun hlt=>hni ?_
    rw[List.mem_iff_getElem?]
    exact⟨pre.length,by rw[List.getElem?_take_of_lt hlt];simp⟩
   have hge:pre.length≤m:=by
    refine Nat.le_of_not_lt fun hlt=>?_
    have hx:pre[m]∈(pre++i::post).take m:=(hmem _).2 ⟨hpre _ (List.getElem_mem hlt),by simp⟩
    obtain⟨k,hk⟩:=List.mem_iff_getElem?.1 hx
    have hkm:k < m:=by
     have:=(List.getElem?_eq_some_iff.1 hk).1
     simp at this;omega
    rw[List.getElem?_take_of_lt hkm,List.getElem?_append_left (by omega)] at hk
    have hnp:pre.Nodup:=(List.nodup_append.1 hnd).1
    have:=(List.getElem?_inj (i:=k) (j:=m) (by omega) hnp).1 (by rw[hk];simp[hlt])
    omega
   refine⟨pre.length+1,?_⟩
   have:m=pre.length:=by omega
   subst this
   rw[hm]
   simp[List.take_append,List.take_of_length_le (Nat.le_succ pre.length)]
  ·rw[if_neg (by simpa using hiC)];exact⟨m,hm⟩
theorem MB {C:List Nat} (h:C.Nodup) (m:Nat):C.filter (fun c=>decide (c∈C.take m))=C.take m:=by
 have e:(C.take m++C.drop m).filter (fun c=>decide (c∈C.take m))=C.take m:=by
  rw[List.filter_append,List.filter_eq_self.2 (fun a ha=>by simpa using ha),List.filter_eq_nil_iff.2 (fun a ha=>by
   have hnd:(C.take m++C.drop m).Nodup:=by rw[List.take_append_drop];exact h
   have:=(List.nodup_append.1 hnd).2.2
   simpa using fun hc=>this a hc a ha rfl),List.append_nil]
 rwa [List.take_append_drop] at e
theorem I8 {i m:Nat}:∀{W:List (Nat×List Nat)},m∉I4 As i W→∀q∈W,q.1=m→I2 As q.2 i=true
 |[],_,q,hq,_=>by simp at hq
 |p::W,h,q,hq,e=>by
  simp only[I4] at h
  rcases List.mem_cons.1 hq with rfl |hq
  ·split at h
   ·assumption
   ·exact absurd (by simp[e]) h
  ·split at h
   ·exact I8 h q hq e
   ·exact I8 (fun h'=>h (by simp[h'])) q hq e
theorem GX (H:CG P ops st0 As C W V T es) {m:Nat} (p:Nat→Bool) (hp:∀c,(∃q∈W,q.1=m∧c∈q.2)→p c=true) (b:List (Nat×List AV)):∀M:List Nat,get (chE es M b) m=get (chE es (M.filter p) b) m
 |[]=>rfl
 |c::M=>by
  simp only[chE,Dw,List.filter_cons]
  by_cases h:p c=true
  ·rw[if_pos h];simp only[chE,Dw];rw[GX H p hp b M]
  ·rw[if_neg h,EJ (l:=(atE es c).bs) fun x hx e=>?_]
   ·exact GX H p hp b M
   ·obtain⟨q,h1,h2,h3⟩:=H.bsQ c x hx
    exact h (hp c ⟨q,h1,h2.trans e,h3⟩)
theorem Ex.at {C:List Nat} {L:List Nat} (hc:chainB.go As C=true) (h:Ex n As L) {i:Nat} (hiC:I2 As C i=true) (hn:i∉L) (ha:∀j∈As.getD i [],j∈L):L.filter (C.contains ·)=I3 As C i:=by
 obtain⟨hnd,hpw⟩:=De hc
 obtain⟨m,hm⟩:=h.chain hc
 have hmem:∀c,c∈C.take m↔(c∈L∧c∈C):=fun c=>by
  rw[← List.mem_reverse,←hm,List.mem_filter];simp
 unfold I3
 rw[hm]
 congr 1
 rw[← MB hnd m]
 refine List.filter_congr fun c hcC=>?_
 simp only[I2,List.all_eq_true] at hiC
 have h1:=hiC c hcC
 simp only[Bool.or_eq_true,beq_iff_eq,List.contains_iff_mem] at h1
 rw[Bool.eq_iff_iff,decide_eq_true_eq,List.contains_iff_mem,hmem]
 constructor
 ·rintro⟨hL,_⟩
  rcases h1 with (h1 |h1) |h1
  ·exact absurd (h1▸hL) hn
  ·exact h1
  ·exact absurd (h.down c hL i h1) hn
 ·exact fun h2=>⟨ha c h2,hcC⟩
theorem IV {m c:Nat}:wrB W m c=true↔∃q∈W,q.1=m∧c∈q.2:=by
 simp only[wrB,List.any_eq_true,Bool.and_eq_true,beq_iff_eq,List.contains_iff_mem]
theorem NA (H:CG P ops st0 As C W V T es) (m:Nat) (b:List (Nat×List AV)) (L:List Nat):get (chE es (L.filter (C.contains ·)) b) m=get (chE es (L.filter ((C.filter (wrB W m)).contains ·)) b) m:=by
 rw[GX H (wrB W m) (fun c h=>IV.2 h),List.filter_filter]
 congr 2
 refine List.filter_congr fun c _=>?_
 rw[Bool.eq_iff_iff,Bool.and_eq_true,List.contains_iff_mem,List.contains_iff_mem,List.mem_filter]
 exact⟨fun h=>⟨h.2,h.1⟩,fun h=>⟨h.2,h.1⟩⟩
theorem Ex.seen (H:CG P ops st0 As C W V T es) {L:List Nat} {i m:Nat} (hc:chainB.go As (C.filter (wrB W m))=true) (h:Ex n As L) (hm:m∉I4 As i W) (hn:i∉L) (ha:∀j∈As.getD i [],j∈L):
  get (chE es (L.filter (C.contains ·)) st0.box) m=get (chE es (I3 As C i) st0.box) m:=by
 have hcmp:I2 As (C.filter (wrB W m)) i=true:=by
  simp only[I2,List.all_eq_true]
  intro c hcc
  obtain⟨q,h1,h2,h3⟩:=IV.1 (List.mem_filter.1 hcc).2
  have:=I8 hm q h1 h2
  simp only[I2,List.all_eq_true] at this
  exact this c h3
 rw[NA H,h.at hc hcmp hn ha,GX H (wrB W m) (fun c h=>IV.2 h) _ (I3 As C i)]
 unfold I3
 rw[List.filter_reverse,List.filter_filter,List.filter_filter]
 congr 2
 congr 1
 refine List.filter_congr fun c _=>?_
 rw[Bool.and_comm]
end
end Go.Vl
namespace Go.Vl
open Go Go.RowKit
section
variable {P:Program} {K:Ctx P} {st0:St} {l:List Oper} {n:Nat} {As:List (List Nat)} {C:List Nat} {W:List (Nat×List Nat)} {V:Option (Nat×Nat)} {T:List Nat} {es:List Eff} {Q:Exit→St→Prop}
theorem GY {ops:Array Oper} (h:S8 ops As=true) {i:Nat} {o:Oper} (hi:ops[i]? =some o):
  (∀j∈Ea o,j < i)∧∀j∈As.getD i [],∃k∈Ea o,k=j∨j∈As.getD k []:=by
 have hlt:i < ops.size:=(Array.getElem?_eq_some_iff.1 hi).1
 simp only[S8,List.all_eq_true,List.mem_range] at h
 have:=h i hlt
 simp only[hi,Bool.and_eq_true,List.all_eq_true,decide_eq_true_eq,List.any_eq_true,Bool.or_eq_true,beq_iff_eq,List.contains_iff_mem] at this
 exact⟨this.1,this.2⟩
theorem KU {o:Oper} {j:Nat}:j∈Ea o↔∃e∈o.after,Region.binds .any e=true∧e.on=j:=by
 simp[Ea,and_assoc]
theorem KV {ops:Array Oper} {listed:Array Bool} {i:Nat}:i∈Region.ready .any ops listed↔i < ops.size∧listed.getD i true=false∧∃o,ops[i]? =some o∧∀j∈Ea o,listed.getD j false=true:=by
 unfold Region.ready
 rw[List.mem_filter,List.mem_range]
 refine and_congr_right fun hi=>?_
 rw[Bool.and_eq_true,Bool.not_eq_true']
 refine and_congr_right fun _=>?_
 have h0:ops[i]? =some ops[i]:=Array.getElem?_eq_getElem hi
 rw[h0]
 simp only[Option.map_some,Option.getD_some,Array.all_eq_true_iff_forall_mem,Option.some.injEq,exists_eq_left']
 constructor
 ·intro h j hj
  obtain⟨e,he,hb,rfl⟩:=KU.1 hj
  have:=h e he
  rw[hb] at this
  simpa using this
 ·intro h e he
  cases hb:Region.binds .any e with
  |false=>rfl
  |true=>simpa using h e.on (KU.2 ⟨e,he,hb,rfl⟩)
structure Fl (N:Nat) (L:List Nat) (listed:Array Bool):Prop where
 size:listed.size=N
 at_:∀i,i < N→(listed.getD i true=true↔i∈L)
theorem Fl.getF {size:Nat} {L:List Nat} {listed:Array Bool} (F:Fl size L listed) {i:Nat} (hi:i < size):listed.getD i false=true↔i∈L:=by
 rw[← F.at_ i hi]
 have:i < listed.size:=by rw[F.size];exact hi
 simp[Array.getD,this]
theorem Fl.cons {size:Nat} {L:List Nat} {listed:Array Bool} (F:Fl size L listed) {i:Nat}:Fl size (i::L) (listed.setIfInBounds i true) where
 size:=by simp[F.size]
 at_:=fun j hj=>by
  have hj':j < listed.size:=by rw[F.size];exact hj
  have:=F.at_ j hj
  simp only[Array.getD,Array.size_setIfInBounds,hj',dite_true,Array.getInternal_eq_getElem,Array.getElem_setIfInBounds] at this ⊢
  by_cases e:i=j
  ·simp[e]
  ·simp[e,this,Ne.symm e]
theorem CG.dd {ops:Array Oper} (H:CG P ops st0 As C W V T es) (hd:PI ops n=true) (hn:es.length=n) {t i j:Nat} (h1:(atE es i).d=some t) (h2:(atE es j).d=some t):i=j:=by
 have lt:∀{i},(atE es i).d=some t→i < n:=fun {i} h=>by
  rcases Nat.lt_or_ge i es.length with hl |hl
  ·omega
  ·rw[EK hl] at h;exact absurd h (by simp[default])
 obtain⟨o,a1,_,a2,_⟩:=H.loc i (by rw[hn];exact lt h1)
 obtain⟨o',b1,_,b2,_⟩:=H.loc j (by rw[hn];exact lt h2)
 simp only[PI,List.all_eq_true,List.mem_range,Bool.or_eq_true,beq_iff_eq] at hd
 rcases hd i (lt h1) j (lt h2) with h |h
 ·exact h
 ·rw[a1,b1] at h
  simp only[Option.bind_some,←a2,←b2,h1,h2] at h
  simp at h
theorem I9 {es':List Eff}:∀{A:List Nat} {b:List (Nat×AV)},(∀j∈A,atE es j=atE es' j)→EZ es A b=EZ es' A b
 |[],_,_=>rfl
 |j::A,b,h=>by simp only[EZ];rw[h j (by simp),I9 fun k hk=>h k (by simp[hk])]
theorem HJ {es':List Eff}:∀{A:List Nat} {b:List (Nat×List AV)},(∀j∈A,atE es j=atE es' j)→alL es A b=alL es' A b
 |[],_,_=>rfl
 |j::A,b,h=>by simp only[alL];rw[h j (by simp),HJ fun k hk=>h k (by simp[hk])]
theorem HK {es':List Eff}:∀{A:List Nat} {b:List (Nat×VS)},(∀j∈A,atE es j=atE es' j)→nvL es A b=nvL es' A b
 |[],_,_=>rfl
 |j::A,b,h=>by simp only[nvL];rw[h j (by simp),HK fun k hk=>h k (by simp[hk])]
theorem HL {es':List Eff}:∀{A:List Nat} {b:List (Nat×List AV)},(∀j∈A,atE es j=atE es' j)→chE es A b=chE es' A b
 |[],_,_=>rfl
 |j::A,b,h=>by simp only[chE];rw[h j (by simp),HL fun k hk=>h k (by simp[hk])]
theorem Df {i j:Nat} (h:j < i):atE (es.take i) j=atE es j:=by simp[atE,List.getD,List.getElem?_take_of_lt h]
structure Fo (ops:Array Oper) (n:Nat) (As:List (List Nat)) (C:List Nat) (W:List (Nat×List Nat)) (V:Option (Nat×Nat)) (T:List Nat):Prop where
 anc:S8 ops As=true
 tail:OG ops As n=true
 dst:PI ops n=true
 see:Wg ops As n=true
 cn:C.all (fun c=>decide (c < n))=true
 gone:OH ops As W V T n=true
 wc:(W.all fun q=>q.2.all fun c=>C.contains c)=true
 chs:(W.all fun q=>chainB.go As (C.filter (wrB W q.1)))=true
theorem Y1 {ops:Array Oper} (h:KS ops As C W V T n=true):Fo ops n As C W V T:=by
 simp only[KS,Bool.and_eq_true] at h
 obtain⟨⟨⟨⟨⟨⟨⟨h1,h2⟩,h3⟩,h4⟩,h5⟩,h6⟩,h7⟩,h8⟩:=h
 exact⟨h1,h2,h3,h4,h5,h6,h7,h8⟩
theorem Fo.ch {ops:Array Oper} (D:Fo ops n As C W V T):∀m∈W.map (·.1),chainB.go As (C.filter (wrB W m))=true:=fun m hm=>by
 have:=D.chs
 simp only[List.all_eq_true] at this
 obtain⟨q,hq,rfl⟩:=List.mem_map.1 hm
 exact this q hq
theorem Fo.cl {ops:Array Oper} (D:Fo ops n As C W V T):∀c∈C,c < n:=by
 have:=D.cn
 simp only[List.all_eq_true,decide_eq_true_eq] at this
 exact this
theorem Fo.lt {ops:Array Oper} (D:Fo ops n As C W V T):∀(i:Nat) (o:Oper),ops[i]? =some o→∀j∈As.getD i [],j < i:=fun i=>by
 induction i using Nat.strongRecOn with
 |_ i ih=>
  intro o ho j hj
  obtain⟨g1,g2⟩:=GY D.anc ho
  obtain⟨k,hk,rfl |hjk⟩:=g2 j hj
  ·exact g1 _ hk
  ·have hki:=g1 k hk
   have hks:k < ops.size:=by have:=(Array.getElem?_eq_some_iff.1 ho).1;omega
   exact Nat.lt_trans (ih k hki _ (Array.getElem?_eq_getElem hks) j hjk) hki
theorem JA {L:List Nat} (X:Ex n As L) {i m:Nat} (hL:i∉L) (h:gone V L=some m):PH As V i=false∧∃c,V=some (c,m)∧c∈L:=by
 unfold gone at h
 split at h
 ·rename_i c k
  split at h
  ·rename_i hc
   cases h
   refine⟨?_,c,rfl,hc⟩
   simp only[PH,Bool.or_eq_false_iff,beq_eq_false_iff_ne]
   refine⟨fun e=>hL (e▸hc),?_⟩
   rw[← Bool.not_eq_true,List.contains_iff_mem]
   exact fun h=>hL (X.down c hc i h)
  ·cases h
 ·cases h
theorem JB {α:Type}:∀{l:List (Nat×α)} {n:Nat} {x:α},get l n=some x→∃q∈l,q=(n,x)
 |[],_,_,h=>by simp[get] at h
 |(k,v)::l,n,x,h=>by
  simp only[get] at h
  split at h
  ·rename_i e;subst e;cases h;exact⟨_,by simp,rfl⟩
  ·obtain⟨q,hq,e⟩:=JB h;exact⟨q,by simp[hq],e⟩
theorem QX:gone V []=none:=by unfold gone;split <;> simp
theorem MC:GT V es st0 []=st0:=by
 unfold GT
 rw[QX]
 show({ nt:=st0.nt,env:=Bl (Ew none) st0.env,box:=st0.box,vec:=st0.vec }:St)=st0
 rw[Ay]
theorem Wh {ops:Array Oper} (D:Fo ops n As C W V T) (H:CG P ops st0 As C W V T es) (hV:stV V T W st0=true) (hn:es.length=n) {L:List Nat} (X:Ex n As L) {i:Nat} (hi:i < n) (hL:i∉L) (ha:∀j∈As.getD i [],j∈L) {o:Oper} (ho:ops[i]? =some o):
  Agr ops o (Bc As C W V st0 (es.take i) i) (GT V es st0 L):=by
 have hAlt:∀j∈As.getD i [],j < i:=D.lt i o ho
 have hu:∀{t:Nat} (i j:Nat),(atE es i).d=some t→(atE es j).d=some t→i=j:=fun i j h1 h2=>H.dd D.dst hn h1 h2
 have hbef:∀c∈I3 As C i,c < i:=fun c hc=>hAlt c (by simpa[I3] using (List.mem_filter.1 (List.mem_reverse.1 hc)).2)
 refine⟨OI L,fun m s hm=>?_,fun t ht=>?_,fun m cs hm=>?_⟩
 ·simp only[Bc] at hm
  rw[HK (es:=es.take i) (es':=es) fun j hj=>Df (hAlt j hj)] at hm
  rw[EI]
  by_cases hex:∃j∈As.getD i [],FF es j m
  ·obtain⟨j,hj,hk⟩:=hex
   rw[I7 hu _ hj hk] at hm
   rw[I7 hu _ (ha j hj) hk,hm]
  ·rw[GW _ fun j hj h=>hex ⟨j,hj,h⟩] at hm
   have h0:get st0.vec m=some s:=by
    cases hq:(if PH As V i=true then none else V.map (·.2)) with
    |none=>rw[hq] at hm;exact hm
    |some k=>
     rw[hq] at hm
     simp only[DO,Av] at hm
     split at hm
     ·cases hm
     ·exact hm
   rw[GW _ fun j hj h=>?_]
   ·cases hg:gone V L with
    |none=>exact h0
    |some k=>
     obtain⟨hb,c,rfl,hc⟩:=JA X hL hg
     rw[hb] at hm
     exact hm
   ·have:=H.mkV h
    rw[h0] at this;cases this
 ·simp only[St.look,FE,Bc]
  rw[I9 (es:=es.take i) (es':=es) fun j hj=>Df (hAlt j hj)]
  have hsame:get (EZ es L st0.env) t=get (EZ es (As.getD i []) st0.env) t:=by
   by_cases hex:∃j∈As.getD i [],(atE es j).d=some t
   ·obtain⟨j,hj,hd⟩:=hex
    rw[F7 hu _ (ha j hj) hd,F7 hu _ hj hd]
   ·rw[HI,HI]
    ·exact fun j hj h=>hex ⟨j,hj,h⟩
    ·intro j hj hd
     have hjn:=X.lt j hj
     obtain⟨oj,hoj,_,hdj,_⟩:=H.loc j (by rw[hn];exact hjn)
     have hs:=D.see
     simp only[Wg,List.all_eq_true,List.mem_range] at hs
     have:=hs i hi
     rw[ho] at this
     simp only[List.all_eq_true,List.mem_range] at this
     have:=this j hjn
     rw[hoj] at this
     simp only[Option.bind_some,←hdj,hd,Bool.or_eq_true,Bool.not_eq_true',beq_iff_eq,List.contains_iff_mem] at this
     rcases this with ((h |h) |h) |h
     ·rw[← Bool.not_eq_true,List.contains_iff_mem] at h;exact h ht
     ·exact hex ⟨j,h,hd⟩
     ·exact hL (h▸hj)
     ·exact hL (X.down j hj i h)
  rw[hsame]
  cases hg:gone V L with
  |none=>cases get (EZ es (As.getD i []) st0.env) t <;> rfl
  |some m=>
   obtain⟨hb,c,rfl,hc⟩:=JA X hL hg
   have htT:t∉T:=by
    have h1:=D.gone
    simp only[OH,Bool.and_eq_true,List.all_eq_true,List.mem_range,Bool.or_eq_true] at h1
    rcases h1.2 i hi with h2 |h2
    ·rw[hb] at h2;cases h2
    ·rw[ho] at h2
     simp only[List.all_eq_true,Bool.not_eq_true'] at h2
     have:=h2 t ht
     rw[← Bool.not_eq_true,List.contains_iff_mem] at this
     exact this
   cases hx:get (EZ es (As.getD i []) st0.env) t with
   |none=>rfl
   |some x=>
    have hok:x.wf (fun _=>true) (fun k=>k != m)=true:=by
     by_cases hex:∃j∈As.getD i [],(atE es j).d=some t
     ·obtain⟨j,hj,hd⟩:=hex
      rw[F7 hu _ hj hd] at hx
      cases hx
      rcases H.ok j (by rw[hn];exact X.lt j (ha j hj)) with h2 |⟨c',m',d,h2,h3,h4,h5⟩
      ·exact h2
      ·rw[hd] at h4;cases h4;exact absurd h5 htT
     ·rw[HI _ fun j hj h=>hex ⟨j,hj,h⟩] at hx
      simp only[stV,Bool.and_eq_true,List.all_eq_true,Bool.or_eq_true,List.contains_iff_mem] at hV
      obtain⟨q,hq,hqe⟩:=JB hx
      rcases hV.1.1 q hq with h2 |h2
      ·rw[hqe] at h2;exact absurd h2 htT
      ·rw[hqe] at h2;exact h2
    show(some (x.scrub m)).getD .undef=x
    rw[I5 hok];rfl
 ·simp only[Bc] at hm
  rw[HJ (es:=es.take i) (es':=es) fun j hj=>Df (hAlt j hj)] at hm
  show get (EH es st0.box L) m=some cs
  by_cases hex:∃j∈As.getD i [],makes es j m
  ·obtain⟨j,hj,hk⟩:=hex
   rw[KT hu _ hj hk] at hm
   rw[Bg H (H.mkW hk).1,KT hu _ (ha j hj) hk,hm]
  ·rw[Ht _ fun j hj h=>hex ⟨j,hj,h⟩] at hm
   rw[I6] at hm
   split at hm
   ·cases hm
   rename_i hhid
   rw[HL (es:=es.take i) (es':=es) fun j hj=>Df (hbef j hj)] at hm
   by_cases hmW:m∈W.map (·.1)
   ·rw[C6 H hmW,Ex.seen H (D.ch m hmW) X hhid hL ha,hm]
   ·have h0:get st0.box m=some cs:=by
     have:∀L,get (chE es L st0.box) m=get st0.box m:=fun L=>by
      induction L with
      |nil=>rfl
      |cons c L ih=>
       simp only[chE]
       rw[Dw,EJ (l:=(atE es c).bs) (t:=m) (fun x hx e=>hmW (by rw[← e];exact H.bsW c x hx)),ih]
     rwa [this] at hm
    rw[Bg H hmW,Ht _ fun j hj h=>?_,h0]
    have:=(H.mkW h).2
    rw[h0] at this;cases this
theorem KW {ops:Array Oper} (D:Fo ops n As C W V T) (H:CG P ops st0 As C W V T es) (hV:stV V T W st0=true) (hn:es.length=n) {L:List Nat} (X:Ex n As L) {i:Nat} (hi:i < n) (hL:i∉L) (ha:∀j∈As.getD i [],j∈L):
  Eqv ((atE es i).on (GT V es st0 L)) (GT V es st0 (i::L)):=by
 have hrm:=H.rm i (by rw[hn];exact hi)
 have hgl:gone V (i::L)=match gone V L with |some m=>some m |none=>IH V i:=by
  unfold gone IH
  cases V with
  |none=>rfl
  |some q=>
   obtain⟨c,m⟩:=q
   by_cases h1:c∈L
   ·simp[h1]
   ·by_cases h2:c=i
    ·subst h2;simp[h1]
    ·simp[h1,h2]
 have hone:∀m,gone V L=some m→IH V i=none:=fun m h=>by
  obtain⟨_,c,rfl,hc⟩:=JA X hL h
  unfold IH
  have:c≠i:=fun e=>hL (e▸hc)
  simp[this]
 have hval:∀m,gone V (i::L)=some m→(atE es i).v.scrub m=(atE es i).v∨(atE es i).d=none:=fun m h=>by
  rcases H.ok i (by rw[hn];exact hi) with h1 |⟨c,k,d,h1,h2,h3,h4⟩
  ·unfold gone at h
   split at h
   ·split at h
    ·cases h;exact .inl (I5 h1)
    ·cases h
   ·cases h
  ·exfalso
   subst h1
   unfold gone at h
   simp only at h
   split at h
   ·rename_i hc
    rcases List.mem_cons.1 hc with rfl |hc
    ·-- c is not ahead of itself
     obtain⟨o,ho,_⟩:=H.loc c (by rw[hn];exact hi)
     have:=D.lt c o ho c h2
     omega
    ·exact hL (X.down c hc i h2)
   ·cases h
 refine⟨rfl,fun t=>?_,fun m=>rfl,fun m=>?_⟩
 ·rw[FE]
  simp only[Eff.on,MA,BF,FE,EZ]
  rw[hrm]
  by_cases hd:(atE es i).d=some t
  ·rw[if_pos hd,if_pos hd]
   cases hg:gone V (i::L) with
   |none=>rfl
   |some m=>
    rcases hval m hg with h1 |h1
    ·show some _=_;simp only[Option.map_some,Ew];rw[h1]
    ·rw[h1] at hd;cases hd
  ·rw[if_neg hd,if_neg hd,hgl]
   cases hg:gone V L with
   |none=>
    simp only
    cases get (EZ es L st0.env) t with
    |none=>rfl
    |some x=>rfl
   |some m=>
    rw[hone m hg]
    simp only
    cases get (EZ es L st0.env) t with
    |none=>rfl
    |some x=>rfl
 ·rw[EI]
  simp only[Eff.on,EI,nvL]
  rw[hrm,GV,GV]
  split
  ·rfl
  ·rw[hgl]
   cases hg:gone V L with
   |none=>
    simp only
    cases hr:IH V i with
    |none=>rfl
    |some k=>
     simp only[DO,Av]
     have hu:∀{t:Nat} (i j:Nat),(atE es i).d=some t→(atE es j).d=some t→i=j:=fun i j h1 h2=>H.dd D.dst hn h1 h2
     by_cases hex:∃j∈L,FF es j m
     ·obtain⟨j,hj,hk⟩:=hex
      rw[I7 hu _ hj hk,I7 hu _ hj hk]
      have h0:=H.mkV hk
      split
      ·rename_i e
       subst e
       -- the row that goes away was there from the start
       have hlive:(get st0.vec k).isSome=true:=by
        unfold IH at hr
        split at hr
        ·split at hr
         ·cases hr
          simp only[stV,Bool.and_eq_true] at hV
          exact hV.2
         ·cases hr
        ·cases hr
       rw[h0] at hlive;cases hlive
      ·rfl
     ·rw[GW _ fun j hj h=>hex ⟨j,hj,h⟩,GW _ fun j hj h=>hex ⟨j,hj,h⟩,Av]
   |some k=>rw[hone k hg];rfl
theorem Wi {ops:Array Oper} (D:Fo ops n As C W V T) (H:CG P ops st0 As C W V T es) (hn:es.length=n) {L L':List Nat} (X:Ex n As L) (hl:L.length=n) (X':Ex n As L') (hl':L'.length=n):Eqv (GT V es st0 L) (GT V es st0 L'):=by
 have hu:∀{t:Nat} (i j:Nat),(atE es i).d=some t→(atE es j).d=some t→i=j:=fun i j h1 h2=>H.dd D.dst hn h1 h2
 have mem:∀i,i∈L↔i∈L':=fun i=>⟨fun h=>X'.full hl' i (X.lt i h),fun h=>X.full hl i (X'.lt i h)⟩
 have hg:gone V L=gone V L':=by unfold gone;split <;> simp[mem]
 have hch:∀{M:List Nat} {C':List Nat},chainB.go As C'=true→(∀c∈C',c∈C)→Ex n As M→M.length=n→M.filter (C'.contains ·)=C'.reverse:=fun {L} {C'} hgo hsubC X hl=>by
  obtain⟨m,hm⟩:=X.chain hgo
  rw[hm]
  have hlen:(L.filter (C'.contains ·)).length=(C'.take m).length:=by rw[hm];simp
  have hsub:∀c∈C',c∈C'.take m:=fun c hc=>by
   rw[← List.mem_reverse,←hm,List.mem_filter]
   exact⟨X.full hl c (D.cl c (hsubC c hc)),by simpa using hc⟩
  have:=Ex.len.List.Nodup.length_le_of_subset' (De hgo).1 hsub
  rw[List.take_of_length_le (by simp at this;omega)]
 refine⟨rfl,fun t=>?_,fun m=>?_,fun m=>by
  rw[EI,EI,hg]
  by_cases hex:∃j∈L,FF es j m
  ·obtain⟨j,hj,hd⟩:=hex
   rw[I7 hu _ hj hd,I7 hu _ ((mem j).1 hj) hd]
  ·rw[GW _ fun j hj h=>hex ⟨j,(mem j).2 hj,h⟩,GW _ fun j hj h=>hex ⟨j,hj,h⟩]⟩
 ·rw[FE,FE,hg]
  congr 1
  by_cases hex:∃j∈L,(atE es j).d=some t
  ·obtain⟨j,hj,hd⟩:=hex
   rw[F7 hu _ hj hd,F7 hu _ ((mem j).1 hj) hd]
  ·rw[HI _ fun j hj h=>hex ⟨j,(mem j).2 hj,h⟩,HI _ fun j hj h=>hex ⟨j,hj,h⟩]
 ·show get (EH es st0.box L') m=get (EH es st0.box L) m
  by_cases hmW:m∈W.map (·.1)
  ·rw[C6 H hmW,C6 H hmW,NA H,NA H,hch (D.ch m hmW) (fun c hc=>(List.mem_filter.1 hc).1) X hl,hch (D.ch m hmW) (fun c hc=>(List.mem_filter.1 hc).1) X' hl']
  ·rw[Bg H hmW,Bg H hmW]
   by_cases hex:∃j∈L,makes es j m
   ·obtain⟨j,hj,hd⟩:=hex
    rw[KT hu _ hj hd,KT hu _ ((mem j).1 hj) hd]
   ·rw[Ht _ fun j hj h=>hex ⟨j,(mem j).2 hj,h⟩,Ht _ fun j hj h=>hex ⟨j,hj,h⟩]
theorem X0 {ops:Array Oper} (D:Fo ops n As C W V T) (hns:n≤ops.size):∀k≤n,Ex n As (List.range k).reverse:=fun k=>by
 induction k with
 |zero=>intro _;exact .nil
 |succ k ih=>
  intro hk
  rw[List.range_succ,List.reverse_append]
  refine .cons (ih (by omega)) hk (by simp) fun j hj=>?_
  have hks:k < ops.size:=by omega
  simpa using D.lt k _ (Array.getElem?_eq_getElem hks) j hj
theorem Wj {ops:Array Oper} (D:Fo ops n As C W V T) (H:CG P ops st0 As C W V T es) (hV:stV V T W st0=true) (hn:es.length=n) (hl:∀j,(l.drop n)[j]? =ops[n+j]?) (hsz:ops.size=l.length) {F:St} (hF:Eqv (GT V es st0 (List.range n).reverse) F)
  (HT:Az P K ops (l.drop n) F Q):∀(k:Nat) (L:List Nat) (listed:Array Bool) (a:Act) (w:World) (p:Pl),L.length+k=n→Ex n As L→Fl ops.size L listed→Rel K (GT V es st0 L) a w p→
  wpAny P .any ops (Pst K Q) (k+(ops.size - n)) listed a w:=by
 have ht:=D.tail
 simp only[OG,Bool.and_eq_true,decide_eq_true_eq,List.all_eq_true,List.mem_range,Bool.or_eq_true,List.contains_iff_mem] at ht
 obtain⟨⟨hns,htl⟩,hseq⟩:=ht
 intro k
 induction k with
 |zero=>
  intro L listed a w p hlen X fl R
  have hLn:L.length=n:=by omega
  have hlist:listed=Array.replicate n true++Array.replicate (ops.size - n) false:=by
   refine Array.ext_getElem? fun j=>?_
   rw[Array.getElem?_append]
   simp only[Array.size_replicate,Array.getElem?_replicate]
   by_cases hj:j < n
   ·have hjs:j < ops.size:=by omega
    have h1:=(fl.at_ j hjs).2 (X.full hLn j hj)
    have hjl:j < listed.size:=by rw[fl.size];exact hjs
    simp only[Array.getD,hjl,dite_true,Array.getInternal_eq_getElem] at h1
    simp[hj,Array.getElem?_eq_getElem hjl,h1]
   ·by_cases hjs:j < ops.size
    ·have h1:¬listed.getD j true=true:=fun h=>hj (X.lt j ((fl.at_ j hjs).1 h))
     have hjl:j < listed.size:=by rw[fl.size];exact hjs
     simp only[Array.getD,hjl,dite_true,Array.getInternal_eq_getElem] at h1
     simp[hj,Array.getElem?_eq_getElem hjl,h1,show j - n < ops.size - n by omega]
    ·simp[hj,show ¬j - n < ops.size - n by omega,Array.getElem?_eq_none (show listed.size≤j by rw[fl.size];omega)]
  have hdl:(l.drop n).length=ops.size - n:=by simp[hsz]
  have R2:Rel K F a w p:=(R.eqv (Wi D H hn X hLn (X0 D hns n (Nat.le_refl n)) (by simp))).eqv hF
  have:=wpAny_of_seq (md:=.any) (Q':=Pst K Q) (l.drop n) n listed a w hl (by rw[hdl,hlist];exact hseq) (HT a w p R2)
  rw[hdl] at this
  rw[Nat.zero_add];exact this
 |succ k ih=>
  intro L listed a w p hlen X fl R
  rw[show k+1+(ops.size - n)=(k+(ops.size - n))+1 by omega]
  have edgeIn:∀{i:Nat} {o:Oper},ops[i]? =some o→∀j∈Ea o,j < ops.size:=fun {i o} ho j hj=>by
   have:=(GY D.anc ho).1 j hj
   have:=(Array.getElem?_eq_some_iff.1 ho).1
   omega
  refine⟨fun hr=>?_,fun i hi=>?_⟩
  ·exfalso
   -- the least one that is not yet carried out is ready
   have hex:∃i,i < n∧i∉L:=by
    refine Classical.byContradiction fun hno=>?_
    have hall:∀i∈List.range n,i∈L:=fun i hi=>Classical.byContradiction fun h=>hno ⟨i,List.mem_range.1 hi,h⟩
    have:=Ex.len.List.Nodup.length_le_of_subset' List.nodup_range hall
    simp at this;omega
   have hmin:∀m,(∀i < m,i < n→i∈L)∨∃i,i < n∧i∉L∧∀j < i,j∈L:=fun m=>by
    induction m with
    |zero=>exact .inl fun i hi=>by omega
    |succ m ihm=>
     rcases ihm with h |h
     ·by_cases hm:m < n∧m∉L
      ·exact .inr ⟨m,hm.1,hm.2,fun j hj=>h j hj (by omega)⟩
      ·refine .inl fun i hi hin=>?_
       rcases Nat.lt_succ_iff_lt_or_eq.1 hi with h1 |h1
       ·exact h i h1 hin
       ·subst h1;exact Classical.byContradiction fun h2=>hm ⟨hin,h2⟩
     ·exact .inr h
   obtain⟨i,hin,hiL,hbel⟩:∃i,i < n∧i∉L∧∀j < i,j∈L:=by
    rcases hmin n with h |h
    ·obtain⟨i,h1,h2⟩:=hex;exact absurd (h i h1 h1) h2
    ·exact h
   have his:i < ops.size:=by omega
   have ho:ops[i]? =some ops[i]:=Array.getElem?_eq_getElem his
   have:i∈Region.ready .any ops listed:=KV.2 ⟨his,by
    have:=fl.at_ i his
    cases hq:listed.getD i true with
    |false=>rfl
    |true=>exact absurd (this.1 hq) hiL,_,ho,fun j hj=>(fl.getF (edgeIn ho j hj)).2 (hbel j ((GY D.anc ho).1 j hj))⟩
   rw[hr] at this;cases this
  ·obtain⟨his,hun,o,ho,hed⟩:=KV.1 hi
   have hiL:i∉L:=fun h=>by rw[(fl.at_ i his).2 h] at hun;cases hun
   have hedL:∀j∈Ea o,j∈L:=fun j hj=>(fl.getF (edgeIn ho j hj)).1 (hed j hj)
   have ha:∀j∈As.getD i [],j∈L:=fun j hj=>by
    obtain⟨m,hm,rfl |hjm⟩:=(GY D.anc ho).2 j hj
    ·exact hedL _ hm
    ·exact X.down m (hedL m hm) j hjm
   have hin:i < n:=by
    refine Classical.byContradiction fun hge=>?_
    rcases htl i his with h |h
    ·exact hge h
    ·have:=Ex.len.List.Nodup.length_le_of_subset' List.nodup_range (l':=L) fun j hj=>ha j (h j (List.mem_range.1 hj))
     simp at this;omega
   obtain⟨o',ho',hloc,hdd,hal,_,_,_⟩:=H.loc i (by rw[hn];exact hin)
   rw[ho] at ho';cases ho'
   have A:=Wh D H hV hn X hin hiL ha ho
   have hAlt:∀j∈As.getD i [],j < i:=D.lt i o ho
   have hin':i < es.length:=by rw[hn];exact hin
   have hbef:∀c∈I3 As C i,c < i:=fun c hc=>hAlt c (by simpa[I3] using (List.mem_filter.1 (List.mem_reverse.1 hc)).2)
   have hdel:∀(g:Option Nat) (m:Nat),get st0.vec m=none→get (DO g st0.vec) m=none:=fun g m h=>by
    cases g with
    |none=>exact h
    |some k=>simp only[DO,Av];split;rfl;exact h
   have hboxI:∀m∈W.map (·.1),(∀q∈W,q.1=m→i∈q.2)→get (Bc As C W V st0 (es.take i) i).box m=get (EH es st0.box L) m:=fun m hm hcw=>by
    have hhid:m∉I4 As i W:=fun h=>by
     have key:∀{W':List (Nat×List Nat)},m∈I4 As i W'→∃q∈W',q.1=m∧I2 As q.2 i=false:=fun {W'}=>by
      induction W' with
      |nil=>intro h;simp[I4] at h
      |cons q W' ih=>
       intro h
       simp only[I4] at h
       split at h
       ·obtain⟨q',h1,h2⟩:=ih h;exact⟨q',by simp[h1],h2⟩
       ·rename_i hq
        rcases List.mem_cons.1 h with rfl |h
        ·exact⟨q,by simp,rfl,by simpa using hq⟩
        ·obtain⟨q',h1,h2⟩:=ih h;exact⟨q',by simp[h1],h2⟩
     obtain⟨q,hq,hqm,hcf⟩:=key h
     have hqC:∀c∈q.2,c∈C.filter (wrB W m):=fun c hc=>by
      have h1:=D.wc
      simp only[List.all_eq_true,List.contains_iff_mem] at h1
      exact List.mem_filter.2 ⟨h1 q hq c hc,IV.2 ⟨q,hq,hqm,hc⟩⟩
     have hci:=hqC i (hcw q hq hqm)
     obtain⟨hnd,hpw⟩:=De (D.ch m hm)
     obtain⟨pre,post,e⟩:=List.append_of_mem hci
     rw[e] at hpw hqC
     have:I2 As q.2 i=true:=by
      simp only[I2,List.all_eq_true,Bool.or_eq_true,beq_iff_eq,List.contains_iff_mem]
      intro c hc
      have hc:=hqC c hc
      rw[List.mem_append,List.mem_cons] at hc
      rcases hc with hc |hc |hc
      ·exact .inl (.inr ((List.pairwise_append.1 hpw).2.2 c hc i (by simp)))
      ·exact .inl (.inl hc)
      ·exact .inr (List.rel_of_pairwise_cons (List.pairwise_append.1 hpw).2.1 hc)
     rw[this] at hcf;cases hcf
    simp only[Bc]
    rw[HJ (es:=es.take i) (es':=es) fun j hj=>Df (hAlt j hj),HL (es:=es.take i) (es':=es) fun j hj=>Df (hbef j hj),Ht _ fun j _ hk=>(H.mkW hk).1 hm,I6,if_neg hhid,C6 H hm,Ex.seen H (D.ch m hm) X hhid hiL ha]
   have hboxW:∀k,(atE es i).rm=some k→∀m∈W.map (·.1),get (Bc As C W V st0 (es.take i) i).box m=get (EH es st0.box L) m:=fun k hk m hm=>by
    have hrm:=H.rm i hin'
    rw[hk] at hrm
    refine hboxI m hm fun q hq _=>?_
    have h1:=D.gone
    unfold IH at hrm
    split at hrm
    ·split at hrm
     ·rename_i c m' e
      subst e
      simp only[OH,Bool.and_eq_true,List.all_eq_true,List.contains_iff_mem] at h1
      exact h1.1.1 q hq
     ·cases hrm
    ·cases hrm
   have hboxN:∀k,(atE es i).rm=some k→∀m,m∉W.map (·.1)→∀cs,get (EH es st0.box L) m=some cs→AV.wfL (fun _=>true) (fun q=>q != k) cs=true:=fun k hk m hm cs hcs=>by
    have hrm:=H.rm i hin'
    rw[hk] at hrm
    obtain⟨c,rfl⟩:∃c,V=some (c,k):=by
     unfold IH at hrm
     split at hrm
     ·split at hrm
      ·cases hrm;exact⟨_,rfl⟩
      ·cases hrm
     ·cases hrm
    rw[Bg H hm] at hcs
    have hu:∀{t:Nat} (i j:Nat),(atE es i).d=some t→(atE es j).d=some t→i=j:=fun i j h1 h2=>H.dd D.dst hn h1 h2
    by_cases hex:∃j∈L,makes es j m
    ·obtain⟨j,hj,hd⟩:=hex
     rw[KT hu _ hj hd] at hcs
     exact H.al j (by rw[hn];exact X.lt j hj) cs hcs
    ·rw[Ht _ fun j hj h=>hex ⟨j,hj,h⟩] at hcs
     obtain⟨q,hq,rfl⟩:=JB hcs
     simp only[stV,Bool.and_eq_true,List.all_eq_true,Bool.or_eq_true,List.contains_iff_mem,List.any_eq_true,beq_iff_eq] at hV
     rcases hV.1.2 _ hq with ⟨q,h2,h3⟩ |h2
     ·exact absurd (List.mem_map.2 ⟨q,h2,h3⟩) hm
     ·exact h2
   have hop:=hloc.run (K:=K) A (OI L) (fun d h1 h2=>⟨by
    rw[EI,GW _ fun j hj hk=>?_]
    ·exact hdel _ _ h2
    ·have:=H.dd D.dst hn hk.1 (hdd.trans h1);subst this;exact hiL hj,by
    simp only[Bc]
    rw[HK (es:=es.take i) (es':=es) fun j hj=>Df (hAlt j hj),GW _ fun j hj hk=>?_]
    ·exact hdel _ _ h2
    ·have:=H.dd D.dst hn hk.1 (hdd.trans h1);subst this;have:=hAlt _ hj;omega⟩) (fun d cs h1 h2=>by
    have hmk:makes es i d:=⟨h2,by rw[h1];rfl⟩
    show get (EH es st0.box L) d=none
    rw[Bg H (H.mkW hmk).1,Ht _ fun j hj hk=>?_]
    ·exact(H.mkW hmk).2
    ·have:=H.dd D.dst hn hk.1 h2;subst this;exact hiL hj) (fun k hk m cs hcs=>by
    by_cases hm:m∈W.map (·.1)
    ·exact H.bx i hin' k hk m hm cs (by rw[hboxW k hk m hm];exact hcs)
    ·refine .inr ⟨EJ fun x hx e=>hm (by rw[← e];exact H.bsW i x hx),KR (hboxN k hk m hm cs hcs)⟩) (fun k hk m hcs=>by
    by_cases hm:m∈W.map (·.1)
    ·exact H.bn i hin' k hk m hm (by rw[hboxW k hk m hm];exact hcs)
    ·exact EJ fun x hx e=>hm (by rw[← e];exact H.bsW i x hx)) (fun d cs hx hS=>by
    obtain⟨q,hq,hqd,hqi⟩:=H.bsQ i _ hx
    have hnd:∀q'∈W,q'.1=d→i∈q'.2:=fun q' hq' e=>by
     have h1:=H.un i hin' (d,cs) hx
     exact h1 q' hq' e
    have:=hboxI d (List.mem_map.2 ⟨q,hq,hqd⟩) hnd
    rw[hS] at this;exact this.symm)
   exact hop.wpOp ho R fun a' w' p' R'=>ih (i::L) _ a' w' p' (by simp;omega) (.cons X hin hiL ha) fl.cons (R'.eqv (KW D H hV hn X hin hiL ha))
def GZ (P:Program) (K:Ctx P) (l:List Oper) (st0:St) (As:List (List Nat)) (C:List Nat) (W:List (Nat×List Nat)) (V:Option (Nat×Nat)) (T:List Nat) (n:Nat) (Q:Exit→St→Prop) (es:List Eff):Prop:=
 Fo l.toArray n As C W V T→stV V T W st0=true→CG P l.toArray st0 As C W V T es→∀(a:Act) (w:World) (p:Pl),Rel K st0 a w p→wpAny P .any l.toArray (Pst K Q) l.toArray.size (Array.replicate l.toArray.size false) a w
theorem MD {id:Nat} (As:List (List Nat)) (C:List Nat) (W:List (Nat×List Nat)) (V:Option (Nat×Nat)) (T:List Nat) (n:Nat) (hm:P.follows .mixedOrders=true) (hB:KS l.toArray As C W V T n=true) (hV:stV V T W st0=true) (h:GZ P K l st0 As C W V T n Q []):Tr P K (.region id l.toArray true) st0 Q:=fun a w p R=>
 wp_region_any hm (h (Y1 hB) hV ⟨fun i hi=>by simp at hi,fun i hi=>by simp at hi,fun i hi=>by simp at hi,fun i hi=>by simp at hi,fun i hi=>by simp at hi,fun i hi=>by simp at hi,fun i hi=>by simp at hi⟩ a _ p R.drew)
def onL:List Eff→St→St
 |[],st=>st
 |e::es,st=>onL es (e.on st)
theorem OJ:∀(es:List Eff) (e:Eff) (st:St),onL (es++[e]) st=e.on (onL es st)
 |[],_,_=>rfl
 |_::es,e,st=>OJ es e _
theorem Eqv.on {a b:St} (E:Eqv a b) (e:Eff):Eqv (e.on a) (e.on b):=⟨E.nt,fun t=>by simp only[Eff.on,MA,BF,E.env],fun m=>by simp only[Eff.on,GU,Dw,E.box],fun m=>by
 simp only[Eff.on,GV]
 split
 ·rfl
 ·cases e.rm with
  |none=>exact E.vec m
  |some k=>simp only[DO,Av,E.vec]⟩
theorem Eqv.trans {a b c:St} (E:Eqv a b) (E':Eqv b c):Eqv a c:=⟨E'.nt.trans E.nt,fun t=>(E'.env t).trans (E.env t),fun t=>(E'.box t).trans (E.box t),fun t=>(E'.vec t).trans (E.vec t)⟩
theorem Eqv.symm {a b:St} (E:Eqv a b):Eqv b a:=⟨E.nt.symm,fun t=>(E.env t).symm,fun t=>(E.box t).symm,fun t=>(E.vec t).symm⟩
theorem JC {ops:Array Oper} (D:Fo ops n As C W V T) (H:CG P ops st0 As C W V T es) (hV:stV V T W st0=true) (hn:es.length=n) (hns:n≤ops.size):∀k,k≤n→Eqv (GT V es st0 (List.range k).reverse) (onL (es.take k) st0)
 |0,_=>by
  show Eqv (GT V es st0 []) st0
  rw[MC];exact Eqv.refl _
 |k+1,h=>by
  have ih:=JC D H hV hn hns k (by omega)
  have X:=X0 D hns (k+1) h
  rw[List.range_succ,List.reverse_append] at X ⊢
  have X':=X0 D hns k (by omega)
  have hks:k < ops.size:=by omega
  have hst:=KW (i:=k) D H hV hn X' (by omega) (by simp) (fun j hj=>by simpa using D.lt k _ (Array.getElem?_eq_getElem hks) j hj)
  refine hst.symm.trans ?_
  rw[List.take_add_one,List.getElem?_eq_getElem (by omega),Option.toList_some,OJ]
  have e1:atE es k=es[k]:=by simp[atE,show k < es.length by omega]
  rw[e1]
  exact ih.on _
theorem BC (hlen:es.length=n) (h:Az P K l.toArray (l.drop n) (onL es st0) Q):GZ P K l st0 As C W V T n Q es:=fun D hV H a w p R=>by
 have hns:n≤l.toArray.size:=by
  have ht:=D.tail
  simp only[OG,Bool.and_eq_true,decide_eq_true_eq] at ht
  exact ht.1.1
 have:=Wj (K:=K) (Q:=Q) D H hV hlen (by simp) (by simp) (F:=onL es st0) (by
  have:=JC D H hV hlen hns n (Nat.le_refl n)
  rwa [List.take_of_length_le (by omega)] at this) h n [] (Array.replicate l.toArray.size false) a w p (by simp) .nil ⟨by simp,fun i hi=>by simp[Array.getD,show i < l.length from by simpa using hi]⟩ (by rw[MC];exact R)
 rwa [show n+(l.toArray.size - n)=l.toArray.size by omega] at this
def FG (As:List (List Nat)) (C:List Nat) (W:List (Nat×List Nat)) (V:Option (Nat×Nat)) (T:List Nat) (i:Nat) (e:Eff):Bool:=
 (match V with
  |none=>e.rm.isNone
  |some (c,m)=>(if c=i then e.rm==some m else e.rm.isNone)&&(e.v.wf (fun _=>true) (fun k=>k != m)||((As.getD c []).contains i&&match e.d with |some d=>T.contains d |none=>false))&&(match e.al with |some cs=>AV.wfL (fun _=>true) (fun k=>k != m) cs |none=>true))&&
 (C.contains i||e.bs.isEmpty)&&e.bs.all fun x=>(W.any fun q=>q.1==x.1&&q.2.contains i)&&W.all fun q=>q.1 != x.1||q.2.contains i
theorem ME {i:Nat} {e:Eff} (h:FG As C W V T i e=true):e.rm=IH V i∧(okV V e.v=true∨∃c m d,V=some (c,m)∧i∈As.getD c []∧e.d=some d∧d∈T)∧(∀cs,e.al=some cs→Y0 V cs=true)∧(∀x∈e.bs,∃q∈W,q.1=x.1∧i∈q.2)∧(i∉C→e.bs=[])∧(∀x∈e.bs,∀q∈W,q.1=x.1→i∈q.2):=by
 simp only[FG,Bool.and_eq_true,Bool.or_eq_true,List.contains_iff_mem,List.isEmpty_iff,List.all_eq_true,List.any_eq_true,beq_iff_eq] at h
 obtain⟨⟨h1,h2⟩,h3⟩:=h
 refine⟨?_,?_,?_,fun x hx=>(h3 x hx).1,fun hC=>h2.elim (fun h=>absurd h hC) id,fun x hx q hq e=>by
  have:=(h3 x hx).2 q hq
  simpa[e] using this⟩
 ·cases V with
  |none=>simpa[IH] using h1
  |some q=>
   obtain⟨c,m⟩:=q
   simp only[Bool.and_eq_true] at h1
   unfold IH
   by_cases e1:c=i
   ·have:=h1.1.1;rw[if_pos e1] at this;simp only;rw[if_pos e1];simpa using this
   ·have:=h1.1.1;rw[if_neg e1] at this;simp only;rw[if_neg e1];simpa using this
 ·cases V with
  |none=>exact .inl rfl
  |some q=>
   obtain⟨c,m⟩:=q
   simp only[Bool.and_eq_true,Bool.or_eq_true,List.contains_iff_mem] at h1
   rcases h1.1.2 with h4 |⟨h4,h5⟩
   ·exact .inl h4
   ·cases hd:e.d with
    |none=>rw[hd] at h5;cases h5
    |some d=>rw[hd] at h5;exact .inr ⟨c,m,d,rfl,h4,rfl,by simpa using h5⟩
 ·intro cs hcs
  cases V with
  |none=>rfl
  |some q=>
   obtain⟨c,m⟩:=q
   simp only[Bool.and_eq_true] at h1
   have:=h1.2
   rw[hcs] at this
   exact this
theorem CG.add {ops:Array Oper} (H:CG P ops st0 As C W V T es) {o:Oper} {e:Eff} (ho:ops[es.length]? =some o) (hL:Loc P ops st0 (Bc As C W V st0 es es.length) o e) (hd:e.d=o.dst) (hal:∀d,e.al.isSome=true→e.d=some d→d∉W.map (·.1)∧get st0.box d=none) (hnv:∀d,e.nv.isSome=true→e.d=some d→get st0.vec d=none)
  (hck:FG As C W V T es.length e=true)
  (hbx:∀k,e.rm=some k→∀m∈W.map (·.1),(∀cs,get (Bc As C W V st0 es es.length).box m=some cs→get e.bs m=some (cs.map (AV.scrub k))∨(get e.bs m=none∧cs.map (AV.scrub k)=cs))∧(get (Bc As C W V st0 es es.length).box m=none→get e.bs m=none)):CG P ops st0 As C W V T (es++[e]):=by
 obtain⟨c1,c2,c3,c4,c5,c6⟩:=ME hck
 have lt:∀{i},i < (es++[e]).length→i < es.length∨i=es.length:=fun h=>by simp at h;omega
 have eo:∀{i},i < es.length→atE (es++[e]) i=atE es i:=fun h=>by simp[atE,List.getD,List.getElem?_append_left h]
 have en:atE (es++[e]) es.length=e:=by simp[atE]
 have tk:∀{i},i≤es.length→(es++[e]).take i=es.take i:=fun h=>List.take_append_of_le_length h
 refine⟨fun i hi=>?_,fun i hi=>?_,fun i hi=>?_,fun i hi=>?_,fun i hi=>?_,fun i hi=>?_,fun i hi=>?_⟩
 ·rcases lt hi with h |rfl
  ·rw[eo h,tk (by omega)];exact H.loc i h
  ·rw[en,tk (Nat.le_refl _),List.take_length];exact⟨o,ho,hL,hd,hal,hnv,c4,c5⟩
 ·rcases lt hi with h |rfl
  ·rw[eo h];exact H.rm i h
  ·rw[en];exact c1
 ·rcases lt hi with h |rfl
  ·rw[eo h];exact H.ok i h
  ·rw[en];exact c2
 ·rcases lt hi with h |rfl
  ·rw[eo h];exact H.al i h
  ·rw[en];exact c3
 ·rcases lt hi with h |rfl
  ·rw[eo h,tk (by omega)];exact H.bx i h
  ·rw[en,tk (Nat.le_refl _),List.take_length];exact fun k hk m hm=>(hbx k hk m hm).1
 ·rcases lt hi with h |rfl
  ·rw[eo h,tk (by omega)];exact H.bn i h
  ·rw[en,tk (Nat.le_refl _),List.take_length];exact fun k hk m hm=>(hbx k hk m hm).2
 ·rcases lt hi with h |rfl
  ·rw[eo h];exact H.un i h
  ·rw[en];exact c6
def bsV:List Nat→Nat→St→List (Nat×List AV)
 |[],_,_=>[]
 |b::W,m,S=>match get S.box b with
  |some cs=>if AV.wfL (fun _=>true) (fun k=>k != m) cs=true then bsV W m S else(b,cs.map (AV.scrub m))::bsV W m S
  |none=>bsV W m S
theorem MF {S:St} {m:Nat}:∀(W:List Nat) (b:Nat),(∀cs,get S.box b=some cs→(get (bsV W m S) b=some (cs.map (AV.scrub m))∧b∈W)∨(get (bsV W m S) b=none∧(b∈W→cs.map (AV.scrub m)=cs)))∧(get S.box b=none→get (bsV W m S) b=none)
 |[],b=>⟨fun cs _=>.inr ⟨rfl,fun h=>by simp at h⟩,fun _=>rfl⟩
 |c::W,b=>by
  obtain⟨i1,i2⟩:=MF (S:=S) (m:=m) W b
  have lift:∀cs,get S.box b=some cs→(c=b→cs.map (AV.scrub m)=cs)→(get (bsV W m S) b=some (cs.map (AV.scrub m))∧b∈c::W)∨(get (bsV W m S) b=none∧(b∈c::W→cs.map (AV.scrub m)=cs)):=fun cs hcs hc=>by
   rcases i1 cs hcs with ⟨h1,h2⟩ |⟨h1,h2⟩
   ·exact .inl ⟨h1,by simp[h2]⟩
   ·refine .inr ⟨h1,fun h=>?_⟩
    rcases List.mem_cons.1 h with h |h
    ·exact hc h.symm
    ·exact h2 h
  simp only[bsV]
  cases hc:get S.box c with
  |none=>exact⟨fun cs hcs=>lift cs hcs (fun e=>by subst e;rw[hc] at hcs;cases hcs),i2⟩
  |some cs0=>
   simp only
   split
   ·rename_i hw
    exact⟨fun cs hcs=>lift cs hcs (fun e=>by subst e;rw[hc] at hcs;cases hcs;exact KR hw),i2⟩
   ·refine⟨fun cs hcs=>?_,fun hn=>?_⟩
    ·simp only[get]
     split
     ·rename_i e;subst e;rw[hc] at hcs;cases hcs;exact .inl ⟨rfl,by simp⟩
     ·rename_i e;exact lift cs hcs fun e'=>absurd e' e
    ·simp only[get]
     split
     ·rename_i e;subst e;rw[hc] at hn;cases hn
     ·exact i2 hn
def QY (P:Program) (ops:Array Oper) (st0 S:St) (o:Oper) (W:List (Nat×List Nat)):Option Eff:=
 match gdA ops S o with
 |none=>none
 |some false=>match o.dst with
  |some d=>if d < st0.nt then some ⟨some d,.tup [],none,[],none,none⟩ else none
  |none=>some ⟨none,.tup [],none,[],none,none⟩
 |some true=>match o.op with
  | .alloc t=>o.dst.bind fun d=>(Aw P t).bind fun z=>if(W.map (·.1)).contains d=true then(if d < st0.nt∧(get S.box d).isNone=true then some ⟨some d,.ptr d 0,none,[(d,z)],none,none⟩ else none) else if d < st0.nt∧(get st0.box d).isNone=true then some ⟨some d,.ptr d 0,some z,[],none,none⟩ else none
  | .box _ x=>o.dst.bind fun d=>(An (opd S x)).bind fun z=>if(W.map (·.1)).contains d=true then(if d < st0.nt∧(get S.box d).isNone=true then some ⟨some d,.ptr d 0,none,[(d,z)],none,none⟩ else none) else if d < st0.nt∧(get st0.box d).isNone=true then some ⟨some d,.ptr d 0,some z,[],none,none⟩ else none
  | .buildSlice t n parts=>o.dst.bind fun d=>if(get st0.vec d).isNone=true then(Bf P S d t n (parts.toList.map fun x=>(x.1,opd S x.2))).bind fun st'=>match st'.vec with
    |(_,s)::_=>some ⟨some d,.d (.slice s.rows),none,[],none,none⟩
    |[]=>none else none
  | .call c=>match c.callee,c.args.toList,c.argTypes.toList with
   | .builtin .append,[x,y],[t,t']=>o.dst.bind fun d=>match opd S x with
    | .nilS=>if(get st0.vec d).isNone=true then(Fi P S d t t' .nilS (opd S y)).bind fun st'=>match st'.vec with
     |(_,s)::_=>some ⟨some d,.vec d,none,[],some s,none⟩
     |[]=>none else none
    | .vec m=>if(get st0.vec d).isNone=true∧(get S.vec m).isSome=true then(Fi P S d t t' (.vec m) (opd S y)).bind fun st'=>match st'.vec with
     |(_,s)::_=>some ⟨some d,.vec d,none,bsV (W.map (·.1)) m S,some s,some m⟩
     |[]=>none else none
    |_=>none
   |_,_,_=>(vstep P S o).bind fun x=>match o.dst with
    |some d=>if d < st0.nt then some ⟨some d,x,none,[],none,none⟩ else none
    |none=>some ⟨none,x,none,[],none,none⟩
  | .lookup t x k okb=>match opd S x with
   | .d (.mp e z rows)=>(En P S t (.d (.mp e z rows)) (opd S k) okb).bind fun v=>match o.dst with
    |some d=>if d < st0.nt then some ⟨some d,v,none,[],none,none⟩ else none
    |none=>some ⟨none,v,none,[],none,none⟩
   |_=>none
  | .store t x y=>match o.dst,opd S x with
   |none,.ptr m k=>(An (opd S y)).bind fun l=>(get S.box m).bind fun cs=>if Ad P t=some l.length∧k+l.length≤cs.length then some ⟨none,.undef,none,[(m,Lw cs l k)],none,none⟩ else none
   |_,_=>none
  |_=>(vstep P S o).bind fun x=>match o.dst with
   |some d=>if d < st0.nt then some ⟨some d,x,none,[],none,none⟩ else none
   |none=>some ⟨none,x,none,[],none,none⟩
theorem LF {S st':St} {d:Nat} {t:TypeId} {n:Nat} {parts:List (Nat×AV)} (h:Bf P S d t n parts=some st'):∃s,st'=St.put { S with vec:=(d,s)::S.vec } d (.vec d):=by
 unfold Bf at h
 split at h
 case h_2=>cases h
 rename_i e0 he
 cases hz:Aw P e0 with
 |none=>simp[hz] at h
 |some zs=>
  simp only[hz,Option.bind_some] at h
  split at h
  case isFalse=>cases h
  rename_i hc
  cases hr:DZ (fun i=>some (i * zs.length,zs.length)) (List.replicate (n * zs.length) .undef) parts with
  |none=>simp[hr] at h
  |some r=>
   simp only[hr,Option.bind_some] at h
   cases hd2:EC r with
   |none=>simp[hd2] at h
   |some ds=>
    simp only[hd2,Option.bind_some] at h
    split at h
    ·cases h;exact⟨_,rfl⟩
    ·cases h
theorem PK {S st':St} {d:Nat} {t t':TypeId} {y:AV} (h:Fi P S d t t' .nilS y=some st'):∃s,st'=St.put { S with vec:=(d,s)::S.vec } d (.vec d):=by
 unfold Fi at h
 split at h
 case isFalse=>cases h
 split at h
 case h_2=>cases h
 rename_i e he
 cases hz:Aw P e with
 |none=>simp[hz] at h
 |some zs=>
  simp only[hz,Option.bind_some] at h
  cases hr:rowsOf S y with
  |none=>simp[hr] at h
  |some ys=>
   simp only[hr,Option.bind_some] at h
   split at h
   case isFalse=>cases h
   split at h
   case isFalse=>cases h
   split at h
   ·cases h;exact⟨_,rfl⟩
   ·cases h
theorem NB {S st':St} {d m:Nat} {t t':TypeId} {y:AV} (h:Fi P S d t t' (.vec m) y=some st'):∃s,st'=St.put { nt:=S.nt,env:=Bl (AV.scrub m) S.env,box:=Bl (List.map (AV.scrub m)) S.box,vec:=(d,s)::del S.vec m } d (.vec d):=by
 unfold Fi at h
 split at h
 case isFalse=>cases h
 split at h
 case h_2=>cases h
 rename_i e he
 cases hz:Aw P e with
 |none=>simp[hz] at h
 |some zs=>
  simp only[hz,Option.bind_some] at h
  cases hr:rowsOf S y with
  |none=>simp[hr] at h
  |some ys=>
   simp only[hr,Option.bind_some] at h
   split at h
   case isFalse=>cases h
   cases hs:get S.vec m with
   |none=>simp[hs] at h
   |some s0=>
    simp only[hs,Option.bind_some] at h
    split at h
    case isFalse=>cases h
    cases h;exact⟨_,rfl⟩
theorem QZ {ops:Array Oper} {S:St} {o:Oper} {e:Eff} (h:QY P ops st0 S o W=some e):
  Loc P ops st0 S o e∧e.d=o.dst∧(∀d,e.al.isSome=true→e.d=some d→d∉W.map (·.1)∧get st0.box d=none)∧(∀d,e.nv.isSome=true→e.d=some d→get st0.vec d=none)∧(∀k,e.rm=some k→e.bs=bsV (W.map (·.1)) k S):=by
 unfold QY at h
 split at h
 ·cases h
 ·rename_i hg
  split at h
  ·rename_i d hd
   split at h
   case isFalse=>cases h
   rename_i hlt
   cases h
   have:=Loc.skip (P:=P) (st0:=st0) hg (fun d' h'=>by rw[hd] at h';cases h';exact hlt)
   rw[hd] at this
   exact⟨this,hd.symm,fun _ h1=>(by simp at h1),fun _ h1=>(by simp at h1),fun _ h1=>(by simp at h1)⟩
  ·rename_i hd
   cases h
   have:=Loc.skip (P:=P) (st0:=st0) hg (fun d' h'=>by rw[hd] at h';cases h')
   rw[hd] at this
   exact⟨this,hd.symm,fun _ h1=>(by simp at h1),fun _ h1=>(by simp at h1),fun _ h1=>(by simp at h1)⟩
 ·rename_i hg
  have deflt:((vstep P S o).bind fun x=>match o.dst with
    |some d=>if d < st0.nt then some ⟨some d,x,none,[],none,none⟩ else none
    |none=>some ⟨none,x,none,[],none,none⟩:Option Eff)=some e→Loc P ops st0 S o e∧e.d=o.dst∧(∀d,e.al.isSome=true→e.d=some d→d∉W.map (·.1)∧get st0.box d=none)∧(∀d,e.nv.isSome=true→e.d=some d→get st0.vec d=none)∧(∀k,e.rm=some k→e.bs=bsV (W.map (·.1)) k S):=fun h=>by
   cases hx:vstep P S o with
   |none=>simp[hx] at h
   |some x=>
    simp only[hx,Option.bind_some] at h
    split at h
    ·rename_i d hd
     split at h
     case isFalse=>cases h
     rename_i hlt
     cases h
     have:=Loc.val (P:=P) (st0:=st0) hg hx (fun d' h'=>by rw[hd] at h';cases h';exact hlt)
     rw[hd] at this
     exact⟨this,hd.symm,fun _ h1=>(by simp at h1),fun _ h1=>(by simp at h1),fun _ h1=>(by simp at h1)⟩
    ·rename_i hd
     cases h
     have:=Loc.val (P:=P) (st0:=st0) hg hx (fun d' h'=>by rw[hd] at h';cases h')
     rw[hd] at this
     exact⟨this,hd.symm,fun _ h1=>(by simp at h1),fun _ h1=>(by simp at h1),fun _ h1=>(by simp at h1)⟩
  split at h
  ·rename_i t ho
   cases hd:o.dst with
   |none=>simp[hd] at h
   |some d=>
    simp only[hd,Option.bind_some] at h
    cases hz:Aw P t with
    |none=>simp[hz] at h
    |some z=>
     simp only[hz,Option.bind_some] at h
     split at h
     ·rename_i hw
      split at h
      case isFalse=>cases h
      rename_i hc
      cases h
      exact⟨.allocW hg ho hz hd (by simpa using hc.2) hc.1,rfl,fun d' h1 _=>(by simp at h1),fun _ h1=>(by simp at h1),fun _ h1=>(by simp at h1)⟩
     ·rename_i hw
      split at h
      case isFalse=>cases h
      rename_i hc
      cases h
      exact⟨.alloc hg ho hz hd (by simpa using hc.2) hc.1,rfl,fun d' _ h2=>(by cases h2;exact⟨by rw[List.contains_iff_mem] at hw;exact hw,by simpa using hc.2⟩),fun _ h1=>(by simp at h1),fun _ h1=>(by simp at h1)⟩
  ·rename_i t x ho
   cases hd:o.dst with
   |none=>simp[hd] at h
   |some d=>
    simp only[hd,Option.bind_some] at h
    cases hz:An (opd S x) with
    |none=>simp[hz] at h
    |some z=>
     simp only[hz,Option.bind_some] at h
     split at h
     ·rename_i hw
      split at h
      case isFalse=>cases h
      rename_i hc
      cases h
      exact⟨.boxW hg ho hz hd (by simpa using hc.2) hc.1,rfl,fun d' h1 _=>(by simp at h1),fun _ h1=>(by simp at h1),fun _ h1=>(by simp at h1)⟩
     ·rename_i hw
      split at h
      case isFalse=>cases h
      rename_i hc
      cases h
      exact⟨.box hg ho hz hd (by simpa using hc.2) hc.1,rfl,fun d' _ h2=>(by cases h2;exact⟨by rw[List.contains_iff_mem] at hw;exact hw,by simpa using hc.2⟩),fun _ h1=>(by simp at h1),fun _ h1=>(by simp at h1)⟩
  ·rename_i t n parts ho
   cases hd:o.dst with
   |none=>simp[hd] at h
   |some d=>
    simp only[hd,Option.bind_some] at h
    split at h
    case isFalse=>cases h
    rename_i hv
    cases hb:Bf P S d t n (parts.toList.map fun x=>(x.1,opd S x.2)) with
    |none=>simp[hb] at h
    |some st'=>
     obtain⟨s,rfl⟩:=LF hb
     simp only[hb,Option.bind_some,St.put] at h
     cases h
     exact⟨.data hg ho hd (by simpa using hv) hb,rfl,fun _ h1=>(by simp at h1),fun _ h1=>(by simp at h1),fun _ h1=>(by simp at h1)⟩
  ·rename_i c ho
   split at h
   ·rename_i x y t t' hc ha ht
    cases hd:o.dst with
    |none=>simp[hd] at h
    |some d=>
     simp only[hd,Option.bind_some] at h
     split at h
     case h_3=>cases h
     case h_2=>
      rename_i m hx
      split at h
      case isFalse=>cases h
      rename_i hv
      obtain⟨s0,hs0⟩:=Option.isSome_iff_exists.1 hv.2
      cases hb:Fi P S d t t' (.vec m) (opd S y) with
      |none=>simp[hb] at h
      |some st'=>
       obtain⟨s,rfl⟩:=NB hb
       simp only[hb,Option.bind_some,St.put] at h
       cases h
       exact⟨.appv hg ho hc ha ht hd hx hs0 (by simpa using hv.1) (by rw[hx];exact hb),rfl,fun _ h1=>(by simp at h1),fun d' _ h2=>(by cases h2;simpa using hv.1),fun k h1=>(by cases h1;rfl)⟩
     rename_i hx
     split at h
     case isFalse=>cases h
     rename_i hv
     cases hb:Fi P S d t t' .nilS (opd S y) with
     |none=>simp[hb] at h
     |some st'=>
      obtain⟨s,rfl⟩:=PK hb
      simp only[hb,Option.bind_some,St.put] at h
      cases h
      exact⟨.app hg ho hc ha ht hd hx (by simpa using hv) (by rw[hx];exact hb),rfl,fun _ h1=>(by simp at h1),fun d' _ h2=>(by cases h2;simpa using hv),fun _ h1=>(by simp at h1)⟩
   ·exact deflt h
  ·rename_i t x k okb ho
   split at h
   case h_2=>cases h
   rename_i e' z rows hx
   cases hl:En P S t (.d (.mp e' z rows)) (opd S k) okb with
   |none=>simp[hl] at h
   |some v=>
    simp only[hl,Option.bind_some] at h
    rw[← hx] at hl
    split at h
    ·rename_i d hd
     split at h
     case isFalse=>cases h
     rename_i hlt
     cases h
     have:=Loc.look (P:=P) (st0:=st0) hg ho hx hl (fun d' h'=>by rw[hd] at h';cases h';exact hlt)
     rw[hd] at this
     exact⟨this,hd.symm,fun _ h1=>(by simp at h1),fun _ h1=>(by simp at h1),fun _ h1=>(by simp at h1)⟩
    ·rename_i hd
     cases h
     have:=Loc.look (P:=P) (st0:=st0) hg ho hx hl (fun d' h'=>by rw[hd] at h';cases h')
     rw[hd] at this
     exact⟨this,hd.symm,fun _ h1=>(by simp at h1),fun _ h1=>(by simp at h1),fun _ h1=>(by simp at h1)⟩
  ·rename_i t x y ho
   split at h
   ·rename_i m k hd hx
    cases hl:An (opd S y) with
    |none=>simp[hl] at h
    |some l=>
     simp only[hl,Option.bind_some] at h
     cases hb:get S.box m with
     |none=>simp[hb] at h
     |some cs=>
      simp only[hb,Option.bind_some] at h
      split at h
      case isFalse=>cases h
      rename_i hq
      cases h
      exact⟨.store hg ho hd hx hl hq.1 hb hq.2,hd.symm,fun _ h1=>(by simp at h1),fun _ h1=>(by simp at h1),fun _ h1=>(by simp at h1)⟩
   ·cases h
  ·exact deflt h
def PL (P:Program) (ops:Array Oper) (st0:St) (As:List (List Nat)) (C:List Nat) (W:List (Nat×List Nat)) (V:Option (Nat×Nat)) (T:List Nat):List Oper→Nat→List Eff→Option (List Eff)
 |[],_,es=>some es
 |o::os,i,es=>(QY P ops st0 (Bc As C W V st0 es i) o W).bind fun e=>if FG As C W V T i e=true then PL P ops st0 As C W V T os (i+1) (es++[e]) else none
theorem KX {ops:Array Oper}:∀{os:List Oper} {es es':List Eff},(∀j o,os[j]? =some o→ops[es.length+j]? =some o)→PL P ops st0 As C W V T os es.length es=some es'→CG P ops st0 As C W V T es→CG P ops st0 As C W V T es'
 |[],es,es',_,h,H=>by simp[PL] at h;subst h;exact H
 |o::os,es,es',hop,h,H=>by
  simp only[PL] at h
  cases he:QY P ops st0 (Bc As C W V st0 es es.length) o W with
  |none=>simp[he] at h
  |some e=>
   simp only[he,Option.bind_some] at h
   split at h
   case isFalse=>cases h
   rename_i hck
   obtain⟨h1,h2,h3,h5,h4⟩:=QZ he
   refine KX (es:=es++[e]) (fun j o' hj=>?_) (by simpa using h) (H.add (by simpa using hop 0 o rfl) h1 h2 h3 h5 hck fun k hk m hm=>?_)
   ·have:=hop (j+1) o' (by simpa using hj)
    simpa[Nat.add_assoc,Nat.add_comm 1 j] using this
   ·rw[h4 k hk]
    obtain⟨b1,b2⟩:=MF (S:=Bc As C W V st0 es es.length) (m:=k) (W.map (·.1)) m
    exact⟨fun cs hcs=>(b1 cs hcs).elim (fun h=>.inl h.1) (fun h=>.inr ⟨h.1,h.2 hm⟩),b2⟩
theorem AN (i k:Nat) {es':List Eff} (hlen:es.length=i) (h:PL P l.toArray st0 As C W V T ((l.drop i).take k) i es=some es') (H:GZ P K l st0 As C W V T n Q es'):GZ P K l st0 As C W V T n Q es:=fun D hV H0=>
 H D hV (KX (fun j o hj=>by
  have hjk:j < k:=by
   have h2:j < ((l.drop i).take k).length:=(List.getElem?_eq_some_iff.1 hj).1
   rw[List.length_take] at h2;omega
  have h3:((l.drop i).take k)[j]? =some o:=hj
  rw[List.getElem?_take_of_lt hjk,List.getElem?_drop] at h3
  rw[hlen];simpa using h3) (by rw[hlen];exact h) H0)
def Qa (v:AV) (want:Bool):Bool:=match v with | .d (.bool b)=>b== !want | .tup []=>true |_=>false
def Y2 (V:Option (Nat×Nat)) (i:Nat):Bool:=match V with |some (c,_)=>c != i |none=>true
def skE (l:List Oper) (As:List (List Nat)) (V:Option (Nat×Nat)) (nt:Nat) (es:List Eff) (i:Nat):Option Eff:=
 match l[i]? with
 |none=>none
 |some o=>match o.guard with
  |none=>none
  |some (j,want)=>if(As.getD i []).contains j=true then match (l[j]?).bind (·.dst),(atE es j).d with
   |some t,some t'=>if t=t' then
     if Qa (atE es j).v want=true then
      if Y2 V i=true then match o.dst with
       |some d=>if d < nt then some ⟨some d,.tup [],none,[],none,none⟩ else none
       |none=>some ⟨none,.tup [],none,[],none,none⟩
      else none
     else none
    else none
   |_,_=>none
  else none
def sks (l:List Oper) (As:List (List Nat)) (V:Option (Nat×Nat)) (nt:Nat):Nat→Nat→List Eff→Option (List Eff)
 |0,_,es=>some es
 |k+1,i,es=>(skE l As V nt es i).bind fun e=>sks l As V nt k (i+1) (es++[e])
theorem CG.dd' {ops:Array Oper} (H:CG P ops st0 As C W V T es) (hd:PI ops n=true) (hn:es.length≤n) {t i j:Nat} (h1:(atE es i).d=some t) (h2:(atE es j).d=some t):i=j:=by
 have lt:∀{i},(atE es i).d=some t→i < es.length:=fun {i} h=>by
  rcases Nat.lt_or_ge i es.length with hl |hl
  ·exact hl
  ·rw[EK hl] at h;exact absurd h (by simp[default])
 obtain⟨o,a1,_,a2,_⟩:=H.loc i (lt h1)
 obtain⟨o',b1,_,b2,_⟩:=H.loc j (lt h2)
 simp only[PI,List.all_eq_true,List.mem_range,Bool.or_eq_true,beq_iff_eq] at hd
 rcases hd i (by have:=lt h1;omega) j (by have:=lt h2;omega) with h |h
 ·exact h
 ·rw[a1,b1] at h
  simp only[Option.bind_some,←a2,←b2,h1,h2] at h
  simp at h
theorem S9 (D:Fo l.toArray n As C W V T) (H:CG P l.toArray st0 As C W V T es) (hle:es.length≤n) {e:Eff} (h:skE l As V st0.nt es es.length=some e):CG P l.toArray st0 As C W V T (es++[e]):=by
 unfold skE at h
 split at h
 ·cases h
 rename_i o ho
 split at h
 ·cases h
 rename_i j want hgd
 split at h
 case isFalse=>cases h
 rename_i hj
 split at h
 case h_2=>cases h
 rename_i t t' ht ht'
 split at h
 case isFalse=>cases h
 rename_i htt
 subst htt
 split at h
 case isFalse=>cases h
 rename_i hv
 split at h
 case isFalse=>cases h
 rename_i hV
 have hlook:(Bc As C W V st0 es es.length).look t=(atE es j).v:=by
  simp only[St.look,Bc]
  rw[F7 (fun i j h1 h2=>H.dd' D.dst hle h1 h2) _ (by simpa using hj) ht'];rfl
 have hg:gdA l.toArray (Bc As C W V st0 es es.length) o=some false:=by
  unfold gdA
  rw[hgd]
  simp only[List.getElem?_toArray]
  rw[ht]
  simp only
  rw[hlook]
  unfold Qa at hv
  split at hv
  ·rename_i b hb;rw[hb];cases b <;> cases want <;> simp_all
  ·rename_i hb;rw[hb]
  ·cases hv
 have hck:∀d:Option Nat,FG As C W V T es.length ⟨d,.tup [],none,[],none,none⟩=true:=fun d=>by
  unfold FG
  cases V with
  |none=>simp
  |some q=>
   obtain⟨c,m⟩:=q
   have:c≠es.length:=by simpa[Y2] using hV
   simp[this,AV.wf,AV.wfL]
 split at h
 ·rename_i d hd
  split at h
  case isFalse=>cases h
  rename_i hdn
  cases h
  have hL:Loc P l.toArray st0 (Bc As C W V st0 es es.length) o ⟨o.dst,.tup [],none,[],none,none⟩:=.skip hg (fun d' h'=>by rw[hd] at h';cases h';exact hdn)
  rw[hd] at hL
  exact H.add (by simpa using ho) hL hd.symm (fun _ h=>by simp at h) (fun _ h=>by simp at h) (hck _) (fun _ h=>by simp at h)
 ·rename_i hd
  cases h
  have hL:Loc P l.toArray st0 (Bc As C W V st0 es es.length) o ⟨o.dst,.tup [],none,[],none,none⟩:=.skip hg (fun d' h'=>by rw[hd] at h';cases h')
  rw[hd] at hL
  exact H.add (by simpa using ho) hL hd.symm (fun _ h=>by simp at h) (fun _ h=>by simp at h) (hck _) (fun _ h=>by simp at h)
theorem MG (D:Fo l.toArray n As C W V T):∀(k:Nat) {es es':List Eff},es.length+k≤n→sks l As V st0.nt k es.length es=some es'→CG P l.toArray st0 As C W V T es→CG P l.toArray st0 As C W V T es'
 |0,es,es',_,h,H=>by simp only[sks] at h;cases h;exact H
 |k+1,es,es',hle,h,H=>by
  simp only[sks] at h
  cases he:skE l As V st0.nt es es.length with
  |none=>rw[he] at h;cases h
  |some e=>
   rw[he] at h
   simp only[Option.bind_some] at h
   exact MG D k (es:=es++[e]) (by simp;omega) (by simpa using h) (S9 D H (by omega) he)
def F8 (d:Option Nat):Eff:=⟨d,.tup [],none,[],none,none⟩
def TA (l:List Oper) (As:List (List Nat)) (V:Option (Nat×Nat)) (nt:Nat):List (Option Nat)→Nat→List Eff→Bool
 |[],_,_=>true
 |d::ds,i,es=>(match skE l As V nt es i with |some e=>e.d==d |none=>false)&&TA l As V nt ds (i+1) (es++[F8 d])
theorem Qb {nt i:Nat} {e:Eff} (h:skE l As V nt es i=some e):e=F8 e.d:=by
 unfold skE at h
 split at h
 ·cases h
 split at h
 ·cases h
 split at h
 case isFalse=>cases h
 split at h
 case h_2=>cases h
 split at h
 case isFalse=>cases h
 split at h
 case isFalse=>cases h
 split at h
 case isFalse=>cases h
 split at h
 ·split at h
  ·cases h;rfl
  ·cases h
 ·cases h;rfl
theorem MH {nt:Nat}:∀{ds:List (Option Nat)} {i:Nat} {es:List Eff},TA l As V nt ds i es=true→sks l As V nt ds.length i es=some (es++ds.map F8)
 |[],i,es,_=>by simp[sks]
 |d::ds,i,es,h=>by
  simp only[TA,Bool.and_eq_true] at h
  obtain⟨h1,h2⟩:=h
  split at h1
  ·rename_i e he
   have h3:e=F8 d:=by rw[Qb he];congr 1;simpa using h1
   subst h3
   simp only[List.length_cons,sks,he,Option.bind_some]
   rw[MH h2];simp
  ·cases h1
theorem DR (i nt:Nat) (ds:List (Option Nat)) (hlen:es.length=i) (hnt:st0.nt=nt) (hle:i+ds.length≤n) (h:TA l As V nt ds i es=true) {es':List Eff} (he:es++ds.map F8=es') (H:GZ P K l st0 As C W V T n Q es'):GZ P K l st0 As C W V T n Q es:=fun D hV H0=>by
 subst hlen;subst hnt;subst he
 exact H D hV (MG D ds.length hle (MH h) H0)
theorem BL (i:Nat) {f:FuncId} {bx:List (List AV)} {cargs:List AV} {res:AV} {bx':List (List AV)} {o:Oper} {c:Call} {y:Operand} {d:Nat} (σ:List Nat) (F:Ac P f bx cargs res bx') (hlen:es.length=i) (ho0:l[i]? =some o) (ho:o.op=.call c) (hc:c.callee=.value y) (hd:o.dst=some d)
  (hcall:∀(args:Array Value) (w:World),(callFunc f args).run P w=.ok (.enter f args) w)
  (hall:gdA l.toArray (Bc As C W V st0 es i) o=some true∧d < st0.nt∧σ.Nodup∧(∃caps,opd (Bc As C W V st0 es i) y=.fn f caps∧(c.args.toList.map (opd (Bc As C W V st0 es i))++caps).map (AV.view [] [] σ)=cargs)∧Bu (Bc As C W V st0 es i) [] σ σ bx∧bx.length=bx'.length∧FG As C W V T i ⟨some d,res.back [] σ,none,A1 [] σ σ bx' [],none,none⟩=true)
  (H:GZ P K l st0 As C W V T n Q (es++[⟨some d,res.back [] σ,none,A1 [] σ σ bx' [],none,none⟩])):GZ P K l st0 As C W V T n Q es:=fun D hV H0=>by
 obtain⟨hg,hdn,hσ,hargs,hbx,hl,hck⟩:=hall
 subst hlen
 exact H D hV (H0.add (by simpa using ho0) (.call σ F hg ho hc hd hcall hdn hσ hargs hbx hl) hd.symm (fun _ h=>(by simp at h)) (fun _ h=>(by simp at h)) hck (fun _ h=>(by simp at h)))
end
end Go.Vl
