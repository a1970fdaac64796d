/- A queue's append, and a look at the old row behind it. Conditions: none. -/
import Derived.Test.YthpiljonjcfgcaaGreatVmQv
import Derived.Test.YthpiljonjcfgcaaGreatVmQq
import Derived.Test.YthpiljonjcfgcaaGreatVmHg
set_option linter.unusedSimpArgs false
set_option linter.unusedVariables false
namespace Go.Vl
open Go Go.RowKit
section
variable {P:Program} {K:Ctx P} {st:St} {ops:Array Oper} {Q:Exit→St→Prop}
end
section
variable {P:Program} {K:Ctx P} {st:St} {ops:Array Oper} {Q:Exit→St→Prop} {S:World→Prop} {F:Exit→Act→World→Prop} {n:Nat} {listed:Array Bool}
def FNq (G:Act→World→Prop) (F:Exit→Act→World→Prop):Exit→Act→World→Prop
 | .normal,a,w=>G a w
 |e,a,w=>F e a w
theorem wpOp_listQ {G:Act→World→Prop} {i:Nat} {o:Oper} {a:Act} {w:World} (ho:ops[i]? =some o) (hh:wpList P ops (FNq G F) [o] a w):wpOp P ops F i G a w:=by
 have hn:∀a w,wpList P ops (FNq G F) [] a w→G a w:=fun a w h=>h
 unfold wpList at hh
 unfold wpOp
 simp only[ho]
 split
 ·rename_i hw
  rw[if_pos hw] at hh
  rcases hh with hh |⟨h1,a0,w0,q⟩
  ·left
   unfold Oper.wp at hh ⊢
   generalize (execOp a.eval o).run P w=r at hh ⊢
   cases r with
   |ok n w'=>
    cases n <;> simp only[Oper.upon] at hh ⊢
    case value v=>exact hn _ _ hh
    case skip=>exact hn _ _ hh
    case defer d=>exact hn _ _ hh
    case enter f args=>
     refine Calls.mono hh fun e w'' he=>?_
     cases e with
     |returned v=>exact hn _ _ he
     |panicked c=>exact he
     |outgrown=>exact he
    case row row args=>exact Rows.mono hh fun v w'' he=>hn _ _ he
   |halt x w'=>
    cases x <;> simp only[Oper.upon] at hh ⊢
    case panic v=>exact hh
  ·exact .inr ⟨h1,a0,w0,q⟩
 ·rename_i hw
  rw[if_neg hw] at hh
  exact hn _ _ hh
def HStepW (P:Program) (K:Ctx P) (S:World→Prop) (F:Exit→Act→World→Prop) (ops:Array Oper) (n:Nat) (listed:Array Bool) (st:St) (i:Nat):Prop:=
 ∀a w p,Rel K st a w p→wpOp P ops F i (fun a w=>S w∧wpAnyH P .any ops F S n (listed.setIfInBounds i true) a w) a w
def HAllW (P:Program) (K:Ctx P) (S:World→Prop) (F:Exit→Act→World→Prop) (ops:Array Oper) (n:Nat) (listed:Array Bool) (st:St):List Nat→Prop
 |[]=>True
 |i::l=>HStepW P K S F ops n listed st i∧HAllW P K S F ops n listed st l
theorem hallW_mem:∀{l:List Nat},HAllW P K S F ops n listed st l→∀i∈l,HStepW P K S F ops n listed st i
 |[],_,i,hi=>by cases hi
 |j::l,h,i,hi=>by
  rcases List.mem_cons.1 hi with rfl |hi
  ·exact h.1
  ·exact hallW_mem h.2 i hi
theorem ho_allW (rs:List Nat) (hr:Region.ready .any ops listed=rs) (hne:rs≠[]) (H:HAllW P K S F ops n listed st rs):HOps P K S F ops (n+1) listed st:=
 fun a w p R=>wpAnyH_all hr hne fun i hi=>hallW_mem H i hi a w p R
theorem hstepW_T (C:HCtx K S F Q) {i:Nat} {o:Oper} (ho:ops[i]? =some o) (h:TOps P K ops [o] st (thenQ (fun s=>HOps P K S F ops n (listed.setIfInBounds i true) s) Q)):HStepW P K S F ops n listed st i:=fun a w p R=>by
 have hh:=h a w p R
 have hn:∀a w,wpList P ops (Pst K (thenQ (fun s=>HOps P K S F ops n (listed.setIfInBounds i true) s) Q)) [] a w→S w∧wpAnyH P .any ops F S n (listed.setIfInBounds i true) a w:=fun a w ⟨s,p,R,q⟩=>⟨C.s _ _ _ _ R,q a w p R⟩
 unfold wpList at hh
 unfold wpOp
 simp only[ho]
 split
 ·rename_i hw
  rw[if_pos hw] at hh
  rcases hh with hh |⟨h1,a0,w0,s,p,R,q⟩
  ·left
   unfold Oper.wp at hh ⊢
   generalize (execOp a.eval o).run P w=r at hh ⊢
   cases r with
   |ok n w'=>
    cases n <;> simp only[Oper.upon] at hh ⊢
    case value v=>exact hn _ _ hh
    case skip=>exact hn _ _ hh
    case defer d=>exact hn _ _ hh
    case enter f args=>
     refine Calls.mono hh fun e w'' he=>?_
     cases e with
     |returned v=>exact hn _ _ he
     |panicked c=>obtain⟨s,p,R,q⟩:=he;exact C.f _ _ _ _ _ R q
     |outgrown=>obtain⟨a0,w0,s,p,R,q⟩:=he;exact⟨a0,w0,C.f _ _ _ _ _ R q⟩
    case row row args=>exact Rows.mono hh fun v w'' he=>hn _ _ he
   |halt x w'=>
    cases x <;> simp only[Oper.upon] at hh ⊢
    case panic v=>obtain⟨s,p,R,q⟩:=hh;exact C.f _ _ _ _ _ R q
  ·exact .inr ⟨h1,a0,w0,C.f _ _ _ _ _ R q⟩
 ·rename_i hw
  rw[if_neg hw] at hh
  exact hn _ _ hh
theorem hstepW_appq_ld (C:HCtx K S F Q) {i8 i4:Nat} {o o2:Oper} {x y:Operand} {t t2 e:TypeId} {d d2 u n' z lo k i:Nat} {s:VS} {zs:List AV} {ys:List (List D)} {kd:IntKind} {m:Int} (h8:ops[i8]? =some o) (h4:ops[i4]? =some o2) (hr:Region.ready .any ops (listed.setIfInBounds i8 true)=[i4])
  (hg:gdA ops st o=some true) (ho:o.op=.call { callee:=.builtin .append,args:=#[x,y],argTypes:=#[t,t]}) (hd:o.dst=some d) (hdn:d < st.nt)
  (hx:opd st x=.cut n' z lo k) (hs:get st.vec n'=some s) (he:s.e=e) (hsz:s.z=z) (hzl:zs.length=z) (hu:P.underlying t=some (.slice e)) (hz:zerOf P e=some zs) (hpos:0 < z) (hby:byOk P e=true) (he6:e < 1000000)
  (hy:rowsOf st (opd st y)=some ys) (hyz:∀r∈ys,r.length=z) (hm:0 < ys.length) (hlen:lo+k=s.rows.length) (hk:0 < k) (hsm:s.rows.length+ys.length≤268435456)
  (hg2:o2.guard=none) (ho2:o2.op=.load t2 (.tmp u)) (hd2:o2.dst=some d2) (hdn2:d2 < st.nt) (hu2:(P.underlying t2).isSome=true) (hag:isAggB P t2=false) (hud:u≠d) (hp:st.look u=.vptr n' z i 0) (hiz:s.rows.flatten[i * z]? =some (.int kd m))
  (H1:HOps P K S F ops n ((listed.setIfInBounds i8 true).setIfInBounds i4 true) ((st.appQ n' d z s (s.rows++ys) lo (k+ys.length)).put d2 (.d (.int kd m)))) (H2:HOps P K S F ops n ((listed.setIfInBounds i8 true).setIfInBounds i4 true) ((st.appQ n' d z s (s.rows.drop lo++ys) 0 (k+ys.length)).put d2 (.d (.int kd m)))):HStepW P K S F ops (n+1) listed st i8:=by
 intro a w p R
 have hpv:=R.opd (.tmp u)
 rw[show opd st (.tmp u)=.vptr n' z i 0 from hp] at hpv
 have hxv:=R.opd x
 rw[hx] at hxv
 refine wpOp_listQ h8 (wpl_appq hg ho hd hdn hx hs he hsz hzl hu hz hpos hby he6 hy hyz hm hlen hk hsm R fun st1 v' w' p' hst R' hcell=>?_)
 have hnt1:st1.nt=st.nt:=by rcases hst with rfl |rfl <;> rfl
 have hev:(a.put (some d) v').eval (.tmp u)=a.eval (.tmp u):=by
  simp only[Act.eval,Act.put]
  simp only[Array.getD_eq_getD_getElem?,Array.getElem?_setIfInBounds]
  rw[if_neg (Ne.symm hud)]
 obtain⟨g,len,c,off,cc,hrw,hax,hap⟩:∃g len c off cc,p.rw n'=.slice (some ⟨g,0,none⟩) len c∧a.eval x=.slice (some ⟨g,off,none⟩) k cc∧a.eval (.tmp u)=.pointer (some ⟨g,i * z+0,none⟩):=by
  generalize a.eval (.tmp u)=pv at hpv
  generalize a.eval x=xv at hxv
  cases hpv with
  |vptr hn hv=>
   cases hxv with
   |cut0=>omega
   |cut hn' hv' ho' hle=>
    rw[hv] at hv'
    injection hv' with b1 b2 b3
    injection b1 with b1
    injection b1 with b1
    subst b1
    exact⟨_,_,_,_,_,hv,rfl,rfl⟩
 have hc:=hcell cc g off (i * z) kd m hax hiz
 show S w'∧wpAnyH P .any ops F S (n+1) (listed.setIfInBounds i8 true) (a.put (some d) v') w'
 refine⟨C.s _ _ _ _ R',wpAnyH_all hr (by simp) fun j hj=>?_⟩
 have hj:j=i4:=by simpa using hj
 subst hj
 refine wpOp_val h4 hg2 (v:=.int kd m) (w':=w') ?_ ?_
 ·simp[execOp,ho2,hev,hap,Instr.loadAt,Instr.sureAddr,loadVar,run_isAggB hu2,hag,Result.andThen,hc]
 ·have R2:Rel K (st1.put d2 (.d (.int kd m))) ((a.put (some d) v').put (some d2) (.int kd m)) w' p':=R'.put (.d .int) (by rw[hnt1];exact hdn2)
  rw[hd2]
  rcases hst with rfl |rfl
  ·exact⟨C.s _ _ _ _ R2,H1 _ _ _ R2⟩
  ·exact⟨C.s _ _ _ _ R2,H2 _ _ _ R2⟩
theorem kheldE1 {id:Nat} {l:List Oper} {Q:Exit→St→Prop} {ν:Type} {S0:ν→St} {G:ν→Prop} {st1:St} (is:List Nat) (n:Nat) (hK:K.ios.length=0) (hm:P.follows .mixedOrders=true) (hB:(Region.noSelect l.toArray&&decide (is.length+n=l.toArray.size)&&takeB l.toArray is (Array.replicate l.toArray.size false))=true)
  {ol:List (Option Oper)} (hol:is.map (l.toArray[·]?)=ol) {os:List Oper} (hoo:ol.filterMap (fun x=>x)=os) (hos:ol=os.map some) (h':stillsL P l.toArray os st=some st1)
  (H:∀K' S F,HCtx K' S F (fun e s=>e=.normal∧∃m,G m∧Weak s (S0 m))→HOps P K' S F l.toArray n (listAll is (Array.replicate l.toArray.size false)) st1) (h2:∀m,G m→∀s,Weak s (S0 m)→Q .normal s):Tr P K (.region id l.toArray true) st Q:=
 fun a w p R=>wp_mono (ho_start is n hK hm hB (fun c s h=>by cases h.1) hol hoo hos h' H a w p R) fun e a' w' ⟨s,p',R',he,m,hg,hw⟩=>by
  subst he
  exact⟨s,p',R',h2 m hg s hw⟩
end
end Go.Vl
