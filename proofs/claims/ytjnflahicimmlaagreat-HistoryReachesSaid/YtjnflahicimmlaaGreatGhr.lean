/- ref15.reach, ref15.At: their contracts. Conditions: none. -/
import Derived.Test.YtjnflahicimmlaaGreatGBx
import Derived.Test.YtjnflahicimmlaaGreatGqS
import Derived.Test.YtjnflahicimmlaaGreatGBw
import Derived.Test.YtjnflahicimmlaaGreatVmHk
set_option maxHeartbeats 2000000
set_option linter.unusedSimpArgs false
set_option linter.unusedVariables false
namespace Go.Vl
open Go Go.Proofs Go.RowKit
theorem rw_of {P:Program} {K:Ctx P} {st:St} {a:Act} {w:World} {p:Pl} (R:Rel K st a w p) {t n:Nat} (h:get st.env t=some (.vec n)):a.eval (.tmp t)=p.rw n:=by
 have:=R.env t (.vec n) h
 simp only[Act.eval]
 generalize a.tmps.getD t undef=u at this
 cases this;rfl
theorem findO_sz {l:List zO} (hz:∀o∈l,o.Items.length≤1000000∧o.Parents.length≤1000000) (id:Int):(findO l id).Items.length≤1000000∧(findO l id).Parents.length≤1000000:=by
 unfold findO
 cases h:l.find? (fun o=>o.ID==id) with
 |none=>simp
 |some o=>exact hz o (List.mem_of_find?_eq_some h)
theorem findO_find {l:List zO} (hl:l.length≤1000000) (id:Int):∃b,rYfind l id=some (findO l id,b):=by
 rw[rfind_eq hl]
 unfold findO
 cases l.find? (fun o=>o.ID==id) with
 |none=>exact⟨false,rfl⟩
 |some o=>exact⟨true,rfl⟩
theorem reachN_ok {r:zR} (hl:r.Objects.length≤1000000) (hz:∀o∈r.Objects,o.Items.length≤1000000∧o.Parents.length≤1000000):∀(n:Nat) {id:Int} {M M':List (Int×Bool)},reachN r.Objects n id M=some M'→
  FnOKh Tryz.prog 91 [] [⟨mTag 75 1 false false,2,rowsF (mRow (iRow .i64) bRow) M⟩] [.agg (zRa r),.d (.int .i64 id),.vec (InV 0)] (.tup []) [] [⟨mTag 75 1 false false,2,rowsF (mRow (iRow .i64) bRow) M'⟩]:=by
 intro n
 induction n with
 |zero=>intro id M M' h;simp[reachN] at h
 |succ n ih=>
  intro id M M' h0
  refine fn_okhK (nt:=37) (rs:=[]) Tryz.func91 rfl Tryz.ntmps91 rfl (by simp) (by decide) rfl fun K a w p hK R=>?_
  have hKi:K.ios=[]:=List.eq_nil_of_length_eq_zero hK
  generalize hp0:p=p0 at R
  subst hp0
  have hv:a.eval (.tmp 2)=p.rw 2000000:=rw_of R rfl
  have fin:∀{Q:Exit} {s:St} {a':Act} {w':World} {p':Pl} {M1:List (Int×Bool)},Q=.ret∨Q=.normal→Rel K s a' w' p'→get s.env 2=some (.vec 2000000)→get s.vec 2000000=some ⟨mTag 75 1 false false,2,rowsF (mRow (iRow .i64) bRow) M'⟩→a'.eval (.tmp 2)=p.rw 2000000→
    (Q=.normal∨Q=.ret)∧∃s p',Rel K s a' w' p'∧∃τ:List Nat,FinVt Tryz.prog [] (.tup []) [] [⟨mTag 75 1 false false,2,rowsF (mRow (iRow .i64) bRow) M'⟩] τ s∧τ=(List.range 1).map (fun i=>2000000+i)∧τ.map p'.rw=τ.map p.rw:=fun {Q s a' w' p' M1} hQ R' he hvv hv'=>
   ⟨hQ.symm,s,p',R',[2000000],⟨rfl,rfl,trivial,⟨hvv,trivial⟩,by simp⟩,rfl,by
    have:=rw_of R' he
    simp only[List.map_cons,List.map_nil]
    rw[← this,hv']⟩
  unfold reachN at h0
  refine wp_reg (ko [1,2,3] 1 (by simp[enterStV,numbered];rfl) tops_end) (by simp) R hv fun a w p1 R hv=>?_
  refine wp_seq (wp_reg (ko [1,2,3,12] 3 (by simp;rfl) tops_end) (by simp) R hv fun a w p1 R hv=>?_)
  have h12:=wp_bool R (t:=12) (b:=(mget inE M id).getD false) (by simp[St.look,get])
  refine wp_cond_split h12 (fun hc=>wp_ret ?_) fun hc=>wp_skip (then_norm ?_)
  ·rw[if_pos hc] at h0
   cases h0
   exact fin (M1:=[]) (.inl rfl) R (by simp[get]) (by simp[get]) hv
  rw[if_neg (by rw[hc];decide)] at h0
  refine wp_reg (ko [1,2,3] 3 (by simp;rfl) tops_end) (by simp) R hv fun a w p1 R hv=>?_
  obtain⟨bb,hfind⟩:=findO_find hl id
  have hsz:=findO_sz hz id
  refine wp_reg (ko [1,2,3,17,18] 3 (by simp;rfl) (kcall [2,3,19] [] (rYfind_ok hfind) rfl rfl rfl Tryz.call62 (by simp) (by simp;rfl) (ko [2,3,6] 6 (by simp;rfl) tops_end))) (by simp) R hv fun a w p1 R hv=>?_
  refine wp_reg (ko [2,3,22] 1 (by simp;rfl) (kcall [2,3,23] [] (rYbelow_ok (rbelow_eq hsz.1 hsz.2)) rfl rfl rfl Tryz.call100 (by simp) (by simp;rfl) (ko [2,3,8] 1 (by simp;rfl) tops_end))) (by simp) R hv fun a w p1 R hv=>?_
  refine wp_reg (ko [2,3,8,9] 1 (by simp;rfl) tops_end) (by simp) R hv fun a w p1 R hv=>?_
  obtain⟨p2,R⟩:=R.frzB (n:=3) (cs:=[.d (.slice (rowsF zOr r.Objects)),.d (.slice (rowsF zEr r.Events))]) (row:=[.slice (rowsF zOr r.Objects),.slice (rowsF zEr r.Events)]) (by simp[get]) (by simp) hK (by decide) (fun i hi=>absurd hi (Nat.not_lt_zero i))
  obtain⟨p3,R,_⟩:=R.weak0 (st':=({ nt:=37,env:=[(2,.vec 2000000),(3,.cptr [.slice (rowsF zOr r.Objects),.slice (rowsF zEr r.Events)] 0),(8,.d (.slice (rowsF (iRow .i64) (belowO (findO r.Objects id))))),(9,.d (.int .i64 0))],box:=[],vec:=[(2000000,⟨mTag 75 1 false false,2,rowsF (mRow (iRow .i64) bRow) (mset inE M id true)⟩)]}:St)) (by simp[wkI,St.frzB])
  have hbl:=belowO_len hsz
  refine wp_block (wp_loop_ghost (fun n1 a w=>∃(j:Nat) (M1:List (Int×Bool)) (p1:Pl),Rel K ({ nt:=37,env:=[(2,.vec 2000000),(3,.cptr [.slice (rowsF zOr r.Objects),.slice (rowsF zEr r.Events)] 0),(8,.d (.slice (rowsF (iRow .i64) (belowO (findO r.Objects id))))),(9,.d (.int .i64 (j:Int)))],box:=[],vec:=[(2000000,⟨mTag 75 1 false false,2,rowsF (mRow (iRow .i64) bRow) M1⟩)]}:St) a w p1∧a.eval (.tmp 2)=p.rw 2000000∧((belowO (findO r.Objects id)).drop j).foldlM (fun M j=>reachN r.Objects n j M) M1=some M'∧j≤(belowO (findO r.Objects id)).length∧n1=(belowO (findO r.Objects id)).length - j) (belowO (findO r.Objects id)).length ⟨0,_,p3,R,hv,h0,Nat.zero_le _,rfl⟩ fun n1 a w ⟨j,M1,p1,R,hv,hfold,hj,hn1⟩=>?_)
  refine wp_seq (wp_reg (ko [2,3,8,9,27] 4 (by simp;rfl) tops_end) (by simp) R hv fun a w p1 R hv=>?_)
  have h27:=wp_bool R (t:=27) (b:=decide ((j:Int) < ((belowO (findO r.Objects id)).length:Int))) (by simp[St.look,get])
  refine wp_cond_split h27 (fun hch=>wp_skip (then_norm ?_)) fun hch=>wp_exit ?_
  case refine_2=>
   have hjl:j=(belowO (findO r.Objects id)).length:=by have:=of_decide_eq_false hch;omega
   subst hjl
   rw[List.drop_eq_nil_of_le (Nat.le_refl _)] at hfold
   simp only[List.foldlM_nil,Option.pure_def,Option.some.injEq] at hfold
   subst hfold
   refine then_exit (then_exit (exit_in ?_))
   exact fin (M1:=[]) (.inr rfl) R (by simp[get]) (by simp[get]) hv
  have hjl:j < (belowO (findO r.Objects id)).length:=by have:=of_decide_eq_true hch;omega
  obtain⟨x,hx⟩:∃x,(belowO (findO r.Objects id))[j]? =some x:=⟨_,List.getElem?_eq_getElem hjl⟩
  have hdr:(belowO (findO r.Objects id)).drop j=x::(belowO (findO r.Objects id)).drop (j+1):=by
   rw[List.getElem?_eq_getElem hjl] at hx
   rw[List.drop_eq_getElem_cons hjl,Option.some.inj hx]
  rw[hdr,List.foldlM_cons] at hfold
  obtain⟨M2,e2,hfold⟩:=Option.bind_eq_some_iff.1 hfold
  refine wp_seq (wp_block ?_)
  obtain⟨p4,R,_⟩:=R.weak0 (st':=({ nt:=37,env:=[(2,.vec 2000000),(3,.cptr [.slice (rowsF zOr r.Objects),.slice (rowsF zEr r.Events)] 0),(8,.d (.slice (rowsF (iRow .i64) (belowO (findO r.Objects id))))),(9,.d (.int .i64 (j:Int)))],box:=[],vec:=[(2000000,⟨mTag 75 1 false false,2,rowsF (mRow (iRow .i64) bRow) M1⟩)]}:St)) (by simp[wkI])
  refine wp_held_last (st2:=({ nt:=37,env:=[(2,.vec 2000000),(3,.cptr [.slice (rowsF zOr r.Objects),.slice (rowsF zEr r.Events)] 0),(8,.d (.slice (rowsF (iRow .i64) (belowO (findO r.Objects id))))),(9,.d (.int .i64 (j:Int)))],box:=[],vec:=[(2000000,⟨mTag 75 1 false false,2,rowsF (mRow (iRow .i64) bRow) M2⟩)]}:St)) [0,1,2,3,4,5] hKi fol (by decide +kernel) rfl rfl rfl (by decide +kernel) (i:=6) rfl (by decide +kernel) (by decide +kernel) (by simp) R hv (by simp[stillsL,stillB,pureP,pureB,hx];rfl) (fun K'=>kcallH [2,3,8,9] [] [2000000] [(2,2000000)] (ih e2) rfl rfl rfl Tryz.call91 (by simp) (by simp <;> rfl) tops_end) fun a w p1 R hv=>?_
  refine norm_in (then_norm ?_)
  refine wp_region_lit (wpl_reg (ko [2,3,8,9] 3 (by simp;rfl) tops_end) (by simp) R hv fun a w p1 R hv=>?_)
  have hw:IntKind.i64.wrap ((j:Int)+1)=(j:Int)+1:=w64 (by omega) (by omega)
  obtain⟨p5,R,_⟩:=R.weak0 (st':=({ nt:=37,env:=[(2,.vec 2000000),(3,.cptr [.slice (rowsF zOr r.Objects),.slice (rowsF zEr r.Events)] 0),(8,.d (.slice (rowsF (iRow .i64) (belowO (findO r.Objects id))))),(9,.d (.int .i64 ((j+1:Nat):Int)))],box:=[],vec:=[(2000000,⟨mTag 75 1 false false,2,rowsF (mRow (iRow .i64) bRow) M2⟩)]}:St)) (by simp[wkI,hw])
  exact⟨(belowO (findO r.Objects id)).length - (j+1),by omega,j+1,M2,p5,R,hv,hfold,by omega,rfl⟩
theorem namesStep_len (e:zE) (s:List zI×Bool×Bool):(namesStep e s).1.length≤s.1.length+1:=by
 unfold namesStep
 simp only
 split
 ·split
  ·split
   ·simp
   ·simp <;> omega
  ·split
   ·simp <;> omega
   ·simp
 ·split
  ·simp <;> omega
  ·simp
theorem namesW_len (t:Int):∀(l:List zE) (s:List zI×Bool×Bool),(namesW t l s).1.length≤s.1.length+l.length
 |[],s=>by simp[namesW]
 |e::l,s=>by
  rw[namesW]
  split
  ·simp
  ·have h1:=namesW_len t l (namesStep e s)
   have h2:=namesStep_len e s
   simp only[List.length_cons];omega
theorem at_ok (names_ok:∀{a0:zR} {a1:Int} {r:List zI×Bool×Bool},rYnames a0 a1=some r→FnOK Tryz.prog 54 [] [.agg (zRa a0),.d (.int .i64 a1)] (.tup [.d (.slice (rowsF zIr r.1)),.d (.bool r.2.1),.d (.bool r.2.2)]) [])
  {a0:zR} {a1:Int} {r:List (Int×Bool)} (h0:rYAt a0 a1=some r):FnOK Tryz.prog 58 [] [.agg (zRa a0),.d (.int .i64 a1)] (.d (.mp (mTag 75 1 false false) 2 (rowsF (mRow (iRow .i64) bRow) r))) []:=by
 unfold rYAt at h0
 replace h0:=bnd h0;obtain⟨y,hy,h0⟩:=h0
 replace h0:=bnd h0;obtain⟨_,hsz,h0⟩:=h0
 replace hsz:=ck_some hsz
 obtain⟨n,hat⟩:∃n,atN a0.Objects n y.1=some r:=by
  split at h0
  ·rename_i hex
   cases h0
   exact⟨_,Classical.choose_spec (Classical.choose_spec hex)⟩
  ·cases h0
 have hyl:y.1.length≤1000000:=by
  unfold rYnames at hy
  replace hy:=bnd hy;obtain⟨_,hck,hy⟩:=hy
  replace hck:=ck_some hck
  cases hy
  exact Nat.le_trans (namesW_len a1 a0.Events ([],true,true)) (by simpa using hck)
 refine fn_okK (nt:=33) (rs:=[.tmp 4]) Tryz.func58 rfl Tryz.ntmps58 rfl (by simp) (by decide) rfl fun K hK=>?_
 have hKi:K.ios=[]:=List.eq_nil_of_length_eq_zero hK
 refine kr [1,2] (by simp;rfl) ?_
 refine kr [1,2,5] (by simp;rfl) ?_
 refine kc ?_
 refine ko [2,5,12,13] 2 (by simp;rfl) ?_
 refine kcall [2,5,14] [] (names_ok hy) rfl rfl rfl Tryz.call54 (by simp) (by simp;rfl) ?_
 refine ko [2,5,6] 7 (by simp;rfl) ?_
 refine tpN ?_
 refine trq ?_
 refine kr [2,5,6,9] (by simp;rfl) ?_
 refine tr_frzB 2 [.d (.slice (rowsF zOr a0.Objects)),.d (.slice (rowsF zEr a0.Events))] [.slice (rowsF zOr a0.Objects),.slice (rowsF zEr a0.Events)] (by simp) (by simp) hK (by decide) (fun i hi=>absurd hi (Nat.not_lt_zero i)) ?_
 refine tjv (fun _:Unit=>({ nt:=33,env:=[(5,.vec 10)],box:=[],vec:=[(10,⟨mTag 75 1 false false,2,rowsF (mRow (iRow .i64) bRow) r⟩)]}:St)) (fun _=>True) (fun _ _ _ W1=>?_) ?_
 ·refine tr_wk W1 ?_
  refine kr [4] (by simp;rfl) ?_
  exact trr ⟨[10],by simp,rfl,by simp⟩
 ·intro a w p R
  obtain⟨p1,R,_⟩:=R.weak0 (st':=({ nt:=33,env:=[(2,.cptr [.slice (rowsF zOr a0.Objects),.slice (rowsF zEr a0.Events)] 0),(5,.vec 10),(6,.d (.slice (rowsF zIr y.1))),(9,.d (.int .i64 0))],box:=[],vec:=[(10,⟨mTag 75 1 false false,2,rowsF (mRow (iRow .i64) bRow) []⟩)]}:St)) (by simp[wkI,St.frzB])
  refine wp_block (wp_loop_ghost (fun n1 a w=>∃(j:Nat) (M1:List (Int×Bool)) (p1:Pl),Rel K ({ nt:=33,env:=[(2,.cptr [.slice (rowsF zOr a0.Objects),.slice (rowsF zEr a0.Events)] 0),(5,.vec 10),(6,.d (.slice (rowsF zIr y.1))),(9,.d (.int .i64 (j:Int)))],box:=[],vec:=[(10,⟨mTag 75 1 false false,2,rowsF (mRow (iRow .i64) bRow) M1⟩)]}:St) a w p1∧(y.1.drop j).foldlM (fun M x=>reachN a0.Objects n x.ID M) M1=some r∧j≤y.1.length∧n1=y.1.length - j) y.1.length ⟨0,_,p1,R,hat,Nat.zero_le _,rfl⟩ fun n1 a w ⟨j,M1,p1,R,hfold,hj,hn1⟩=>?_)
  refine wp_seq (wp_reg (t:=5) (ko [2,5,6,9,21] 4 (by simp;rfl) tops_end) (by simp) R rfl fun a w p1 R _=>?_)
  have h21:=wp_bool R (t:=21) (b:=decide ((j:Int) < (y.1.length:Int))) (by simp[St.look,get])
  refine wp_cond_split h21 (fun hch=>wp_skip (then_norm ?_)) fun hch=>wp_exit ?_
  case refine_2=>
   have hjl:j=y.1.length:=by have:=of_decide_eq_false hch;omega
   subst hjl
   rw[List.drop_eq_nil_of_le (Nat.le_refl _)] at hfold
   simp only[List.foldlM_nil,Option.pure_def,Option.some.injEq] at hfold
   subst hfold
   refine then_exit (then_exit (exit_in ?_))
   exact⟨_,p1,R,(),trivial,wk (by simp[wkI])⟩
  have hjl:j < y.1.length:=by have:=of_decide_eq_true hch;omega
  obtain⟨x,hx⟩:∃x,y.1[j]? =some x:=⟨_,List.getElem?_eq_getElem hjl⟩
  have hdr:y.1.drop j=x::y.1.drop (j+1):=by
   rw[List.getElem?_eq_getElem hjl] at hx
   rw[List.drop_eq_getElem_cons hjl,Option.some.inj hx]
  rw[hdr,List.foldlM_cons] at hfold
  obtain⟨M2,e2,hfold⟩:=Option.bind_eq_some_iff.1 hfold
  refine wp_seq (wp_block ?_)
  obtain⟨p4,R,_⟩:=R.weak0 (st':=({ nt:=33,env:=[(2,.cptr [.slice (rowsF zOr a0.Objects),.slice (rowsF zEr a0.Events)] 0),(5,.vec 10),(6,.d (.slice (rowsF zIr y.1))),(9,.d (.int .i64 (j:Int)))],box:=[],vec:=[(10,⟨mTag 75 1 false false,2,rowsF (mRow (iRow .i64) bRow) M1⟩)]}:St)) (by simp[wkI])
  refine wp_held_last (t:=5) (st2:=({ nt:=33,env:=[(2,.cptr [.slice (rowsF zOr a0.Objects),.slice (rowsF zEr a0.Events)] 0),(5,.vec 10),(6,.d (.slice (rowsF zIr y.1))),(9,.d (.int .i64 (j:Int)))],box:=[],vec:=[(10,⟨mTag 75 1 false false,2,rowsF (mRow (iRow .i64) bRow) M2⟩)]}:St)) [0,1,2,3,4,5,6] hKi fol (by decide +kernel) rfl rfl rfl (by decide +kernel) (i:=7) rfl (by decide +kernel) (by decide +kernel) (by simp) R rfl (by simp[stillsL,stillB,pureP,pureB,hx];rfl) (fun K'=>kcallH [2,5,6,9] [] [10] [(5,10)] (reachN_ok hsz.1 hsz.2 n e2) rfl rfl rfl Tryz.call91 (by simp) (by simp <;> rfl) tops_end) fun a w p1 R _=>?_
  refine norm_in (then_norm ?_)
  refine wp_region_lit (wpl_reg (t:=5) (ko [2,5,6,9] 3 (by simp;rfl) tops_end) (by simp) R rfl fun a w p1 R _=>?_)
  have hw:IntKind.i64.wrap ((j:Int)+1)=(j:Int)+1:=w64 (by omega) (by omega)
  obtain⟨p5,R,_⟩:=R.weak0 (st':=({ nt:=33,env:=[(2,.cptr [.slice (rowsF zOr a0.Objects),.slice (rowsF zEr a0.Events)] 0),(5,.vec 10),(6,.d (.slice (rowsF zIr y.1))),(9,.d (.int .i64 ((j+1:Nat):Int)))],box:=[],vec:=[(10,⟨mTag 75 1 false false,2,rowsF (mRow (iRow .i64) bRow) M2⟩)]}:St)) (by simp[wkI,hw])
  exact⟨y.1.length - (j+1),by omega,j+1,M2,p5,R,hfold,by omega,rfl⟩
end Go.Vl
