/- ref15.names: its contract. Conditions: none. -/
import Derived.Test.YtjnflahicimmlaaGreatGhr
import Derived.Test.YtjnflahicimmlaaGreatVmNs
import Derived.Deep.Upon
set_option linter.unusedSimpArgs false
set_option linter.unusedVariables false
namespace Go.Vl
open Go Go.Proofs Go.RowKit
theorem item_z (l:List zI):∀r∈rowsF zIr l,r.length=2:=by
 rw[rowsF_all];intro x _;rfl
theorem item_fl (l:List zI):∀r∈rowsF zIr l,∀d∈r,FlatD d:=by
 intro r hr d hd
 unfold rowsF at hr
 obtain⟨x,_,rfl⟩:=List.mem_map.1 hr
 simp only[zIr,List.mem_cons,List.not_mem_nil,or_false] at hd
 rcases hd with rfl |rfl <;> trivial
theorem refAt_get {n:ByteArray}:∀{l:List zI} {x:zI},l[refAt n l]? =some x→Op.bytesLess x.Name.toList n.toList=false:=by
 intro l
 induction l with
 |nil=>intro x h;simp[refAt] at h
 |cons y l ih=>
  intro x h
  unfold refAt at h
  rw[List.takeWhile_cons] at h
  split at h
  ·rename_i hy
   simp only[List.length_cons,List.getElem?_cons_succ] at h
   exact ih h
  ·rename_i hy
   simp at h;subst h;simpa using hy
theorem refAt_lt {n:ByteArray}:∀{l:List zI} {i:Nat} {x:zI},i < refAt n l→l[i]? =some x→Op.bytesLess x.Name.toList n.toList=true:=by
 intro l
 induction l with
 |nil=>intro i x h _;simp[refAt] at h
 |cons y l ih=>
  intro i x h hx
  unfold refAt at h
  rw[List.takeWhile_cons] at h
  split at h
  ·rename_i hy
   cases i with
   |zero=>simp at hx;subst hx;exact hy
   |succ i=>exact ih (by simpa[refAt] using h) (by simpa using hx)
  ·simp at h
theorem refAt_le (n:ByteArray) (l:List zI):refAt n l≤l.length:=by
 unfold refAt;exact List.Sublist.length_le (List.takeWhile_sublist _)
theorem flat_get_of {α:Type} {F:α→Prop}:∀{l:List (Nat×α)},(∀q∈l,F q.2)→∀s y,get l s=some y→F y
 |[],_,s,y,h=>by simp[get] at h
 |(k,x)::l,hl,s,y,h=>by
  simp only[get] at h
  split at h
  ·cases h;exact hl (k,x) (by simp)
  ·exact flat_get_of (fun q hq=>hl q (by simp[hq])) s y h
theorem nilsl_inv {w:World} {ok:Nat→Prop} {p:Pl} {v:Value} (h:RA w ok p (.d (.slice [])) v):∃a c,v=.slice a 0 c:=by
 cases h with
 |d h=>cases h with
  |snil=>exact⟨_,_,rfl⟩
  |slice z vs h1 h2 h3 h4 h5=>exact⟨_,_,rfl⟩
theorem wp_nils {P:Program} {K:Ctx P} {st:St} {a:Act} {w:World} {p:Pl} {s:Nat} (R:Rel K st a w p) (h:st.look s=.d (.slice [])):∃b c,a.eval (.tmp s)=.slice b 0 c:=by
 have:=R.opd (.tmp s)
 have ho:opd st (.tmp s)=.d (.slice []):=h
 rw[ho] at this
 exact nilsl_inv this
set_option maxHeartbeats 4000000 in
theorem names_ok {a0:zR} {a1:Int} {r:List zI×Bool×Bool} (h0:rYnames a0 a1=some r):FnOK Tryz.prog 54 [] [.agg (zRa a0),.d (.int .i64 a1)] (.tup [.d (.slice (rowsF zIr r.1)),.d (.bool r.2.1),.d (.bool r.2.2)]) []:=by
 unfold rYnames at h0
 replace h0:=bnd h0;obtain⟨_,hev,h0⟩:=h0
 replace hev:=ck_some hev
 replace h0:=Option.some.inj h0
 refine fn_okK (nt:=120) (rs:=[.tmp 4,.tmp 5,.tmp 6]) Tryz.func54 rfl Tryz.ntmps54 rfl (by simp) (by decide) rfl fun K hK=>?_
 have hKi:K.ios=[]:=List.eq_nil_of_length_eq_zero hK
 refine kr [1,2] (by simp;rfl) ?_
 refine kr [1,2,7] (by simp;rfl) ?_
 refine kr [1,2,7,8,9] (by simp;rfl) ?_
 refine trq ?_
 refine kr [1,2,7,8,9,10] (by simp;rfl) ?_
 refine tr_frzB 2 [.d (.slice (rowsF zOr a0.Objects)),.d (.slice (rowsF zEr a0.Events))] [.slice (rowsF zOr a0.Objects),.slice (rowsF zEr a0.Events)] (by simp) (by simp) hK (by decide) (fun i hi=>absurd hi (Nat.not_lt_zero i)) ?_
 refine tjv (fun _:Unit=>({ nt:=120,env:=[(7,.d (.slice (rowsF zIr r.1))),(8,.d (.bool r.2.1)),(9,.d (.bool r.2.2))],box:=[],vec:=[]}:St)) (fun _=>True) (fun _ _ _ W1=>?_) ?_
 ·refine tr_wk W1 ?_
  refine kr [4,5,6] (by simp;rfl) ?_
  exact trr ⟨[],by simp,rfl,by simp⟩
 ·intro a w p R
  obtain⟨K',p',k1,k2,R1,k4,k5,k6,k7,k8,k9,k10⟩:=R.turn hKi (st':=({ nt:=120,env:=[(1,.d (.int .i64 a1)),(2,.cptr [.slice (rowsF zOr a0.Objects),.slice (rowsF zEr a0.Events)] 0),(7,.nilS),(8,.d (.bool true)),(9,.d (.bool true)),(10,.d (.int .i64 0))],box:=[],vec:=[]}:St)) (by simp[wkI,St.frzB]) (w2:=w) (Nat.le_refl _) ⟨rfl,rfl,rfl⟩ (fun _ _=>rfl) (fun _ _=>rfl) (fun _ _ _ _=>rfl) (Nat.le_refl _) K (Back.refl K) (fun _ _ _=>rfl) hKi (fun _ h=>h)
  have hsee:∀g,okc K' w p' g→SeeB K' g:=fun g hg=>by
   have hg0:=(k4 g).1 hg
   refine⟨by rw[k2];exact hg.1,?_,k10 g hg0⟩
   rcases hg.2.1 with q |q |q
   ·exact q
   ·have:=hg.1;rw[k2] at q;omega
   ·exact absurd q (k10 g hg0)
  have hv2:RA w (SeeB K') p' (.cptr [.slice (rowsF zOr a0.Objects),.slice (rowsF zEr a0.Events)] 0) (a.eval (.tmp 2)):=(R1.env 2 _ rfl).mono (fun _ _=>rfl) hsee (fun _ h=>⟨h,rfl⟩) (fun _ h=>⟨h,rfl⟩)
  have hv7:a.eval (.tmp 7)=.slice none 0 0:=by
   have:=R1.env 7 .nilS rfl
   simp only[Act.eval]
   generalize a.tmps.getD 7 undef=u at this
   cases this;rfl
  have H:NI K' 2 7 (a.eval (.tmp 2)) (.slice none 0 0) 2 (rowsF zIr []) ({ nt:=120,env:=[(1,.d (.int .i64 a1)),(8,.d (.bool true)),(9,.d (.bool true)),(10,.d (.int .i64 0))],box:=[],vec:=[]}:St) a w:=by
   obtain⟨p2,R2,_⟩:=R1.weak0 (st':=({ nt:=120,env:=[(1,.d (.int .i64 a1)),(8,.d (.bool true)),(9,.d (.bool true)),(10,.d (.int .i64 0))],box:=[],vec:=[]}:St)) (by simp[wkI])
   exact⟨p2,R2,rfl,hv7,.inl ⟨rfl,_,_,rfl⟩⟩
  generalize a.eval (.tmp 2)=v2 at hv2 H
  clear hv7
  refine wp_block (wp_loop_ghost (fun n a w=>∃(j:Nat) (out:List zI) (b1 b2:Bool) (v7:Value),NI K' 2 7 v2 v7 2 (rowsF zIr out) ({ nt:=120,env:=[(1,.d (.int .i64 a1)),(8,.d (.bool b1)),(9,.d (.bool b2)),(10,.d (.int .i64 (j:Int)))],box:=[],vec:=[]}:St) a w∧namesW a1 (a0.Events.drop j) (out,b1,b2)=r∧j≤a0.Events.length∧out.length≤j∧n=a0.Events.length - j) a0.Events.length ⟨0,[],true,true,_,H,h0,Nat.zero_le _,Nat.le_refl _,rfl⟩ fun n a w ⟨j,out,b1,b2,v7,H,hn,hj,hol,hn1⟩=>?_)
  have hz2:=item_z out
  replace H:=H.show k2.symm hv2 k1 hz2 (st':=({ nt:=120,env:=[(1,.d (.int .i64 a1)),(2,.cptr [.slice (rowsF zOr a0.Objects),.slice (rowsF zEr a0.Events)] 0),(7,.d (.slice (rowsF zIr out))),(8,.d (.bool b1)),(9,.d (.bool b2)),(10,.d (.int .i64 (j:Int)))],box:=[],vec:=[]}:St)) (by simp[wkI,St.put])
  have hF:∀{a w} {out:List zI} {b1 b2:Bool} {v7:Value} {st:St},NI K' 2 7 v2 v7 2 (rowsF zIr out) st a w→Weak ((st.put 2 (.cptr [.slice (rowsF zOr a0.Objects),.slice (rowsF zEr a0.Events)] 0)).put 7 (.d (.slice (rowsF zIr out)))) ({ nt:=120,env:=[(7,.d (.slice (rowsF zIr out))),(8,.d (.bool b1)),(9,.d (.bool b2))],box:=[],vec:=[]}:St)→r=(out,b1,b2)→∃s p',Rel K s a w p'∧∃v:Unit,True∧Wk s ({ nt:=120,env:=[(7,.d (.slice (rowsF zIr r.1))),(8,.d (.bool r.2.1)),(9,.d (.bool r.2.2))],box:=[],vec:=[]}:St):=fun {a w out b1 b2 v7 st} H W hr=>by
   subst hr
   obtain⟨p2,R2,_⟩:=H.show k2.symm hv2 k1 (item_z out) W
   exact⟨_,p2,k5.rel _ _ _ _ R2,(),trivial,wk (by simp[wkI])⟩
  by_cases hjl:j < a0.Events.length
  case neg=>
   have hje:j=a0.Events.length:=by omega
   subst hje
   have hjd:decide ((a0.Events.length:Int) < (a0.Events.length:Int))=false:=by simp
   rw[List.drop_eq_nil_of_le (Nat.le_refl _)] at hn
   simp only[namesW] at hn
   refine wp_seq (H.reg k1 (fun K2=>ko [1,2,7,8,9,10,29] 15 (by simp[hjd];rfl) tops_end) (by simp) (by simp) fun a w H=>?_)
   have h29:=H.bool (s:=29) (c:=false) (by simp[St.look,get])
   refine wp_cond_split h29 (fun hc=>by cases hc) fun hc=>wp_exit (then_exit (then_exit (exit_in ?_)))
   exact hF H (by simp[wkI,St.put]) hn.symm
  obtain⟨e,he⟩:∃e,a0.Events[j]? =some e:=⟨_,List.getElem?_eq_getElem hjl⟩
  have hjd:decide (j < a0.Events.length)=true:=by simp;omega
  have hdr:a0.Events.drop j=e::a0.Events.drop (j+1):=by
   rw[List.getElem?_eq_getElem hjl] at he
   rw[List.drop_eq_getElem_cons hjl,Option.some.inj he]
  rw[hdr] at hn
  simp only[namesW] at hn
  refine wp_seq (H.reg k1 (fun K2=>ko [1,2,7,8,9,10,29] 15 (by simp[hjd,he];rfl) tops_end) (by simp) (by simp) fun a w H=>?_)
  have h29:=H.bool (s:=29) (c:=decide (e.Time≤a1)) (by simp[St.look,get])
  refine wp_cond_split h29 (fun hc=>wp_skip (then_norm ?_)) fun hc=>wp_exit (then_exit (then_exit (exit_in ?_)))
  case refine_2=>
   rw[if_pos (by have:=of_decide_eq_false hc;omega)] at hn
   exact hF H (by simp[wkI,St.put]) hn.symm
  rw[if_neg (by have:=of_decide_eq_true hc;omega)] at hn
  refine wp_seq (wp_block ?_)
  refine H.reg k1 (fun K2=>ko [1,2,7,8,9,10,11] 7 (by simp[he];rfl) tops_end) (by simp) (by simp) fun a w H=>?_
  replace H:=H.frzB k1 (n:=11) (cs:=zEa e) (row:=zEr e) (by simp[get]) (by simp) (by decide) (st':=({ nt:=120,env:=[(1,.d (.int .i64 a1)),(2,.cptr [.slice (rowsF zOr a0.Objects),.slice (rowsF zEr a0.Events)] 0),(7,.d (.slice (rowsF zIr out))),(8,.d (.bool b1)),(9,.d (.bool b2)),(10,.d (.int .i64 (j:Int))),(11,.cptr (zEr e) 0)],box:=[],vec:=[]}:St)) (by simp[wkI,St.frzB])
  refine H.reg k1 (fun K2=>ko [1,2,7,8,9,10,11,12] 1 (by simp;rfl) tops_end) (by simp) (by simp) fun a w H=>?_
  replace H:=H.weak (st':=({ nt:=120,env:=[(1,.d (.int .i64 a1)),(2,.cptr [.slice (rowsF zOr a0.Objects),.slice (rowsF zEr a0.Events)] 0),(7,.d (.slice (rowsF zIr out))),(8,.d (.bool b1)),(9,.d (.bool b2)),(10,.d (.int .i64 (j:Int))),(11,.cptr (zEr e) 0),(12,.d (.int .i64 ((0:Nat):Int)))],box:=[],vec:=[]}:St)) (by simp[wkI])
  refine wp_seq (wp_mono (Q:=fun ex a w=>ex=.normal∧NI K' 2 7 v2 v7 2 (rowsF zIr out) ({ nt:=120,env:=[(1,.d (.int .i64 a1)),(2,.cptr [.slice (rowsF zOr a0.Objects),.slice (rowsF zEr a0.Events)] 0),(7,.d (.slice (rowsF zIr out))),(8,.d (.bool b1)),(9,.d (.bool b2)),(10,.d (.int .i64 (j:Int))),(11,.cptr (zEr e) 0),(12,.d (.int .i64 (refAt e.Name out:Int)))],box:=[],vec:=[]}:St) a w) (wp_block (wp_loop_ghost (fun n a w=>∃k:Nat,NI K' 2 7 v2 v7 2 (rowsF zIr out) ({ nt:=120,env:=[(1,.d (.int .i64 a1)),(2,.cptr [.slice (rowsF zOr a0.Objects),.slice (rowsF zEr a0.Events)] 0),(7,.d (.slice (rowsF zIr out))),(8,.d (.bool b1)),(9,.d (.bool b2)),(10,.d (.int .i64 (j:Int))),(11,.cptr (zEr e) 0),(12,.d (.int .i64 (k:Int)))],box:=[],vec:=[]}:St) a w∧k≤refAt e.Name out∧n=out.length - k) out.length ⟨0,H,Nat.zero_le _,rfl⟩ fun n a w ⟨k,H,hk,hkn⟩=>?_)) fun ex a w ⟨hex,H⟩=>?_)
  case refine_1=>
   have hkl:=Nat.le_trans hk (refAt_le e.Name out)
   cases hxk:out[k]? with
   |none=>
    have hke:k=out.length:=by have:=List.getElem?_eq_none_iff.1 hxk;omega
    have hkn:¬k < out.length:=by omega
    refine wp_seq (wp_seq (H.held k1 (S0:=({ nt:=120,env:=[(1,.d (.int .i64 a1)),(2,.cptr [.slice (rowsF zOr a0.Objects),.slice (rowsF zEr a0.Events)] 0),(7,.d (.slice (rowsF zIr out))),(8,.d (.bool b1)),(9,.d (.bool b2)),(10,.d (.int .i64 (j:Int))),(11,.cptr (zEr e) 0),(12,.d (.int .i64 (k:Int))),(50,.d (.bool false))],box:=[],vec:=[]}:St)) [0,1,2,3,4,5,6,7,8,9,10,11,12,13] 0 fol (by decide +kernel) rfl rfl rfl (by simp[stillsG,stillC,cmpOp,stillB,pureP,pureB,hkn];rfl) (fun K2 S F C=>ho_end C (by decide +kernel) ⟨rfl,wkI.2 (by simp[hkn])⟩) (by simp) (by simp) fun a w H=>?_))
    have h50:=H.bool (s:=50) (c:=false) (by simp[St.look,get])
    refine wp_cond_split h50 (fun hc=>by cases hc) fun hc=>wp_exit (then_exit (then_exit (exit_in ⟨rfl,?_⟩)))
    have hkr:k=refAt e.Name out:=by have:=refAt_le e.Name out;omega
    rw[← hkr]
    exact H.weak (by simp[wkI])
   |some x=>
    have hkn:decide (k < out.length)=true:=by have:=(List.getElem?_eq_some_iff.1 hxk).1;simp;omega
    refine wp_seq (wp_seq (H.held k1 (S0:=({ nt:=120,env:=[(1,.d (.int .i64 a1)),(2,.cptr [.slice (rowsF zOr a0.Objects),.slice (rowsF zEr a0.Events)] 0),(7,.d (.slice (rowsF zIr out))),(8,.d (.bool b1)),(9,.d (.bool b2)),(10,.d (.int .i64 (j:Int))),(11,.cptr (zEr e) 0),(12,.d (.int .i64 (k:Int))),(50,.d (.bool (Op.bytesLess x.Name.toList e.Name.toList)))],box:=[],vec:=[]}:St)) [0,1,2,3,4,5,6,7,8,9,10,11,12,13] 0 fol (by decide +kernel) rfl rfl rfl (by simp[stillsG,stillC,cmpOp,stillB,pureP,pureB,hkn,hxk];rfl) (fun K2 S F C=>ho_end C (by decide +kernel) ⟨rfl,wkI.2 (by simp[hkn,hxk])⟩) (by simp) (by simp) fun a w H=>?_))
    have h50:=H.bool (s:=50) (c:=Op.bytesLess x.Name.toList e.Name.toList) (by simp[St.look,get])
    refine wp_cond_split h50 (fun hc=>wp_skip (then_norm ?_)) fun hc=>wp_exit (then_exit (then_exit (exit_in ⟨rfl,?_⟩)))
    ·have hw:IntKind.i64.wrap ((k:Int)+1)=(k:Int)+1:=w64 (by omega) (by have:=(List.getElem?_eq_some_iff.1 hxk).1;omega)
     refine wp_block (H.regL k1 (fun K2=>ko [1,2,7,8,9,10,11,12] 3 (by simp;rfl) tops_end) (by simp) (by simp) fun a w H=>norm_in ?_)
     refine⟨out.length - (k+1),by have:=(List.getElem?_eq_some_iff.1 hxk).1;omega,k+1,H.weak (by simp[wkI,hw]),?_,rfl⟩
     rcases Nat.lt_or_ge k (refAt e.Name out) with h |h
     ·omega
     ·have:k=refAt e.Name out:=by omega
      rw[this] at hxk;rw[refAt_get hxk] at hc;cases hc
    ·have hkr:k=refAt e.Name out:=by
      rcases Nat.lt_or_ge k (refAt e.Name out) with h |h
      ·rw[refAt_lt h hxk] at hc;cases hc
      ·omega
     rw[← hkr]
     exact H.weak (by simp[wkI])
  subst hex
  refine then_norm ?_
  have hk:=refAt_le e.Name out
  obtain⟨k,hke⟩:∃k,k=refAt e.Name out:=⟨_,rfl⟩
  rw[← hke] at H hk
  refine wp_seq (wp_mono (Q:=fun ex a w=>ex=.normal∧∃is:Bool,(is=true↔∃x,out[k]? =some x∧(x.Name.toList==e.Name.toList)=true)∧NI K' 2 7 v2 v7 2 (rowsF zIr out) ({ nt:=120,env:=[(1,.d (.int .i64 a1)),(2,.cptr [.slice (rowsF zOr a0.Objects),.slice (rowsF zEr a0.Events)] 0),(7,.d (.slice (rowsF zIr out))),(8,.d (.bool b1)),(9,.d (.bool b2)),(10,.d (.int .i64 (j:Int))),(11,.cptr (zEr e) 0),(12,.d (.int .i64 (k:Int))),(13,.d (.bool is))],box:=[],vec:=[]}:St) a w) ?_ fun ex a w ⟨hex,is,his,H⟩=>?_)
  case refine_1=>
   cases hxk:out[k]? with
   |none=>
    have hkn:¬k < out.length:=by have:=List.getElem?_eq_none_iff.1 hxk;omega
    refine H.held k1 (S0:=({ nt:=120,env:=[(1,.d (.int .i64 a1)),(2,.cptr [.slice (rowsF zOr a0.Objects),.slice (rowsF zEr a0.Events)] 0),(7,.d (.slice (rowsF zIr out))),(8,.d (.bool b1)),(9,.d (.bool b2)),(10,.d (.int .i64 (j:Int))),(11,.cptr (zEr e) 0),(12,.d (.int .i64 (k:Int))),(13,.d (.bool false))],box:=[],vec:=[]}:St)) [0,1,2,3,4,5,6,7,8,9,10,11,12,13,14] 0 fol (by decide +kernel) rfl rfl rfl (by simp[stillsG,stillC,cmpOp,stillB,pureP,pureB,hkn];rfl) (fun K2 S F C=>ho_end C (by decide +kernel) ⟨rfl,wkI.2 (by simp[hkn])⟩) (by simp) (by simp) fun a w H=>?_
    exact⟨rfl,false,by simp,H⟩
   |some x=>
    have hkn:decide (k < out.length)=true:=by have:=(List.getElem?_eq_some_iff.1 hxk).1;simp;omega
    refine H.held k1 (S0:=({ nt:=120,env:=[(1,.d (.int .i64 a1)),(2,.cptr [.slice (rowsF zOr a0.Objects),.slice (rowsF zEr a0.Events)] 0),(7,.d (.slice (rowsF zIr out))),(8,.d (.bool b1)),(9,.d (.bool b2)),(10,.d (.int .i64 (j:Int))),(11,.cptr (zEr e) 0),(12,.d (.int .i64 (k:Int))),(13,.d (.bool (x.Name.toList==e.Name.toList)))],box:=[],vec:=[]}:St)) [0,1,2,3,4,5,6,7,8,9,10,11,12,13,14] 0 fol (by decide +kernel) rfl rfl rfl (by simp[stillsG,stillC,cmpOp,stillB,pureP,pureB,hkn,hxk];rfl) (fun K2 S F C=>ho_end C (by decide +kernel) ⟨rfl,wkI.2 (by simp[hkn,hxk])⟩) (by simp) (by simp) fun a w H=>?_
    exact⟨rfl,_,by simp,H⟩
  subst hex
  refine then_norm ?_
  refine wp_seq (wp_mono (Q:=fun ex a w=>ex=.normal∧∃(out':List zI) (b1':Bool) (v7':Value),NI K' 2 7 v2 v7' 2 (rowsF zIr out') ({ nt:=120,env:=[(1,.d (.int .i64 a1)),(8,.d (.bool b1')),(9,.d (.bool b2)),(10,.d (.int .i64 (j:Int)))],box:=[],vec:=[]}:St) a w∧namesStep e (out,b1,b2)=(out',b1',b2&&decide (out'.length≤32))) ?_ fun ex a w ⟨hex,out',b1',v7',H,hst⟩=>?_)
  case refine_2=>
   subst hex
   refine then_norm ?_
   have hz2:=item_z out'
   replace H:=H.show k2.symm hv2 k1 hz2 (st':=({ nt:=120,env:=[(1,.d (.int .i64 a1)),(2,.cptr [.slice (rowsF zOr a0.Objects),.slice (rowsF zEr a0.Events)] 0),(7,.d (.slice (rowsF zIr out'))),(8,.d (.bool b1')),(9,.d (.bool b2)),(10,.d (.int .i64 (j:Int)))],box:=[],vec:=[]}:St)) (by simp[wkI,St.put])
   rw[hst] at hn
   have hw:IntKind.i64.wrap ((j:Int)+1)=(j:Int)+1:=w64 (by omega) (by omega)
   have hlen:out'.length≤j+1:=by have:=namesStep_len e (out,b1,b2);rw[hst] at this;dsimp only at this;omega
   refine wp_mono (Q:=fun ex a w=>ex=.normal∧NI K' 2 7 v2 v7' 2 (rowsF zIr out') ({ nt:=120,env:=[(1,.d (.int .i64 a1)),(2,.cptr [.slice (rowsF zOr a0.Objects),.slice (rowsF zEr a0.Events)] 0),(7,.d (.slice (rowsF zIr out'))),(8,.d (.bool b1')),(9,.d (.bool (b2&&decide (out'.length≤32)))),(10,.d (.int .i64 (j:Int)))],box:=[],vec:=[]}:St) a w) ?_ fun ex a w ⟨hex,H⟩=>?_
   ·cases b2 with
    |false=>exact H.regL k1 (fun K2=>ko [1,2,7,8,9,10] 7 (by simp;rfl) tops_end) (by simp) (by simp) fun a w H=>⟨rfl,H.weak (by simp[wkI])⟩
    |true=>
     have hle:((out'.length:Int)≤32)↔out'.length≤32:=by omega
     refine H.regL k1 (fun K2=>ko [1,2,7,8,9,10] 7 (by simp;rfl) tops_end) (by simp) (by simp) fun a w H=>⟨rfl,H.weak (by simp[wkI,hle])⟩
   ·subst hex
    refine norm_in (then_norm ?_)
    refine H.regL k1 (fun K2=>ko [1,2,7,8,9,10] 3 (by simp;rfl) tops_end) (by simp) (by simp) fun a w H=>?_
    exact⟨a0.Events.length - (j+1),by omega,j+1,out',b1',_,v7',H.weak (by simp[wkI,hw]),hn,by omega,by omega,rfl⟩
  case refine_1=>
   refine wp_block ?_
   have hkind:(e.Kind==1)=decide (e.Kind=1):=rfl
   by_cases hk1:e.Kind=1
   ·refine wp_seq (wp_mono (Q:=fun ex a w=>ex=.normal∧NI K' 2 7 v2 v7 2 (rowsF zIr out) ({ nt:=120,env:=[(1,.d (.int .i64 a1)),(2,.cptr [.slice (rowsF zOr a0.Objects),.slice (rowsF zEr a0.Events)] 0),(7,.d (.slice (rowsF zIr out))),(8,.d (.bool b1)),(9,.d (.bool b2)),(10,.d (.int .i64 (j:Int))),(11,.cptr (zEr e) 0),(12,.d (.int .i64 (k:Int))),(13,.d (.bool is)),(67,.d (.bool is))],box:=[],vec:=[]}:St) a w) ?_ fun ex a w ⟨hex,H⟩=>?_)
    ·exact H.regL k1 (fun K2=>ko [1,2,7,8,9,10,11,12,13,67] 7 (by simp[hk1]) tops_end) (by simp) (by simp) fun a w H=>⟨rfl,H⟩
    ·subst hex
     refine then_norm ?_
     have h67:=H.bool (s:=67) (c:=is) (by simp[St.look,get])
     refine wp_cond_split h67 (fun hc=>?_) fun hc=>?_
     ·subst hc
      obtain⟨x,hxk,hxe⟩:=his.1 rfl
      have hkl:=(List.getElem?_eq_some_iff.1 hxk).1
      obtain⟨p,R,h2,h7,S⟩:=H
      have hS:=S
      rcases S with ⟨h00,_⟩ |⟨g,c,cs,ty,rfl,_⟩
      ·have:out=[]:=by simpa[rowsF] using h00
       rw[this] at hkl;simp at hkl
      refine wp_region_lit (run_val (v:=.slice (some ⟨g,0,none⟩) (rowsF zIr out).length c) (w':=w) rfl (by simp[execOp,h7]) ?_)
      have R2:=R.put (d:=74) (x:=.undef) (v:=.slice (some ⟨g,0,none⟩) (rowsF zIr out).length c) .undef (by simp)
      have e74:(a.put (some 74) (.slice (some ⟨g,0,none⟩) (rowsF zIr out).length c)).eval (.tmp 74)=_:=eval_put_eq (by rw[R.nt];simp)
      have e2:(a.put (some 74) (.slice (some ⟨g,0,none⟩) (rowsF zIr out).length c)).eval (.tmp 2)=v2:=(eval_put_ne (by simp)).trans h2
      have e7:(a.put (some 74) (.slice (some ⟨g,0,none⟩) (rowsF zIr out).length c)).eval (.tmp 7)=_:=(eval_put_ne (by simp)).trans h7
      generalize a.put (some 74) (.slice (some ⟨g,0,none⟩) (rowsF zIr out).length c)=a at *
      refine wpl_take 3 (G:=fun a w=>∃p,Rel K' ({ nt:=120,env:=[(1,.d (.int .i64 a1)),(8,.d (.bool b1)),(9,.d (.bool b2)),(10,.d (.int .i64 (j:Int))),(75,.d (.int .i64 (k:Int))),(77,.d (.int .i64 e.Commit))],box:=[],vec:=[]}:St) a w p∧SL K' w p 2 (rowsF zIr out) (.slice (some ⟨g,0,none⟩) (rowsF zIr out).length c)∧a.eval (.tmp 2)=v2∧a.eval (.tmp 7)=.slice (some ⟨g,0,none⟩) (rowsF zIr out).length c∧a.eval (.tmp 74)=.slice (some ⟨g,0,none⟩) (rowsF zIr out).length c) ?_ fun a w ⟨p,R,S,e2,e7,e74⟩=>?_
      ·refine wpl_mono (fun ex a w ⟨⟨h1,p,R,S,e2,e7⟩,h3⟩=>⟨h1,p,R,S,e2,e7,h3 h1⟩) _ _ _ (wpl_frame (t:=74) _ _ _ (by simp) e74 (wpl_regF2 (F:=fun ex a w=>ex=.normal∧∃p,Rel K' ({ nt:=120,env:=[(1,.d (.int .i64 a1)),(8,.d (.bool b1)),(9,.d (.bool b2)),(10,.d (.int .i64 (j:Int))),(75,.d (.int .i64 (k:Int))),(77,.d (.int .i64 e.Commit))],box:=[],vec:=[]}:St) a w p∧SL K' w p 2 (rowsF zIr out) (.slice (some ⟨g,0,none⟩) (rowsF zIr out).length c)∧a.eval (.tmp 2)=v2∧a.eval (.tmp 7)=.slice (some ⟨g,0,none⟩) (rowsF zIr out).length c) (t:=2) (t':=7) k1 (fun K2=>ko [1,8,9,10,75,77] 3 (by simp[St.put];rfl) tops_end) (by simp) (by simp) R2 e2 e7 fun a w p R kp e2 e7=>?_))
       obtain⟨p2,R2,hk2⟩:=R.weak0 (st':=({ nt:=120,env:=[(1,.d (.int .i64 a1)),(8,.d (.bool b1)),(9,.d (.bool b2)),(10,.d (.int .i64 (j:Int))),(75,.d (.int .i64 (k:Int))),(77,.d (.int .i64 e.Commit))],box:=[],vec:=[]}:St)) (by simp[wkI])
       exact⟨rfl,p2,R2,(hS.kept kp).wk hk2,e2,e7⟩
      clear R2 hS
      have e75:a.eval (.tmp 75)=.int .i64 (k:Int):=wp_int R (by simp[St.look,get])
      have e77:a.eval (.tmp 77)=.int .i64 e.Commit:=wp_int R (by simp[St.look,get])
      refine run_val (v:=.pointer (some ⟨g,k * 2,none⟩)) (w':=w) rfl (by simp[execOp,e74,e75,Instr.indexAt,run_underlying Tryz.underlying40,asIntOf,hkl,add_blk]) ?_
      have R3:=R.put (d:=78) (x:=.undef) (v:=.pointer (some ⟨g,k * 2,none⟩)) .undef (by simp)
      have f78:(a.put (some 78) (.pointer (some ⟨g,k * 2,none⟩))).eval (.tmp 78)=_:=eval_put_eq (by rw[R.nt];simp)
      have f77:(a.put (some 78) (.pointer (some ⟨g,k * 2,none⟩))).eval (.tmp 77)=_:=(eval_put_ne (by simp)).trans e77
      have f2:(a.put (some 78) (.pointer (some ⟨g,k * 2,none⟩))).eval (.tmp 2)=_:=(eval_put_ne (by simp)).trans e2
      have f7:(a.put (some 78) (.pointer (some ⟨g,k * 2,none⟩))).eval (.tmp 7)=_:=(eval_put_ne (by simp)).trans e7
      clear e74 e75 e77 e2 e7
      refine(?_:wpList _ _ _ _ (a.put (some 78) (.pointer (some ⟨g,k * 2,none⟩))) w)
      generalize a.put (some 78) (.pointer (some ⟨g,k * 2,none⟩))=a at *
      refine run_val (v:=.pointer (some ⟨g,k * 2+1,none⟩)) (w':=w) rfl (by simp[execOp,f78,Instr.fieldAt,Instr.sureAddr,run_underlying Tryz.underlying57,fieldPlace,add_blk]) ?_
      have R4:=R3.put (d:=79) (x:=.undef) (v:=.pointer (some ⟨g,k * 2+1,none⟩)) .undef (by simp[St.put])
      have g79:(a.put (some 79) (.pointer (some ⟨g,k * 2+1,none⟩))).eval (.tmp 79)=_:=eval_put_eq (by rw[R3.nt];simp[St.put])
      have g77:(a.put (some 79) (.pointer (some ⟨g,k * 2+1,none⟩))).eval (.tmp 77)=_:=(eval_put_ne (by simp)).trans f77
      have g2:(a.put (some 79) (.pointer (some ⟨g,k * 2+1,none⟩))).eval (.tmp 2)=_:=(eval_put_ne (by simp)).trans f2
      have g7:(a.put (some 79) (.pointer (some ⟨g,k * 2+1,none⟩))).eval (.tmp 7)=_:=(eval_put_ne (by simp)).trans f7
      clear f78 f77 f2 f7 R3
      refine(?_:wpList _ _ _ _ (a.put (some 79) (.pointer (some ⟨g,k * 2+1,none⟩))) w)
      generalize a.put (some 79) (.pointer (some ⟨g,k * 2+1,none⟩))=a at *
      obtain⟨p5,R5,hk5⟩:=R4.weak0 (st':=({ nt:=120,env:=[(1,.d (.int .i64 a1)),(8,.d (.bool b1)),(9,.d (.bool b2)),(10,.d (.int .i64 (j:Int)))],box:=[],vec:=[]}:St)) (by simp[wkI,St.put])
      obtain⟨cs,ty,w',hw1,hw2,hw3,R6,S6⟩:=SL.set (i:=k) (o:=1) (d:=.int .i64 e.Commit) (u:=.int .i64 e.Commit) R5 (flat_get_of (by simp[FlatAV,FlatD])) (fun n cs h=>by simp[get] at h) rfl (item_z out) (item_fl out) (S.wk hk5) (by rw[rowsF_get,hxk];rfl) (by decide) trivial .int (by simp[Value.oneCell'])
      ·refine wl_store1 rfl 3 (.tmp 79) (.tmp 77) rfl rfl g (k * 2+1) cs ty g79 g77 (by simp) hw1 hw2 ?_
       rw[← hw3]
       refine norm_in ⟨rfl,out.set k ⟨x.Name,e.Commit⟩,b1,_,⟨p5,?_,g2,g7,?_⟩,?_⟩
       ·exact R6
       ·have hrs:rowsF zIr (out.set k ⟨x.Name,e.Commit⟩)=(rowsF zIr out).set k ((zIr x).set 1 (.int .i64 e.Commit)):=by rw[rowsF_set];rfl
        rw[hrs]
        exact S6
       ·unfold namesStep
        simp only[← hke,hxk,hxe,hk1,if_true]
     ·subst hc
      have hin:namesStep e (out,b1,b2)=(out.take k++([(⟨e.Name,e.Commit⟩:zI)]++out.drop k),b1,b2&&decide ((out.take k++([(⟨e.Name,e.Commit⟩:zI)]++out.drop k)).length≤32)):=by
       unfold namesStep
       simp only[← hke,hk1,if_true]
       cases hxk:out[k]? with
       |none=>rfl
       |some x=>
        have:¬(x.Name.toList==e.Name.toList)=true:=fun h=>by have:=his.2 ⟨x,hxk,h⟩;cases this
        simp only[this];rfl
      have hsz1:1+(out.length - k)≤268435456:=by omega
      have hsz2:k+(out.length - k+1)≤268435456:=by omega
      refine H.reg k1 (fun K2=>ko [1,2,7,8,9,10,11,12,80] 4 (by simp[hk1];rfl) tops_end) (by simp) (by simp) fun a w H=>?_
      have h80:=H.bool (s:=80) (c:=true) (by simp[St.look,get])
      refine wp_cond_split h80 (fun _=>?_) fun hc=>by cases hc
      refine wp_seq (H.held k1 (S0:=({ nt:=120,env:=[(1,.d (.int .i64 a1)),(2,.cptr [.slice (rowsF zOr a0.Objects),.slice (rowsF zEr a0.Events)] 0),(7,.d (.slice (rowsF zIr out))),(8,.d (.bool b1)),(9,.d (.bool b2)),(10,.d (.int .i64 (j:Int))),(12,.d (.int .i64 (k:Int))),(14,.vec 93)],box:=[],vec:=[(93,⟨57,2,rowsF zIr ([(⟨e.Name,e.Commit⟩:zI)]++out.drop k)⟩)]}:St)) [0,1,2,3,6,7,8] 4 fol (by decide +kernel) rfl rfl rfl (by simp[stillsG,stillC,cmpOp,stillB,pureP,pureB,hk];rfl) (fun K2 S F C=>?_) (by simp) (by simp) fun a w H=>?_)
      ·refine ho_all C [4] (by decide +kernel) (by decide) ?_
       refine hlC rfl (by simp;rfl) ?_ trivial
       refine ho_all C [5] (by decide +kernel) (by decide) ?_
       refine hlC rfl (by simp;rfl) ?_ trivial
       refine ho_all C [9] (by decide +kernel) (by decide) ?_
       refine hlC rfl (by simp[hsz1];rfl) ?_ trivial
       refine ho_all C [10] (by decide +kernel) (by decide) ?_
       refine hlC rfl (by simp;rfl) ?_ trivial
       exact ho_end C (by decide +kernel) ⟨rfl,wkI.2 (by simp)⟩
      ·refine H.newL k1 (n:=99) (e:=57) (rows':=rowsF zIr (out.take k++([(⟨e.Name,e.Commit⟩:zI)]++out.drop k))) (st1:=({ nt:=120,env:=[(1,.d (.int .i64 a1)),(7,.vec 99),(8,.d (.bool b1)),(9,.d (.bool b2)),(10,.d (.int .i64 (j:Int)))],box:=[],vec:=[(99,⟨57,2,rowsF zIr (out.take k++([(⟨e.Name,e.Commit⟩:zI)]++out.drop k))⟩)]}:St)) (st2:=({ nt:=120,env:=[(1,.d (.int .i64 a1)),(8,.d (.bool b1)),(9,.d (.bool b2)),(10,.d (.int .i64 (j:Int)))],box:=[],vec:=[]}:St)) (fun K2=>ko [1,7,8,9,10] 7 (by simp[hk,hsz2];rfl) (tops_wk (wk (by simp[wkI])) tops_end)) (by simp) rfl (by decide) rfl (by simp[wkI]) rfl fun a w v' H=>norm_in ⟨rfl,_,_,v',H,hin⟩
   ·have hkf:(e.Kind==1)=false:=by simp[hk1]
    refine wp_seq (wp_mono (Q:=fun ex a w=>ex=.normal∧NI K' 2 7 v2 v7 2 (rowsF zIr out) ({ nt:=120,env:=[(1,.d (.int .i64 a1)),(2,.cptr [.slice (rowsF zOr a0.Objects),.slice (rowsF zEr a0.Events)] 0),(7,.d (.slice (rowsF zIr out))),(8,.d (.bool b1)),(9,.d (.bool b2)),(10,.d (.int .i64 (j:Int))),(11,.cptr (zEr e) 0),(12,.d (.int .i64 (k:Int))),(13,.d (.bool is)),(67,.d (.bool false))],box:=[],vec:=[]}:St) a w) ?_ fun ex a w ⟨hex,H⟩=>?_)
    ·exact H.regL k1 (fun K2=>ko [1,2,7,8,9,10,11,12,13,67] 7 (by simp[hkf]) tops_end) (by simp) (by simp) fun a w H=>⟨rfl,H⟩
    ·subst hex
     refine then_norm ?_
     have h67:=H.bool (s:=67) (c:=false) (by simp[St.look,get])
     refine wp_cond_split h67 (fun hc=>by cases hc) fun _=>?_
     refine H.reg k1 (fun K2=>ko [1,2,7,8,9,10,11,12,13,80] 4 (by simp[hkf];rfl) tops_end) (by simp) (by simp) fun a w H=>?_
     have h80:=H.bool (s:=80) (c:=false) (by simp[St.look,get])
     refine wp_cond_split h80 (fun hc=>by cases hc) fun _=>?_
     refine H.reg k1 (fun K2=>ko [1,2,7,8,9,10,12,100] 2 (by simp;rfl) tops_end) (by simp) (by simp) fun a w H=>?_
     have h100:=H.bool (s:=100) (c:=is) (by simp[St.look,get])
     refine wp_cond_split h100 (fun hc=>?_) fun hc=>?_
     case refine_2=>
      refine H.regL k1 (fun K2=>ko [1,8,9,10] 1 (by simp;rfl) tops_end) (by simp) (by simp) fun a w H=>norm_in ⟨rfl,out,false,_,H.weak (by simp[wkI]),?_⟩
      subst hc
      unfold namesStep
      simp only[← hke,if_neg hk1]
      cases hxk:out[k]? with
      |none=>rfl
      |some x=>
       have:¬(x.Name.toList==e.Name.toList)=true:=fun h=>by have:=his.2 ⟨x,hxk,h⟩;cases this
       simp only[this];rfl
     subst hc
     obtain⟨x,hxk,hxe⟩:=his.1 rfl
     have hkl:=(List.getElem?_eq_some_iff.1 hxk).1
     have hin:namesStep e (out,b1,b2)=(out.take k++out.drop (k+1),b1,b2&&decide ((out.take k++out.drop (k+1)).length≤32)):=by
      unfold namesStep
      simp only[← hke,hxk,hxe,if_neg hk1,if_true]
     have hw1:IntKind.i64.wrap ((k:Int)+1)=((k+1:Nat):Int):=by rw[w64 (by omega) (by omega)];rfl
     have hi1:0≤(k:Int)+1:=by omega
     have hi2:(k:Int)+1≤(out.length:Int):=by omega
     by_cases hlast:k+1 < out.length
     ·have hsz3:k+(out.length - (k+1))≤268435456:=by omega
      have hpos:0 < out.length - (k+1):=by omega
      have hk2:k+1≤out.length:=by omega
      refine H.newH k1 (n:=110) (e:=57) (rows':=rowsF zIr (out.take k++out.drop (k+1))) (S0:=({ nt:=120,env:=[(1,.d (.int .i64 a1)),(7,.vec 110),(8,.d (.bool b1)),(9,.d (.bool b2)),(10,.d (.int .i64 (j:Int)))],box:=[],vec:=[(110,⟨57,2,rowsF zIr (out.take k++out.drop (k+1))⟩)]}:St)) (st2:=({ nt:=120,env:=[(1,.d (.int .i64 a1)),(8,.d (.bool b1)),(9,.d (.bool b2)),(10,.d (.int .i64 (j:Int)))],box:=[],vec:=[]}:St)) [0,1,2,3,4,5,6,7] 2 fol (by decide +kernel) rfl rfl rfl (by simp[stillsG,stillC,cmpOp,stillB,pureP,pureB,hk,hw1,hk2,hi1,hi2];rfl) (fun K2 S F C=>?_) (by simp) rfl (by decide) rfl (by simp[wkI]) rfl fun a w v' H=>norm_in ⟨rfl,_,_,v',H,hin⟩
      refine ho_all C [8] (by decide +kernel) (by decide) ?_
      refine hlC rfl (by simp[hsz3,hpos,hk];rfl) ?_ trivial
      refine ho_all C [9] (by decide +kernel) (by decide) ?_
      refine hlC rfl (by simp;rfl) ?_ trivial
      exact ho_end C (by decide +kernel) ⟨rfl,wkI.2 (by simp)⟩
     ·have hlen:k+1=out.length:=by omega
      have hdrop:out.drop (k+1)=[]:=List.drop_eq_nil_of_le (by omega)
      have hk2:k+1≤out.length:=by omega
      obtain⟨p,R,h2,h7,S⟩:=H
      have hS:=S
      rcases S with ⟨h00,_⟩ |⟨g,c,cs,ty,rfl,hcl,_⟩
      ·have:out=[]:=by simpa[rowsF] using h00
       rw[this] at hkl;simp at hkl
      have hrl:(rowsF zIr out).length=out.length:=by simp[rowsF]
      refine wp_region_held (S:=Agree K' p { w with drawn:=w.drawn+1 }) fol ?_
      have R:Rel K' _ a ({ w with drawn:=w.drawn+1 }:World) p:=R.drew
      have hS:SL K' { w with drawn:=w.drawn+1 } p 2 (rowsF zIr out) (.slice (some ⟨g,0,none⟩) (rowsF zIr out).length c):=hS.kept fun b hb=>⟨rfl,hb⟩
      generalize ({ w with drawn:=w.drawn+1 }:World)=wd at *
      refine(?_:wpAnyH Tryz.prog .any _ _ _ (9+1) _ a wd)
      refine take_mv (i:=0) rfl (by decide +kernel) (by decide +kernel) (by decide +kernel) (fun c a w q=>absurd q.1 (by simp)) rfl rfl rfl h7 (fun _ _=>rfl) ?_
      have e102:(a.put (some 102) (.slice (some ⟨g,0,none⟩) (rowsF zIr out).length c)).eval (.tmp 102)=_:=eval_put_eq (by rw[R.nt];simp)
      have e2:(a.put (some 102) (.slice (some ⟨g,0,none⟩) (rowsF zIr out).length c)).eval (.tmp 2)=v2:=(eval_put_ne (by simp)).trans h2
      have e7:(a.put (some 102) (.slice (some ⟨g,0,none⟩) (rowsF zIr out).length c)).eval (.tmp 7)=_:=(eval_put_ne (by simp)).trans h7
      have R2:=R.put (d:=102) (x:=.undef) (v:=(.slice (some ⟨g,0,none⟩) (rowsF zIr out).length c)) .undef (by simp)
      clear h2 h7 R
      generalize a.put (some 102) (.slice (some ⟨g,0,none⟩) (rowsF zIr out).length c)=a at *
      refine stills_runK [2,7,102] (by decide +kernel) (fun c a w q=>absurd q.1 (by simp)) (fun w2 h q hq=>h q hq) (fun _ _=>rfl) (n:=3) [1,2,4,5,6,7] _ (St.put ({ nt:=120,env:=[(1,.d (.int .i64 a1)),(2,.cptr [.slice (rowsF zOr a0.Objects),.slice (rowsF zEr a0.Events)] 0),(7,.d (.slice (rowsF zIr out))),(8,.d (.bool b1)),(9,.d (.bool b2)),(10,.d (.int .i64 (j:Int))),(12,.d (.int .i64 (k:Int))),(100,.d (.bool true))],box:=[],vec:=[]}:St) 102 .undef) _ (by decide +kernel) (noT_spec (by decide +kernel)) R2 (stills_of3 rfl rfl rfl (by simp[stillsL,stillB,pureP,pureB,St.put,hw1,hk2,hi1,hi2,hk,hdrop];rfl)) fun a4 R4 hkp=>?_
      have e2:a4.eval (.tmp 2)=v2:=(hkp 2 (by simp)).trans e2
      have e7:a4.eval (.tmp 7)=_:=(hkp 7 (by simp)).trans e7
      have e102:a4.eval (.tmp 102)=_:=(hkp 102 (by simp)).trans e102
      have e103:a4.eval (.tmp 103)=.int .i64 (k:Int):=wp_int R4 (by simp[St.look,get,St.put])
      have e104:a4.eval (.tmp 104)=.int .i64 (k:Int):=wp_int R4 (by simp[St.look,get,St.put])
      obtain⟨a9,c9,e109⟩:=wp_nils (s:=109) R4 (by simp[St.look,get,St.put])
      clear hkp R2
      refine(?_:wpAnyH Tryz.prog .any _ _ _ (2+1) _ a4 wd)
      refine wpAnyH_take (i:=3) (v:=(.slice (some ⟨g,0,none⟩) k k)) rfl (by decide +kernel) (by decide +kernel) (by decide +kernel) (fun c a w q=>absurd q.1 (by simp)) (.inl ⟨rfl,fun w' _=>?_⟩) (fun _ _=>rfl) ?_
      ·have hr:=run_slice_kk (P:=Tryz.prog) (t:=40) (e:=57) (z:=2) (g:=g) (n:=(rowsF zIr out).length) (c:=c) (k:=k) (k1:=.i64) (k2:=.i64) Tryz.underlying40 (by kernel_rfl) (by omega) w'
       rw[hrl] at hr
       simp[execOp,e102,e103,e104,hr]
      have R5:=R4.put (d:=105) (x:=.undef) (v:=(.slice (some ⟨g,0,none⟩) k k)) .undef (by simp[St.put])
      have e105:(a4.put (some 105) (.slice (some ⟨g,0,none⟩) k k)).eval (.tmp 105)=_:=eval_put_eq (by rw[R4.nt];simp[St.put])
      have e2:(a4.put (some 105) (.slice (some ⟨g,0,none⟩) k k)).eval (.tmp 2)=v2:=(eval_put_ne (by simp)).trans e2
      have e109:(a4.put (some 105) (.slice (some ⟨g,0,none⟩) k k)).eval (.tmp 109)=_:=(eval_put_ne (by simp)).trans e109
      clear e102 e103 e104 e7 R4
      refine(?_:wpAnyH Tryz.prog .any _ _ _ (1+1) _ (a4.put (some 105) (.slice (some ⟨g,0,none⟩) k k)) wd)
      generalize a4.put (some 105) (.slice (some ⟨g,0,none⟩) k k)=a5 at *
      refine wpAnyH_all (rs:=[8]) (by decide +kernel) (by simp) fun i hi=>?_
      rw[List.mem_singleton.1 hi]
      have happ:=fun ty=>run_app0 (P:=Tryz.prog) (t:=40) (ty:=ty) (e:=57) (zs:=[.d (.str ByteArray.empty),.d (.int .i64 0)]) Tryz.underlying40 (by kernel_rfl) (a:=a9) (b:=some ⟨g,0,none⟩) (n:=k) (m:=k) (c:=c9) (Nat.le_refl _) wd
      refine wpOp_val (v:=(.slice (some ⟨g,0,none⟩) k k)) (w':=wd) rfl rfl (by simp[execOp,resolve,invoke,builtin,e105,e109,happ]) ⟨fun _ _=>rfl,?_⟩
      have R6:=R5.put (d:=110) (x:=.undef) (v:=(.slice (some ⟨g,0,none⟩) k k)) .undef (by simp[St.put])
      have e110:(a5.put (some 110) (.slice (some ⟨g,0,none⟩) k k)).eval (.tmp 110)=_:=eval_put_eq (by rw[R5.nt];simp[St.put])
      have e2:(a5.put (some 110) (.slice (some ⟨g,0,none⟩) k k)).eval (.tmp 2)=v2:=(eval_put_ne (by simp)).trans e2
      clear e105 e109 R5 happ
      refine(?_:wpAnyH Tryz.prog .any _ _ _ (0+1) _ (a5.put (some 110) (.slice (some ⟨g,0,none⟩) k k)) wd)
      generalize a5.put (some 110) (.slice (some ⟨g,0,none⟩) k k)=a6 at *
      refine wpAnyH_all (rs:=[9]) (by decide +kernel) (by simp) fun i hi=>?_
      rw[List.mem_singleton.1 hi]
      refine wpOp_val (v:=(.slice (some ⟨g,0,none⟩) k k)) (w':=wd) rfl rfl (by simp[execOp,e110]) ⟨fun _ _=>rfl,?_⟩
      have R7:=R6.put (d:=7) (x:=.undef) (v:=(.slice (some ⟨g,0,none⟩) k k)) .undef (by simp[St.put])
      have e7:(a6.put (some 7) (.slice (some ⟨g,0,none⟩) k k)).eval (.tmp 7)=_:=eval_put_eq (by rw[R6.nt];simp[St.put])
      have e2:(a6.put (some 7) (.slice (some ⟨g,0,none⟩) k k)).eval (.tmp 2)=v2:=(eval_put_ne (by simp)).trans e2
      obtain⟨p7,R8,hk7⟩:=R7.weak0 (st':=({ nt:=120,env:=[(1,.d (.int .i64 a1)),(8,.d (.bool b1)),(9,.d (.bool b2)),(10,.d (.int .i64 (j:Int)))],box:=[],vec:=[]}:St)) (by simp[wkI,St.put])
      have hS2:=(SL.take (n:=k) (c:=k) hS (by omega) (Nat.le_refl _)).wk hk7
      have hrt:rowsF zIr (out.take k++out.drop (k+1))=(rowsF zIr out).take k:=by rw[hdrop,List.append_nil];simp[rowsF]
      refine wpAnyH_done (by decide +kernel) ⟨rfl,out.take k++out.drop (k+1),b1,(.slice (some ⟨g,0,none⟩) k k),⟨p7,R8,e2,e7,?_⟩,hin⟩ _
      rw[hrt];exact hS2
end Go.Vl
