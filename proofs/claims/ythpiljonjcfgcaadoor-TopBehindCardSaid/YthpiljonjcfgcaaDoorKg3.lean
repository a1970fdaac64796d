/- rights.chains, the map hidden: each row of it a new row of its own. Conditions: none. -/
import Derived.Test.YthpiljonjcfgcaaDoorKg2
import Derived.Test.YthpiljonjcfgcaaDoorVmHv
import Derived.Test.YthpiljonjcfgcaaDoorVmHt
import Derived.Test.YthpiljonjcfgcaaDoorK0x
import Derived.Test.YthpiljonjcfgcaaDoorVmZl
import Derived.Test.YthpiljonjcfgcaaDoorVmSl
import Derived.Test.YthpiljonjcfgcaaDoorKRx
set_option maxHeartbeats 4000000
set_option linter.unusedSimpArgs false
set_option linter.unusedVariables false
namespace Go.Vl
open Go Go.Proofs Go.RowKit
theorem anyH_monoS {P:Program} {md:Region.Mode} {ops:Array Oper} {F:Exit→Act→World→Prop} {S S':World→Prop} (h:∀w,S w→S' w):∀(n:Nat) (listed:Array Bool) (a:Act) (w:World),wpAnyH P md ops F S n listed a w→wpAnyH P md ops F S' n listed a w
 |0,_,_,_,hq=>hq
 |n+1,listed,a,w,hq=>⟨hq.1,fun i hi=>wpOp_mono (fun a' w' hh=>⟨h _ hh.1,anyH_monoS h n _ a' w' hh.2⟩) (hq.2 i hi)⟩
theorem clone_hid {K:Ctx Tryd.prog} {st:St} {a:Act} {w:World} {p:Pl} (R:Rel K st a w p) {v:Value} {l0:List api_Link} (hown:∃xv,w.ownsRow 0 79 4 v l0.length xv∧∀(i:Nat) (d:D) (v:Value),(rowsF api_Link_row l0).flatten[i]? =some d→xv[i]? =some v→RD w (fun _=>False) d v) (hvb:∀g,v.blk=some g→g < w.heap.size) (h0:clone_link l0=some l0):
  Calls Tryd.prog 37 #[v] w fun e w1=>∃u,e=.returned u∧(∃xv,w1.ownsRow 0 79 4 u l0.length xv∧∀(i:Nat) (d:D) (v:Value),(rowsF api_Link_row l0).flatten[i]? =some d→xv[i]? =some v→RD w1 (fun _=>False) d v)∧(∀g,u.blk=some g→w.heap.size≤g)∧Frm [] [] w w1:=by
 have hl:(rowsF api_Link_row l0).length=l0.length:=by simp[rowsF]
 have hz:∀r∈rowsF api_Link_row l0,r.length=4:=fun r hr=>by unfold rowsF at hr;obtain⟨x,_,rfl⟩:=List.mem_map.1 hr;rfl
 have hflat:∀(i:Nat) (d:D),(rowsF api_Link_row l0).flatten[i]? =some d→FlatD d:=fun i d hd=>by
  obtain⟨r,hr,hd⟩:=List.mem_flatten.1 (List.mem_of_getElem? hd)
  unfold rowsF at hr;obtain⟨y,_,rfl⟩:=List.mem_map.1 hr
  simp only[api_Link_row,List.mem_cons,List.not_mem_nil,or_false] at hd
  rcases hd with rfl |rfl |rfl |rfl <;> trivial
 obtain⟨xv,o1,o2⟩:=hown
 have hpre:FnPre w (fun g=>okc K w p g∨v.blk=some g) [] [] [] []:={
  len:=rfl
  nodup:=List.nodup_nil
  okb:=fun b hb=>⟨by rcases hb with hb |hb;exact hb.1;exact hvb b hb,by simp,by simp⟩
  at_:=fun i b cs hb=>by simp at hb
  lenv:=rfl
  vat:=fun i b cs hb=>by simp at hb
  vdis:=fun i j v u hb=>by simp at hb
  vio:=fun v hv=>by simp at hv }
 refine(clone_link_ok h0 w _ [] [] #[v] hpre rfl (fun i x u hx hu=>?_) (fun b i x h=>⟨.inl (R.glob b i x h).1,(R.glob b i x h).2⟩)).mono fun e w1 he=>?_
 ·cases i with
  |zero=>
   simp at hx hu
   subst hx;subst hu
   rw[← hl] at o1
   exact .d (own_rd o1 hz (ok:=fun _=>False) o2 (fun _ h=>h.elim) fun g hg=>.inr hg)
  |succ i=>simp at hx
 ·obtain⟨u,iv',rfl,hres,hpre',hnew,hfrm⟩:=he
  have hlen:=hpre'.lenv
  obtain⟨x,rfl⟩:∃x,iv'=[x]:=by
   match iv',hlen with
   |[x],_=>exact⟨x,rfl⟩
  have hux:u=x:=by
   have:u=(ioPl [] [x]).rw (InV 0):=by cases hres;rfl
   rw[this,io_rw rfl]
  subst hux
  obtain⟨hat,_⟩:=hpre'.vat 0 u _ rfl rfl
  obtain⟨xs,k1,k2⟩:=hat.row (isM_lt (by decide))
  simp only[hl] at k1
  refine⟨u,rfl,⟨xs,k1,fun i d v h1 h2=>(hflat i d h1).rd (k2 i d v h1 h2)⟩,fun g hg=>?_,hfrm⟩
  rcases hnew u (by simp) g hg with h |⟨v,hv,_⟩
  ·exact h
  ·simp at hv
section
variable {K K0:Ctx Tryd.prog} {st:St} {a:Act} {w:World} {p:Pl} {b:Nat} {L:List (Int×List api_Link)} {es:Array MapEntry} {clock:Nat}
theorem clone_op (R:Rel K st a w p) (hK:K.ios=[]) (hK0:K0.ios=[]) (hB:Back K0 K) (h6:∀k,K.w0.heap.size≤k∨k∈K.ivs→K0.w0.heap.size≤k∨k∈K0.ivs) (H:HMap w (HidM K0 K) .i64 api_Link_row 79 4 b L es clock) {v:Value} {l0:List api_Link} (hown:∃xv,w.ownsRow 0 79 4 v l0.length xv∧∀(i:Nat) (d:D) (v:Value),(rowsF api_Link_row l0).flatten[i]? =some d→xv[i]? =some v→RD w (fun _=>False) d v) (hvb:∀g,v.blk=some g→HidM K0 K g)
  {ops:Array Oper} {F:Exit→Act→World→Prop} {Q':Act→World→Prop} {i x d:Nat} {o:Oper} {c:Call} (ho:ops[i]? =some o) (hop:o.op=.call c) (hc:c.callee=.value (.func 37)) (hca:c.args= #[.tmp x]) (hg:o.guard=none) (hd:o.dst=some d) (hx:a.eval (.tmp x)=v) (h0:clone_link l0=some l0) (hdn:d < st.nt) {st':St} (W:Weak (st.put d .undef) st')
  (Hc:∀u w1 K1 p1,K1.ios=[]→Back K0 K1→(∀k,K1.w0.heap.size≤k∨k∈K1.ivs→K0.w0.heap.size≤k∨k∈K0.ivs)→Rel K1 st' (a.put (some d) u) w1 p1→HMap w1 (HidM K0 K1) .i64 api_Link_row 79 4 b L es clock→
   (∃xv,w1.ownsRow 0 79 4 u l0.length xv∧∀(i:Nat) (d:D) (v:Value),(rowsF api_Link_row l0).flatten[i]? =some d→xv[i]? =some v→RD w1 (fun _=>False) d v)→(∀g,u.blk=some g→HidM K0 K1 g)→(∀(j:Nat) (en:MapEntry) (g:Nat),es[j]? =some en→en.val.blk=some g→u.blk≠some g)→(∀w2,SeeS K1 w2→SeeS K w2)→Q' (a.put (some d) u) w1):wpOp Tryd.prog ops F i Q' a w:=by
 unfold wpOp
 simp only[ho]
 rw[show Region.wanted o (yielded ops a.tmps)=true by simp[Region.wanted,hg],if_pos rfl]
 refine .inl ?_
 unfold Oper.wp
 rw[enter_run (f:=37) (cs:=#[]) hop hc rfl Tryd.call37]
 have hargs:c.args.map a.eval++ #[]= #[v]:=by rw[hca];simp[hx]
 rw[hargs]
 refine(clone_hid R hown (fun g hg=>Nat.lt_of_lt_of_le (hvb g hg).1.lt R.size) h0).mono fun e w1 ⟨u,he,hu1,hu2,hf⟩=>?_
 subst he
 show Q' (a.put o.dst u) w1
 rw[hd]
 have R1:=R.put (d:=d) (x:=.undef) (v:=u) .undef hdn
 obtain⟨K1,p1,t1,t2,t3,t4,t5,t6,t7,t8,t9⟩:=hw_turn R R1 hK W (w2:=w1) hf.size ⟨hf.os,hf.tape,hf.output⟩ (fun g hg _=>hf.block g hg (by simp) (by simp)) hK0 hB h6
 refine Hc u w1 K1 p1 t1 t4 t5 t3 (H.mono t6 fun g hg=>hf.block g (Nat.lt_of_lt_of_le hg.1.lt R.size) (by simp) (by simp)) hu1 (fun g hg=>t7 g (hu2 g hg) ?_) (fun j en g h1 h2 h3=>?_) fun w2 h2 g hg=>?_
 ·obtain⟨xv,o1,_⟩:=hu1
  obtain⟨cur,hcur⟩:=own_cellsX o1 hg
  exact(Array.getElem?_eq_some_iff.1 hcur).1
 ·have hjL:j < L.length:=by rw[← H.size];exact(Array.getElem?_eq_some_iff.1 h1).1
  have:=((H.ent j _ en (List.getElem?_eq_getElem hjL) h1).hid g h2).1.lt
  have:=R.size
  have:=hu2 g h3
  omega
 ·have hok:=hg.okc hK R
  rw[h2 g (t8 g hok).1,t2,(t8 g hok).2]
  exact hg.heap hK R
theorem own_keep (hK:K.ios=[]) {st':St} {a':Act} {w':World} {p':Pl} (R:Rel K st a w p) (R':Rel K st' a' w' p') {u:Value} {l0:List api_Link} (hu:∃xv,w.ownsRow 0 79 4 u l0.length xv∧∀(i:Nat) (d:D) (v:Value),(rowsF api_Link_row l0).flatten[i]? =some d→xv[i]? =some v→RD w (fun _=>False) d v) (hvb:∀g,u.blk=some g→HidM K0 K g):
  ∃xv,w'.ownsRow 0 79 4 u l0.length xv∧∀(i:Nat) (d:D) (v:Value),(rowsF api_Link_row l0).flatten[i]? =some d→xv[i]? =some v→RD w' (fun _=>False) d v:=by
 obtain⟨xv,h1,h2⟩:=hu
 exact⟨xv,ownsRow_congr h1 fun g hg=>((hvb g hg).1.heap hK R').trans ((hvb g hg).1.heap hK R).symm,fun i d v h3 h4=>(h2 i d v h3 h4).mono (fun _ h=>h.elim) fun _ h=>h.elim⟩
theorem row_of (H:HMap w (HidM K0 K) .i64 api_Link_row 79 4 b L es clock) {q:Int} {v:Value} (hv:(mfind inE q L=none∧v=.slice none 0 0)∨∃j l en,mfind inE q L=some (j,l)∧es[j]? =some en∧v=en.val):
  (∃xv,w.ownsRow 0 79 4 v ((mget inE L q).getD []).length xv∧∀(i:Nat) (d:D) (v:Value),(rowsF api_Link_row ((mget inE L q).getD [])).flatten[i]? =some d→xv[i]? =some v→RD w (fun _=>False) d v)∧∀g,v.blk=some g→HidM K0 K g:=by
 rcases hv with ⟨h1,rfl⟩ |⟨j,l,en,h1,h2,rfl⟩
 ·exact⟨⟨[],by simpa[mget,h1] using World.ownsRow_nil w 0 79 4,fun i d v h=>by simp[mget,h1,rowsF] at h⟩,fun g hg=>by cases hg⟩
 ·have hent:=H.ent j _ en (mfind_get q L j l h1) h2
  have:(mget inE L q).getD []=l:=by simp[mget,h1]
  rw[this]
  exact⟨hent.own,hent.hid⟩
end
end Go.Vl
namespace Go.Vl
open Go Go.Proofs Go.RowKit
theorem hz41x:(Tryd.prog.info? 41).bind (·.zero)=some (.slice none 0 0):=by kernel_rfl
theorem hz41 (w:World):(zeroValue 41).run Tryd.prog w=.ok (.slice none 0 0) w:=by
 have h:=hz41x
 cases hi:Tryd.prog.info? 41 with
 |none=>rw[hi] at h;cases h
 |some i=>
  rw[hi] at h
  have h:i.zero=some (.slice none 0 0):=h
  simp[zeroValue,typeInfo,hi,h]
theorem itN_succ {σ ε:Type} {body:σ→Option (Lp σ ε)} {n:Nat} {s:σ} {e:ε} (h:itN body (n+1) s=some e):∃o,body s=some o∧((∃s',o=.go s'∧itN body n s'=some e)∨o=.out e):=by
 simp only[itN] at h
 cases hb:body s with
 |none=>rw[hb] at h;cases h
 |some o=>
  rw[hb] at h
  cases o with
  |go s'=>exact⟨_,rfl,.inl ⟨s',rfl,h⟩⟩
  |out e'=>exact⟨_,rfl,.inr (by injection h with h;rw[h])⟩
theorem chains_hid {a0:api_Rights} {a1:Int} {r:List (Int×List api_Link)} (h0:rights_chains a0 a1=some r) {w:World} {ok:Nat→Prop} {vs:Array Value} (hpre:FnPre w ok [] [] [] []) (hvs:vs.size=2) (hargs:∀(i:Nat) (x:AV) (v:Value),[AV.agg (api_Rights_av a0),.d (.int .i64 a1)][i]? =some x→vs[i]? =some v→RA w ok (ioPl [] []) x v) (hgl:GlobAt Tryd.prog w ok):
  Calls Tryd.prog 23 vs w fun e w'=>∃b es clock,e=.returned (.map (some b))∧HMap w' (fun g=>w.heap.size≤g∧g < w'.heap.size) .i64 api_Link_row 79 4 b r es clock∧Frm [] [] w w':=by
 unfold rights_chains at h0
 refine fn_raw (nt:=67) (args:=[.agg (api_Rights_av a0),.d (.int .i64 a1)]) Tryd.func23 rfl Tryd.ntmps23 (by simp) (by decide) hpre hvs hargs hgl fun K a p hKi hKv hw0 R=>?_
 refine wp_reg (t:=0) (ko [1,2] 2 (by simp[enterStV,numbered];rfl) tops_end) (by simp) R rfl fun a w1 p R _=>?_
 obtain⟨p,R⟩:=R.frzB (n:=2) (cs:=api_Rights_av a0) (row:=api_Rights_row a0) (by simp[get]) (by simp) (by rw[hKi];rfl) (by decide) (fun i hi=>absurd hi (Nat.not_lt_zero i))
 obtain⟨p,R,_⟩:=R.weak0 (st':=({ nt:=67,env:=[(1,.d (.int .i64 a1)),(2,.cptr (api_Rights_row a0) 0)],box:=[],vec:=[]}:St)) (by simp[wkI,St.frzB])
 refine wp_seq (wp_region_lit (wpl_take (G:=fun a w=>∃b,HI K .i64 api_Link_row 79 4 13 b ([]:List (Int×List api_Link)) ({ nt:=67,env:=[(1,.d (.int .i64 a1)),(2,.cptr (api_Rights_row a0) 0),(14,.d (.int .i64 a1))],box:=[],vec:=[]}:St) a w) 2 (wpl_reg (t:=0) (ko [1,2,13,14] 2 (by simp;rfl) tops_end) (by simp) R rfl fun a w p R _=>⟨rfl,HI.start R hKi (n:=13) (tm:=76) (by simp[get]) (by simp[get]) (by simp[wkI]) (by simp[St.lv,get])⟩) fun a w ⟨b,H⟩=>?_))
 show wpList Tryd.prog _ _ [_,_,_] a w
 refine H.put0l (k:=a1) hKi rfl rfl rfl Tryd.underlying76 Tryd.underlying3 hz41 H.val (H.int (by simp[St.look,get])) rfl (st':=({ nt:=67,env:=[(1,.d (.int .i64 a1)),(2,.cptr (api_Rights_row a0) 0)],box:=[],vec:=[]}:St)) (by simp[wkI]) fun a' w ha H=>?_
 have e13:=H.val
 refine run_val rfl (v:=.map (some b)) (w':=w) (by simp[execOp,e13]) ?_
 have e15:(a'.put (some 15) (.map (some b))).eval (.tmp 15)=.map (some b):=eval_put_eq (by rw[H.nt];simp)
 have H:=H.put (d:=15) (x:=.undef) (u:=.map (some b)) (fun _ _=>.undef) (by simp) (by simp)
 refine run_val rfl (v:=.map (some b)) (w':=w) (by simp[execOp,e15]) ?_
 have e5:((a'.put (some 15) (.map (some b))).put (some 5) (.map (some b))).eval (.tmp 5)=.map (some b):=eval_put_eq (by rw[H.nt];simp[St.put])
 have H:=H.put (d:=5) (x:=.undef) (u:=.map (some b)) (fun _ _=>.undef) (by simp[St.put]) (by simp)
 have H:=(H.to e5).weak (st':=({ nt:=67,env:=[(1,.d (.int .i64 a1)),(2,.cptr (api_Rights_row a0) 0)],box:=[],vec:=[]}:St)) (by simp[wkI,St.put])
 refine wp_seq ?_
 refine H.reg (fun K'=>ko [2,6] 3 (by simp;rfl) tops_end) (by simp) fun a w H=>?_
 have H:=H.wk (wk_tocut 6 17 (S:=⟨3,1,[[.int .i64 a1]]⟩) (by simp[St.look,get]) (by simp[get]))
 have H:=H.weak (st':=({ nt:=67,env:=[(2,.cptr (api_Rights_row a0) 0),(6,.cut 17 1 ([]:List Int).length [a1].length)],box:=[],vec:=[(17,⟨3,1,rowsF (iRow .i64) (([]:List Int)++[a1])⟩)]}:St)) (by simp[wkI,rowsF])
 obtain⟨n0,hn0⟩:=iter_iff.1 h0
 refine wp_block (wp_loop_ghost (fun n a w=>∃(k:Nat) (pre:List Int) (m:List (Int×List api_Link)) (queue:List Int),HI K .i64 api_Link_row 79 4 5 b m ({ nt:=67,env:=[(2,.cptr (api_Rights_row a0) 0),(6,.cut 17 1 pre.length queue.length)],box:=[],vec:=[(17,⟨3,1,rowsF (iRow .i64) (pre++queue)⟩)]}:St) a w∧pre.length≤k∧itN (rights_chains_l0 a0) n (k,m,queue)=some r) n0 ⟨0,[],_,_,H,by simp,hn0⟩ fun n a w ⟨k,pre,m,queue,H,hi,hn⟩=>?_)
 cases n with
 |zero=>simp[itN] at hn
 |succ n=>
 obtain⟨o,h1,hn⟩:=itN_succ hn
 unfold rights_chains_l0 at h1
 cases queue with
 |nil=>
  refine wp_seq ?_
  refine H.reg (fun K'=>ko [2,6,20] 3 (by simp;rfl) tops_end) (by simp) fun a w H=>?_
  have h20:=H.bool (s:=20) (c:=false) (by simp[St.look,get])
  refine wp_cond_split h20 (fun hch=>by cases hch) fun hch=>wp_exit ?_
  refine then_exit (then_exit (exit_in (then_norm ?_)))
  dsimp only at h1
  have ho:o=.out m:=(Option.some.inj h1).symm
  subst ho
  have hm:m=r:=by
   rcases hn with ⟨s',h2,_⟩ |h2
   ·cases h2
   ·injection h2
  subst hm
  refine wp_seq (wp_region_lit ?_)
  have e5:=H.val
  refine run_val rfl (v:=.map (some b)) (w':=w) (by simp[execOp,e5]) ?_
  have e66:(a.put (some 66) (.map (some b))).eval (.tmp 66)=.map (some b):=eval_put_eq (by rw[H.nt];simp)
  have H:=H.put (d:=66) (x:=.undef) (u:=.map (some b)) (fun _ _=>.undef) (by simp) (by simp)
  refine run_val rfl (v:=.map (some b)) (w':=w) (by simp[execOp,e66]) ?_
  have e4:((a.put (some 66) (.map (some b))).put (some 4) (.map (some b))).eval (.tmp 4)=.map (some b):=eval_put_eq (by rw[H.nt];simp[St.put])
  have H:=H.put (d:=4) (x:=.undef) (u:=.map (some b)) (fun _ _=>.undef) (by simp[St.put]) (by simp)
  refine then_norm (wp_ret ?_)
  obtain⟨hd,es,clock,hM,hF⟩:=H.fin hKi hKv hw0
  refine⟨.inr rfl,hd,.map (some b),?_,b,es,clock,rfl,hM,hF⟩
  have e4:=e4
  simp only[Act.eval] at e4
  rw[results_eq,Array.mapM_eq_mapM_toList]
  simp[resM,e4]
 |cons q rest=>
  refine wp_seq ?_
  refine H.reg (fun K'=>ko [2,6,20] 3 (by simp;rfl) tops_end) (by simp) fun a w H=>?_
  have h20:=H.bool (s:=20) (c:=true) (by simp[St.look,get])
  refine wp_cond_split h20 (fun hch=>wp_skip (then_norm ?_)) fun hch=>by cases hch
  dsimp only at h1
  obtain⟨ls,p3,h1⟩:=bnd h1
  obtain⟨e2,hI2,h1⟩:=bnd h1
  obtain⟨_,p4,h1⟩:=bnd h1
  replace p4:=ck_some p4
  refine wp_seq (wp_block ?_)
  have hq:(pre++q::rest)[pre.length]? =some q:=by simp
  refine wp_seq (H.held (S0:=({ nt:=67,env:=[(2,.cptr (api_Rights_row a0) 0),(6,.cut 17 1 pre.length (q::rest).length),(27,.d (.slice (rowsF api_Link_row ls))),(28,.d (.int .i64 (ls.length:Int))),(29,.d (.int .i64 0))],box:=[],vec:=[(17,⟨3,1,rowsF (iRow .i64) (pre++(q::rest))⟩)]}:St)) [0,1,6] 4 fol (by decide +kernel) rfl rfl rfl (by simp[stillsG,stillC,stillB,pureP,pureB];rfl) (fun K' S F C=>?_) (by simp) fun a w H=>then_norm ?_)
  ·refine ho_pure C 2 rfl (by decide +kernel) (by decide +kernel) (by simp[pureP,pureB]) (by simp;rfl) ?_
   refine ho_allT C [3] (by decide +kernel) (by decide) ?_
   refine hallT_cons rfl (sl (by simp[hq];rfl) ?_) trivial
   refine ho_allT C [4] (by decide +kernel) (by decide) ?_
   refine hallT_cons rfl (kcall [2,6,27,29] [] (rights_links_ok p3) rfl rfl rfl Tryd.call31 (by simp) (by simp;rfl) (tpN ?_)) trivial
   refine ho_allT C [5] (by decide +kernel) (by decide) ?_
   refine hallT_cons rfl (sl (by simp;rfl) ?_) trivial
   exact ho_end C (by decide +kernel) ⟨rfl,wkI.2 (by simp)⟩
  obtain⟨n2,hn2⟩:=iter_iff.1 hI2
  refine wp_block (wp_loop_ghost (fun n a w=>∃(i:Int) (pre:List Int) (m:List (Int×List api_Link)) (rest:List Int),HI K .i64 api_Link_row 79 4 5 b m ({ nt:=67,env:=[(2,.cptr (api_Rights_row a0) 0),(6,.cut 17 1 pre.length (q::rest).length),(27,.d (.slice (rowsF api_Link_row ls))),(28,.d (.int .i64 (ls.length:Int))),(29,.d (.int .i64 i))],box:=[],vec:=[(17,⟨3,1,rowsF (iRow .i64) (pre++(q::rest))⟩)]}:St) a w∧pre.length≤k∧itN (rights_chains_l1 a0 k q ls) n (i,m,q::rest)=some e2) n2 ⟨0,pre,m,rest,H,hi,hn2⟩ fun n2 a w ⟨i,pre,m,rest,H,hi,hn2⟩=>?_)
  cases n2 with
  |zero=>simp[itN] at hn2
  |succ n2=>
  obtain⟨o2,h2,hn2⟩:=itN_succ hn2
  unfold rights_chains_l1 at h2
  dsimp only at h2
  refine H.reg (fun K'=>ko [2,6,27,28,29,30] 1 (by simp;rfl) tops_end) (by simp) fun a w H=>?_
  have h30:=H.bool (s:=30) (c:=decide (i < (ls.length:Int))) (by simp[St.look,get])
  refine wp_seq (wp_cond_split h30 (fun c5=>wp_skip (then_norm ?_)) fun c5=>wp_exit ?_)
  case refine_2=>
   rw[if_neg (by rw[c5];decide)] at h2
   refine then_exit (then_exit (exit_in (norm_in (then_norm ?_))))
   have ho2:o2=.out (m,q::rest):=(Option.some.inj h2).symm
   subst ho2
   have he:e2=(m,q::rest):=by
    rcases hn2 with ⟨s',h3,_⟩ |h3
    ·cases h3
    ·injection h3 with h3;exact h3.symm
   subst he
   have ho:o=.go (k+1,m,rest):=by simpa using (Option.some.inj h1).symm
   subst ho
   have q1:(1:Int)≤(rest.length:Int)+1:=by omega
   refine H.regL (fun K'=>ko [2,6] 3 (by simp[q1];rfl) tops_end) (by simp) fun a w H=>?_
   refine⟨n,Nat.lt_succ_self _,k+1,pre++[q],m,rest,H.weak (by simp[wkI]),by simp;omega,?_⟩
   rcases hn with ⟨s',h3,h4⟩ |h3
   ·injection h3 with h3;rw[h3];exact h4
   ·cases h3
  rw[if_pos c5] at h2
  obtain⟨l,p5,h2⟩:=bnd h2
  replace p5:=idx_some p5
  have p5':=p5;try simp at p5'
  obtain⟨to_,p6,h2⟩:=bnd h2
  have hq2:(pre++q::rest)[pre.length]? =some q:=by simp
  refine wp_seq (wp_block ?_)
  refine H.reg (fun K'=>ko [2,6,8,27,28,29] 4 (by simp[p5,p5'];rfl) tops_end) (by simp) fun a w H=>?_
  have H:=H.frzB (n:=8) (cs:=api_Link_av l) (row:=api_Link_row l) (by simp[get]) (by simp) (by decide)
  have H:=H.weak (st':=({ nt:=67,env:=[(2,.cptr (api_Rights_row a0) 0),(6,.cut 17 1 pre.length (q::rest).length),(27,.d (.slice (rowsF api_Link_row ls))),(28,.d (.int .i64 (ls.length:Int))),(29,.d (.int .i64 i)),(8,.cptr (api_Link_row l) 0)],box:=[],vec:=[(17,⟨3,1,rowsF (iRow .i64) (pre++(q::rest))⟩)]}:St)) (by simp[wkI,St.frzB])
  refine wp_seq (H.held (S0:=({ nt:=67,env:=[(2,.cptr (api_Rights_row a0) 0),(6,.cut 17 1 pre.length (q::rest).length),(27,.d (.slice (rowsF api_Link_row ls))),(28,.d (.int .i64 (ls.length:Int))),(29,.d (.int .i64 i)),(8,.cptr (api_Link_row l) 0),(9,.d (.int .i64 to_.1))],box:=[],vec:=[(17,⟨3,1,rowsF (iRow .i64) (pre++(q::rest))⟩)]}:St)) [0,1,4] 8 fol (by decide +kernel) rfl rfl rfl (by simp[stillsG,stillC,stillB,pureP,pureB];rfl) (fun K' S F C=>?_) (by simp) fun a w H=>then_norm ?_)
  ·refine ho_pure C 2 rfl (by decide +kernel) (by decide +kernel) (by simp[pureP,pureB]) (by simp;rfl) ?_
   refine ho_allT C [3] (by decide +kernel) (by decide) ?_
   refine hallT_cons rfl (sl (by simp[hq2];rfl) ?_) trivial
   refine ho_allT C [5] (by decide +kernel) (by decide) ?_
   refine hallT_cons rfl (kcall [2,6,8,27,28,29,39] [] (rights_follow_ok p6) rfl rfl rfl Tryd.call27 (by simp) (by simp;rfl) (tpN ?_)) trivial
   refine ho_pure C 6 rfl (by decide +kernel) (by decide +kernel) (by simp[pureP,pureB]) (by simp;rfl) ?_
   refine ho_allT C [7,8] (by decide +kernel) (by decide) ?_
   refine hallT_cons rfl (sl (by simp;rfl) ?_) (hallT_cons rfl (sl (by simp;rfl) ?_) trivial)
   ·refine ho_pure C 9 rfl (by decide +kernel) (by decide +kernel) (by simp[pureP,pureB]) (by simp;rfl) ?_
    refine ho_allT C [8] (by decide +kernel) (by decide) ?_
    refine hallT_cons rfl (sl (by simp;rfl) ?_) trivial
    refine ho_pure C 10 rfl (by decide +kernel) (by decide +kernel) (by simp[pureP,pureB]) (by simp;rfl) ?_
    exact ho_end C (by decide +kernel) ⟨rfl,wkI.2 (by simp)⟩
   ·refine ho_allT C [7] (by decide +kernel) (by decide) ?_
    refine hallT_cons rfl (sl (by simp;rfl) ?_) trivial
    refine ho_pure C 9 rfl (by decide +kernel) (by decide +kernel) (by simp[pureP,pureB]) (by simp;rfl) ?_
    refine ho_pure C 10 rfl (by decide +kernel) (by decide +kernel) (by simp[pureP,pureB]) (by simp;rfl) ?_
    exact ho_end C (by decide +kernel) ⟨rfl,wkI.2 (by simp)⟩
  refine wp_seq (wp_region_lit ?_)
  have e5:=H.val
  refine run_val rfl (v:=.map (some b)) (w':=w) (by simp[execOp,e5]) ?_
  have e43:(a.put (some 43) (.map (some b))).eval (.tmp 43)=.map (some b):=eval_put_eq (by rw[H.nt];simp)
  have e9:(a.put (some 43) (.map (some b))).eval (.tmp 9)=.int .i64 to_.1:=(eval_put_ne (by simp)).trans (H.int (by simp[St.look,get]))
  have H:=H.put (d:=43) (x:=.undef) (u:=.map (some b)) (fun _ _=>.undef) (by simp) (by simp)
  generalize a.put (some 43) (.map (some b))=a at *
  refine run_val rfl (v:=.int .i64 to_.1) (w':=w) (by simp[execOp,e9]) ?_
  have e44:(a.put (some 44) (.int .i64 to_.1)).eval (.tmp 44)=.int .i64 to_.1:=eval_put_eq (by rw[H.nt];simp[St.put])
  have e43:(a.put (some 44) (.int .i64 to_.1)).eval (.tmp 43)=.map (some b):=(eval_put_ne (by simp)).trans e43
  have H:=H.put (d:=44) (x:=.undef) (u:=.int .i64 to_.1) (fun _ _=>.undef) (by simp[St.put]) (by simp)
  generalize a.put (some 44) (.int .i64 to_.1)=a at *
  obtain⟨v,hrun⟩:∃v,(Instr.lookup 76 (.map (some b)) (.int .i64 to_.1) true).run Tryd.prog w=.ok (.tuple #[v,.bool (mget inE m to_.1).isSome]) w:=by
   obtain⟨K1,p1,es,clock,k1,k2,k3,R,HM,k6⟩:=H
   obtain⟨v,hv,_⟩:=HM.findB (P:=Tryd.prog) Tryd.underlying76 Tryd.underlying3 hz41 to_.1
   exact⟨v,hv⟩
  refine run_val rfl (v:=.tuple #[v,.bool (mget inE m to_.1).isSome]) (w':=w) (by simp[execOp,e43,e44,hrun]) ?_
  have H:=H.put (d:=45) (x:=.tup [.undef,.d (.bool (mget inE m to_.1).isSome)]) (u:=.tuple #[v,.bool (mget inE m to_.1).isSome]) (fun _ _=>.tup rfl fun i x u h1 h2=>by
   match i with
   |0=>simp at h1;subst h1;exact .undef
   |1=>simp at h1 h2;subst h1;subst h2;exact .d .bool
   |i+2=>simp at h1) (by simp[St.put]) (by simp)
  have H:=H.weak (st':=({ nt:=67,env:=[(2,.cptr (api_Rights_row a0) 0),(6,.cut 17 1 pre.length (q::rest).length),(27,.d (.slice (rowsF api_Link_row ls))),(28,.d (.int .i64 (ls.length:Int))),(29,.d (.int .i64 i)),(8,.cptr (api_Link_row l) 0),(9,.d (.int .i64 to_.1)),(45,.tup [.undef,.d (.bool (mget inE m to_.1).isSome)])],box:=[],vec:=[(17,⟨3,1,rowsF (iRow .i64) (pre++(q::rest))⟩)]}:St)) (by simp[wkI,St.put])
  refine H.wpl (fun K'=>ko [2,6,8,9,12,27,28,29] 5 (by simp;rfl) tops_end) (by simp) fun a w H=>then_norm ?_
  refine wp_seq (H.regL (fun K'=>ko [2,6,8,9,27,28,29,49] 2 (by simp;rfl) tops_end) (by simp) fun a w H=>then_norm ?_)
  have h49:=H.bool (s:=49) (c:=!(mget inE m to_.1).isSome) (by simp[St.look,get])
  have H:=H.weak (st':=({ nt:=67,env:=[(2,.cptr (api_Rights_row a0) 0),(6,.cut 17 1 pre.length (q::rest).length),(27,.d (.slice (rowsF api_Link_row ls))),(28,.d (.int .i64 (ls.length:Int))),(29,.d (.int .i64 i)),(8,.cptr (api_Link_row l) 0),(9,.d (.int .i64 to_.1))],box:=[],vec:=[(17,⟨3,1,rowsF (iRow .i64) (pre++(q::rest))⟩)]}:St)) (by simp[wkI])
  refine wp_cond_split h49 (fun c8=>?_) fun c8=>wp_skip ?_
  case refine_2=>
   rw[if_neg (by rw[c8];decide)] at h2
   have ho2:o2=.go (IntKind.i64.wrap (i+1),m,q::rest):=(Option.some.inj h2).symm
   subst ho2
   refine norm_in (then_norm ?_)
   refine H.regL (fun K'=>ko [2,6,27,28,29] 2 (by simp;rfl) tops_end) (by simp) fun a w H=>?_
   refine⟨n2,Nat.lt_succ_self _,IntKind.i64.wrap (i+1),pre,m,rest,H.weak (by simp[wkI]),hi,?_⟩
   rcases hn2 with ⟨s',h3,h4⟩ |h3
   ·obtain rfl:=Lp.go.inj h3;exact h4
   ·cases h3
  rw[if_pos c8] at h2
  obtain⟨cl,p7,h2⟩:=bnd h2
  obtain⟨_,p8,h2⟩:=bnd h2
  replace p8:=ck_some p8
  obtain⟨_,p9,h2⟩:=bnd h2
  replace p9:=ck_some p9
  have hcl:(mget inE m q).getD []=cl:=by
   unfold clone_link at p7
   obtain⟨_,_,p7⟩:=bnd p7
   exact Option.some.inj p7
  have hk0:mfind inE to_.1 m=none:=by
   simp only[mget,Option.isSome_map,Bool.not_eq_true',Option.isSome_eq_false_iff] at c8
   exact Option.isNone_iff_eq_none.1 c8
  have hms:mset inE m to_.1 (cl++[l])=m++[(to_.1,cl++[l])]:=by unfold mset;rw[hk0]
  refine wp_seq (wp_mono (Q:=fun e a w=>e=.normal∧HI K .i64 api_Link_row 79 4 5 b (m++[(to_.1,cl++[l])]) ({ nt:=67,env:=[(2,.cptr (api_Rights_row a0) 0),(6,.cut 17 1 pre.length (q::rest).length),(27,.d (.slice (rowsF api_Link_row ls))),(28,.d (.int .i64 (ls.length:Int))),(29,.d (.int .i64 i)),(9,.d (.int .i64 to_.1))],box:=[],vec:=[(17,⟨3,1,rowsF (iRow .i64) (pre++(q::rest))⟩)]}:St) a w) (H.draw (st':=({ nt:=67,env:=[(2,.cptr (api_Rights_row a0) 0),(6,.cut 17 1 pre.length (q::rest).length),(27,.d (.slice (rowsF api_Link_row ls))),(28,.d (.int .i64 (ls.length:Int))),(29,.d (.int .i64 i)),(8,.cptr (api_Link_row l) 0),(9,.d (.int .i64 to_.1))],box:=[],vec:=[(17,⟨3,1,rowsF (iRow .i64) (pre++(q::rest))⟩)]}:St)) (by simp[wkI]) hKi fol fun K' p' es clock w' k1 k2 k3 R H6 hreg hsee=>?_) fun e a w ⟨he,H⟩=>?_)
  case refine_2=>
   subst he
   refine then_norm ?_
   refine wp_region_lit (H.wplQ (G:=fun s=>∃pre',pre'.length≤k∧Weak s ({ nt:=67,env:=[(2,.cptr (api_Rights_row a0) 0),(6,.cut 17 1 pre'.length (q::(rest++[to_.1])).length),(27,.d (.slice (rowsF api_Link_row ls))),(28,.d (.int .i64 (ls.length:Int))),(29,.d (.int .i64 i))],box:=[],vec:=[(17,⟨3,1,rowsF (iRow .i64) (pre'++(q::(rest++[to_.1])))⟩)]}:St)) (fun K'=>ko [2,27,28,29,61,63] 3 (by simp;rfl) ?_) (by simp) fun s a w ⟨pre',hp',W⟩ H=>?_)
   ·refine tops_appq (x:=.tmp 61) (y:=.tmp 63) (t:=22) (e:=3) (d:=64) (n:=17) (z:=1) (lo:=pre.length) (k:=rest.length+1) (s:=⟨3,1,rowsF (iRow .i64) (pre++q::rest)⟩) (zs:=[.d (.int .i64 0)]) (ys:=[[.int .i64 to_.1]])
      (by simp) rfl rfl (by simp) (by simp[get]) (by simp[get]) rfl rfl rfl Tryd.underlying22 (by kernel_rfl) (by decide) (by kernel_rfl) (by decide) (by simp) (by simp) (by simp) (by simp) (by omega) (by simp at p9 ⊢;omega) ?_ ?_
    ·refine ko [2,6,27,28,29] 1 (by simp (maxSteps:=1000000) [St.appQ];rfl) ?_
     exact tpN ⟨rfl,pre,hi,by simp[wkI]⟩
    ·refine ko [2,6,27,28,29] 1 (by simp (maxSteps:=1000000) [St.appQ];rfl) ?_
     exact tpN ⟨rfl,[],by simp,by simp[wkI]⟩
   have H:=H.weak W
   rw[hms] at h2
   have ho2:o2=.go (IntKind.i64.wrap (i+1),m++[(to_.1,cl++[l])],q::(rest++[to_.1])):=(Option.some.inj h2).symm
   subst ho2
   refine norm_in (then_norm ?_)
   refine H.regL (fun K'=>ko [2,6,27,28,29] 2 (by simp;rfl) tops_end) (by simp) fun a w H=>?_
   refine⟨n2,Nat.lt_succ_self _,IntKind.i64.wrap (i+1),pre',m++[(to_.1,cl++[l])],rest++[to_.1],H.weak (by simp[wkI]),hp',?_⟩
   rcases hn2 with ⟨s',h3,h4⟩ |h3
   ·obtain rfl:=Lp.go.inj h3;exact h4
   ·cases h3
  have hflL:∀x:api_Link,∀d∈api_Link_row x,FlatD d:=fun x d hd=>by
   simp only[api_Link_row,List.mem_cons,List.not_mem_nil,or_false] at hd
   rcases hd with rfl |rfl |rfl |rfl <;> trivial
  replace p7:clone_link cl=some cl:=by rw[hcl] at p7;exact p7
  have e5:=hreg
  refine(?_:wpAnyH Tryd.prog .any _ _ _ (11+1) _ a w')
  refine take_mv (i:=0) rfl (by decide +kernel) (by decide +kernel) (by decide +kernel) (fun c a w q=>absurd q.1 (by simp)) rfl rfl rfl e5 (SeeS.of k1 R) ?_
  have e50:(a.put (some 50) (.map (some b))).eval (.tmp 50)=(.map (some b)):=eval_put_eq (by rw[R.nt];simp[St.put])
  have e5:(a.put (some 50) (.map (some b))).eval (.tmp 5)=(.map (some b)):=(eval_put_ne (by simp)).trans e5
  have R2:=R.put (d:=50) (x:=.undef) (v:=(.map (some b))) .undef (by simp)
  generalize a.put (some 50) (.map (some b))=y1 at *
  refine(?_:wpAnyH Tryd.prog .any _ _ _ (10+1) _ y1 w')
  refine take_mv (i:=2) rfl (by decide +kernel) (by decide +kernel) (by decide +kernel) (fun c a w q=>absurd q.1 (by simp)) rfl rfl rfl e5 (SeeS.of k1 R) ?_
  have e52:(y1.put (some 52) (.map (some b))).eval (.tmp 52)=(.map (some b)):=eval_put_eq (by rw[R2.nt];simp[St.put])
  have e5:(y1.put (some 52) (.map (some b))).eval (.tmp 5)=(.map (some b)):=(eval_put_ne (by simp)).trans e5
  have e50:(y1.put (some 52) (.map (some b))).eval (.tmp 50)=(.map (some b)):=(eval_put_ne (by simp)).trans e50
  have R3:=R2.put (d:=52) (x:=.undef) (v:=(.map (some b))) .undef (by simp[St.put])
  generalize y1.put (some 52) (.map (some b))=y2 at *
  refine stills_runK [5,50,52] (by decide +kernel) (fun c a w q=>absurd q.1 (by simp)) (fun w2 h q hq=>see_of_block (h.agree k1 R hsee _ hq)) (SeeS.of k1 R) (n:=6) [1,3,8,4] _ _ _ (by decide +kernel) (noT_spec (by decide +kernel)) R3 (stills_of3 rfl rfl rfl (by simp[stillsL,stillB,pureP,pureB,St.put];rfl)) fun y3 R4 hk=>?_
  have e5:y3.eval (.tmp 5)=(.map (some b)):=(hk 5 (by simp)).trans e5
  have e50:y3.eval (.tmp 50)=(.map (some b)):=(hk 50 (by simp)).trans e50
  have e52:y3.eval (.tmp 52)=(.map (some b)):=(hk 52 (by simp)).trans e52
  have e51:y3.eval (.tmp 51)=.int .i64 to_.1:=wp_int R4 (by simp[St.look,get,St.put])
  clear hk R3 R2
  refine(?_:wpAnyH Tryd.prog .any _ _ _ (5+1) _ y3 w')
  refine wpAnyH_all (rs:=[5,9]) (by decide +kernel) (by simp) fun i9 hi9=>?_
  simp only[List.mem_cons,List.not_mem_nil,or_false] at hi9
  rcases hi9 with rfl |rfl
  ·
   refine wpOp_step R4 rfl rfl rfl (by simp[St.put,hq2];rfl) fun u3 w3 pp3 R3=>⟨SeeS.of k1 R3,?_⟩
   have e5:(y3.put (some 55) u3).eval (.tmp 5)=_:=(eval_put_ne (by simp)).trans e5
   have e50:(y3.put (some 55) u3).eval (.tmp 50)=_:=(eval_put_ne (by simp)).trans e50
   have e52:(y3.put (some 55) u3).eval (.tmp 52)=_:=(eval_put_ne (by simp)).trans e52
   have e51:(y3.put (some 55) u3).eval (.tmp 51)=_:=(eval_put_ne (by simp)).trans e51
   have e55:(y3.put (some 55) u3).eval (.tmp 55)=.int .i64 q:=wp_int R3 (by simp[St.look,get,St.put])
   have H3:=H6.keep k1 R4 R3
   generalize y3.put (some 55) u3=z3 at *
   refine(?_:wpAnyH Tryd.prog .any _ _ _ (4+1) _ z3 w3)
   refine wpAnyH_all (rs:=[6,9]) (by decide +kernel) (by simp) fun i9 hi9=>?_
   simp only[List.mem_cons,List.not_mem_nil,or_false] at hi9
   rcases hi9 with rfl |rfl
   ·
    obtain⟨v4,hrun4,hv4,_⟩:=H3.find (P:=Tryd.prog) Tryd.underlying76 Tryd.underlying3 hz41 q
    refine wpOp_val (v:=v4) (w':=w3) rfl rfl (by simp[execOp,e52,e55,hrun4]) ⟨SeeS.of k1 R3,?_⟩
    obtain⟨ra4,rb4⟩:=row_of H3 hv4
    have e5:(z3.put (some 56) v4).eval (.tmp 5)=_:=(eval_put_ne (by simp)).trans e5
    have e50:(z3.put (some 56) v4).eval (.tmp 50)=_:=(eval_put_ne (by simp)).trans e50
    have e52:(z3.put (some 56) v4).eval (.tmp 52)=_:=(eval_put_ne (by simp)).trans e52
    have e51:(z3.put (some 56) v4).eval (.tmp 51)=_:=(eval_put_ne (by simp)).trans e51
    have e55:(z3.put (some 56) v4).eval (.tmp 55)=_:=(eval_put_ne (by simp)).trans e55
    have e56:(z3.put (some 56) v4).eval (.tmp 56)=v4:=eval_put_eq (by rw[R3.nt];simp[St.put])
    have R4:=R3.put (d:=56) (x:=.undef) (v:=v4) .undef (by simp[St.put])
    change wpAnyH Tryd.prog .any _ _ _ _ _ (z3.put (some 56) v4) _
    generalize z3.put (some 56) v4=z4 at *
    refine(?_:wpAnyH Tryd.prog .any _ _ _ (3+1) _ z4 w3)
    refine wpAnyH_all (rs:=[7,9]) (by decide +kernel) (by simp) fun i9 hi9=>?_
    simp only[List.mem_cons,List.not_mem_nil,or_false] at hi9
    rcases hi9 with rfl |rfl
    ·
     refine clone_op R4 k1 hKi k2 k3 H3 ra4 rb4 rfl rfl rfl rfl rfl rfl e56 (by rw[hcl];exact p7) (by simp[St.put]) (st':=({ nt:=67,env:=[(2,.cptr (api_Rights_row a0) 0),(6,.cut 17 1 pre.length (q::rest).length),(27,.d (.slice (rowsF api_Link_row ls))),(28,.d (.int .i64 (ls.length:Int))),(29,.d (.int .i64 i)),(9,.d (.int .i64 to_.1)),(58,.agg (api_Link_av l))],box:=[],vec:=[(17,⟨3,1,rowsF (iRow .i64) (pre++(q::rest))⟩)]}:St)) (by simp[wkI,St.put]) fun u5 w5 K5 pp5 t1 t2 t3 R5 H5 ow5 oh5 oa5 hS5=>⟨hS5 _ (SeeS.of t1 R5),?_⟩
     have e5:(z4.put (some 57) u5).eval (.tmp 5)=_:=(eval_put_ne (by simp)).trans e5
     have e50:(z4.put (some 57) u5).eval (.tmp 50)=_:=(eval_put_ne (by simp)).trans e50
     have e52:(z4.put (some 57) u5).eval (.tmp 52)=_:=(eval_put_ne (by simp)).trans e52
     have e51:(z4.put (some 57) u5).eval (.tmp 51)=_:=(eval_put_ne (by simp)).trans e51
     have e55:(z4.put (some 57) u5).eval (.tmp 55)=_:=(eval_put_ne (by simp)).trans e55
     have e56:(z4.put (some 57) u5).eval (.tmp 56)=_:=(eval_put_ne (by simp)).trans e56
     have e57:(z4.put (some 57) u5).eval (.tmp 57)=u5:=eval_put_eq (by rw[R4.nt];simp[St.put])
     generalize z4.put (some 57) u5=z5 at *
     refine(?_:wpAnyH Tryd.prog .any _ _ _ (2+1) _ z5 w5)
     refine wpAnyH_all (rs:=[9]) (by decide +kernel) (by simp) fun i9 hi9=>?_
     rw[List.mem_singleton.1 hi9]
     refine wpOp_step R5 rfl rfl rfl (by simp[St.put];rfl) fun u6 w6 pp6 R6=>⟨hS5 _ (SeeS.of t1 R6),?_⟩
     have e5:(z5.put (some 59) u6).eval (.tmp 5)=_:=(eval_put_ne (by simp)).trans e5
     have e50:(z5.put (some 59) u6).eval (.tmp 50)=_:=(eval_put_ne (by simp)).trans e50
     have e51:(z5.put (some 59) u6).eval (.tmp 51)=_:=(eval_put_ne (by simp)).trans e51
     have e57:(z5.put (some 59) u6).eval (.tmp 57)=_:=(eval_put_ne (by simp)).trans e57
     have H6:=H5.keep t1 R5 R6
     have ow6:=own_keep t1 R5 R6 ow5 oh5
     generalize z5.put (some 59) u6=z6 at *
     rw[← hcl]
     exact anyH_monoS hS5 2 _ _ _ (new_tail (l0:=(mget inE m q).getD []) t1 hKi t2 t3 R6 H6 Tryd.underlying76 Tryd.underlying3 hz41 Tryd.underlying41 (zs:=[.d (.int .i64 0),.d (.int .i64 0),.d (.int .i64 0),.d (.int .i64 0)]) (by kernel_rfl) rfl (by decide) (by kernel_rfl) hflL (fun _=>rfl) to_.1 hk0 ow6 oh5 oa5 (i1:=10) (i2:=11) rfl rfl rfl rfl rfl rfl rfl rfl (by decide +kernel) (by decide +kernel) (by decide +kernel) e50 e51 e57 e5 (by decide) (by decide) (by decide) (by simp[St.put]) (by simp[St.put]) (by rw[hcl];simpa using p8) (by simp[wkI,St.put]))
    ·
     refine wpOp_step R4 rfl rfl rfl (by simp[St.put];rfl) fun u7 w7 pp7 R7=>⟨SeeS.of k1 R7,?_⟩
     have e5:(z4.put (some 59) u7).eval (.tmp 5)=_:=(eval_put_ne (by simp)).trans e5
     have e50:(z4.put (some 59) u7).eval (.tmp 50)=_:=(eval_put_ne (by simp)).trans e50
     have e52:(z4.put (some 59) u7).eval (.tmp 52)=_:=(eval_put_ne (by simp)).trans e52
     have e51:(z4.put (some 59) u7).eval (.tmp 51)=_:=(eval_put_ne (by simp)).trans e51
     have e55:(z4.put (some 59) u7).eval (.tmp 55)=_:=(eval_put_ne (by simp)).trans e55
     have e56:(z4.put (some 59) u7).eval (.tmp 56)=_:=(eval_put_ne (by simp)).trans e56
     have H7:=H3.keep k1 R4 R7
     have rv7:=own_keep k1 R4 R7 ra4 rb4
     generalize z4.put (some 59) u7=z7 at *
     refine(?_:wpAnyH Tryd.prog .any _ _ _ (2+1) _ z7 w7)
     refine wpAnyH_all (rs:=[7]) (by decide +kernel) (by simp) fun i9 hi9=>?_
     rw[List.mem_singleton.1 hi9]
     refine clone_op R7 k1 hKi k2 k3 H7 rv7 rb4 rfl rfl rfl rfl rfl rfl e56 (by rw[hcl];exact p7) (by simp[St.put]) (st':=({ nt:=67,env:=[(2,.cptr (api_Rights_row a0) 0),(6,.cut 17 1 pre.length (q::rest).length),(27,.d (.slice (rowsF api_Link_row ls))),(28,.d (.int .i64 (ls.length:Int))),(29,.d (.int .i64 i)),(9,.d (.int .i64 to_.1)),(59,.vec 59)],box:=[],vec:=[(17,⟨3,1,rowsF (iRow .i64) (pre++(q::rest))⟩),(59,⟨79,4,[api_Link_row l]⟩)]}:St)) (by simp[wkI,St.put]) fun u8 w8 K8 pp8 t1 t2 t3 R8 H8 ow8 oh8 oa8 hS8=>⟨hS8 _ (SeeS.of t1 R8),?_⟩
     have e5:(z7.put (some 57) u8).eval (.tmp 5)=_:=(eval_put_ne (by simp)).trans e5
     have e50:(z7.put (some 57) u8).eval (.tmp 50)=_:=(eval_put_ne (by simp)).trans e50
     have e52:(z7.put (some 57) u8).eval (.tmp 52)=_:=(eval_put_ne (by simp)).trans e52
     have e51:(z7.put (some 57) u8).eval (.tmp 51)=_:=(eval_put_ne (by simp)).trans e51
     have e55:(z7.put (some 57) u8).eval (.tmp 55)=_:=(eval_put_ne (by simp)).trans e55
     have e56:(z7.put (some 57) u8).eval (.tmp 56)=_:=(eval_put_ne (by simp)).trans e56
     have e57:(z7.put (some 57) u8).eval (.tmp 57)=u8:=eval_put_eq (by rw[R7.nt];simp[St.put])
     generalize z7.put (some 57) u8=z8 at *
     rw[← hcl]
     exact anyH_monoS hS8 2 _ _ _ (new_tail (l0:=(mget inE m q).getD []) t1 hKi t2 t3 R8 H8 Tryd.underlying76 Tryd.underlying3 hz41 Tryd.underlying41 (zs:=[.d (.int .i64 0),.d (.int .i64 0),.d (.int .i64 0),.d (.int .i64 0)]) (by kernel_rfl) rfl (by decide) (by kernel_rfl) hflL (fun _=>rfl) to_.1 hk0 ow8 oh8 oa8 (i1:=10) (i2:=11) rfl rfl rfl rfl rfl rfl rfl rfl (by decide +kernel) (by decide +kernel) (by decide +kernel) e50 e51 e57 e5 (by decide) (by decide) (by decide) (by simp[St.put]) (by simp[St.put]) (by rw[hcl];simpa using p8) (by simp[wkI,St.put]))
   ·
    refine wpOp_step R3 rfl rfl rfl (by simp[St.put];rfl) fun u9 w9 pp9 R9=>⟨SeeS.of k1 R9,?_⟩
    have e5:(z3.put (some 59) u9).eval (.tmp 5)=_:=(eval_put_ne (by simp)).trans e5
    have e50:(z3.put (some 59) u9).eval (.tmp 50)=_:=(eval_put_ne (by simp)).trans e50
    have e52:(z3.put (some 59) u9).eval (.tmp 52)=_:=(eval_put_ne (by simp)).trans e52
    have e51:(z3.put (some 59) u9).eval (.tmp 51)=_:=(eval_put_ne (by simp)).trans e51
    have e55:(z3.put (some 59) u9).eval (.tmp 55)=_:=(eval_put_ne (by simp)).trans e55
    have H9:=H3.keep k1 R3 R9
    generalize z3.put (some 59) u9=z9 at *
    refine(?_:wpAnyH Tryd.prog .any _ _ _ (3+1) _ z9 w9)
    refine wpAnyH_all (rs:=[6]) (by decide +kernel) (by simp) fun i9 hi9=>?_
    rw[List.mem_singleton.1 hi9]
    obtain⟨v10,hrun10,hv10,_⟩:=H9.find (P:=Tryd.prog) Tryd.underlying76 Tryd.underlying3 hz41 q
    refine wpOp_val (v:=v10) (w':=w9) rfl rfl (by simp[execOp,e52,e55,hrun10]) ⟨SeeS.of k1 R9,?_⟩
    obtain⟨ra10,rb10⟩:=row_of H9 hv10
    have e5:(z9.put (some 56) v10).eval (.tmp 5)=_:=(eval_put_ne (by simp)).trans e5
    have e50:(z9.put (some 56) v10).eval (.tmp 50)=_:=(eval_put_ne (by simp)).trans e50
    have e52:(z9.put (some 56) v10).eval (.tmp 52)=_:=(eval_put_ne (by simp)).trans e52
    have e51:(z9.put (some 56) v10).eval (.tmp 51)=_:=(eval_put_ne (by simp)).trans e51
    have e55:(z9.put (some 56) v10).eval (.tmp 55)=_:=(eval_put_ne (by simp)).trans e55
    have e56:(z9.put (some 56) v10).eval (.tmp 56)=v10:=eval_put_eq (by rw[R9.nt];simp[St.put])
    have R10:=R9.put (d:=56) (x:=.undef) (v:=v10) .undef (by simp[St.put])
    change wpAnyH Tryd.prog .any _ _ _ _ _ (z9.put (some 56) v10) _
    generalize z9.put (some 56) v10=z10 at *
    refine(?_:wpAnyH Tryd.prog .any _ _ _ (2+1) _ z10 w9)
    refine wpAnyH_all (rs:=[7]) (by decide +kernel) (by simp) fun i9 hi9=>?_
    rw[List.mem_singleton.1 hi9]
    refine clone_op R10 k1 hKi k2 k3 H9 ra10 rb10 rfl rfl rfl rfl rfl rfl e56 (by rw[hcl];exact p7) (by simp[St.put]) (st':=({ nt:=67,env:=[(2,.cptr (api_Rights_row a0) 0),(6,.cut 17 1 pre.length (q::rest).length),(27,.d (.slice (rowsF api_Link_row ls))),(28,.d (.int .i64 (ls.length:Int))),(29,.d (.int .i64 i)),(9,.d (.int .i64 to_.1)),(59,.vec 59)],box:=[],vec:=[(17,⟨3,1,rowsF (iRow .i64) (pre++(q::rest))⟩),(59,⟨79,4,[api_Link_row l]⟩)]}:St)) (by simp[wkI,St.put]) fun u11 w11 K11 pp11 t1 t2 t3 R11 H11 ow11 oh11 oa11 hS11=>⟨hS11 _ (SeeS.of t1 R11),?_⟩
    have e5:(z10.put (some 57) u11).eval (.tmp 5)=_:=(eval_put_ne (by simp)).trans e5
    have e50:(z10.put (some 57) u11).eval (.tmp 50)=_:=(eval_put_ne (by simp)).trans e50
    have e52:(z10.put (some 57) u11).eval (.tmp 52)=_:=(eval_put_ne (by simp)).trans e52
    have e51:(z10.put (some 57) u11).eval (.tmp 51)=_:=(eval_put_ne (by simp)).trans e51
    have e55:(z10.put (some 57) u11).eval (.tmp 55)=_:=(eval_put_ne (by simp)).trans e55
    have e56:(z10.put (some 57) u11).eval (.tmp 56)=_:=(eval_put_ne (by simp)).trans e56
    have e57:(z10.put (some 57) u11).eval (.tmp 57)=u11:=eval_put_eq (by rw[R10.nt];simp[St.put])
    generalize z10.put (some 57) u11=z11 at *
    rw[← hcl]
    exact anyH_monoS hS11 2 _ _ _ (new_tail (l0:=(mget inE m q).getD []) t1 hKi t2 t3 R11 H11 Tryd.underlying76 Tryd.underlying3 hz41 Tryd.underlying41 (zs:=[.d (.int .i64 0),.d (.int .i64 0),.d (.int .i64 0),.d (.int .i64 0)]) (by kernel_rfl) rfl (by decide) (by kernel_rfl) hflL (fun _=>rfl) to_.1 hk0 ow11 oh11 oa11 (i1:=10) (i2:=11) rfl rfl rfl rfl rfl rfl rfl rfl (by decide +kernel) (by decide +kernel) (by decide +kernel) e50 e51 e57 e5 (by decide) (by decide) (by decide) (by simp[St.put]) (by simp[St.put]) (by rw[hcl];simpa using p8) (by simp[wkI,St.put]))
  ·
   refine wpOp_step R4 rfl rfl rfl (by simp[St.put];rfl) fun u12 w12 pp12 R12=>⟨SeeS.of k1 R12,?_⟩
   have e5:(y3.put (some 59) u12).eval (.tmp 5)=_:=(eval_put_ne (by simp)).trans e5
   have e50:(y3.put (some 59) u12).eval (.tmp 50)=_:=(eval_put_ne (by simp)).trans e50
   have e52:(y3.put (some 59) u12).eval (.tmp 52)=_:=(eval_put_ne (by simp)).trans e52
   have e51:(y3.put (some 59) u12).eval (.tmp 51)=_:=(eval_put_ne (by simp)).trans e51
   have H12:=H6.keep k1 R4 R12
   generalize y3.put (some 59) u12=z12 at *
   refine(?_:wpAnyH Tryd.prog .any _ _ _ (4+1) _ z12 w12)
   refine wpAnyH_all (rs:=[5]) (by decide +kernel) (by simp) fun i9 hi9=>?_
   rw[List.mem_singleton.1 hi9]
   refine wpOp_step R12 rfl rfl rfl (by simp[St.put,hq2];rfl) fun u13 w13 pp13 R13=>⟨SeeS.of k1 R13,?_⟩
   have e5:(z12.put (some 55) u13).eval (.tmp 5)=_:=(eval_put_ne (by simp)).trans e5
   have e50:(z12.put (some 55) u13).eval (.tmp 50)=_:=(eval_put_ne (by simp)).trans e50
   have e52:(z12.put (some 55) u13).eval (.tmp 52)=_:=(eval_put_ne (by simp)).trans e52
   have e51:(z12.put (some 55) u13).eval (.tmp 51)=_:=(eval_put_ne (by simp)).trans e51
   have e55:(z12.put (some 55) u13).eval (.tmp 55)=.int .i64 q:=wp_int R13 (by simp[St.look,get,St.put])
   have H13:=H12.keep k1 R12 R13
   generalize z12.put (some 55) u13=z13 at *
   refine(?_:wpAnyH Tryd.prog .any _ _ _ (3+1) _ z13 w13)
   refine wpAnyH_all (rs:=[6]) (by decide +kernel) (by simp) fun i9 hi9=>?_
   rw[List.mem_singleton.1 hi9]
   obtain⟨v14,hrun14,hv14,_⟩:=H13.find (P:=Tryd.prog) Tryd.underlying76 Tryd.underlying3 hz41 q
   refine wpOp_val (v:=v14) (w':=w13) rfl rfl (by simp[execOp,e52,e55,hrun14]) ⟨SeeS.of k1 R13,?_⟩
   obtain⟨ra14,rb14⟩:=row_of H13 hv14
   have e5:(z13.put (some 56) v14).eval (.tmp 5)=_:=(eval_put_ne (by simp)).trans e5
   have e50:(z13.put (some 56) v14).eval (.tmp 50)=_:=(eval_put_ne (by simp)).trans e50
   have e52:(z13.put (some 56) v14).eval (.tmp 52)=_:=(eval_put_ne (by simp)).trans e52
   have e51:(z13.put (some 56) v14).eval (.tmp 51)=_:=(eval_put_ne (by simp)).trans e51
   have e55:(z13.put (some 56) v14).eval (.tmp 55)=_:=(eval_put_ne (by simp)).trans e55
   have e56:(z13.put (some 56) v14).eval (.tmp 56)=v14:=eval_put_eq (by rw[R13.nt];simp[St.put])
   have R14:=R13.put (d:=56) (x:=.undef) (v:=v14) .undef (by simp[St.put])
   change wpAnyH Tryd.prog .any _ _ _ _ _ (z13.put (some 56) v14) _
   generalize z13.put (some 56) v14=z14 at *
   refine(?_:wpAnyH Tryd.prog .any _ _ _ (2+1) _ z14 w13)
   refine wpAnyH_all (rs:=[7]) (by decide +kernel) (by simp) fun i9 hi9=>?_
   rw[List.mem_singleton.1 hi9]
   refine clone_op R14 k1 hKi k2 k3 H13 ra14 rb14 rfl rfl rfl rfl rfl rfl e56 (by rw[hcl];exact p7) (by simp[St.put]) (st':=({ nt:=67,env:=[(2,.cptr (api_Rights_row a0) 0),(6,.cut 17 1 pre.length (q::rest).length),(27,.d (.slice (rowsF api_Link_row ls))),(28,.d (.int .i64 (ls.length:Int))),(29,.d (.int .i64 i)),(9,.d (.int .i64 to_.1)),(59,.vec 59)],box:=[],vec:=[(17,⟨3,1,rowsF (iRow .i64) (pre++(q::rest))⟩),(59,⟨79,4,[api_Link_row l]⟩)]}:St)) (by simp[wkI,St.put]) fun u15 w15 K15 pp15 t1 t2 t3 R15 H15 ow15 oh15 oa15 hS15=>⟨hS15 _ (SeeS.of t1 R15),?_⟩
   have e5:(z14.put (some 57) u15).eval (.tmp 5)=_:=(eval_put_ne (by simp)).trans e5
   have e50:(z14.put (some 57) u15).eval (.tmp 50)=_:=(eval_put_ne (by simp)).trans e50
   have e52:(z14.put (some 57) u15).eval (.tmp 52)=_:=(eval_put_ne (by simp)).trans e52
   have e51:(z14.put (some 57) u15).eval (.tmp 51)=_:=(eval_put_ne (by simp)).trans e51
   have e55:(z14.put (some 57) u15).eval (.tmp 55)=_:=(eval_put_ne (by simp)).trans e55
   have e56:(z14.put (some 57) u15).eval (.tmp 56)=_:=(eval_put_ne (by simp)).trans e56
   have e57:(z14.put (some 57) u15).eval (.tmp 57)=u15:=eval_put_eq (by rw[R14.nt];simp[St.put])
   generalize z14.put (some 57) u15=z15 at *
   rw[← hcl]
   exact anyH_monoS hS15 2 _ _ _ (new_tail (l0:=(mget inE m q).getD []) t1 hKi t2 t3 R15 H15 Tryd.underlying76 Tryd.underlying3 hz41 Tryd.underlying41 (zs:=[.d (.int .i64 0),.d (.int .i64 0),.d (.int .i64 0),.d (.int .i64 0)]) (by kernel_rfl) rfl (by decide) (by kernel_rfl) hflL (fun _=>rfl) to_.1 hk0 ow15 oh15 oa15 (i1:=10) (i2:=11) rfl rfl rfl rfl rfl rfl rfl rfl (by decide +kernel) (by decide +kernel) (by decide +kernel) e50 e51 e57 e5 (by decide) (by decide) (by decide) (by simp[St.put]) (by simp[St.put]) (by rw[hcl];simpa using p8) (by simp[wkI,St.put]))
end Go.Vl
namespace Go.Vl
open Go Go.Proofs
theorem globK0:globOf Tryd.prog 0=[1,100,1000,10000]:=by kernel_rfl
noncomputable def severity_Level_l0 (a0:Int) (s:Int×Int):Option (Lp (Int×Int) Int):=
 if(decide (s.1 < 4))=true then
  (idx ([1,100,1000,10000]:List Int) s.1).bind fun x=>
  if(decide (x≤a0))=true then some (.go (IntKind.i64.wrap (s.1+1),IntKind.i64.wrap (s.2+1)))
  else some (.go (IntKind.i64.wrap (s.1+1),s.2))
 else some (.out s.2)
noncomputable def severity_Level (a0:Int):Option Int:=iter (severity_Level_l0 a0) (0,0)
theorem severity_Level_ok {a0 r:Int} (h0:severity_Level a0=some r):FnOK Tryd.prog 20 [] [.d (.int .i64 a0)] (.d (.int .i64 r)) []:=by
 unfold severity_Level at h0
 refine fn_ok (nt:=17) (rs:=[.tmp 2]) Tryd.func20 rfl Tryd.ntmps20 rfl (by simp) (by decide) rfl fun K=>?_
 refine kr [0] (by simp;rfl) ?_
 refine kr [0,3] (by simp;rfl) ?_
 refine trq ?_
 refine kc ?_
 refine tops_globL (g:=0) (d:=6) (t:=89) (x:=.agg [.d (.int .i64 1),.d (.int .i64 100),.d (.int .i64 1000),.d (.int .i64 10000)]) (by simp) rfl rfl (by simp) (by rw[globK0];decide) (by kernel_rfl) (by rw[globK0];simp[loadA,partA]) ?_
 refine ko [0,3,6,7] 1 (by simp;rfl) ?_
 refine tpN ?_
 refine tjv (fun v:Int=>({ nt:=17,env:=[(3,.d (.int .i64 v))],box:=[],vec:=[]}:St)) (fun v=>v=r) (fun v hv _ W1=>?_) ?_
 ·subst hv
  refine tr_wk W1 ?_
  refine kr [2] (by simp;rfl) ?_
  exact trr ⟨[],by simp,rfl,by simp⟩
 refine trb (tr_iter (fun s:Int×Int=>({ nt:=17,env:=[(0,.d (.int .i64 a0)),(3,.d (.int .i64 s.2)),(6,.agg [.d (.int .i64 1),.d (.int .i64 100),.d (.int .i64 1000),.d (.int .i64 10000)]),(7,.d (.int .i64 s.1))],box:=[],vec:=[]}:St)) h0 (wk (by simp[wkI])) fun G1 s o h1 hg1 he1=>?_)
 obtain⟨i,out⟩:=s
 unfold severity_Level_l0 at h1
 dsimp only at h1 ⊢
 refine kr [0,3,6,7,8] (by simp;rfl) ?_
 refine trq ?_
 refine trc (b:=decide (i < 4)) (by simp) (fun c5=>?_) (fun c5=>?_)
 ·rw[if_pos c5] at h1
  refine trk ?_
  refine trq ?_
  refine trb ?_
  obtain⟨x,p5,h1⟩:=bnd h1
  replace p5:=idx_some p5
  obtain⟨p5a,p5b⟩:=p5
  have c6:i < 4:=of_decide_eq_true c5
  obtain rfl |rfl |rfl |rfl:i=0∨i=1∨i=2∨i=3:=by omega
  all_goals
   simp at p5b
   refine kr [0,3,5,6,7] (by simp;rfl) ?_
   refine kr [0,3,5,6,7,12] (by simp;rfl) ?_
   refine trc (b:=decide (x≤a0)) (by simp[← p5b]) (fun c7=>?_) (fun c7=>?_)
   ·rw[if_pos c7] at h1
    refine kc1 ?_
    refine ko [0,3,6,7] 3 (by simp;rfl) ?_
    refine tpN ?_
    refine lr (by simp;rfl) ?_
    exact⟨_,hg1 _ (Option.some.inj h1),wk (by simp[wkI])⟩
   ·rw[if_neg (by rw[c7];decide)] at h1
    refine trk ?_
    refine lr (by simp;rfl) ?_
    exact⟨_,hg1 _ (Option.some.inj h1),wk (by simp[wkI])⟩
 ·rw[if_neg (by rw[c5];decide)] at h1
  refine tr_exit ?_
  exact⟨_,he1 _ (Option.some.inj h1),wk (by simp[wkI])⟩
end Go.Vl
namespace Go.Vl
open Go Go.Proofs Go.RowKit
section
variable {K K0:Ctx Tryd.prog} {st:St} {a:Act} {w:World} {p:Pl} {b:Nat} {L:List (Int×List api_Link)} {es:Array MapEntry} {clock:Nat}
theorem HI.wpl2 {t t':Nat} {v':Value} (h:HI K0 .i64 api_Link_row 79 4 t b L st a w) (hv':a.eval (.tmp t')=v') {ops:Array Oper} {l:List Oper} {st1:St} {F:Exit→Act→World→Prop} (hT:∀K:Ctx Tryd.prog,TOps Tryd.prog K ops l st (endQ st1)) (hd:∀o∈l,o.dst≠some t) (hd':∀o∈l,o.dst≠some t') (H:∀a w,HI K0 .i64 api_Link_row 79 4 t b L st1 a w→a.eval (.tmp t')=v'→F .normal a w):wpList Tryd.prog ops F l a w:=by
 obtain⟨K,p,es,clock,h1,h2,h3,R,h5,h6⟩:=h
 exact wpl_reg2 (hT K) hd hd' R h6 hv' fun a' w' p' R' hv hv'=>H a' w' ⟨K,p',es,clock,h1,h2,h3,R',h5.keep h1 R R',hv⟩ hv'
theorem chains_op (R:Rel K st a w p) (hK:K.ios=[]) {a0:api_Rights} {a1:Int} {r:List (Int×List api_Link)} (h0:rights_chains a0 a1=some r) {ops:Array Oper} {rest:List Oper} {F:Exit→Act→World→Prop} {x y d:Nat} {o:Oper} {c:Call} (hop:o.op=.call c) (hc:c.callee=.value (.func 23)) (hca:c.args= #[.tmp x,.tmp y]) (hg:o.guard=none) (hd:o.dst=some d)
  (hx:st.look x=.agg (api_Rights_av a0)) (hy:st.look y=.d (.int .i64 a1)) (hdn:d < st.nt) {st':St} (W:Weak (st.put d .undef) st') (Hc:∀b a' w1,HI K .i64 api_Link_row 79 4 d b r st' a' w1→wpList Tryd.prog ops F rest a' w1):wpList Tryd.prog ops F (o::rest) a w:=by
 unfold wpList
 rw[show Region.wanted o (yielded ops a.tmps)=true by simp[Region.wanted,hg],if_pos rfl]
 refine .inl ?_
 unfold Oper.wp
 rw[enter_run (f:=23) (cs:=#[]) hop hc rfl Tryd.call23]
 have hpre:FnPre w (okc K w p) [] [] [] []:={
  len:=rfl
  nodup:=List.nodup_nil
  okb:=fun b hb=>⟨hb.1,by simp,by simp⟩
  at_:=fun i b cs hb=>by simp at hb
  lenv:=rfl
  vat:=fun i b cs hb=>by simp at hb
  vdis:=fun i j v u hb=>by simp at hb
  vio:=fun v hv=>by simp at hv }
 have hview:∀{x:AV} {v:Value},RA w (okc K w p) p x v→RA w (okc K w p) (ioPl [] []) (x.view [] [] []) v:=fun h=>h.view (τ:=[]) (σ:=[]) (fun _ h=>h) (fun n s hs=>by simp[get] at hs)
 have ex:=R.opd (.tmp x)
 have ey:=R.opd (.tmp y)
 rw[show opd st (.tmp x)=.agg (api_Rights_av a0) from hx] at ex
 rw[show opd st (.tmp y)=.d (.int .i64 a1) from hy] at ey
 refine(chains_hid h0 hpre (by rw[hca];simp) (fun i z u hz hu=>?_) R.glob).mono fun e w1 ⟨b,es,clock,he,hM,hf⟩=>?_
 ·rw[hca] at hu
  match i with
  |0=>simp at hz hu;subst hz;subst hu;simpa[AV.view,AV.viewL] using hview ex
  |1=>simp at hz hu;subst hz;subst hu;simpa[AV.view,AV.viewL] using hview ey
  |i+2=>simp at hz
 ·subst he
  show wpList Tryd.prog ops F rest (a.put o.dst (.map (some b))) w1
  rw[hd]
  have R1:=R.put (d:=d) (x:=.undef) (v:=.map (some b)) .undef hdn
  obtain⟨K1,p1,t1,t2,t3,t4,t5,t6,t7,t8,t9⟩:=hw_turn (K0:=K) R R1 hK W (w2:=w1) hf.size ⟨hf.os,hf.tape,hf.output⟩ (fun g hg _=>hf.block g hg (by simp) (by simp)) hK (Back.refl K) (fun _ h=>h)
  exact Hc b _ w1 ⟨K1,p1,es,clock,t1,t4,t5,t3,hM.mono (fun g hg=>t7 g hg.1 hg.2) (fun _ _=>rfl),eval_put_eq (by rw[R.nt];exact hdn)⟩
def HIR (K0:Ctx Tryd.prog) (t b:Nat) (L:List (Int×List api_Link)) (t':Nat) (v:Value) (l0:List api_Link) (st:St) (a:Act) (w:World):Prop:=
 ∃(K:Ctx Tryd.prog) (p:Pl) (es:Array MapEntry) (clock:Nat),K.ios=[]∧Back K0 K∧(∀k,K.w0.heap.size≤k∨k∈K.ivs→K0.w0.heap.size≤k∨k∈K0.ivs)∧Rel K st a w p∧HMap w (HidM K0 K) .i64 api_Link_row 79 4 b L es clock∧a.eval (.tmp t)=.map (some b)∧
  (∃xv,w.ownsRow 0 79 4 v l0.length xv∧∀(i:Nat) (d:D) (v:Value),(rowsF api_Link_row l0).flatten[i]? =some d→xv[i]? =some v→RD w (fun _=>False) d v)∧(∀g,v.blk=some g→HidM K0 K g)∧a.eval (.tmp t')=v
theorem HIR.hi {t t':Nat} {v:Value} {l0:List api_Link} (h:HIR K0 t b L t' v l0 st a w):HI K0 .i64 api_Link_row 79 4 t b L st a w:=by
 obtain⟨K,p,es,clock,h1,h2,h3,R,h5,h6,_⟩:=h
 exact⟨K,p,es,clock,h1,h2,h3,R,h5,h6⟩
theorem HIR.to {t t' t2:Nat} {v:Value} {l0:List api_Link} (h:HIR K0 t b L t' v l0 st a w) (e:a.eval (.tmp t2)=v):HIR K0 t b L t2 v l0 st a w:=by
 obtain⟨K,p,es,clock,h1,h2,h3,R,h5,h6,h7,h8,h9⟩:=h
 exact⟨K,p,es,clock,h1,h2,h3,R,h5,h6,h7,h8,e⟩
theorem HIR.put {t t':Nat} {v:Value} {l0:List api_Link} (h:HIR K0 t b L t' v l0 st a w) {d:Nat} {x:AV} {u:Value} (hx:∀(K:Ctx Tryd.prog) (p:Pl),RA w (okc K w p) p x u) (hd:d < st.nt) (hdt:d≠t) (hdt':d≠t'):HIR K0 t b L t' v l0 (st.put d x) (a.put (some d) u) w:=by
 obtain⟨K,p,es,clock,h1,h2,h3,R,h5,h6,h7,h8,h9⟩:=h
 exact⟨K,p,es,clock,h1,h2,h3,R.put (hx K p) hd,h5,(eval_put_ne (by simpa using hdt)).trans h6,h7,h8,(eval_put_ne (by simpa using hdt')).trans h9⟩
theorem HIR.weak {t t':Nat} {v:Value} {l0:List api_Link} (h:HIR K0 t b L t' v l0 st a w) {st':St} (W:Weak st st'):HIR K0 t b L t' v l0 st' a w:=by
 obtain⟨K,p,es,clock,h1,h2,h3,R,h5,h6,h7⟩:=h
 obtain⟨p',R',_⟩:=R.weak0 W
 exact⟨K,p',es,clock,h1,h2,h3,R',h5,h6,h7⟩
theorem HIR.wpl {t t':Nat} {v:Value} {l0:List api_Link} (h:HIR K0 t b L t' v l0 st a w) {ops:Array Oper} {l:List Oper} {st1:St} {F:Exit→Act→World→Prop} (hT:∀K:Ctx Tryd.prog,TOps Tryd.prog K ops l st (endQ st1)) (hd:∀o∈l,o.dst≠some t) (hd':∀o∈l,o.dst≠some t') (H:∀a w,HIR K0 t b L t' v l0 st1 a w→F .normal a w):wpList Tryd.prog ops F l a w:=by
 obtain⟨K,p,es,clock,h1,h2,h3,R,h5,h6,h7,h8,h9⟩:=h
 exact wpl_reg2 (hT K) hd hd' R h6 h9 fun a' w' p' R' hv hv'=>H a' w' ⟨K,p',es,clock,h1,h2,h3,R',h5.keep h1 R R',hv,own_keep h1 R R' h7 h8,h8,hv'⟩
theorem HIR.drawn {t t':Nat} {v:Value} {l0:List api_Link} (h:HIR K0 t b L t' v l0 st a w) {id:Nat} {l:List Oper} {S0:St} {F:Exit→Act→World→Prop} (As:List (List Nat)) (C:List Nat) (W:List (Nat×List Nat)) (V:Option (Nat×Nat)) (T:List Nat) (n:Nat) (hm:Tryd.prog.follows .mixedOrders=true) (hB:drawB l.toArray As C W V T n=true) (hV:stV V T W st=true) (hd:∀o∈l,o.dst≠some t) (hd':∀o∈l,o.dst≠some t')
  (D:∀K:Ctx Tryd.prog,DOps Tryd.prog K l st As C W V T n (fun e s=>e=.normal∧Weak s S0) []) (G:∀a w,HIR K0 t b L t' v l0 S0 a w→F .normal a w):(Code.region id l.toArray true).wp Tryd.prog F a w:=by
 obtain⟨K,p,es,clock,h1,h2,h3,R,h5,h6,h7,h8,h9⟩:=h
 have hdo:∀{t:Nat},(∀o∈l,o.dst≠some t)→∀(i:Nat) (o:Oper),l.toArray[i]? =some o→o.dst≠some t:=fun hd i o ho=>hd o (by rw[List.getElem?_toArray] at ho;exact List.mem_of_getElem? ho)
 refine wp_mono (wp_region_any hm (any_frame (hdo hd') _ _ _ _ h9 (any_frame (hdo hd) _ _ _ _ h6 (D K (drOk hB) hV ⟨fun i hi=>by simp at hi,fun i hi=>by simp at hi,fun i hi=>by simp at hi,fun i hi=>by simp at hi,fun i hi=>by simp at hi,fun i hi=>by simp at hi,fun i hi=>by simp at hi⟩ a _ p R.drew)))) fun e a w ⟨⟨⟨s,p',R',he,hq⟩,hv⟩,hv'⟩=>?_
 subst he
 exact G a w (HIR.weak ⟨K,p',es,clock,h1,h2,h3,R',h5.keep h1 R R',hv rfl,own_keep h1 R R' h7 h8,h8,hv' rfl⟩ hq)
theorem HI.look {t:Nat} (h:HI K0 .i64 api_Link_row 79 4 t b L st a w) (q:Int):∃v,(Instr.lookup 76 (.map (some b)) (.int .i64 q) true).run Tryd.prog w=.ok (.tuple #[v,.bool (mget inE L q).isSome]) w∧∀a' t' st',(∀(K:Ctx Tryd.prog) p,Rel K st a w p→∃p',Rel K st' a' w p')→a'.eval (.tmp t)=.map (some b)→a'.eval (.tmp t')=v→HIR K0 t b L t' v ((mget inE L q).getD []) st' a' w:=by
 obtain⟨K,p,es,clock,h1,h2,h3,R,h5,h6⟩:=h
 obtain⟨v,hv,hf⟩:=h5.findB (P:=Tryd.prog) Tryd.underlying76 Tryd.underlying3 hz41 q
 obtain⟨r1,r2⟩:=row_of h5 hf
 refine⟨v,hv,fun a' t' st' hR e1 e2=>?_⟩
 obtain⟨p',R'⟩:=hR K p R
 exact⟨K,p',es,clock,h1,h2,h3,R',h5,e1,r1,r2,e2⟩
theorem HIR.app {t t':Nat} {v:Value} {l0:List api_Link} (h:HIR K0 t b L t' v l0 st a w) (hK0:K0.ios=[]) {x:api_Link} {y:AV} {u:Nat} (hu:st.look u=y) (hy:rowsOf st y=some [api_Link_row x]) (hsz:l0.length+1≤268435456) (ty:TypeId) {st':St} (W:Weak st st'):
  ∃v' w1,(Builtin.append_ #[41,41] ty #[v,a.eval (.tmp u)]).run Tryd.prog w=.ok v' w1∧∃p',Rel K0 st' a w1 p'∧RA w1 (okc K0 w1 p') p' (.d (.slice (rowsF api_Link_row (l0++[x])))) v':=by
 obtain⟨K,p,es,clock,h1,h2,h3,R,h5,h6,⟨xv,o1,o2⟩,h8,h9⟩:=h
 have hl:(rowsF api_Link_row l0).length=l0.length:=by simp[rowsF]
 have hyu:=R.opd (.tmp u)
 rw[show opd st (.tmp u)=y from hu] at hyu
 rw[← hl] at o1
 obtain⟨v',w1,xv',hrun,hown',hg,hblk,hxr'⟩:=app_own (ty:=ty) (P:=Tryd.prog) Tryd.underlying41 (zs:=[.d (.int .i64 0),.d (.int .i64 0),.d (.int .i64 0),.d (.int .i64 0)]) (by kernel_rfl) (by decide) (by kernel_rfl) R o1 hy hyu (by simp) (by simpa[rowsF] using hsz) (fun r hr=>by
  unfold rowsF at hr;obtain⟨y,_,rfl⟩:=List.mem_map.1 hr;rfl) (fun i d v g1 g2=>(o2 i d v g1 g2).mono (fun _ h=>h.elim) (fun _ h=>h.elim))
 have hrows:rowsF api_Link_row l0++[api_Link_row x]=rowsF api_Link_row (l0++[x]):=by simp[rowsF]
 rw[hrows] at hown' hxr'
 have hz:∀r∈rowsF api_Link_row (l0++[x]),r.length=4:=fun r hr=>by unfold rowsF at hr;obtain⟨x,_,rfl⟩:=List.mem_map.1 hr;rfl
 have hflat:∀(i:Nat) (d:D),(rowsF api_Link_row (l0++[x])).flatten[i]? =some d→FlatD d:=fun i d hd=>by
  obtain⟨r,hr,hd⟩:=List.mem_flatten.1 (List.mem_of_getElem? hd)
  unfold rowsF at hr;obtain⟨y,_,rfl⟩:=List.mem_map.1 hr
  simp only[api_Link_row,List.mem_cons,List.not_mem_nil,or_false] at hd
  rcases hd with rfl |rfl |rfl |rfl <;> trivial
 refine⟨v',w1,hrun,?_⟩
 obtain⟨K',p',t1,t2,t3,t4,t5,t6,t7,t8,t9⟩:=hw_turn R R h1 W (w2:=w1) hg.size ⟨hg.os,hg.tape,hg.output⟩ (fun g hgl hh=>hg.block g hgl fun e=>hh (h8 g e.symm)) hK0 h2 h3
 refine⟨p',t4.rel _ _ _ _ t3,.d (own_rd hown' hz (ok:=fun _=>False) (fun i d v g1 g2=>(hflat i d g1).rd (hxr' i d v g1 g2)) (fun _ h=>h.elim) fun g hgv=>?_)⟩
 have hid:HidM K0 K' g:=by
  rcases hblk with e |e
  ·exact t6 g (h8 g (e▸hgv))
  ·have:w.heap.size=g:=by rw[e] at hgv;simpa using hgv
   subst this
   refine t7 _ (Nat.le_refl _) ?_
   obtain⟨cur,hcur⟩:=own_cellsX hown' hgv
   exact(Array.getElem?_eq_some_iff.1 hcur).1
 exact hid.1.show t1 t3 hid.2
end
noncomputable def whyL (m:List (Int×List api_Link)) (r pr:Int):List api_Grant→Nat→Option (List api_Link×Bool)
 |[],_=>some ([],false)
 |g::l,i=>
  if((mget inE m g.Credential).isSome&&(g.Resource==r&&g.Right==pr))=true then
   (ck (((mget inE m g.Credential).getD []).length+1≤268435456)).bind fun _=>some ((mget inE m g.Credential).getD []++[⟨3,(i:Int), -1, -1⟩],true)
  else whyL m r pr l (i+1)
noncomputable def rights_Why (a0:api_Rights) (a1 a2:Int):Option (List api_Link×Bool):=
 (rights_Power a0 a1).bind fun pw=>
 (rights_among a2 0 (IntKind.i64.wrap ((pw.length:Int) - 1))).bind fun y=>
 if(!y)=true then some ([],false) else
 (idx pw a2).bind fun pr=>
 if(pr==0)=true then some ([],false) else
 (rights_chains a0 a1).bind fun m=>
 (ck (a0.Grants.length≤1000000)).bind fun _=>
 whyL m a2 pr a0.Grants 0
theorem rights_Why_ok {a0:api_Rights} {a1 a2:Int} {r:List api_Link×Bool} (h0:rights_Why a0 a1 a2=some r):FnOK Tryd.prog 10 [] [.agg (api_Rights_av a0),.d (.int .i64 a1),.d (.int .i64 a2)] (.tup [.d (.slice (rowsF api_Link_row r.1)),.d (.bool r.2)]) []:=by
 unfold rights_Why at h0
 obtain⟨pw,hpw,h0⟩:=bnd h0
 obtain⟨y,hy,h0⟩:=bnd h0
 refine fn_okK (nt:=70) (rs:=[.tmp 6,.tmp 7]) Tryd.func10 rfl Tryd.ntmps10 rfl (by simp) (by decide) rfl fun K hK=>?_
 refine kr [1,2,3] (by simp;rfl) ?_
 refine tr_frzB 3 (api_Rights_av a0) (api_Rights_row a0) (by simp) (by simp) hK (by decide) (fun i hi=>absurd hi (Nat.not_lt_zero i)) ?_
 refine kc ?_
 refine ko [1,2,3,14,15] 2 (by simp;rfl) ?_
 refine kcall [1,2,3,16] [] (rights_Power_ok hpw) rfl rfl rfl Tryd.call9 (by simp) (by simp;rfl) ?_
 refine ko [1,2,3,8] 1 (by simp;rfl) ?_
 refine tpN ?_
 refine trq ?_
 refine kc ?_
 refine ko [1,2,3,8,17,20] 4 (by simp;rfl) ?_
 refine kcall [1,2,3,8,21] [] (rights_among_ok hy) rfl rfl rfl Tryd.call22 (by simp) (by simp;rfl) ?_
 refine ko [1,2,3,8,23] 2 (by simp;rfl) ?_
 refine tops_split 23 (!y) (by simp) (fun c1=>?_) (fun c1=>?_)
 ·rw[if_pos c1] at h0
  refine ko [1,2,3,8,29] 6 (by simp;rfl) ?_
  refine tpN ?_
  refine trc (b:=true) (by simp) (fun _=>?_) (fun h=>by cases h)
  refine kr [6,7] (by simp;rfl) ?_
  cases h0
  exact trr ⟨[],by simp,rfl,by simp⟩
 rw[if_neg (by rw[c1];decide)] at h0
 obtain⟨pr,p1,h0⟩:=bnd h0
 replace p1:=idx_some p1
 have p1':=p1;try simp at p1'
 refine ko [1,2,3,8,29] 6 (by simp[p1,p1'];rfl) ?_
 refine tpN ?_
 refine trc (b:=(pr==0)) (by simp) (fun c2=>?_) (fun c2=>?_)
 ·rw[if_pos c2] at h0
  refine kr [6,7] (by simp;rfl) ?_
  cases h0
  exact trr ⟨[],by simp,rfl,by simp⟩
 rw[if_neg (by rw[c2];decide)] at h0
 obtain⟨m,hm,h0⟩:=bnd h0
 obtain⟨_,p2,h0⟩:=bnd h0
 replace p2:=ck_some p2
 refine trk ?_
 intro a w p R
 have hKi:K.ios=[]:=List.eq_nil_of_length_eq_zero hK
 refine wp_seq (wp_region_lit (wpl_take (G:=fun a w=>∃p,Rel K ({ nt:=70,env:=[(2,.d (.int .i64 a2)),(3,.cptr (api_Rights_row a0) 0),(8,.d (.slice (rowsF (iRow .i64) pw))),(30,.agg (api_Rights_av a0)),(31,.d (.int .i64 a1))],box:=[],vec:=[]}:St) a w p) 2 (wpl_reg (t:=0) (ko [2,3,8,30,31] 2 (by simp) tops_end) (by simp) R rfl fun a w p R _=>⟨rfl,p,R⟩) fun a w ⟨p,R⟩=>?_))
 show wpList Tryd.prog _ _ [_,_] a w
 refine chains_op R hKi hm rfl rfl rfl rfl rfl (by simp[St.look,get]) (by simp[St.look,get]) (by simp) (st':=({ nt:=70,env:=[(2,.d (.int .i64 a2)),(3,.cptr (api_Rights_row a0) 0),(8,.d (.slice (rowsF (iRow .i64) pw)))],box:=[],vec:=[]}:St)) (by simp[wkI,St.put]) fun b a w H=>?_
 have e32:=H.val
 refine run_val rfl (v:=.map (some b)) (w':=w) (by simp[execOp,e32]) ?_
 have e9:(a.put (some 9) (.map (some b))).eval (.tmp 9)=.map (some b):=eval_put_eq (by rw[H.nt];simp)
 have H:=H.put (d:=9) (x:=.undef) (u:=.map (some b)) (fun _ _=>.undef) (by simp) (by simp)
 have H:=(H.to e9).weak (st':=({ nt:=70,env:=[(2,.d (.int .i64 a2)),(3,.cptr (api_Rights_row a0) 0),(8,.d (.slice (rowsF (iRow .i64) pw)))],box:=[],vec:=[]}:St)) (by simp[wkI,St.put])
 refine wp_seq ?_
 refine H.reg (fun K'=>ko [2,8,34,35,36] 4 (by simp;rfl) tops_end) (by simp) fun a w H=>?_
 refine wp_block (wp_loop_ghost (fun n a w=>∃(i:Nat),HI K .i64 api_Link_row 79 4 9 b m ({ nt:=70,env:=[(2,.d (.int .i64 a2)),(8,.d (.slice (rowsF (iRow .i64) pw))),(34,.d (.slice (rowsF api_Grant_row a0.Grants))),(35,.d (.int .i64 (a0.Grants.length:Int))),(36,.d (.int .i64 (i:Int)))],box:=[],vec:=[]}:St) a w∧whyL m a2 pr (a0.Grants.drop i) i=some r∧i≤a0.Grants.length∧n=a0.Grants.length - i) a0.Grants.length ⟨0,H,by simpa using h0,Nat.zero_le _,rfl⟩ fun n a w ⟨i,H,hw,hi,hn⟩=>?_)
 refine H.reg (fun K'=>ko [2,8,34,35,36,37] 1 (by simp;rfl) tops_end) (by simp) fun a w H=>?_
 have h37:=H.bool (s:=37) (c:=decide ((i:Int) < (a0.Grants.length:Int))) (by simp[St.look,get])
 refine wp_seq (wp_cond_split h37 (fun hch=>wp_skip (then_norm ?_)) fun hch=>wp_exit ?_)
 case refine_2=>
  have hie:i=a0.Grants.length:=by have:=of_decide_eq_false hch;omega
  subst hie
  rw[List.drop_eq_nil_of_le (Nat.le_refl _)] at hw
  have hr:r=([],false):=(Option.some.inj hw).symm
  subst hr
  refine then_exit (then_exit (exit_in (then_norm ?_)))
  obtain⟨p',R'⟩:=H.back
  refine wp_tr (Q:=fun e s=>FinQ Tryd.prog [ResultVar.tmp 6,ResultVar.tmp 7] (AV.tup [AV.d (D.slice (rowsF api_Link_row [])),AV.d (D.bool false)]) [] e s) R' (kr [6,7] (by simp;rfl) (trr ⟨[],by simp,rfl,by simp⟩)) fun e s a' w' p' R' hq=>?_
  exact⟨s,p',R',hq⟩
 have hil:i < a0.Grants.length:=by have:=of_decide_eq_true hch;omega
 obtain⟨g,hgg⟩:∃g,a0.Grants[i]? =some g:=⟨_,List.getElem?_eq_getElem hil⟩
 have hdrop:a0.Grants.drop i=g::a0.Grants.drop (i+1):=by
  rw[List.getElem?_eq_getElem hil] at hgg
  rw[List.drop_eq_getElem_cons hil,Option.some.inj hgg]
 rw[hdrop] at hw
 unfold whyL at hw
 refine wp_seq (wp_block ?_)
 refine H.reg (fun K'=>ko [2,8,10,11,34,35,36] 6 (by simp[hgg];rfl) tops_end) (by simp) fun a w H=>?_
 have H:=H.frzB (n:=11) (cs:=api_Grant_av g) (row:=api_Grant_row g) (by simp[get]) (by simp) (by decide)
 have H:=H.weak (st':=({ nt:=70,env:=[(2,.d (.int .i64 a2)),(8,.d (.slice (rowsF (iRow .i64) pw))),(34,.d (.slice (rowsF api_Grant_row a0.Grants))),(35,.d (.int .i64 (a0.Grants.length:Int))),(36,.d (.int .i64 (i:Int))),(11,.cptr (api_Grant_row g) 0),(10,.d (.int .i64 (i:Int)))],box:=[],vec:=[]}:St)) (by simp[wkI,St.frzB])
 refine wp_seq (wp_region_lit ?_)
 have e9:=H.val
 refine run_val rfl (v:=.map (some b)) (w':=w) (by simp[execOp,e9]) ?_
 have e42:(a.put (some 42) (.map (some b))).eval (.tmp 42)=.map (some b):=eval_put_eq (by rw[H.nt];simp)
 have H:=H.put (d:=42) (x:=.undef) (u:=.map (some b)) (fun _ _=>.undef) (by simp) (by simp)
 generalize a.put (some 42) (.map (some b))=a at *
 refine wpl_take (G:=fun a w=>HI K .i64 api_Link_row 79 4 9 b m ({ nt:=70,env:=[(2,.d (.int .i64 a2)),(8,.d (.slice (rowsF (iRow .i64) pw))),(34,.d (.slice (rowsF api_Grant_row a0.Grants))),(35,.d (.int .i64 (a0.Grants.length:Int))),(36,.d (.int .i64 (i:Int))),(11,.cptr (api_Grant_row g) 0),(10,.d (.int .i64 (i:Int))),(44,.d (.int .i64 g.Credential))],box:=[],vec:=[]}:St) a w∧a.eval (.tmp 42)=.map (some b)) 2 (H.wpl2 e42 (fun K'=>ko [2,8,10,11,34,35,36,44] 2 (by simp[St.put];rfl) tops_end) (by simp) (by simp) fun a w H e=>⟨rfl,H.weak (by simp[wkI]),e⟩) fun a w ⟨H,e42⟩=>?_
 show wpList Tryd.prog _ _ [_,_,_,_,_,_] a w
 have e44:=H.int (s:=44) (k:=.i64) (n:=g.Credential) (by simp[St.look,get])
 obtain⟨v,hrun,hR⟩:=H.look g.Credential
 generalize hfd:(mget inE m g.Credential).isSome=fd at *
 have e9:=H.val
 refine run_val rfl (v:=.tuple #[v,.bool fd]) (w':=w) (by simp[execOp,e42,e44,hrun]) ?_
 have hnt:=H.nt
 have f45:(a.put (some 45) (.tuple #[v,.bool fd])).eval (.tmp 45)=(.tuple #[v,.bool fd]):=eval_put_eq (by rw[hnt];simp)
 have n45:(a.put (some 45) (.tuple #[v,.bool fd])).tmps.size=70:=by simp[Act.put,hnt]
 have f9:(a.put (some 45) (.tuple #[v,.bool fd])).eval (.tmp 9)=_:=(eval_put_ne (by simp)).trans e9
 have hb45:∃z,z=(a.put (some 45) (.tuple #[v,.bool fd])):=⟨_,rfl⟩
 obtain⟨b45,hz45⟩:=hb45
 rw[← hz45] at f45 n45 f9
 change wpList Tryd.prog _ _ _ (a.put (some 45) (.tuple #[v,.bool fd])) w
 rw[← hz45]
 refine run_val rfl (v:=(.tuple #[v,.bool fd])) (w':=w) (by simp[execOp,f45]) ?_
 have f41:(b45.put (some 41) (.tuple #[v,.bool fd])).eval (.tmp 41)=(.tuple #[v,.bool fd]):=eval_put_eq (by rw[n45];simp)
 have n41:(b45.put (some 41) (.tuple #[v,.bool fd])).tmps.size=70:=by simp[Act.put,n45]
 have f9:(b45.put (some 41) (.tuple #[v,.bool fd])).eval (.tmp 9)=_:=(eval_put_ne (by simp)).trans f9
 have f45:(b45.put (some 41) (.tuple #[v,.bool fd])).eval (.tmp 45)=_:=(eval_put_ne (by simp)).trans f45
 have hb41:∃z,z=(b45.put (some 41) (.tuple #[v,.bool fd])):=⟨_,rfl⟩
 obtain⟨b41,hz41⟩:=hb41
 rw[← hz41] at f41 n41 f9 f45
 change wpList Tryd.prog _ _ _ (b45.put (some 41) (.tuple #[v,.bool fd])) w
 rw[← hz41]
 refine run_val rfl (v:=v) (w':=w) (by simp[execOp,f41,Instr.extract]) ?_
 have f46:(b41.put (some 46) v).eval (.tmp 46)=v:=eval_put_eq (by rw[n41];simp)
 have n46:(b41.put (some 46) v).tmps.size=70:=by simp[Act.put,n41]
 have f9:(b41.put (some 46) v).eval (.tmp 9)=_:=(eval_put_ne (by simp)).trans f9
 have f45:(b41.put (some 46) v).eval (.tmp 45)=_:=(eval_put_ne (by simp)).trans f45
 have f41:(b41.put (some 46) v).eval (.tmp 41)=_:=(eval_put_ne (by simp)).trans f41
 have hb46:∃z,z=(b41.put (some 46) v):=⟨_,rfl⟩
 obtain⟨b46,hz46⟩:=hb46
 rw[← hz46] at f46 n46 f9 f45 f41
 change wpList Tryd.prog _ _ _ (b41.put (some 46) v) w
 rw[← hz46]
 refine run_val rfl (v:=(.bool fd)) (w':=w) (by simp[execOp,f41,Instr.extract]) ?_
 have f47:(b46.put (some 47) (.bool fd)).eval (.tmp 47)=(.bool fd):=eval_put_eq (by rw[n46];simp)
 have n47:(b46.put (some 47) (.bool fd)).tmps.size=70:=by simp[Act.put,n46]
 have f9:(b46.put (some 47) (.bool fd)).eval (.tmp 9)=_:=(eval_put_ne (by simp)).trans f9
 have f45:(b46.put (some 47) (.bool fd)).eval (.tmp 45)=_:=(eval_put_ne (by simp)).trans f45
 have f41:(b46.put (some 47) (.bool fd)).eval (.tmp 41)=_:=(eval_put_ne (by simp)).trans f41
 have f46:(b46.put (some 47) (.bool fd)).eval (.tmp 46)=_:=(eval_put_ne (by simp)).trans f46
 have hb47:∃z,z=(b46.put (some 47) (.bool fd)):=⟨_,rfl⟩
 obtain⟨b47,hz47⟩:=hb47
 rw[← hz47] at f47 n47 f9 f45 f41 f46
 change wpList Tryd.prog _ _ _ (b46.put (some 47) (.bool fd)) w
 rw[← hz47]
 refine run_val rfl (v:=v) (w':=w) (by simp[execOp,f46]) ?_
 have f12:(b47.put (some 12) v).eval (.tmp 12)=v:=eval_put_eq (by rw[n47];simp)
 have n12:(b47.put (some 12) v).tmps.size=70:=by simp[Act.put,n47]
 have f9:(b47.put (some 12) v).eval (.tmp 9)=_:=(eval_put_ne (by simp)).trans f9
 have f45:(b47.put (some 12) v).eval (.tmp 45)=_:=(eval_put_ne (by simp)).trans f45
 have f41:(b47.put (some 12) v).eval (.tmp 41)=_:=(eval_put_ne (by simp)).trans f41
 have f46:(b47.put (some 12) v).eval (.tmp 46)=_:=(eval_put_ne (by simp)).trans f46
 have f47:(b47.put (some 12) v).eval (.tmp 47)=_:=(eval_put_ne (by simp)).trans f47
 have hb12:∃z,z=(b47.put (some 12) v):=⟨_,rfl⟩
 obtain⟨b12,hz12⟩:=hb12
 rw[← hz12] at f12 n12 f9 f45 f41 f46 f47
 change wpList Tryd.prog _ _ _ (b47.put (some 12) v) w
 rw[← hz12]
 refine run_val rfl (v:=(.bool fd)) (w':=w) (by simp[execOp,f47]) ?_
 have f13:(b12.put (some 13) (.bool fd)).eval (.tmp 13)=(.bool fd):=eval_put_eq (by rw[n12];simp)
 have n13:(b12.put (some 13) (.bool fd)).tmps.size=70:=by simp[Act.put,n12]
 have f9:(b12.put (some 13) (.bool fd)).eval (.tmp 9)=_:=(eval_put_ne (by simp)).trans f9
 have f45:(b12.put (some 13) (.bool fd)).eval (.tmp 45)=_:=(eval_put_ne (by simp)).trans f45
 have f41:(b12.put (some 13) (.bool fd)).eval (.tmp 41)=_:=(eval_put_ne (by simp)).trans f41
 have f46:(b12.put (some 13) (.bool fd)).eval (.tmp 46)=_:=(eval_put_ne (by simp)).trans f46
 have f47:(b12.put (some 13) (.bool fd)).eval (.tmp 47)=_:=(eval_put_ne (by simp)).trans f47
 have f12:(b12.put (some 13) (.bool fd)).eval (.tmp 12)=_:=(eval_put_ne (by simp)).trans f12
 have hb13:∃z,z=(b12.put (some 13) (.bool fd)):=⟨_,rfl⟩
 obtain⟨b13,hz13⟩:=hb13
 rw[← hz13] at f13 n13 f9 f45 f41 f46 f47 f12
 change wpList Tryd.prog _ _ _ (b12.put (some 13) (.bool fd)) w
 rw[← hz13]
 have HR:HIR K 9 b m 12 v ((mget inE m g.Credential).getD []) ({ nt:=70,env:=[(2,.d (.int .i64 a2)),(8,.d (.slice (rowsF (iRow .i64) pw))),(34,.d (.slice (rowsF api_Grant_row a0.Grants))),(35,.d (.int .i64 (a0.Grants.length:Int))),(36,.d (.int .i64 (i:Int))),(11,.cptr (api_Grant_row g) 0),(10,.d (.int .i64 (i:Int))),(13,.d (.bool fd))],box:=[],vec:=[]}:St) b13 w:=by
  refine hR b13 12 _ (fun K p R=>?_) f9 f12
  subst hz45 hz41 hz46 hz47 hz12 hz13
  obtain⟨p',R',_⟩:=((((((R.put (d:=45) (x:=.undef) (v:=(.tuple #[v,.bool fd])) .undef (by simp[St.put])).put (d:=41) (x:=.undef) (v:=(.tuple #[v,.bool fd])) .undef (by simp[St.put])).put (d:=46) (x:=.undef) (v:=v) .undef (by simp[St.put])).put (d:=47) (x:=.undef) (v:=(.bool fd)) .undef (by simp[St.put])).put (d:=12) (x:=.undef) (v:=v) .undef (by simp[St.put])).put (d:=13) (x:=.d (.bool fd)) (v:=.bool fd) (.d .bool) (by simp[St.put])).weak0 (st':=({ nt:=70,env:=[(2,.d (.int .i64 a2)),(8,.d (.slice (rowsF (iRow .i64) pw))),(34,.d (.slice (rowsF api_Grant_row a0.Grants))),(35,.d (.int .i64 (a0.Grants.length:Int))),(36,.d (.int .i64 (i:Int))),(11,.cptr (api_Grant_row g) 0),(10,.d (.int .i64 (i:Int))),(13,.d (.bool fd))],box:=[],vec:=[]}:St)) (by simp[wkI,St.put])
  exact⟨p',R'⟩
 clear hR H hrun
 show Exit.then _ _ .normal b13 w
 refine then_norm ?_
 refine wp_seq (HR.drawn (S0:=({ nt:=70,env:=[(2,.d (.int .i64 a2)),(8,.d (.slice (rowsF (iRow .i64) pw))),(34,.d (.slice (rowsF api_Grant_row a0.Grants))),(35,.d (.int .i64 (a0.Grants.length:Int))),(36,.d (.int .i64 (i:Int))),(10,.d (.int .i64 (i:Int))),(63,.d (.bool (fd&&(g.Resource==a2&&g.Right==pr))))],box:=[],vec:=[]}:St)) [[],[0],[1],[1,2],[1],[1,3,4],[1,5],[1,6],[7],[7,8],[7],[7],[7,10,11],[7,12],[7,9,13],[7,14]] [] [] none [] 16 fol (by decide +kernel) (by simp) (by simp) (by simp) (fun K'=>?_) fun a w HR=>then_norm ?_)
 ·refine dr_go 0 2 rfl (by simp (maxSteps:=1000000);rfl) ?_
  refine dr_split 1 49 fd (by simp) (fun c5=>?_) (fun c5=>?_)
  ·subst c5
   refine dr_go 2 2 rfl (by simp (maxSteps:=1000000);rfl) ?_
   refine dr_go 4 2 rfl (by simp (maxSteps:=1000000);rfl) ?_
   refine dr_go 6 2 rfl (by simp (maxSteps:=1000000);rfl) ?_
   refine dr_split 7 55 (g.Resource==a2) (by simp) (fun c6=>?_) (fun c6=>?_)
   ·have c6':g.Resource=a2:=by simpa using c6
    refine dr_go 8 2 rfl (by simp (maxSteps:=1000000);rfl) ?_
    refine dr_go 10 2 rfl (by simp (maxSteps:=1000000);rfl) ?_
    refine dr_go 12 2 rfl (by simp (maxSteps:=1000000) [p1,p1'];rfl) ?_
    refine dr_go 14 2 rfl (by simp (maxSteps:=1000000);rfl) ?_
    refine dr_end rfl (tpN ⟨rfl,?_⟩)
    simp[wkI,c6']
   ·refine dr_skip 8 70 [some 56,some 57,some 58,some 59,some 60,some 61,some 62] rfl rfl (by decide) (by kernel_rfl) (by simp only[skEf,List.map_cons,List.map_nil,List.cons_append,List.nil_append];rfl) ?_
    refine dr_go 15 1 rfl (by simp (maxSteps:=1000000);rfl) ?_
    refine dr_end rfl (tpN ⟨rfl,?_⟩)
    simp[wkI,c6]
  ·subst c5
   refine dr_skip 2 70 [some 50,some 51,some 52,some 53] rfl rfl (by decide) (by kernel_rfl) (by simp only[skEf,List.map_cons,List.map_nil,List.cons_append,List.nil_append];rfl) ?_
   refine dr_go 6 2 rfl (by simp (maxSteps:=1000000);rfl) ?_
   refine dr_skip 8 70 [some 56,some 57,some 58,some 59,some 60,some 61,some 62] rfl rfl (by decide) (by kernel_rfl) (by simp only[skEf,List.map_cons,List.map_nil,List.cons_append,List.nil_append];rfl) ?_
   refine dr_go 15 1 rfl (by simp (maxSteps:=1000000);rfl) ?_
   refine dr_end rfl (tpN ⟨rfl,?_⟩)
   simp[wkI]
 have h63:=HR.hi.bool (s:=63) (c:=(fd&&(g.Resource==a2&&g.Right==pr))) (by simp[St.look,get])
 refine wp_cond_split h63 (fun c7=>?_) fun c7=>wp_skip ?_
 case refine_2=>
  rw[if_neg (by rw[c7];decide)] at hw
  refine norm_in (then_norm ?_)
  have hww:IntKind.i64.wrap ((i:Int)+1)=(i:Int)+1:=wrapI (by omega) (by omega)
  refine HR.hi.regL (fun K'=>ko [2,8,34,35,36] 2 (by simp;rfl) tops_end) (by simp) fun a w H=>?_
  exact⟨a0.Grants.length - (i+1),by omega,i+1,H.weak (by simp[wkI,hww]),hw,by omega,rfl⟩
 rw[if_pos c7] at hw
 obtain⟨_,p8,hw⟩:=bnd hw
 replace p8:=ck_some p8
 have hr:r=((mget inE m g.Credential).getD []++[(⟨3,(i:Int), -1, -1⟩:api_Link)],true):=(Option.some.inj hw).symm
 subst hr
 refine wp_seq (wp_region_lit ?_)
 have e12:a.eval (.tmp 12)=v:=by
  obtain⟨_,_,_,_,_,_,_,_,_,_,_,_,h⟩:=HR
  exact h
 refine run_val rfl (v:=v) (w':=w) (by simp[execOp,e12]) ?_
 have e64:(a.put (some 64) v).eval (.tmp 64)=v:=eval_put_eq (by rw[HR.hi.nt];simp)
 have HR:=HR.put (d:=64) (x:=.undef) (u:=v) (fun _ _=>.undef) (by simp) (by simp) (by simp)
 generalize a.put (some 64) v=a at *
 have HR:=HR.to e64
 refine wpl_take (G:=fun a w=>HIR K 9 b m 64 v ((mget inE m g.Credential).getD []) ({ nt:=70,env:=[(67,.vec 67)],box:=[],vec:=[(67,⟨79,4,[api_Link_row (⟨3,(i:Int), -1, -1⟩:api_Link)]⟩)]}:St) a w) 3 (HR.wpl (fun K'=>ko [67] 3 (by simp[St.put]) tops_end) (by simp) (by simp) fun a w H=>⟨rfl,H⟩) fun a w HR=>?_
 show wpList Tryd.prog _ _ [_,_,_] a w
 have e64:a.eval (.tmp 64)=v:=by
  obtain⟨_,_,_,_,_,_,_,_,_,_,_,_,h⟩:=HR
  exact h
 obtain⟨v',w1,hrun,p',R',hRA⟩:=HR.app hKi (x:=(⟨3,(i:Int), -1, -1⟩:api_Link)) (u:=67) rfl (by simp[rowsOf,get]) p8 41 (st':=({ nt:=70,env:=[],box:=[],vec:=[]}:St)) (by simp[wkI])
 refine run_val rfl (v:=v') (w':=w1) (by simp[execOp,resolve,invoke,builtin,e64,hrun]) ?_
 have R2:=R'.put (d:=68) (v:=v') hRA (by simp)
 refine wpl_reg (t:=0) (ko [6,7] 2 (by simp[St.put];rfl) tops_end) (by simp) R2 rfl fun a w p R _=>?_
 refine then_norm (wp_ret ?_)
 exact⟨_,p,R,[],by simp,rfl,by simp⟩
end Go.Vl
