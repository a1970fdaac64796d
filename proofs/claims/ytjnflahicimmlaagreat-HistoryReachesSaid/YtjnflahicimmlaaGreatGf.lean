/- history.cycle answers what it should. Conditions: none. -/
import Derived.Test.YtjnflahicimmlaaGreatGce
import Derived.Test.YtjnflahicimmlaaGreatGno
import Derived.Test.YtjnflahicimmlaaGreatVmZh
import Derived.Laws.Externs
import Derived.Shelf.SlMaps.Clone
set_option maxHeartbeats 4000000
set_option linter.unusedSimpArgs false
set_option linter.unusedVariables false
namespace Go.Vl
open Go Go.Proofs Go.RowKit Go.Maps
theorem namesO_len {o:zO} (h:fitO o=true):(namesO o).length≤3000000:=by
 unfold fitO at h
 simp only[Bool.and_eq_true,decide_eq_true_eq] at h
 unfold namesO
 simp only[List.length_append,List.length_map]
 split <;> simp <;> omega
theorem clo_sp (x:Int) {o:zO} (h:fitO o=true) (m:List (Int×zO)):hYcycle_1_cro x o m=some (!(namesO o).any (hasK m)):=by
 have hl:=namesO_len h
 unfold hYcycle_1_cro hYnamed sYContainsFunc_int_at_history_cycle_1_1_ro sYIndexFunc_int_at_history_cycle_1_1_ro
 rw[if_pos h]
 simp only[Option.bind_some]
 generalize namesO o=l at *
 obtain⟨h1,h2⟩:=iter_findS (body:=sYIndexFunc_int_at_history_cycle_1_1_ro_l0 l m) l (hasK m) (fun i _=>.inr (i:Int)) (.inl ()) (fun i hi=>by
  unfold sYIndexFunc_int_at_history_cycle_1_1_ro_l0 hYcycle_1_1_cro
  rw[if_pos (by simp <;> omega),idx_lt hi,w64 (by omega) (by omega)]
  simp only[Option.bind_some]
  unfold hasK
  split <;> rfl) (by
  unfold sYIndexFunc_int_at_history_cycle_1_1_ro_l0
  rw[if_neg (by simp)])
 cases ha:l.any (hasK m) with
 |false=>rw[h1 ha];rfl
 |true=>
  obtain⟨i,hi,_,e⟩:=h2 ha
  rw[e]
  simp
theorem one_io (w:World) (ok:Nat→Prop) (h:∀b,ok b→b < w.heap.size):FnPre w ok [] [] [] []:=
 ⟨rfl,List.nodup_nil,fun b hb=>⟨h b hb,by simp,fun v hv=>by simp at hv⟩,fun i b cs hi=>by simp at hi,rfl,fun i v s hi=>by simp at hi,fun i j v u hi=>by simp at hi,fun v hv=>by simp at hv⟩
theorem clo_calls {W:World} {B b clock:Nat} {es:Array MapEntry} {m:List (Int×zO)} {ok:Nat→Prop} (hB:W.cell? ⟨B,0,none⟩=some (.map (some b))) (hb:W.heap[b]? =some (.map es clock)) (hok:∀k,ok k→k < W.heap.size) (hM:MapR W ok (vsO m) es clock)
  {j:Nat} {q:Int×zO} {en:MapEntry} (h1:m[j]? =some q) (h2:es[j]? =some en) (hf:fitO q.2=true) (hgl:GlobAt Tryz.prog W (· < W.heap.size)):
  Calls Tryz.prog 70 #[en.key,en.val,.pointer (some ⟨B,0,none⟩)] W fun e w'=>e=.returned (.bool (!keepB m q))∧W.grownBy w' none∧dr0 W≤dr0 w':=by
 have hM':MapR W (fun k=>k < W.heap.size) (vsO m) es clock:=hM.mono (fun _ _=>rfl) hok
 obtain⟨hkey,cs,hval,hcs,hone,hpk⟩:=vsO_key hM' h1 h2
 have hbl:b < W.heap.size:=(Array.getElem?_eq_some_iff.1 hb).1
 have hBl:B < W.heap.size:=by
  unfold World.cell? at hB
  cases hq:W.heap[B]? with
  |none=>simp[hq] at hB
  |some o=>exact(Array.getElem?_eq_some_iff.1 hq).1
 have hrd:RD W (fun k=>k < W.heap.size) (.mp tgO 9 (rowsF (mRow (iRow .i64) zOr) m)) (.map (some b)):=RD.ofMap (s:=vsO m) (tag_M 66 1 false true 9 _) (fun r (hr:r∈rowsF (mRow (iRow .i64) zOr) m)=>by
  unfold rowsF at hr
  obtain⟨x,_,rfl⟩:=List.mem_map.1 hr
  rfl) hb hbl hM'
 have F:=hYcycle_1_cro_ok (clo_sp q.1 hf m)
 refine(F W (fun k=>k < W.heap.size) [] [] #[en.key,en.val,.pointer (some ⟨B,0,none⟩)] (one_io _ _ fun b h=>h) rfl (fun i x v hx hv=>?_) hgl).mono fun e w' ⟨v,iv',he,hr,_,_,hfr⟩=>?_
 ·match i with
  |0=>simp at hx hv;subst hx;subst hv;rw[hkey];exact .d .int
  |1=>
   simp at hx hv
   subst hx;subst hv
   have:=packMA_ra (p:=ioPl [] []) (ag:=true) (ds:=zOr q.2) (x:=.agg (zOa q.2)) (by simp[packMA]) hpk
   simpa using this
  |2=>
   simp at hx hv
   subst hx;subst hv
   refine RA.cptr (a:=⟨B,0,none⟩) (o:=0) (fun _=>.map (some b)) hBl (fun j hj=>?_) (fun j x hx=>?_)
   ·have:j=0:=by simpa using hj
    subst this
    exact hB
   ·have:j=0:=by have:=(List.getElem?_eq_some_iff.1 hx).1;simpa using this
    subst this
    simp at hx;subst hx
    exact hrd
  |i+3=>simp at hx
 ·have hv:v=.bool (!keepB m q):=by
   cases hr with |d h=>cases h;rfl
  subst he
  exact⟨by rw[hv],⟨hfr.os,hfr.tape,hfr.output,hfr.size,fun k hk _=>hfr.block k hk (by simp) (fun v hv=>by simp at hv)⟩,hfr.dr⟩
set_option maxRecDepth 100000 in
theorem clone_calls (w:World) (b:Nat) (es:Array MapEntry) (clock:Nat) (hb:w.heap[b]? =some (.map es clock)):Calls Tryz.prog 68 #[.map (some b)] w fun e w'=>e=.returned (.map (some w.heap.size))∧w'=w.alloc (.map es clock):=by
 have t69:=Tryz.underlying66
 have hq:=fun w=>run_eql_map_nil_sl (P:=Tryz.prog) w 66 _ _ (some b) Tryz.underlying66
 go_enter Tryz.func68,Tryz.ntmps68
 go_wp2
 rw[run_callFunc_extern Tryz.func98 (by kernel_rfl) (by kernel_rfl) (by kernel_rfl) (e:=Extern.MapsClone.clone) (by kernel_rfl),run_maps_clone_sl w 66 hb]
 simp only[Result.andThen]
 rw[Oper.upon_value]
 go_wp2
 rw[run_typeAssert_map_sl _ 66 20 _ _ _ Tryz.underlying66]
 simp only[Result.andThen]
 rw[Oper.upon_value]
 go_wp2
 go_ret
 exact⟨rfl,rfl⟩
def mapN (w:World) (b:Nat):Nat:=match w.heap[b]? with
 |some (.map es _)=>es.size
 |_=>0
theorem mapN_at {w:World} {b clock:Nat} {es:Array MapEntry} (h:w.heap[b]? =some (.map es clock)):mapN w b=es.size:=by unfold mapN;rw[h]
theorem wl_len {P:Program} {o:Oper} {ops:Array Oper} {rest:List Oper} {a:Act} {w:World} {Q:Exit→Act→World→Prop} (hg:o.guard=none) (x:Operand) (t kt et:TypeId) (hop:o.op=.call { callee:=.builtin .len,args:=#[x],argTypes:=#[t]}) (ht:P.underlying t=some (.map kt et)) (b:Nat) (es:Array MapEntry) (clock:Nat)
  (hx:a.eval x=.map (some b)) (hb:w.heap[b]? =some (.map es clock)) (hK:wpList P ops Q rest (a.put o.dst (goInt es.size)) w):wpList P ops Q (o::rest) a w:=by
 have hrun:(Builtin.len_ #[t] o.type #[.map (some b)]).run P w=.ok (goInt es.size) w:=by
  simp[Builtin.len_,run_underlying ht,Result.andThen,MapKept.run_getObj_map hb]
 exact run_val hg (by simp[execOp,hop,resolve,invoke,builtin,hx,hrun]) hK
set_option maxRecDepth 100000 in
theorem cycle_calls (w:World) (b:Nat) (es0:Array MapEntry) (clock:Nat) (hb:w.heap[b]? =some (.map es0 clock)) {ok:Nat→Prop} {m0:List (Int×zO)} (hm:MapR w ok (vsO m0) es0 clock) (hok:∀k,ok k→k < w.heap.size) (hn:(m0.map (·.1)).Nodup) (hf:∀q∈m0,fitO q.2=true) (hgl:GlobAt Tryz.prog w ok):
  Calls Tryz.prog 38 #[.map (some b)] w fun e w'=>e=.returned (.bool (cycB m0))∧w.grownBy w' none∧dr0 w≤dr0 w':=by
 have t69:=Tryz.underlying66
 have hG:Aside _:=hgl
 clear hgl
 have hc0:=clone_calls w b es0 clock hb
 go_enter Tryz.func38,Tryz.ntmps38
 go_wp2_with (first
  |(refine hc0.mono ?_;rintro e w1 ⟨rfl,rfl⟩)
  |fail)
 go_loopw [4] (fun _ wr=>∃(m:List (Int×zO)) (es:Array MapEntry),wr.cell? ⟨w.heap.size+1,0,none⟩=some (.map (some w.heap.size))∧wr.heap[w.heap.size]? =some (.map es clock)∧MapR w ok (vsO m) es clock∧m.Sublist m0∧(∀G:Int→Prop,selfSup m0 G→∀q∈m0,G q.1→q∈m)∧w.grownBy wr none∧dr0 w≤dr0 wr)
  (fun _ wr=>mapN wr w.heap.size)
 case atStart=>
  have hs1:(w.alloc (.map es0 clock)).heap.size=w.heap.size+1:=by unfold World.alloc;simp
  have h1:=heap_alloc_new (w.alloc (.map es0 clock)) (.cells #[.map (some w.heap.size)] 66)
  rw[hs1] at h1
  refine⟨m0,es0,by unfold World.cell?;rw[h1];rfl,(heap_alloc_old _ _ (by rw[hs1];omega)).trans (heap_alloc_new w _),hm,List.Sublist.refl _,fun _ _ _ h _=>h,(World.grownBy_alloc w _ none).andThen (World.grownBy_alloc _ _ none) (fun j hj=>by cases hj),Nat.le_refl _⟩
 case round=>
  obtain⟨m,es,hB,hbr,hM,hsub,hsup,hg,hdr⟩:=hrel
  have hgo:∀k,k < w.heap.size→wr.heap[k]? =w.heap[k]? :=by obtain⟨_,_,_,_,g5⟩:=hg;exact fun k hk=>g5 k hk (by simp)
  have hsz:w.heap.size≤wr.heap.size:=by obtain⟨_,_,_,g4,_⟩:=hg;exact g4
  have hok':∀k,ok k→k < wr.heap.size∧k≠w.heap.size:=fun k hk=>by have:=hok k hk;omega
  have hMr:MapR wr ok (vsO m) es clock:=hM.mono (fun q hq=>see_of_block (hgo _ (hok _ hq))) fun _ h=>h
  have hcell:∀W:World,wr.grownBy W (some w.heap.size)→W.cell? ⟨w.heap.size+1,0,none⟩=some (.map (some w.heap.size)):=fun W g1=>g1.cell hB (by simp)
  have hd:=delFunc_ok wr w.heap.size (w.heap.size+1) es clock hbr hMr (hn.sublist (hsub.map _)) hok' (fun W m2 es2 g1 g2 g3 g4 j q en j1 j2=>clo_calls (ok:=ok) (hcell W g1) g2 (fun k hk=>by
   obtain⟨_,_,_,g6,_⟩:=g1
   have:=hok' k hk;omega) (mapR_grown g3 hok' g1) j1 j2 (hf q ((g4.trans hsub).subset (List.mem_of_getElem? j1))) (GlobAt.grown (P:=Tryz.prog) hG.out hok (Nat.le_trans hsz (by obtain⟨_,_,_,g6,_⟩:=g1;exact g6)) fun k hk=>by
    obtain⟨_,_,_,_,g7⟩:=g1
    rw[g7 k (by omega) (by intro e;cases e;omega),hgo k hk]))
  have hlen:=mapN_at hbr
  have hml:es.size=m.length:=by have:=hM.key.1;simpa[rowsF] using this
  go_wp2_with (first
   |(refine wl_len rfl _ 66 3 47 rfl t69 w.heap.size es clock rfl hbr ?_)
   |(refine hd.mono ?_;rintro e w2 ⟨rfl,m2,es2,hb2,hM2,hP,hg2,hd2⟩;have hB2:=hcell w2 hg2)
   |(refine wl_len rfl _ 66 3 47 rfl t69 w.heap.size es2 clock rfl hb2 ?_)
   |fail)
  all_goals have hm2:es2.size=m2.length:=by have:=hM2.key.1;simpa[rowsF] using this
  all_goals have hgw:w.grownBy w2 none:=hg.andThen hg2 (fun j hj=>by cases hj;exact Or.inl (Nat.le_refl _))
  ·go_ret
   rename_i heq
   have hle:m2.length=m.length:=by
    have hE:(es2.size:Int)=m.length:=by first |omega |simpa using heq
    omega
   refine⟨?_,hgw,Nat.le_trans hdr hd2⟩
   rcases hP.fin with h |⟨rfl,hk⟩
   ·omega
   ·exact congrArg (fun b=>Ending.returned (Value.bool b)) (core_iff hn hsub hsup hk)
  ·rename_i heq
   have hne:¬(es2.size:Int)=m.length:=by first |omega |simpa using heq
   refine⟨⟨m2,es2,hB2,hb2,hM2.mono (fun q hq=>(see_of_block (hgo _ (hok _ hq))).symm) fun _ h=>h,hP.sub.trans hsub,fun G hG q hq hgq=>hP.sup G (fun q1 h1 h2=>?_) q (hsup G hG q hq hgq) hgq,hgw,Nat.le_trans hdr hd2⟩,?_⟩
   ·obtain⟨q',a,b,c⟩:=hG q1 (hsub.subset h1) h2
    exact⟨q',hsup G hG q' a c,b,c⟩
   ·rw[mapN_at hb2,hlen]
    rcases hP.fin with h |⟨rfl,_⟩
    ·omega
    ·omega
theorem hYcycle_ok {a0:List (Int×zO)} {r:Bool} (h0:hYcycle a0=some r):FnOK Tryz.prog 38 [] [.d (.mp (mTag 66 1 false true) 9 (rowsF (mRow (iRow .i64) zOr) a0))] (.d (.bool r)) []:=by
 unfold hYcycle at h0
 split at h0
 case isFalse=>cases h0
 rename_i hc
 cases h0
 intro w ok io iv vs hpre hvs hargs hgl
 have hio:io=[]:=List.eq_nil_of_length_eq_zero (by simpa using hpre.len)
 have hiv:iv=[]:=List.eq_nil_of_length_eq_zero (by simpa using hpre.lenv)
 subst hio;subst hiv
 have h1:vs.size=1:=by simpa using hvs
 have hv0:vs[0]? =some vs[0]:=Array.getElem?_eq_getElem (by omega)
 have hra:=hargs 0 _ _ rfl hv0
 have hvs2:vs= #[vs[0]]:=by
  refine Array.ext (by simp[h1]) fun i h1 h2=>?_
  have:i=0:=by simp at h2;omega
  subst this;rfl
 generalize vs[0]=v0 at hra hvs2
 cases hra with
 |d hrd=>
  obtain⟨b,es,clock,rfl,hb,hokb,_,hM⟩:=hrd.mp_inv
  rw[hvs2]
  refine(cycle_calls w b es clock hb hM (fun k hk=>(hpre.okb k hk).1) hc.1 hc.2 hgl).mono fun e w' ⟨he,hg,hd⟩=>?_
  obtain⟨g1,g2,g3,g4,g5⟩:=hg
  refine⟨_,[],he,.d .bool,one_io _ _ fun k hk=>hk.2.1,fun u hu=>by simp at hu,⟨g4,?_,?_,hd,?_,fun k hk _ _=>g5 k hk (by simp)⟩⟩
  ·first |exact g1 |exact g2 |exact g3
  ·first |exact g1 |exact g2 |exact g3
  ·first |exact g1 |exact g2 |exact g3
end Go.Vl
