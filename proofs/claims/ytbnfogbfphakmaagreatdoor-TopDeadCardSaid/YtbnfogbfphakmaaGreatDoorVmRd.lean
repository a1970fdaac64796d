/- The value logic: ranges over maps, in whatever order. Conditions: none. -/
import Derived.Test.YtbnfogbfphakmaaGreatDoorVmQq
import Derived.Test.YtbnfogbfphakmaaGreatDoorVmU
import Derived.Maps.RangeRun
import Derived.Test.YtbnfogbfphakmaaGreatDoorVmZm
set_option linter.unusedSimpArgs false
set_option linter.unusedVariables false
namespace Go.Vl
open Go Go.RowKit
section
variable {P:Program} {K:Ctx P} {st:St} {a:Act} {w:World} {p:Pl} {Q:Exit→St→Prop}
def BI (rows:List (List D)) (es:List MapEntry) (seen:Array Nat):List (List D):=((rows.zip es).filter fun q=>!seen.contains q.2.born).map (·.1)
structure Hc (w:World) (ok:Nat→Prop) (r:Nat) (s:VS) (left:List (List D)):Prop where
 ex:∃(b since c0 clock:Nat) (seen:Array Nat) (es:Array MapEntry),w.heap[r]? =some (.mapIter (some b) since seen c0)∧w.heap[b]? =some (.map es clock)∧since≤c0∧(∀x∈es.toList,x.born < since)∧clock=since∧
  ok b∧ok r∧DD w ok s es clock∧left=BI s.rows es.toList seen
theorem KI (rows:List (List D)) (es:List MapEntry) (h:es.length=rows.length):BI rows es #[]=rows:=by
 unfold BI
 rw[List.filter_eq_self.2 (fun q _=>by simp),List.map_fst_zip (by omega)]
theorem Fx:∀(rows:List (List D)) (es:List MapEntry) (seen:Array Nat) (e:MapEntry),(es.map (·.born)).Nodup→es.length=rows.length→e∈es→seen.contains e.born=false→
  ∃(l1 l2:List (List D)) (x:List D),BI rows es seen=l1++x::l2∧BI rows es (seen.push e.born)=l1++l2∧∃j:Nat,rows[j]? =some x∧es[j]? =some e
 |[],[],_,_,_,_,h,_=>by cases h
 |[],_::_,_,_,_,h,_,_=>by simp at h
 |_::_,[],_,_,_,h,_,_=>by simp at h
 |row::rows,e0::es,seen,e,hn,hl,he,hs=>by
  rw[List.map_cons,List.nodup_cons] at hn
  have hstep:∀sn:Array Nat,BI (row::rows) (e0::es) sn=if sn.contains e0.born=false then row::BI rows es sn else BI rows es sn:=fun sn=>by
   unfold BI
   rw[List.zip_cons_cons,List.filter_cons]
   cases sn.contains e0.born <;> simp
  by_cases h0:e=e0
  ·subst h0
   have hsame:BI rows es (seen.push e.born)=BI rows es seen:=by
    unfold BI
    congr 1
    refine List.filter_congr fun q hq=>?_
    have hm:q.2.born∈es.map (·.born):=List.mem_map.2 ⟨q.2,(List.of_mem_zip hq).2,rfl⟩
    have hne:q.2.born≠e.born:=fun h=>hn.1 (h▸hm)
    simp[Array.contains_push,hne]
   refine⟨[],BI rows es seen,row,?_,?_,0,rfl,rfl⟩
   ·rw[hstep,if_pos hs];rfl
   ·rw[hstep,if_neg (by simp[Array.contains_push]),hsame];rfl
  ·have he':e∈es:=(List.mem_cons.1 he).resolve_left h0
   have hne:e0.born≠e.born:=fun h=>hn.1 (h▸List.mem_map.2 ⟨e,he',rfl⟩)
   obtain⟨l1,l2,x,h1,h2,j,h3,h4⟩:=Fx rows es seen e hn.2 (by simpa using hl) he' hs
   have hc:(seen.push e.born).contains e0.born=seen.contains e0.born:=by simp[Array.contains_push,hne]
   rw[hstep,hstep,hc,h1,h2]
   split
   ·exact⟨row::l1,l2,x,rfl,rfl,j+1,by simpa using h3,by simpa using h4⟩
   ·exact⟨l1,l2,x,rfl,rfl,j+1,by simpa using h3,by simpa using h4⟩
theorem La {rows:List (List D)} {es:Array MapEntry} {seen:Array Nat} (h:(leftOf es seen).size=0):BI rows es.toList seen=[]:=by
 unfold BI
 rw[List.map_eq_nil_iff,List.filter_eq_nil_iff]
 intro q hq
 have hm:q.2∈es.toList:=(List.of_mem_zip hq).2
 have h0:leftOf es seen= #[]:=Array.eq_empty_of_size_eq_zero h
 unfold leftOf at h0
 rw[Array.filter_eq_empty_iff] at h0
 have:=h0 q.2 (by simpa using hm)
 simpa using this
theorem Cm.obj {w:World} {ok:Nat→Prop} {s:VS} {v:Value} (h:Cm w ok s v) {g:Nat} (hg:v.blk=some g) {m:Option Nat} {s' c':Nat} {q':Array Nat}:w.heap[g]?≠some (.mapIter m s' q' c'):=by
 cases hM:s.isM with
 |true=>
  obtain⟨b,es,clock,rfl,h1,_⟩:=h.map hM
  cases hg
  rw[h1];intro e;cases e
 |false=>
  obtain⟨xs,h1,_⟩:=h.row hM
  rcases h1.2 with ⟨rfl,_⟩ |⟨g',cap,cur,rfl,_,hh,_⟩
  ·cases hg
  ·cases hg
   rw[hh];intro e;cases e
theorem Rel.quiet (R:Rel K st a w p) {r:Nat} {m:Option Nat} {s0 c0:Nat} {q0:Array Nat} (hr:w.heap[r]? =some (.mapIter m s0 q0 c0)) {m':Option Nat} {s' c':Nat} {q':Array Nat} (hr0:K.w0.heap.size≤r):
  Rel K st a (ChangeMaps.setBlock w r (.mapIter m' s' q' c')) p∧(∀b,okc K w p b→okc K (ChangeMaps.setBlock w r (.mapIter m' s' q' c')) p b)∧(∀q:Addr,see (ChangeMaps.setBlock w r (.mapIter m' s' q' c')) q=see w q)∧
   (∀b,b≠r→(ChangeMaps.setBlock w r (.mapIter m' s' q' c')).heap[b]? =w.heap[b]?)∧(ChangeMaps.setBlock w r (.mapIter m' s' q' c')).heap[r]? =some (.mapIter m' s' q' c'):=by
 have hlt:r < w.heap.size:=(Array.getElem?_eq_some_iff.1 hr).1
 have hne:∀b,b≠r→(ChangeMaps.setBlock w r (.mapIter m' s' q' c')).heap[b]? =w.heap[b]? :=fun b hb=>by
  unfold ChangeMaps.setBlock
  simp[Array.getElem?_setIfInBounds,Ne.symm hb]
 have heq:(ChangeMaps.setBlock w r (.mapIter m' s' q' c')).heap[r]? =some (.mapIter m' s' q' c'):=by
  unfold ChangeMaps.setBlock
  simp[Array.getElem?_setIfInBounds,hlt]
 have hsee:∀q:Addr,see (ChangeMaps.setBlock w r (.mapIter m' s' q' c')) q=see w q:=fun q=>by
  by_cases hq:q.block=r
  ·unfold see Ll World.cell?
   rw[hq,heq,hr]
  ·exact Aq (hne _ hq)
 have hsz:(ChangeMaps.setBlock w r (.mapIter m' s' q' c')).heap.size=w.heap.size:=by unfold ChangeMaps.setBlock;simp
 have hok:∀b,okc K w p b→okc K (ChangeMaps.setBlock w r (.mapIter m' s' q' c')) p b:=fun b h=>Ls (Nat.le_of_eq hsz.symm) h
 refine⟨R.evo ⟨Nat.le_of_eq hsz.symm,rfl,rfl,rfl,fun b h1 _=>hne b (by omega),fun q _=>hsee q,hok,fun _ _ h=>⟨h,rfl⟩,fun _ _ h=>⟨h,rfl⟩,Nat.le_refl _⟩ (fun n hn=>hne _ fun e=>?_) (fun n g hn hg=>hne _ fun e=>?_),hok,hsee,hne,heq⟩
 ·obtain⟨cs,hcs⟩:=Option.isSome_iff_exists.1 ((R.lbi n).1 hn)
  obtain⟨vs,ty,h1,_⟩:=(R.box n cs hcs).at_
  rw[e,hr] at h1;cases h1
 ·obtain⟨sv,hs⟩:=Option.isSome_iff_exists.1 ((R.lvi n).1 hn)
  exact(R.vec n sv hs).at_.obj hg (e▸hr)
theorem Ck {ops:Array Oper} {o:Oper} {l:List Oper} {v:Value} {w':World} {F:Exit→Act→World→Prop} (hg:o.guard=none) (hr:(execOp a.eval o).run P w=.ok (.value v) w') (H:wpList P ops F l (a.put o.dst v) w'):wpList P ops F (o::l) a w:=by
 unfold wpList
 have hw:Region.wanted o (yielded ops a.tmps)=true:=by unfold Region.wanted;rw[hg]
 rw[if_pos hw]
 left
 unfold Oper.wp
 rw[hr]
 exact H
def TrI (P:Program) (K:Ctx P) (c:Code) (st:St) (r:Nat) (s:VS) (left:List (List D)) (Q:Exit→St→Prop):Prop:=∀a w p,Rel K st a w p→Hc w (okc K w p) r s left→K.w0.heap.size≤r→c.wp P (Pst K Q) a w
theorem Ou {r t:Nat} {p:Pl} (R:Rel K st a w p) (h:get st.env t=some (.iter r)):a.eval (.tmp t)=.pointer (some ⟨r,0,none⟩):=by
 have:=R.env t _ h
 show a.tmps.getD t undef=_
 generalize a.tmps.getD t undef=v at this
 cases this;rfl
theorem Gr {ops:Array Oper} {F G:Exit→Act→World→Prop} (hq:∀e a w,F e a w→G e a w):∀(l:List Oper) (a:Act) (w:World),wpList P ops F l a w→wpList P ops G l a w:=by
 intro l
 induction l with
 |nil=>exact fun a w h=>hq _ _ _ h
 |cons o l ih=>
  intro a w hh
  unfold wpList at hh ⊢
  split
  ·rename_i hw
   rw[if_pos hw] at hh
   rcases hh with hh |⟨h1,a0,w0,q⟩
   ·left
    unfold Oper.wp at hh ⊢
    generalize (execOp a.eval o).run P w=r at hh ⊢
    cases r with
    |ok n w'=>
     cases n <;> simp only[Oper.upon] at hh ⊢
     case value v=>exact ih _ _ hh
     case skip=>exact ih _ _ hh
     case defer d=>exact ih _ _ hh
     case enter f args=>
      refine Calls.mono hh fun e w'' he=>?_
      cases e with
      |returned v=>exact ih _ _ he
      |panicked c=>exact hq _ _ _ he
      |outgrown=>obtain⟨a0,w0,q⟩:=he;exact⟨a0,w0,hq _ _ _ q⟩
     case row row args=>exact Rows.mono hh fun v w'' he=>ih _ _ he
    |halt x w'=>
     cases x <;> simp only[Oper.upon] at hh ⊢
     case panic v=>exact hq _ _ _ hh
   ·exact .inr ⟨h1,a0,w0,hq _ _ _ q⟩
  ·rename_i hw
   rw[if_neg hw] at hh
   exact ih _ _ hh
def C9 {α σ ε:Type} (body:σ→α→Option (Lp σ ε)) (fin:σ→ε):σ→List α→Option ε
 |s,[]=>some (fin s)
 |s,x::l=>(body s x).bind fun o=>match o with | .go s'=>C9 body fin s' l | .out e=>some e
attribute [local irreducible] VS.kz VS.va VS.ka
theorem SO {α σ ε:Type} {i3 i4 id0 id1:Nat} {o7 o8 oE:Oper} {l4:List Oper} {cB:Code} {t6 t7 t8 t9 r:Nat} {sM:VS} {row:α→List D} {kA vA:α→AV} {S:σ→St} {body:σ→α→Option (Lp σ ε)} {fin:σ→ε} {s0:σ} {left0:List α} {Φ:ε→Prop}
  (hK:K.ios=[]) (hg:o7.guard=none∧o8.guard=none∧oE.guard=none) (h7:o7.op=.next (.tmp t6) false) (d7:o7.dst=some t7) (h8:o8.op=.extract (.tmp t7) 0) (d8:o8.dst=some t8) (hE:oE.op=.entry (.tmp t6)) (dE:oE.dst=some t9)
  (hne:t7≠t6∧t8≠t6) (hnt:∀s,t7 < (S s).nt∧t8 < (S s).nt∧t9 < (S s).nt) (hit:∀s,get (S s).env t6=some (.iter r))
  (hk:∀x,E7 sM.ka ((row x).take sM.kz)=some (kA x)) (hv:∀x,E7 sM.va ((row x).drop sM.kz)=some (vA x))
  (hI:∀l,l.Perm left0→∃e,C9 body fin s0 l=some e∧Φ e) (W:D1 st (S s0))
  (round:∀(K':Ctx P) (G:σ→Prop) (s:σ) (x:α) (o:Lp σ ε),K'.ios=[]→body s x=some o→(∀s',.go s'=o→G s')→(∀e',.out e'=o→Φ e')→
   Az P K' (oE::l4).toArray l4 ((((S s).put t7 (.tup [.d (.bool true),.undef,.undef])).put t8 (.d (.bool true))).put t9 (.tup [kA x,vA x])) (Cq (fun u=>Tr P K' cB u (FC id1 (Cq (fun st'=>∃s',G s'∧D1 st' (S s')) Q))) (FC id1 (Cq (fun st'=>∃s',G s'∧D1 st' (S s')) Q))))
  (hend:∀s,Φ (fin s)→Q (.exit id0) (((S s).put t7 (.tup [.d (.bool false)])).put t8 (.d (.bool false)))):
  TrI P K (.loop (.seq (.region i3 #[o7,o8] false) (.seq (.cond (.tmp t8) .skip (.exit id0)) (.block id1 (.seq (.region i4 (oE::l4).toArray false) cB))))) st r sM (AB row left0) Q:=by
 intro a w p R hit0 hr0
 have hIt:∀{w:World} {p p':Pl} {left:List (List D)},(∀b,okc K w p b→okc K w p' b)→Hc w (okc K w p) r sM left→Hc w (okc K w p') r sM left:=fun ho h=>by
  obtain⟨b,since,c0,clock,seen,es,g1,g2,g3,g4,g5,g6,g7,g8,g9⟩:=h
  exact⟨b,since,c0,clock,seen,es,g1,g2,g3,g4,g5,ho b g6,ho r g7,g8.mono (fun _ _=>rfl) ho,g9⟩
 have hweak:∀{s s':St} {w:World} {p:Pl} {a:Act},Rel K s a w p→D1 s s'→∀b,okc K w p b→okc K w ⟨p.bx,p.rw,fun n=>s'.lb n=true,fun n=>s'.lv n=true⟩ b:=fun {s s' w p a} R W b h=>by
  refine⟨h.1,h.2.1,fun n hn=>h.2.2.1 n ?_,fun n hn=>h.2.2.2 n ?_⟩
  ·obtain⟨cs',hcs'⟩:=Option.isSome_iff_exists.1 hn
   obtain⟨cs,hcs,_⟩:=Ca W.box hcs'
   exact(R.lbi n).2 (by simp[St.lb,hcs])
  ·obtain⟨q,hq⟩:=Option.isSome_iff_exists.1 hn
   exact(R.lvi n).2 (by simp[St.lv,Cb W.vec hq])
 refine wp_loop_ghost (fun n a w=>∃(s:σ) (left:List α) (p:Pl),left.length=n∧Rel K (S s) a w p∧Hc w (okc K w p) r sM (AB row left)∧∀l,l.Perm left→∃e,C9 body fin s l=some e∧Φ e) left0.length ⟨s0,left0,_,rfl,R.weak W,hIt (hweak R W) hit0,hI⟩ fun n a w ⟨s,left,p,hn,R,hit1,hF⟩=>?_
 obtain⟨b,since,c0,clock,seen,es,g1,g2,g3,g4,g5,g6,g7,g8,g9⟩:=hit1
 obtain⟨nt7,nt8,nt9⟩:=hnt s
 have he6:a.eval (.tmp t6)=.pointer (some ⟨r,0,none⟩):=Ou R (hit s)
 refine wp_seq (wp_region_lit (l:=[o7,o8]) ?_)
 -- what 'extract' yields
 have hx8:∀(a':Act) (w':World) (v:Value) (cs:List Value),a'.eval (.tmp t7)=.tuple (v::cs).toArray→(execOp a'.eval o8).run P w'=.ok (.value v) w':=fun a' w' v cs h=>by
  simp[execOp,h8,h,Instr.extract]
 have hput:∀{st':St} {w':World} {p':Pl} {v:Value},Rel K st' a w' p'→t7 < st'.nt→(a.put (some t7) v).eval (.tmp t7)=v:=fun {st' w' p' v} R' h7=>by
  have:t7 < a.tmps.size:=by rw[R'.nt];exact h7
  simp[Act.put,Act.eval,this]
 rcases run_next_at (P:=P) w o7.type r b since c0 seen es clock g1 g2 g4 g3 with ⟨hz,hrun⟩ |⟨en,hen,w1,hw1,hrun⟩
 ·-- nothing is left
  have hr7:(execOp a.eval o7).run P w=.ok (.value (.tuple #[.bool false])) w:=by simp[execOp,h7,he6,hrun]
  refine Ck hg.1 hr7 ?_
  rw[d7]
  have R7:=R.put (d:=t7) (x:=.tup [.d (.bool false)]) (v:=.tuple #[.bool false]) (.tup rfl fun i x v hx hv=>by
   cases i with
   |zero=>simp at hx hv;subst hx;subst hv;exact .d .bool
   |succ i=>simp at hx) nt7
  refine Ck hg.2.1 (hx8 _ w (.bool false) [] (hput R nt7)) ?_
  rw[d8]
  have R8:=R7.put (d:=t8) (x:=.d (.bool false)) (v:=.bool false) (.d .bool) nt8
  have hleft:left=[]:=by
   rw[La hz] at g9
   unfold AB at g9
   exact List.map_eq_nil_iff.1 g9
  subst hleft
  obtain⟨e,he,hΦ⟩:=hF [] (List.Perm.refl _)
  simp only[C9,Option.some.injEq] at he
  subst he
  have hv8:(Act.put (Act.put a (some t7) (.tuple #[.bool false])) (some t8) (.bool false)).eval (.tmp t8)=.bool false:=by
   have:=R8.opd (.tmp t8)
   have ho:opd (((S s).put t7 (.tup [.d (.bool false)])).put t8 (.d (.bool false))) (.tmp t8)=.d (.bool false):=by simp[opd,St.look,St.put,get]
   rw[ho] at this
   generalize (Act.put (Act.put a (some t7) (.tuple #[.bool false])) (some t8) (.bool false)).eval (.tmp t8)=v at this
   cases this with |d h=>cases h;rfl
  refine wp_seq (wp_cond_split hv8 (fun h=>by cases h) fun _=>wp_exit ?_)
  exact⟨_,p,R8,hend s hΦ⟩
 ·-- an entry comes
  have hmem:en∈es.toList∧seen.contains en.born=false:=by
   unfold leftOf at hen
   simp only[Array.toList_filter,List.mem_filter,Bool.not_eq_true'] at hen
   exact hen
  obtain⟨l1,l2,x0,k1,k2,j,k3,k4⟩:=Fx sM.rows es.toList seen en g8.nodup g8.key.1 hmem.1 hmem.2
  rw[k1] at g9
  unfold AB at g9
  obtain⟨m1,m2',rfl,e1,e2⟩:=List.map_eq_append_iff.1 g9
  obtain⟨x,m2,rfl,e3,e4⟩:=List.map_eq_cons_iff.1 e2
  subst e3
  have hF':∀l,l.Perm (m1++m2)→∃e,C9 body fin s (x::l)=some e∧Φ e:=fun l hl=>hF (x::l) ((hl.cons x).trans List.perm_middle.symm)
  have hb0:∃o,body s x=some o:=by
   obtain⟨e,he,_⟩:=hF' _ (List.Perm.refl _)
   simp only[C9] at he
   cases hbx:body s x with
   |none=>rw[hbx] at he;cases he
   |some o=>exact⟨o,rfl⟩
  obtain⟨o,hbx⟩:=hb0
  have hG:∀s',.go s'=o→∀l,l.Perm (m1++m2)→∃e,C9 body fin s' l=some e∧Φ e:=fun s' h l hl=>by
   subst h
   obtain⟨e,he,hΦ⟩:=hF' l hl
   simp only[C9,hbx,Option.bind_some] at he
   exact⟨e,he,hΦ⟩
  have hE':∀e',.out e'=o→Φ e':=fun e' h=>by
   subst h
   obtain⟨e,he,hΦ⟩:=hF' _ (List.Perm.refl _)
   simp only[C9,hbx,Option.bind_some,Option.some.injEq] at he
   exact he▸hΦ
  have R1:Rel K (S s) a w1 p∧w1.heap=w.heap:=by rcases hw1 with rfl |rfl;exact⟨R,rfl⟩;exact⟨R.drew,rfl⟩
  obtain⟨R1,hh1⟩:=R1
  have hok1:∀k,okc K w p k→okc K w1 p k:=fun k hk=>⟨by rw[hh1];exact hk.1,hk.2⟩
  have hsee1:∀q:Addr,see w1 q=see w q:=fun q=>Aq (by rw[hh1])
  obtain⟨R2,hok2,hsee2,hne2,heq2⟩:=R1.quiet (r:=r) (by rw[hh1];exact g1) (m':=some b) (s':=since) (c':=clock) (q':=seen.push en.born) hr0
  generalize hw2:ChangeMaps.setBlock w1 r (.mapIter (some b) since (seen.push en.born) clock)=w2 at *
  have hbr:b≠r:=fun e=>by rw[e,g1] at g2;cases g2
  have hb2:w2.heap[b]? =some (.map es clock):=by rw[hne2 b hbr,hh1];exact g2
  have hM2:DD w2 (okc K w2 p) sM es clock:=g8.mono (fun q hq=>(hsee2 q).trans (hsee1 q)) (fun k hk=>hok2 k (hok1 k hk))
  have hr7:(execOp a.eval o7).run P w=.ok (.value (.tuple #[.bool true,en.key,en.val])) w2:=by simp[execOp,h7,he6,hrun]
  refine Ck hg.1 hr7 ?_
  rw[d7]
  have R7:=R2.put (d:=t7) (x:=.tup [.d (.bool true),.undef,.undef]) (v:=.tuple #[.bool true,en.key,en.val]) (.tup rfl fun i x v hx hv=>by
   match i with
   |0=>simp at hx hv;subst hx;subst hv;exact .d .bool
   |1=>simp at hx;subst hx;exact .undef
   |2=>simp at hx;subst hx;exact .undef
   |i+3=>simp at hx) nt7
  refine Ck hg.2.1 (hx8 _ w2 (.bool true) [en.key,en.val] (hput R2 nt7)) ?_
  rw[d8]
  have R8:=R7.put (d:=t8) (x:=.d (.bool true)) (v:=.bool true) (.d .bool) nt8
  generalize ha8:Act.put (Act.put a (some t7) (.tuple #[.bool true,en.key,en.val])) (some t8) (.bool true)=a8 at *
  have hv8:a8.eval (.tmp t8)=.bool true:=by
   have:=R8.opd (.tmp t8)
   have ho:opd (((S s).put t7 (.tup [.d (.bool true),.undef,.undef])).put t8 (.d (.bool true))) (.tmp t8)=.d (.bool true):=by simp[opd,St.look,St.put,get]
   rw[ho] at this
   generalize a8.eval (.tmp t8)=v at this
   cases this with |d h=>cases h;rfl
  refine wp_seq (wp_cond_split hv8 (fun _=>wp_skip ?_) fun h=>by cases h)
  have he6':a8.eval (.tmp t6)=.pointer (some ⟨r,0,none⟩):=Ou R8 (by
   simp only[St.put,get]
   rw[if_neg hne.2,if_neg hne.1]
   exact hit s)
  refine wp_block (wp_seq (wp_region_lit ?_))
  have hrE:(execOp a8.eval oE).run P w2=.ok (.value (.tuple #[en.key,en.val])) w2:=by
   have:=run_entry_at (P:=P) w2 r b since seen es clock en heq2 hb2 hmem.1 g8.nodup
   simp[execOp,hE,he6',this]
  refine Ck hg.2.2 hrE ?_
  rw[dE]
  obtain⟨hrow1,hrow2⟩:=hM2.row' k3 (by rw[← Array.getElem?_toList];exact k4)
  have R9:=R8.put (d:=t9) (x:=.tup [kA x,vA x]) (v:=.tuple #[en.key,en.val]) (.tup rfl fun i y v hy hv'=>by
   match i with
   |0=>simp at hy hv';subst hy;subst hv';exact HG (hk x) hrow1
   |1=>simp at hy hv';subst hy;subst hv';exact HG (hv x) hrow2
   |i+2=>simp at hy) (by simp only[St.put];exact nt9)
  obtain⟨K',hK',R9',back⟩:=R9.freshH hK
  have H:=round K' (fun s'=>∀l,l.Perm (m1++m2)→∃e,C9 body fin s' l=some e∧Φ e) s x o hK' hbx hG hE' _ _ _ R9'
  have okb2:okc K w2 p b:=hok2 b (hok1 b g6)
  have okr2:okc K w2 p r:=hok2 r (hok1 r g7)
  -- what a round comes to
  have next:∀(u:St) (a3:Act) (w3:World) (pu:Pl) (s':σ),Rel K' u a3 w3 pu→(∀l,l.Perm (m1++m2)→∃e,C9 body fin s' l=some e∧Φ e)→D1 u (S s')→∃n',n' < n∧∃(s:σ) (left:List α) (p:Pl),left.length=n'∧Rel K (S s) a3 w3 p∧Hc w3 (okc K w3 p) r sM (AB row left)∧∀l,l.Perm left→∃e,C9 body fin s l=some e∧Φ e:=fun u a3 w3 pu s' Ru hG' W'=>by
   obtain⟨Rk,hkeep⟩:=back _ _ _ _ Ru
   obtain⟨hb3,okb3⟩:=hkeep b okb2
   obtain⟨hr3,okr3⟩:=hkeep r okr2
   refine⟨(m1++m2).length,by rw[← hn];simp,s',m1++m2,_,rfl,Rk.weak W',hIt (hweak Rk W') ⟨b,since,clock,clock,seen.push en.born,es,by rw[hr3];exact heq2,by rw[hb3];exact hb2,by omega,g4,g5,okb3,okr3,hM2.mono (fun q hq=>Aq (hkeep _ hq).1) (fun k hk=>(hkeep k hk).2),?_⟩,hG'⟩
   rw[k2,←e1,←e4]
   unfold AB
   rw[List.map_append]
  have conv:∀(e:Exit) (a3:Act) (w3:World),Pst K' (FC id1 (Cq (fun st'=>∃s',(∀l,l.Perm (m1++m2)→∃e,C9 body fin s' l=some e∧Φ e)∧D1 st' (S s')) Q)) e a3 w3→
    Exit.inBlock id1 (Exit.then (fun a' w'=>∃n',n' < n∧∃(s:σ) (left:List α) (p:Pl),left.length=n'∧Rel K (S s) a' w' p∧Hc w' (okc K w' p) r sM (AB row left)∧∀l,l.Perm left→∃e,C9 body fin s l=some e∧Φ e) (Pst K Q)) e a3 w3:=fun e a3 w3 ⟨u,pu,Ru,q⟩=>by
   cases e with
   |normal=>obtain⟨s',hG',W'⟩:=q;exact next u a3 w3 pu s' Ru hG' W'
   |exit id'=>
    unfold FC at q
    unfold Exit.inBlock
    by_cases e:id'=id1
    ·simp only[e,if_true] at q ⊢;obtain⟨s',hG',W'⟩:=q;exact next u a3 w3 pu s' Ru hG' W'
    ·simp only[e,if_false] at q ⊢;exact⟨u,pu,(back _ _ _ _ Ru).1,q⟩
   |_=>exact⟨u,pu,(back _ _ _ _ Ru).1,q⟩
  refine Gr (fun e a3 w3 h=>?_) _ _ _ H
  obtain⟨u,pu,Ru,q⟩:=h
  cases e with
  |normal=>exact wp_mono (q a3 w3 pu Ru) conv
  |exit id'=>exact conv (.exit id') a3 w3 ⟨u,pu,Ru,q⟩
  |ret=>exact conv .ret a3 w3 ⟨u,pu,Ru,q⟩
  |goto l=>exact conv (.goto l) a3 w3 ⟨u,pu,Ru,q⟩
  |panic c=>exact conv (.panic c) a3 w3 ⟨u,pu,Ru,q⟩
  |outgrown=>exact conv .outgrown a3 w3 ⟨u,pu,Ru,q⟩
theorem Po {id:Nat} {c:Code} {r:Nat} {sM:VS} {left:List (List D)} (h:TrI P K c st r sM left (FC id Q)):TrI P K (.block id c) st r sM left Q:=fun a w p R hi hr=>
 wp_block (wp_mono (h a w p R hi hr) fun e a' w' ⟨s,p',R',q⟩=>by
  cases e with
  |exit id'=>
   unfold FC at q
   unfold Exit.inBlock
   by_cases e:id'=id
   ·simp only[e,if_true] at q ⊢;exact⟨s,p',R',q⟩
   ·simp only[e,if_false] at q ⊢;exact⟨s,p',R',q⟩
  |_=>exact⟨s,p',R',q⟩)
end
end Go.Vl
namespace Go.Vl
open Go Go.RowKit
section
variable {P:Program} {o:Oper} {ops:Array Oper} {rest:List Oper} {a:Act} {w:World} {Q:Exit→Act→World→Prop}
theorem SP {l:List Oper} {w':World} {F:Exit→Act→World→Prop} (hg:o.guard=none) (hr:(execOp a.eval o).run P w=.ok .skip w') (H:wpList P ops F l (a.put o.dst undef) w'):wpList P ops F (o::l) a w:=by
 unfold wpList
 have hw:Region.wanted o (yielded ops a.tmps)=true:=by unfold Region.wanted;rw[hg]
 rw[if_pos hw]
 left
 unfold Oper.wp
 rw[hr]
 exact H
theorem Pp (w:World) (zs cs:Array Value) (ty:TypeId):∃w4,(w.alloc (.cells zs ty)).setRow w.heap.size cs=w4∧w4.heap[w.heap.size]? =some (.cells cs ty (0,0))∧w.grownBy w4 none∧dr0 w≤dr0 w4:=by
 refine⟨_,rfl,?_,⟨?_,?_,?_,?_,fun j hj _=>?_⟩,?_⟩
 ·unfold World.setRow
  simp only[Array.getElem?_modify,heap_alloc_new,if_true]
  simp
 ·simp[World.setRow,World.alloc, -World.alloc_eq]
 ·simp[World.setRow,World.alloc, -World.alloc_eq]
 ·simp[World.setRow,World.alloc, -World.alloc_eq]
 ·simp[World.setRow,World.alloc, -World.alloc_eq]
 ·unfold World.setRow
  simp only[Array.getElem?_modify]
  rw[if_neg (by omega)]
  exact heap_alloc_old w _ hj
 ·simp[World.setRow,World.alloc, -World.alloc_eq]
end
end Go.Vl
