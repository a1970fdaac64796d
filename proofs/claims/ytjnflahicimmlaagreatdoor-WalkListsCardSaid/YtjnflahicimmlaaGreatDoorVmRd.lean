/- The value logic: ranges over maps, in whatever order. Conditions: none. -/
import Derived.Test.YtjnflahicimmlaaGreatDoorVmQq
import Derived.Maps.RangeRun
import Derived.Test.YtjnflahicimmlaaGreatDoorVmZv
set_option linter.unusedSimpArgs false
set_option linter.unusedVariables false
namespace Go.Vl
open Go Go.RowKit
section
variable {P:Program} {K:Ctx P} {st:St} {a:Act} {w:World} {p:Pl} {Q:Exit→St→Prop}
def jN (rows:List (List D)) (es:List MapEntry) (seen:Array Nat):List (List D):=((rows.zip es).filter λq=>!seen.contains q.2.born).map (·.1)
structure CD (w:World) (ok:Nat→Prop) (r:Nat) (s:VS) (left:List (List D)):Prop where
 ex:∃(b since c0 clock:Nat) (seen:Array Nat) (es:Array MapEntry),w.heap[r]? =some (.mapIter (some b) since seen c0)∧w.heap[b]? =some (.map es clock)∧since≤c0∧(∀x∈es.toList,x.born < since)∧clock=since∧
  ok b∧ok r∧jd w ok s es clock∧left=jN s.rows es.toList seen
theorem Gk (rows:List (List D)) (es:List MapEntry) (h:es.length=rows.length):jN rows es #[]=rows:=by
 unfold jN;rw[fC.2 (λq _=>by simp),List.map_fst_zip (by omega)]
theorem zu:∀(rows:List (List D)) (es:List MapEntry) (seen:Array Nat) (e:MapEntry),(es.map (·.born)).Nodup→es.length=rows.length→e∈es→seen.contains e.born=false→
  ∃(l1 l2:List (List D)) (x:List D),jN rows es seen=l1++x::l2∧jN rows es (seen.push e.born)=l1++l2∧∃j:Nat,rows[j]? =some x∧es[j]? =some e
 |[],[],_,_,_,_,h,_=>by cases h
 |[],_::_,_,_,_,h,_,_=>by simp at h
 |_::_,[],_,_,_,h,_,_=>by simp at h
 |row::rows,e0::es,seen,e,hn,hl,he,hs=>by
  rw[aW,dZ] at hn;have A9:∀sn:Array Nat,jN (row::rows) (e0::es) sn=if sn.contains e0.born=false then row::jN rows es sn else jN rows es sn:=λsn=>by
   unfold jN;rw[List.zip_cons_cons,ez];cases sn.contains e0.born <;> simp
  by_cases h0:e=e0
  ·subst h0
   have ym:jN rows es (seen.push e.born)=jN rows es seen:=by
    unfold jN
    congr 1
    refine iW λq hq=>?_
    have hm:q.2.born∈es.map (·.born):=aG.2 ⟨q.2,(List.of_mem_zip hq).2,rfl⟩;have iA:q.2.born≠e.born:=λh=>hn.1 (h▸hm)
    simp[gW,iA]
   refine⟨[],jN rows es seen,row,?_,?_,0,rfl,rfl⟩
   ·rw[A9,ai hs];rfl
   ·rw[A9,ah (by simp[gW]),ym];rfl
  ·have he':e∈es:=(aZ.1 he).resolve_left h0
   have iA:e0.born≠e.born:=λh=>hn.1 (h▸aG.2 ⟨e,he',rfl⟩)
   obtain⟨l1,l2,x,h1,h2,j,h3,h4⟩:=zu rows es seen e hn.2 (by simpa using hl) he' hs;have hc:(seen.push e.born).contains e0.born=seen.contains e0.born:=by simp[gW,iA]
   rw[A9,A9,hc,h1,h2];split
   ·exact⟨row::l1,l2,x,rfl,rfl,j+1,by simpa using h3,by simpa using h4⟩
   ·exact⟨l1,l2,x,rfl,rfl,j+1,by simpa using h3,by simpa using h4⟩
theorem Is {rows:List (List D)} {es:Array MapEntry} {seen:Array Nat} (h:(leftOf es seen).size=0):jN rows es.toList seen=[]:=by
 unfold jN;rw[List.map_eq_nil_iff,oz];intro q hq;have hm:q.2∈es.toList:=(List.of_mem_zip hq).2;have h0:leftOf es seen= #[]:=jt h;unfold leftOf at h0;rw[mg] at h0;have:=h0 q.2 (by simpa using hm);simpa using this
theorem qK.obj {w:World} {ok:Nat→Prop} {s:VS} {v:Value} (h:qK w ok s v) {g:Nat} (hg:v.fN=some g) {m:Option Nat} {s' c':Nat} {q':Array Nat}:w.heap[g]?≠some (.mapIter m s' q' c'):=by
 cases hM:s.rC with
 |true=>
  obtain⟨b,es,clock,rfl,h1,_⟩:=h.map hM;cases hg;rw[h1];intro e;cases e
 |false=>
  obtain⟨xs,h1,_⟩:=h.row hM;rcases h1.2 with ⟨rfl,_⟩ |⟨g',cap,cur,rfl,_,hh,_⟩
  ·cases hg
  ·cases hg
   rw[hh];intro e;cases e
theorem Rel.quiet (R:Rel K st a w p) {r:Nat} {m:Option Nat} {s0 c0:Nat} {q0:Array Nat} (hr:w.heap[r]? =some (.mapIter m s0 q0 c0)) {m':Option Nat} {s' c':Nat} {q':Array Nat} (hr0:K.w0.heap.size≤r):
  Rel K st a (ChangeMaps.setBlock w r (.mapIter m' s' q' c')) p∧(∀b,dx K w p b→dx K (ChangeMaps.setBlock w r (.mapIter m' s' q' c')) p b)∧(∀q:Addr,si (ChangeMaps.setBlock w r (.mapIter m' s' q' c')) q=si w q)∧
   (∀b,b≠r→(ChangeMaps.setBlock w r (.mapIter m' s' q' c')).heap[b]? =w.heap[b]?)∧(ChangeMaps.setBlock w r (.mapIter m' s' q' c')).heap[r]? =some (.mapIter m' s' q' c'):=by
 have iN:r < w.heap.size:=(aL.1 hr).1;have iA:∀b,b≠r→(ChangeMaps.setBlock w r (.mapIter m' s' q' c')).heap[b]? =w.heap[b]? :=λb hb=>by
  unfold ChangeMaps.setBlock;simp[eK,eN hb]
 have heq:(ChangeMaps.setBlock w r (.mapIter m' s' q' c')).heap[r]? =some (.mapIter m' s' q' c'):=by
  unfold ChangeMaps.setBlock;simp[eK,iN]
 have sW:∀q:Addr,si (ChangeMaps.setBlock w r (.mapIter m' s' q' c')) q=si w q:=λq=>by
  by_cases hq:q.block=r
  ·unfold si Kk World.cell?
   rw[hq,heq,hr]
  ·exact cT (iA _ hq)
 have gS:(ChangeMaps.setBlock w r (.mapIter m' s' q' c')).heap.size=w.heap.size:=by unfold ChangeMaps.setBlock;simp
 have gD:∀b,dx K w p b→dx K (ChangeMaps.setBlock w r (.mapIter m' s' q' c')) p b:=λb h=>xZ (Nat.le_of_eq gS.symm) h
 refine⟨R.evo ⟨Nat.le_of_eq gS.symm,rfl,rfl,rfl,λb h1 _=>iA b (by omega),λq _=>sW q,gD,λ_ _ h=>⟨h,rfl⟩,λ_ _ h=>⟨h,rfl⟩,aM _⟩ (λn hn=>iA _ λe=>?_) (λn g hn hg=>iA _ λe=>?_),gD,sW,iA,heq⟩
 ·obtain⟨cs,je⟩:=aY.1 ((R.vg n).1 hn)
  obtain⟨vs,ty,h1,_⟩:=(R.box n cs je).at_;rw[e,hr] at h1;cases h1
 ·obtain⟨sv,hs⟩:=aY.1 ((R.sT n).1 hn)
  exact(R.vec n sv hs).at_.obj hg (e▸hr)
theorem jw {ops:Array Oper} {o:Oper} {l:List Oper} {v:Value} {w':World} {F:Exit→Act→World→Prop} (hg:o.guard=none) (hr:(execOp a.eval o).run P w=.ok (.value v) w') (H:wpList P ops F l (a.put o.dst v) w'):wpList P ops F (o::l) a w:=by
 unfold wpList;have hw:Region.wanted o (yielded ops a.tmps)=true:=by unfold Region.wanted;rw[hg]
 rw[ai hw]
 left
 unfold Oper.wp;rw[hr];exact H
def TrI (P:Program) (K:Ctx P) (c:Code) (st:St) (r:Nat) (s:VS) (left:List (List D)) (Q:Exit→St→Prop):Prop:=∀a w p,Rel K st a w p→CD w (dx K w p) r s left→K.w0.heap.size≤r→c.wp P (FZ K Q) a w
theorem DI {r t:Nat} {p:Pl} (R:Rel K st a w p) (h:get st.env t=some (.iter r)):a.eval (.tmp t)=.pointer (some ⟨r,0,none⟩):=by
 have:=R.env t _ h;show a.tmps.getD t undef=_;generalize a.tmps.getD t undef=v at this;cases this;rfl
theorem xE {ops:Array Oper} {F G:Exit→Act→World→Prop} (hq:∀e a w,F e a w→G e a w):∀(l:List Oper) (a:Act) (w:World),wpList P ops F l a w→wpList P ops G l a w:=by
 intro l
 induction l with
 |nil=>exact λa w h=>hq _ _ _ h
 |cons o l ih=>
  intro a w hh;unfold wpList at hh ⊢;split
  ·rename_i hw
   rw[ai hw] at hh;rcases hh with hh |⟨h1,a0,w0,q⟩
   ·left
    unfold Oper.wp at hh ⊢;generalize (execOp a.eval o).run P w=r at hh ⊢;cases r with
    |ok n w'=>
     cases n <;> simp only[Oper.upon] at hh ⊢
     case value v=>exact ih _ _ hh
     case skip=>exact ih _ _ hh
     case defer d=>exact ih _ _ hh
     case enter f args=>
      refine qE hh λe F3 he=>?_
      cases e with
      |returned v=>exact ih _ _ he
      |panicked c=>exact hq _ _ _ he
      |outgrown=>obtain⟨a0,w0,q⟩:=he;exact⟨a0,w0,hq _ _ _ q⟩
     case row row args=>exact Rows.mono hh λv F3 he=>ih _ _ he
    |halt x w'=>
     cases x <;> simp only[Oper.upon] at hh ⊢
     case panic v=>exact hq _ _ _ hh
   ·exact .inr ⟨h1,a0,w0,hq _ _ _ q⟩
  ·rename_i hw
   rw[ah hw] at hh;exact ih _ _ hh
def sK {α σ ε:Type} (body:σ→α→Option (Lp σ ε)) (fin:σ→ε):σ→List α→Option ε
 |s,[]=>some (fin s)
 |s,x::l=>(body s x).bind λo=>match o with | .go s'=>sK body fin s' l | .out e=>some e
attribute [local irreducible] VS.kz VS.va VS.ka
theorem Q3 {α σ ε:Type} {i3 i4 W8 W7:Nat} {o7 o8 oE:Oper} {l4:List Oper} {cB:Code} {t6 t7 t8 t9 r:Nat} {sM:VS} {row:α→List D} {kA vA:α→AV} {S:σ→St} {body:σ→α→Option (Lp σ ε)} {fin:σ→ε} {s0:σ} {left0:List α} {Φ:ε→Prop}
  (hK:K.lx=[]) (hg:o7.guard=none∧o8.guard=none∧oE.guard=none) (h7:o7.op=.next (.tmp t6) false) (d7:o7.dst=some t7) (h8:o8.op=.extract (.tmp t7) 0) (d8:o8.dst=some t8) (hE:oE.op=.entry (.tmp t6)) (dE:oE.dst=some t9)
  (iA:t7≠t6∧t8≠t6) (zX:∀s,t7 < (S s).nt∧t8 < (S s).nt∧t9 < (S s).nt) (Hw:∀s,get (S s).env t6=some (.iter r))
  (hk:∀x,ml sM.ka ((row x).take sM.kz)=some (kA x)) (hv:∀x,ml sM.va ((row x).drop sM.kz)=some (vA x))
  (hI:∀l,l.Perm left0→∃e,sK body fin s0 l=some e∧Φ e) (W:lZ st (S s0))
  (round:∀(K':Ctx P) (G:σ→Prop) (s:σ) (x:α) (o:Lp σ ε),K'.lx=[]→body s x=some o→(∀s',.go s'=o→G s')→(∀e',.out e'=o→Φ e')→
   fc P K' (oE::l4).toArray l4 ((((S s).put t7 (.ia [.d (.bool true),.undef,.undef])).put t8 (.d (.bool true))).put t9 (.ia [kA x,vA x])) (sF (λu=>Tr P K' cB u (yz W7 (sF (λcM=>∃s',G s'∧lZ cM (S s')) Q))) (yz W7 (sF (λcM=>∃s',G s'∧lZ cM (S s')) Q))))
  (Ac:∀s,Φ (fin s)→Q (.exit W8) (((S s).put t7 (.ia [.d (.bool false)])).put t8 (.d (.bool false)))):
  TrI P K (.loop (.seq (.region i3 #[o7,o8] false) (.seq (.cond (.tmp t8) .skip (.exit W8)) (.block W7 (.seq (.region i4 (oE::l4).toArray false) cB))))) st r sM (ak row left0) Q:=by
 intro a w p R agb hr0;have hIt:∀{w:World} {p p':Pl} {left:List (List D)},(∀b,dx K w p b→dx K w p' b)→CD w (dx K w p) r sM left→CD w (dx K w p') r sM left:=λho h=>by
  obtain⟨b,since,c0,clock,seen,es,g1,g2,g3,g4,g5,g6,g7,g8,g9⟩:=h;exact⟨b,since,c0,clock,seen,es,g1,g2,g3,g4,g5,ho b g6,ho r g7,g8.mono (λ_ _=>rfl) ho,g9⟩
 have Xb:∀{s s':St} {w:World} {p:Pl} {a:Act},Rel K s a w p→lZ s s'→∀b,dx K w p b→dx K w ⟨p.bx,p.rw,λn=>s'.lb n=true,λn=>s'.lv n=true⟩ b:=λ{s s' w p a} R W b h=>by
  refine⟨h.1,h.2.1,λn hn=>h.2.2.1 n ?_,λn hn=>h.2.2.2 n ?_⟩
  ·obtain⟨cs',Cl⟩:=aY.1 hn
   obtain⟨cs,je,_⟩:=mQ W.box Cl;exact(R.vg n).2 (by simp[St.lb,je])
  ·obtain⟨q,hq⟩:=aY.1 hn
   exact(R.sT n).2 (by simp[St.lv,mP W.vec hq])
 refine gG (λn a w=>∃(s:σ) (left:List α) (p:Pl),left.length=n∧Rel K (S s) a w p∧CD w (dx K w p) r sM (ak row left)∧∀l,l.Perm left→∃e,sK body fin s l=some e∧Φ e) left0.length ⟨s0,left0,_,rfl,R.qR W,hIt (Xb R W) agb,hI⟩ λn a w ⟨s,left,p,hn,R,aga,hF⟩=>?_
 obtain⟨b,since,c0,clock,seen,es,g1,g2,g3,g4,g5,g6,g7,g8,g9⟩:=aga;obtain⟨nt7,nt8,nt9⟩:=zX s;have PQ:a.eval (.tmp t6)=.pointer (some ⟨r,0,none⟩):=DI R (Hw s);refine eU (eW (l:=[o7,o8]) ?_)
 -- aaI 'extract' aew
 have hx8:∀(a':Act) (w':World) (v:Value) (cs:List Value),a'.eval (.tmp t7)=.tuple (v::cs).toArray→(execOp a'.eval o8).run P w'=.ok (.value v) w':=λa' w' v cs h=>by
  simp[execOp,h8,h,Instr.extract]
 have Dv:∀{cM:St} {w':World} {p':Pl} {v:Value},Rel K cM a w' p'→t7 < cM.nt→(a.put (some t7) v).eval (.tmp t7)=v:=λ{cM w' p' v} R' h7=>by
  have:t7 < a.tmps.size:=by rw[R'.nt];exact h7
  simp[Act.put,Act.eval,this]
 rcases run_next_at (P:=P) w o7.type r b since c0 seen es clock g1 g2 g4 g3 with ⟨hz,gT⟩ |⟨en,qw,w1,xf,gT⟩
 ·-- nothing is left
  have hr7:(execOp a.eval o7).run P w=.ok (.value (.tuple #[.bool false])) w:=by simp[execOp,h7,PQ,gT]
  refine jw hg.1 hr7 ?_;rw[d7];have R7:=R.put (d:=t7) (x:=.ia [.d (.bool false)]) (v:=.tuple #[.bool false]) (.ia rfl λi x v hx hv=>by
   cases i with
   |zero=>simp at hx hv;subst hx;subst hv;exact .d .bool
   |succ i=>simp at hx) nt7
  refine jw hg.2.1 (hx8 _ w (.bool false) [] (Dv R nt7)) ?_;rw[d8];have R8:=R7.put (d:=t8) (x:=.d (.bool false)) (v:=.bool false) (.d .bool) nt8;have uN:left=[]:=by
   rw[Is hz] at g9;unfold ak at g9;exact List.map_eq_nil_iff.1 g9
  subst uN;obtain⟨e,he,hΦ⟩:=hF [] (ti _);simp only[sK,ba] at he;subst he;have hv8:(Act.put (Act.put a (some t7) (.tuple #[.bool false])) (some t8) (.bool false)).eval (.tmp t8)=.bool false:=by
   have:=R8.ca (.tmp t8);have ho:ca (((S s).put t7 (.ia [.d (.bool false)])).put t8 (.d (.bool false))) (.tmp t8)=.d (.bool false):=by simp[ca,St.look,St.put,get]
   rw[ho] at this;generalize (Act.put (Act.put a (some t7) (.tuple #[.bool false])) (some t8) (.bool false)).eval (.tmp t8)=v at this;cases this with |d h=>cases h;rfl
  refine eU (dz hv8 (λh=>by cases h) λ_=>qQ ?_);exact⟨_,p,R8,Ac s hΦ⟩
 ·-- an entry comes
  have rX:en∈es.toList∧seen.contains en.born=false:=by
   unfold leftOf at qw;simp only[Array.toList_filter,bP,dF] at qw;exact qw
  obtain⟨l1,l2,x0,k1,k2,j,k3,k4⟩:=zu sM.rows es.toList seen en g8.nodup g8.key.1 rX.1 rX.2;rw[k1] at g9;unfold ak at g9;obtain⟨m1,m2',rfl,e1,e2⟩:=List.map_eq_append_iff.1 g9;obtain⟨x,m2,rfl,e3,e4⟩:=List.map_eq_cons_iff.1 e2;subst e3;have hF':∀l,l.Perm (m1++m2)→∃e,sK body fin s (x::l)=some e∧Φ e:=λl hl=>hF (x::l) ((hl.cons x).trans nj.symm)
  have Jl:∃o,body s x=some o:=by
   obtain⟨e,he,_⟩:=hF' _ (ti _);simp only[sK] at he;cases sX:body s x with
   |none=>rw[sX] at he;cases he
   |some o=>exact⟨o,rfl⟩
  obtain⟨o,sX⟩:=Jl;have hG:∀s',.go s'=o→∀l,l.Perm (m1++m2)→∃e,sK body fin s' l=some e∧Φ e:=λs' h l hl=>by
   subst h;obtain⟨e,he,hΦ⟩:=hF' l hl;simp only[sK,sX,aa] at he;exact⟨e,he,hΦ⟩
  have hE':∀e',.out e'=o→Φ e':=λe' h=>by
   subst h;obtain⟨e,he,hΦ⟩:=hF' _ (ti _);simp only[sK,sX,aa,ba] at he;exact he▸hΦ
  have R1:Rel K (S s) a w1 p∧w1.heap=w.heap:=by rcases xf with rfl |rfl;exact⟨R,rfl⟩;exact⟨R.drew,rfl⟩
  obtain⟨R1,Tb⟩:=R1;have IG:∀k,dx K w p k→dx K w1 p k:=λk hk=>⟨by rw[Tb];exact hk.1,hk.2⟩
  have SI:∀q:Addr,si w1 q=si w q:=λq=>cT (by rw[Tb])
  obtain⟨R2,xp,Ht,Bd,MP⟩:=R1.quiet (r:=r) (by rw[Tb];exact g1) (m':=some b) (s':=since) (c':=clock) (q':=seen.push en.born) hr0;generalize PD:ChangeMaps.setBlock w1 r (.mapIter (some b) since (seen.push en.born) clock)=w2 at *;have BG:b≠r:=λe=>by rw[e,g1] at g2;cases g2
  have pO:w2.heap[b]? =some (.map es clock):=by rw[Bd b BG,Tb];exact g2
  have hM2:jd w2 (dx K w2 p) sM es clock:=g8.mono (λq hq=>(Ht q).trans (SI q)) (λk hk=>xp k (IG k hk));have hr7:(execOp a.eval o7).run P w=.ok (.value (.tuple #[.bool true,en.key,en.val])) w2:=by simp[execOp,h7,PQ,gT]
  refine jw hg.1 hr7 ?_;rw[d7];have R7:=R2.put (d:=t7) (x:=.ia [.d (.bool true),.undef,.undef]) (v:=.tuple #[.bool true,en.key,en.val]) (.ia rfl λi x v hx hv=>by
   match i with
   |0=>simp at hx hv;subst hx;subst hv;exact .d .bool
   |1=>simp at hx;subst hx;exact .undef
   |2=>simp at hx;subst hx;exact .undef
   |i+3=>simp at hx) nt7
  refine jw hg.2.1 (hx8 _ w2 (.bool true) [en.key,en.val] (Dv R2 nt7)) ?_;rw[d8];have R8:=R7.put (d:=t8) (x:=.d (.bool true)) (v:=.bool true) (.d .bool) nt8;generalize ha8:Act.put (Act.put a (some t7) (.tuple #[.bool true,en.key,en.val])) (some t8) (.bool true)=a8 at *;have hv8:a8.eval (.tmp t8)=.bool true:=by
   have:=R8.ca (.tmp t8);have ho:ca (((S s).put t7 (.ia [.d (.bool true),.undef,.undef])).put t8 (.d (.bool true))) (.tmp t8)=.d (.bool true):=by simp[ca,St.look,St.put,get]
   rw[ho] at this;generalize a8.eval (.tmp t8)=v at this;cases this with |d h=>cases h;rfl
  refine eU (dz hv8 (λ_=>oJ ?_) λh=>by cases h);have agm:a8.eval (.tmp t6)=.pointer (some ⟨r,0,none⟩):=DI R8 (by
   simp only[St.put,get];rw[ah iA.2,ah iA.1];exact Hw s)
  refine gn (eU (eW ?_));have hrE:(execOp a8.eval oE).run P w2=.ok (.value (.tuple #[en.key,en.val])) w2:=by
   have:=run_entry_at (P:=P) w2 r b since seen es clock en MP pO rX.1 g8.nodup;simp[execOp,hE,agm,this]
  refine jw hg.2.2 hrE ?_;rw[dE];obtain⟨ab8,SK⟩:=hM2.zd k3 (by rw[← bo];exact k4);have R9:=R8.put (d:=t9) (x:=.ia [kA x,vA x]) (v:=.tuple #[en.key,en.val]) (.ia rfl λi y v hy lE=>by
   match i with
   |0=>simp at hy lE;subst hy;subst lE;exact qX (hk x) ab8
   |1=>simp at hy lE;subst hy;subst lE;exact qX (hv x) SK
   |i+2=>simp at hy) (by simp only[St.put];exact nt9)
  obtain⟨K',Qz,R9',back⟩:=R9.Cn hK;have H:=round K' (λs'=>∀l,l.Perm (m1++m2)→∃e,sK body fin s' l=some e∧Φ e) s x o Qz sX hG hE' _ _ _ R9';have aeT:dx K w2 p b:=xp b (IG b g6);have Ph:dx K w2 p r:=xp r (IG r g7)
  -- aaI a round comes to
  have next:∀(u:St) (a3:Act) (w3:World) (pu:Pl) (s':σ),Rel K' u a3 w3 pu→(∀l,l.Perm (m1++m2)→∃e,sK body fin s' l=some e∧Φ e)→lZ u (S s')→∃n',n' < n∧∃(s:σ) (left:List α) (p:Pl),left.length=n'∧Rel K (S s) a3 w3 p∧CD w3 (dx K w3 p) r sM (ak row left)∧∀l,l.Perm left→∃e,sK body fin s l=some e∧Φ e:=λu a3 w3 pu s' Ru hG' W'=>by
   obtain⟨Rk,Oe⟩:=back _ _ _ _ Ru;obtain⟨FX,aeS⟩:=Oe b aeT;obtain⟨Ji,aeR⟩:=Oe r Ph;refine⟨(m1++m2).length,by rw[← hn];simp,s',m1++m2,_,rfl,Rk.qR W',hIt (Xb Rk W') ⟨b,since,clock,clock,seen.push en.born,es,by rw[Ji];exact MP,by rw[FX];exact pO,by omega,g4,g5,aeS,aeR,hM2.mono (λq hq=>cT (Oe _ hq).1) (λk hk=>(Oe k hk).2),?_⟩,hG'⟩;rw[k2,←e1,←e4];unfold ak;rw[bV]
  have conv:∀(e:Exit) (a3:Act) (w3:World),FZ K' (yz W7 (sF (λcM=>∃s',(∀l,l.Perm (m1++m2)→∃e,sK body fin s' l=some e∧Φ e)∧lZ cM (S s')) Q)) e a3 w3→
    Exit.inBlock W7 (Exit.then (λa' w'=>∃n',n' < n∧∃(s:σ) (left:List α) (p:Pl),left.length=n'∧Rel K (S s) a' w' p∧CD w' (dx K w' p) r sM (ak row left)∧∀l,l.Perm left→∃e,sK body fin s l=some e∧Φ e) (FZ K Q)) e a3 w3:=λe a3 w3 ⟨u,pu,Ru,q⟩=>by
   cases e with
   |normal=>obtain⟨s',hG',W'⟩:=q;exact next u a3 w3 pu s' Ru hG' W'
   |exit Uj=>
    unfold yz at q;unfold Exit.inBlock;by_cases e:Uj=W7
    ·simp only[e,eM] at q ⊢;obtain⟨s',hG',W'⟩:=q;exact next u a3 w3 pu s' Ru hG' W'
    ·simp only[e,cS] at q ⊢;exact⟨u,pu,(back _ _ _ _ Ru).1,q⟩
   |_=>exact⟨u,pu,(back _ _ _ _ Ru).1,q⟩
  refine xE (λe a3 w3 h=>?_) _ _ _ H;obtain⟨u,pu,Ru,q⟩:=h;cases e with
  |normal=>exact hU (q a3 w3 pu Ru) conv
  |exit Uj=>exact conv (.exit Uj) a3 w3 ⟨u,pu,Ru,q⟩
  |ret=>exact conv .ret a3 w3 ⟨u,pu,Ru,q⟩
  |goto l=>exact conv (.goto l) a3 w3 ⟨u,pu,Ru,q⟩
  |panic c=>exact conv (.panic c) a3 w3 ⟨u,pu,Ru,q⟩
  |outgrown=>exact conv .outgrown a3 w3 ⟨u,pu,Ru,q⟩
theorem OS {id:Nat} {c:Code} {r:Nat} {sM:VS} {left:List (List D)} (h:TrI P K c st r sM left (yz id Q)):TrI P K (.block id c) st r sM left Q:=λa w p R hi hr=>
 gn (hU (h a w p R hi hr) λe a' w' ⟨s,p',R',q⟩=>by
  cases e with
  |exit Uj=>
   unfold yz at q;unfold Exit.inBlock;by_cases e:Uj=id
   ·simp only[e,eM] at q ⊢;exact⟨s,p',R',q⟩
   ·simp only[e,cS] at q ⊢;exact⟨s,p',R',q⟩
  |_=>exact⟨s,p',R',q⟩)
end
end Go.Vl
namespace Go.Vl
open Go Go.RowKit
section
variable {P:Program} {o:Oper} {ops:Array Oper} {rest:List Oper} {a:Act} {w:World} {Q:Exit→Act→World→Prop}
theorem Js (hg:o.guard=none) (m:Operand) (t:TypeId) (sB:o.op=Op.range t m) (k e:TypeId) (ht:P.underlying t=some (.map k e)) (b:Nat) (es:Array MapEntry) (clock:Nat)
  (hm:a.eval m=.map (some b)) (hb:w.heap[b]? =some (.map es clock)) (hK:wpList P ops Q rest (a.put o.dst (.pointer (some ⟨w.heap.size,0,none⟩))) (w.alloc (.mapIter (some b) clock #[] clock))):wpList P ops Q (o::rest) a w:=
 jw hg (by simp[execOp,sB,hm,run_range_map (P:=P) w t k e b es clock ht hb]) hK
theorem Nq (hg:o.guard=none) (it:Operand) (sB:o.op=Op.next it false) (r b since c0:Nat) (seen:Array Nat) (es:Array MapEntry) (clock:Nat) (Hw:a.eval it=.pointer (some ⟨r,0,none⟩))
  (hr:w.heap[r]? =some (.mapIter (some b) since seen c0)) (hb:w.heap[b]? =some (.map es clock)) (hold:∀x∈es.toList,x.born < since) (hsc:since≤c0)
  (h0:(leftOf es seen).size=0→wpList P ops Q rest (a.put o.dst (.tuple #[.bool false])) w)
  (h1:∀(en:MapEntry) (w1:World),en∈es.toList→seen.contains en.born=false→(w1=w∨w1=w.drew)→wpList P ops Q rest (a.put o.dst (.tuple #[.bool true,en.key,en.val])) (ChangeMaps.setBlock w1 r (.mapIter (some b) since (seen.push en.born) clock))):
  wpList P ops Q (o::rest) a w:=by
 rcases run_next_at (P:=P) w o.type r b since c0 seen es clock hr hb hold hsc with ⟨hz,gT⟩ |⟨en,qw,w1,xf,gT⟩
 ·exact jw hg (by simp[execOp,sB,Hw,gT]) (h0 hz)
 ·have rX:en∈es.toList∧seen.contains en.born=false:=by
   unfold leftOf at qw;simp only[Array.toList_filter,bP,dF] at qw;exact qw
  exact jw hg (by simp[execOp,sB,Hw,gT]) (h1 en w1 rX.1 rX.2 xf)
theorem QQ (hg:o.guard=none) (it:Operand) (sB:o.op=Op.entry it) (r b since clock:Nat) (seen:Array Nat) (es:Array MapEntry) (en:MapEntry) (Hw:a.eval it=.pointer (some ⟨r,0,none⟩))
  (hr:w.heap[r]? =some (.mapIter (some b) since (seen.push en.born) clock)) (hb:w.heap[b]? =some (.map es clock)) (qw:en∈es.toList) (hn:(es.toList.map (·.born)).Nodup)
  (hK:wpList P ops Q rest (a.put o.dst (.tuple #[en.key,en.val])) w):wpList P ops Q (o::rest) a w:=
 jw hg (by simp[execOp,sB,Hw,run_entry_at (P:=P) w r b since seen es clock en hr hb qw hn]) hK
theorem OP (hg:o.guard=none) (m k:Operand) (t tk kt et:TypeId) (sB:o.op=.call { callee:=.builtin .delete,args:=#[m,k],argTypes:=#[t,tk]}) (hd:o.dst=none) (ht:P.underlying t=some (.map kt et)) (hkt:P.underlying kt=some (.int .i64))
  {ok:Nat→Prop} {s:VS} {ν:Type} {F:ν→List D} {l:List (Int×ν)} (hka:s.ka=false) (Jj:s.kz=1) (hs:s.rows=ak (bB (aH .i64) F) l) (b:Nat) (es:Array MapEntry) (clock:Nat) (hM:jd w ok s es clock) (x:Int) (i:Nat) (q:ν)
  (hm:a.eval m=.map (some b)) (hk:a.eval k=.int .i64 x) (hb:w.heap[b]? =some (.map es clock)) (hf:eJ cK x l=some (i,q))
  (hK:wpList P ops Q rest (a.put none (.tuple #[])) { w with heap:=w.heap.setIfInBounds b (.map (es.eraseIdxIfInBounds i) clock)}):wpList P ops Q (o::rest) a w:=by
 have hr:RA w ok ⟨λ_=>0,λ_=>undef,λ_=>False,λ_=>False⟩ (.d (.int .i64 x)) (a.eval k):=by rw[hk];exact .d .int
 have sC:=A7 hkt x;have tv:=mj sC hr es.isEmpty;have hfm:lW P kt s.ka s.kz (.d (.int .i64 x)) s.rows=some (some (i,F q)):=by rw[hka,Jj,hs,yV hkt,hf];rfl
 obtain⟨r,f1,f2⟩:=lk (by rw[hka];exact sC) hr hM.key.1 hM.key.2 hfm;obtain⟨e,row,g1,g2,g3,g4,g5⟩:=f2;subst g5;refine jw hg (v:=.tuple #[]) (w':={ w with heap:=w.heap.setIfInBounds b (.map (es.eraseIdxIfInBounds i) clock)}) ?_ (by rw[hd];exact hK);rw[hk] at tv f1;have gT:(Builtin.delete_ #[t,tk] o.type #[.map (some b),.int .i64 x]).run P w=.ok (.tuple #[]) { w with heap:=w.heap.setIfInBounds b (.map (es.eraseIdxIfInBounds i) clock)}:=by
  simp[Builtin.delete_,aJ ht,Result.andThen,cI hb,tv,f1,gQ _ hb]
 simp[execOp,sB,resolve,invoke,builtin,hm,hk,gT]
theorem D9 {l:List Oper} {w':World} {F:Exit→Act→World→Prop} (hg:o.guard=none) (hr:(execOp a.eval o).run P w=.ok .skip w') (H:wpList P ops F l (a.put o.dst undef) w'):wpList P ops F (o::l) a w:=by
 unfold wpList;have hw:Region.wanted o (yielded ops a.tmps)=true:=by unfold Region.wanted;rw[hg]
 rw[ai hw]
 left
 unfold Oper.wp;rw[hr];exact H
theorem QO (hg:o.guard=none) (t:TypeId) (x y:Operand) (sB:o.op=.store t x y) (hd:o.dst=none) (g:Nat) (cur cs:Array Value) (ty:TypeId) (hx:a.eval x=.pointer (some ⟨g,0,none⟩)) (hy:a.eval y=.agg cs) (gS:fh P t=some cs.size)
  (hw:w.heap[g]? =some (.cells cur ty (0,0))) (hl:cur.size=cs.size) (h1:∀v∈cs.toList,v.oneCell'=true) (hK:wpList P ops Q rest (a.put none undef) (w.setRow g cs)):wpList P ops Q (o::rest) a w:=by
 have sV:=mS P g 0 ty cs.toList 0 cur w hw (by simp;omega) h1;have he:(cur.toList.take (0+0)++cs.toList++cur.toList.drop (0+0+cs.toList.length)).toArray=cs:=by
  rw[cx (by simp;omega)];simp
 rw[he] at sV;refine D9 hg (w':=w.setRow g cs) ?_ (by rw[hd];exact hK);simp only[execOp,sB,hx,hy,Instr.storeAt,Instr.sureAddr,bk,cV,aU,storeVar,eO gS,Value.cells,ne_eq,mC,cS,mU,sV]
theorem UI (hg:o.guard=none) (t:TypeId) (x:Operand) (sB:o.op=.load t x) (g:Nat) (cs:Array Value) (ty:TypeId) (fz:Nat×Nat) (hx:a.eval x=.pointer (some ⟨g,0,none⟩)) (hu:(P.underlying t).isSome=true) (XF:gO P t=true) (gS:fh P t=some cs.size)
  (hw:w.heap[g]? =some (.cells cs ty fz)) (hK:wpList P ops Q rest (a.put o.dst (.agg cs)) w):wpList P ops Q (o::rest) a w:=by
 refine jw hg (v:=.agg cs) (w':=w) ?_ hK;have hc:∀j,j < cs.size→w.cell? ((⟨g,0,none⟩:Addr).add j)=some (cs.getD j undef):=λj hj=>by
  rw[ix];simp[World.cell?,hw,hj]
 have hr:=run_loadCells (P:=P) w ⟨g,0,none⟩ cs.size (λj=>cs.getD j undef) hc;have he:((List.range cs.size).map λj=>cs.getD j undef).toArray=cs:=by
  refine sw (by simp) λi h1 h2=>?_
  simp[h2]
 rw[he] at hr;simp only[execOp,sB,hx,Instr.loadAt,Instr.sureAddr,bk,cV,aU,loadVar,pr hu,XF,eM,eO gS,Result.andThen,hr]
theorem Qm (w:World) (zs cs:Array Value) (ty:TypeId):∃w4,(w.alloc (.cells zs ty)).setRow w.heap.size cs=w4∧w4.heap[w.heap.size]? =some (.cells cs ty (0,0))∧w.grownBy w4 none∧vV w≤vV w4:=by
 refine⟨_,rfl,?_,⟨?_,?_,?_,?_,λj hj _=>?_⟩,?_⟩
 ·unfold World.setRow
  simp only[dJ,gE,eM];simp
 ·simp[World.setRow,World.alloc, -World.alloc_eq]
 ·simp[World.setRow,World.alloc, -World.alloc_eq]
 ·simp[World.setRow,World.alloc, -World.alloc_eq]
 ·simp[World.setRow,World.alloc, -World.alloc_eq]
 ·unfold World.setRow
  simp only[dJ];rw[ah (by omega)];exact mc w _ hj
 ·simp[World.setRow,World.alloc, -World.alloc_eq]
theorem PA {w wr w1:World} {r b:Nat} {m0:Option Nat} {s0 c0 clock:Nat} {q0:Array Nat} {es:Array MapEntry} (hr:wr.heap[r]? =some (.mapIter m0 s0 q0 c0)) (hb:wr.heap[b]? =some (.map es clock)) (xf:w1=wr∨w1=wr.drew) (hg:w.grownBy wr (some b)) (hd:vV w≤vV wr) (A':w.heap.size≤r)
  (m1:Option Nat) (s1 c1:Nat) (q1:Array Nat):∃w2,ChangeMaps.setBlock w1 r (.mapIter m1 s1 q1 c1)=w2∧w2.heap[r]? =some (.mapIter m1 s1 q1 c1)∧w2.heap[b]? =some (.map es clock)∧w.grownBy w2 (some b)∧vV w≤vV w2:=by
 have iN:r < wr.heap.size:=(aL.1 hr).1;have BG:b≠r:=λe=>by rw[e,hr] at hb;cases hb
 have h1:w1.heap=wr.heap∧w1.os=wr.os∧w1.tape=wr.tape∧w1.output=wr.output∧vV wr≤vV w1:=by
  rcases xf with rfl |rfl
  ·exact⟨rfl,rfl,rfl,rfl,aM _⟩
  ·exact⟨rfl,rfl,rfl,rfl,aM _⟩
 obtain⟨e1,e2,e3,e4,e5⟩:=h1;obtain⟨g1,g2,g3,g4,g5⟩:=hg;have iA:∀k,k≠r→(ChangeMaps.setBlock w1 r (.mapIter m1 s1 q1 c1)).heap[k]? =wr.heap[k]? :=λk hk=>by
  unfold ChangeMaps.setBlock;simp[eK,eN hk,e1]
 refine⟨_,rfl,?_,(iA b BG).trans hb,⟨?_,?_,?_,?_,λk hk sC=>(iA k (by omega)).trans (g5 k hk sC)⟩,?_⟩
 ·unfold ChangeMaps.setBlock
  simp[eK,e1,iN]
 ·unfold ChangeMaps.setBlock;first |exact e2.trans g1 |exact e3.trans g1 |exact e4.trans g1
 ·unfold ChangeMaps.setBlock;first |exact e2.trans g2 |exact e3.trans g2 |exact e4.trans g2
 ·unfold ChangeMaps.setBlock;first |exact e2.trans g3 |exact e3.trans g3 |exact e4.trans g3
 ·unfold ChangeMaps.setBlock;simp[e1];exact g4
 ·unfold ChangeMaps.setBlock;exact bO hd e5
def Kn (w:World) (b r:Nat):Nat:=match w.heap[r]?,w.heap[b]? with
 |some (.mapIter _ _ seen _),some (.map es _)=>(es.toList.filter λe=>!seen.contains e.born).length
 |_,_=>0
theorem tR {w:World} {b r:Nat} {m:Option Nat} {s c clock:Nat} {seen:Array Nat} {es:Array MapEntry} (hr:w.heap[r]? =some (.mapIter m s seen c)) (hb:w.heap[b]? =some (.map es clock)):Kn w b r=(es.toList.filter λe=>!seen.contains e.born).length:=by
 unfold Kn;rw[hr,hb]
theorem vI {l:List MapEntry} {seen:Array Nat} {en:MapEntry} (h1:en∈l) (h2:seen.contains en.born=false):(l.filter λe=>!(seen.push en.born).contains e.born).length < (l.filter λe=>!seen.contains e.born).length:=by
 have e:(l.filter λe=>!(seen.push en.born).contains e.born)=(l.filter λe=>!seen.contains e.born).filter λe=>!(e.born==en.born):=by
  rw[ow];refine iW λx _=>?_
  rw[gW];cases seen.contains x.born <;> simp
 rw[e,pC];exact⟨en,bP.2 ⟨h1,by rw[h2];rfl⟩,by simp⟩
theorem Sj {l l':List MapEntry} (h:l'.Sublist l) (p:MapEntry→Bool):(l'.filter p).length≤(l.filter p).length:=(h.filter p).length_le
theorem yT {w w':World} {b:Nat} {o:Obj} (h:w.heap[b]? =some o) (hg:w.grownBy w' none):w'.heap[b]? =some o:=by
 obtain⟨_,_,_,_,g5⟩:=hg;rw[g5 b (aL.1 h).1 (by simp)];exact h
theorem NB {w:World} {b:Nat} {o o':Obj} (hb:w.heap[b]? =some o):({ w with heap:=w.heap.setIfInBounds b o' }:World).heap[b]? =some o'∧(∀k,k≠b→({ w with heap:=w.heap.setIfInBounds b o' }:World).heap[k]? =w.heap[k]?)∧w.grownBy { w with heap:=w.heap.setIfInBounds b o' } (some b):=by
 have iN:=(aL.1 hb).1;have iA:∀k,k≠b→({ w with heap:=w.heap.setIfInBounds b o' }:World).heap[k]? =w.heap[k]? :=λk hk=>by simp[eK,eN hk]
 exact⟨by simp[eK,iN],iA,rfl,rfl,rfl,by simp,λk _ hk=>iA k (λe=>hk (by rw[e]))⟩
end
end Go.Vl
