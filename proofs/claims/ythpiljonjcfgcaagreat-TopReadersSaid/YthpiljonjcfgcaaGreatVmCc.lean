/- The value logic: calls with one of several results. Conditions: none. -/
import Derived.Test.YthpiljonjcfgcaaGreatVmLz
import Derived.Test.YthpiljonjcfgcaaGreatVmRd
set_option linter.unusedSimpArgs false
set_option linter.unusedVariables false
namespace Go.Vl
open Go
section
variable {P:Program} {K:Ctx P} {st:St} {ops:Array Oper} {Q:Exit→St→Prop}
variable {a:Act} {w:World} {p:Pl}
theorem Rel.cutOwn (R:Rel K st a w p) {t n z k d:Nat} {s:VS} (ht:st.look t=.cut n z 0 k) (hs:get st.vec n=some s) (hM:s.isM=false) (hd:get (del st.vec n) d=none):
  ∃p',Rel K (St.put { nt:=st.nt,env:=mapv (AV.scrub n) st.env,box:=mapv (List.map (AV.scrub n)) st.box,vec:=(d,{ s with rows:=s.rows.take k })::del st.vec n } t (.vec d)) a w p':=by
 have hx:=R.opd (.tmp t)
 simp only[Vl.opd,ht,Act.eval] at hx
 have hlt:t < st.nt:=by
  rw[← R.nt]
  rcases Nat.lt_or_ge t a.tmps.size with h |h
  ·exact h
  ·simp only[Array.getD_eq_getD_getElem?,Array.getElem?_eq_none h,Option.getD_none] at hx
   cases hx
 obtain⟨hat,hz,hmine⟩:=R.vec n s hs
 obtain⟨xs,hown,hrd⟩:=hat.row hM
 have hnl:p.lv n:=(R.lvi n).2 (by simp[St.lv,hs])
 generalize hv:a.tmps.getD t undef=v at hx
 have key:k≤s.rows.length∧w.ownsRow 0 s.e s.z v k (xs.take (k * s.z))∧(v.blk=none∨v.blk=(p.rw n).blk):=by
  cases hx with
  |cut hn hv1 ho hle=>
   rename_i o g c len
   have h0:o=0:=ho.2 rfl
   subst h0
   rcases hown.2 with ⟨h1,_⟩ |⟨g',cap,cur,h1,h2,h3,h4,h5,h6,h7⟩
   ·rw[hv1] at h1;cases h1
   ·rw[hv1] at h1
    cases h1
    have hk:k≤s.rows.length:=by omega
    have hkz:k * s.z≤s.rows.length * s.z:=Nat.mul_le_mul_right _ hk
    refine⟨hk,⟨by rw[List.length_take,hown.1];omega,.inr ⟨g,c,cur,by simp,h2,h3,by omega,h5,h6,?_⟩⟩,.inr (by rw[hv1];rfl)⟩
    rw[← h7,List.take_take]
    congr 1
    omega
  |cut0 hn hv1=>exact⟨Nat.zero_le _,⟨by simp,.inl ⟨rfl,rfl⟩⟩,.inl rfl⟩
 obtain⟨hk,hown2,hblk⟩:=key
 have hfl:(s.rows.take k).flatten=s.rows.flatten.take (k * s.z):=by
  have:∀(l:List (List D)) (k:Nat),(∀r∈l,r.length=s.z)→k≤l.length→(l.take k).flatten=l.flatten.take (k * s.z):=fun l=>by
   induction l with
   |nil=>intro k _ _;simp
   |cons r l ih=>
    intro k hr hk
    cases k with
    |zero=>simp
    |succ k=>
     have h1:=hr r (by simp)
     rw[List.take_succ_cons,List.flatten_cons,List.flatten_cons,ih k (fun q hq=>hr q (by simp[hq])) (by simpa using hk),Nat.succ_mul,List.take_append,List.take_of_length_le (l:=r) (by rw[h1];exact Nat.le_add_left _ _),h1,Nat.add_sub_cancel]
  exact this _ _ hz hk
 have R':=R.setVec (n:=n) (d:=d) (w':=w) (v':=v) (s:={ s with rows:=s.rows.take k }) (xs:=xs.take (k * s.z)) (row:=none) hM hd (World.grownBy.refl w _) (Nat.le_refl _) (.inl rfl) (by show w.ownsRow 0 s.e s.z v (s.rows.take k).length _;rw[List.length_take,Nat.min_eq_left hk];exact hown2) (fun r hr=>hz r (List.mem_of_mem_take hr)) (fun j x u hx hu=>by
  have hx':(s.rows.take k).flatten[j]? =some x:=hx
  rw[hfl,List.getElem?_take] at hx'
  rw[List.getElem?_take] at hu
  split at hx'
  ·rename_i hj
   rw[if_pos hj] at hu
   exact hrd j x u hx' hu
  ·cases hx') (hblk.imp id fun h=>.inl ⟨hnl,h⟩)
 have hp:a.put (some t) v=a:=by
  have hs:t < a.tmps.size:=by rw[R.nt];exact hlt
  cases a with
  |mk tmps defers=>
   simp only[Act.put,Act.mk.injEq,and_true]
   apply Array.ext
   ·simp
   ·intro i h1 h2
    rw[Array.getElem_setIfInBounds]
    split
    ·rename_i e;subst e
     simp only[Array.getD_eq_getD_getElem?,Array.getElem?_eq_getElem h2,Option.getD_some] at hv
     exact hv.symm
    ·rfl
 have R2:=R'.put (d:=t) (RA.vec_at (n:=d) (Or.inl rfl) (upd_same _ _ _)) hlt
 rw[hp] at R2
 exact⟨_,R2⟩
theorem wk_cut {s:St} (t n d:Nat) {z k:Nat} {S:VS} (ht:s.look t=.cut n z 0 k) (hs:get s.vec n=some S) (hd:get (del s.vec n) d=none) (hM:S.isM=false:=by rfl):
  Wk s (St.put { nt:=s.nt,env:=mapv (AV.scrub n) s.env,box:=mapv (List.map (AV.scrub n)) s.box,vec:=(d,{ S with rows:=S.rows.take k })::del s.vec n } t (.vec d)):=fun _ _ _ _ R=>R.cutOwn ht hs hM hd
end
end Go.Vl
namespace Go.Vl
open Go Go.RowKit
section
variable {P:Program}
end
end Go.Vl
namespace Go.Vl
open Go Go.RowKit
section
variable {P:Program} {K:Ctx P} {st:St} {Q:Exit→St→Prop}
theorem wpl_append {ops:Array Oper} {F:Exit→Act→World→Prop} {l2:List Oper}:∀(l:List Oper) (a:Act) (w:World),wpList P ops (fun e a w=>match e with | .normal=>wpList P ops F l2 a w |e=>F e a w) l a w→wpList P ops F (l++l2) a w:=by
 intro l
 induction l with
 |nil=>exact fun a w h=>h
 |cons o l ih=>
  intro a w hh
  rw[List.cons_append]
  unfold wpList at hh ⊢
  split
  ·rename_i hw
   rw[if_pos hw] at hh
   rcases hh with hh |⟨h1,a0,w0,q⟩
   ·left
    unfold Oper.wp at hh ⊢
    generalize (execOp a.eval o).run P w=r at hh ⊢
    cases r with
    |ok n w'=>
     cases n <;> simp only[Oper.upon] at hh ⊢
     case value v=>exact ih _ _ hh
     case skip=>exact ih _ _ hh
     case defer d=>exact ih _ _ hh
     case enter f args=>
      refine Calls.mono hh fun e w'' he=>?_
      cases e with
      |returned v=>exact ih _ _ he
      |panicked c=>exact he
      |outgrown=>exact he
     case row row args=>exact Rows.mono hh fun v w'' he=>ih _ _ he
    |halt x w'=>
     cases x <;> simp only[Oper.upon] at hh ⊢
     case panic v=>exact hh
   ·exact .inr ⟨h1,a0,w0,q⟩
  ·rename_i hw
   rw[if_neg hw] at hh
   exact ih _ _ hh
def RgQ (P:Program) (K:Ctx P) (y:Code) (x:Operand) (d:Nat) (Q:Exit→St→Prop) (s:St):Prop:=∃e z rows,Vl.opd s x=.d (.mp e z rows)∧d < s.nt∧∀r,TrI P K y (s.put d (.iter r)) r ⟨e,z,rows⟩ rows Q
theorem kc_rangeT {id:Nat} {l:List Oper} {o:Oper} {y:Code} {ty kt et:TypeId} {x:Operand} {d:Nat} (n:Nat) (hl:l.drop n=[o]) (hg:o.guard=none) (ho:o.op=.range ty x) (hd:o.dst=some d)
  (hu:P.underlying ty=some (.map kt et)) (H:TOps P K l.toArray (l.take n) st (thenQ (RgQ P K y x d Q) Q)):Tr P K (.seq (.region id l.toArray false) y) st Q:=by
 intro a w p R
 refine wp_seq (wp_region_lit ?_)
 rw[show l=l.take n++l.drop n from(List.take_append_drop n l).symm,hl]
 refine wpl_append _ _ _ ?_
 rw[← hl,List.take_append_drop]
 refine wpl_mono ?_ _ _ _ (H a w p R)
 rintro ex a w ⟨s,p,R,q⟩
 cases ex with
 |normal=>
  obtain⟨e,z,rows,hx,hdn,H⟩:=q
  show wpList _ _ _ (l.drop n) a w
  rw[hl]
  have hxr:=R.opd x
  rw[hx] at hxr
  generalize hax:a.eval x=ax at hxr
  cases hxr with
  |d hxr=>
   obtain⟨b,es,clock,rfl,hb,hokb,hM,hm⟩:=hxr.mp_inv
   have hbl:b < w.heap.size:=hokb.1
   have hsz:=R.size
   have hnew:∀q:Addr,q.block < w.heap.size→see (w.alloc (.mapIter (some b) clock #[] clock)) q=see w q:=fun q hq=>alloc_cell_old w _ q hq
   have hold:∀k,k < w.heap.size→(w.alloc (.mapIter (some b) clock #[] clock)).heap[k]? =w.heap[k]? :=fun k hk=>heap_alloc_old w _ hk
   have hs1:(w.alloc (.mapIter (some b) clock #[] clock)).heap.size=w.heap.size+1:=by unfold World.alloc;simp
   have hok:∀k,okc K w p k→okc K (w.alloc (.mapIter (some b) clock #[] clock)) p k:=fun k hk=>okc_grow (by omega) hk
   have R1:Rel K s a (w.alloc (.mapIter (some b) clock #[] clock)) p:=R.evo ⟨by omega,rfl,rfl,rfl,fun k h1 _=>hold k (by omega),fun q hq=>hnew q hq.1,hok,fun _ _ h=>⟨h,rfl⟩,fun _ _ h=>⟨h,rfl⟩,Nat.le_refl _⟩ (fun n hn=>hold _ (R.blt hn)) (fun n g hn hg=>hold _ (R.vlt hn hg).2)
   have hrun:(execOp a.eval o).run P w=.ok (.value (.pointer (some ⟨w.heap.size,0,none⟩))) (w.alloc (.mapIter (some b) clock #[] clock)):=by
    have:=run_range_map (P:=P) w ty kt et b es clock hu hb
    simp[execOp,ho,hax,this]
   refine run_val hg hrun ?_
   rw[hd]
   have R2:=R1.put (x:=.iter w.heap.size) .iter hdn
   have hokr:okc K (w.alloc (.mapIter (some b) clock #[] clock)) p w.heap.size:=⟨by omega,.inr (.inl (by omega)),fun n hn e=>by have:=R.blt hn;omega,fun n hn e=>by have:=(R.vlt hn e).2;omega⟩
   exact H w.heap.size _ _ p R2 ⟨b,clock,clock,clock,#[],es,heap_alloc_new w _,(hold b hbl).trans hb,Nat.le_refl _,hm.born,rfl,hok b hokb,hokr,hm.mono (fun q hq=>hnew q hq.1) hok,(leftRows_none rows es.toList hm.key.1).symm⟩ hsz
 |_=>exact⟨s,p,R,q⟩
end
end Go.Vl
