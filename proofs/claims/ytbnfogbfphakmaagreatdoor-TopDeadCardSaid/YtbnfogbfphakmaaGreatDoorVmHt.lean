/- A hidden table: a row of rows of truth values, all of them one's own; the state beside it. Conditions: none. -/
import Derived.Test.YtbnfogbfphakmaaGreatDoorVmHr
import Derived.Test.YtbnfogbfphakmaaGreatDoorVmHg
set_option linter.unusedSimpArgs false
set_option linter.unusedVariables false
namespace Go.Vl
open Go Go.RowKit
section
variable {P:Program} {K K0:Ctx P} {st:St} {a:Act} {w w':World} {p:Pl} {hid hid':Nat→Prop} {e0 e1:TypeId} {n G:Nat} {gs:List Nat} {T:List (List Bool)} {t:Nat} {v:Value}
def Bm (r:List Bool):Array Value:=(r.map Value.bool).toArray
structure D7 (w:World) (hid:Nat→Prop) (e0 e1:TypeId) (n G:Nat) (gs:List Nat) (T:List (List Bool)):Prop where
 hidG:hid G
 len:gs.length=T.length
 le:T.length≤n
 outer:∃cur:Array Value,w.heap[G]? =some (.cells cur e0 (0,0))∧n≤cur.size∧∀(i g:Nat),gs[i]? =some g→cur[i]? =some (.slice (some ⟨g,0,none⟩) n n)
 inner:∀(i g:Nat) (r:List Bool),gs[i]? =some g→T[i]? =some r→hid g∧w.heap[g]? =some (.cells (Bm r) e1 (0,0))∧r.length=n
 nodup:(G::gs).Nodup
theorem D7.mono (h:D7 w hid e0 e1 n G gs T) (hh:∀g,hid g→hid' g∧w'.heap[g]? =w.heap[g]?):D7 w' hid' e0 e1 n G gs T:=by
 obtain⟨cur,h1,h2,h3⟩:=h.outer
 exact⟨(hh _ h.hidG).1,h.len,h.le,⟨cur,(hh _ h.hidG).2.trans h1,h2,h3⟩,fun i g r hg hr=>by
  obtain⟨k1,k2,k3⟩:=h.inner i g r hg hr
  exact⟨(hh _ k1).1,(hh _ k1).2.trans k2,k3⟩,h.nodup⟩
theorem D7.lt {i g:Nat} (h:D7 w hid e0 e1 n G gs T) (hg:gs[i]? =some g):g < w.heap.size∧hid g:=by
 obtain⟨r,hr⟩:∃r,T[i]? =some r:=⟨_,List.getElem?_eq_getElem (by have:=(List.getElem?_eq_some_iff.1 hg).1;have:=h.len;omega)⟩
 obtain⟨k1,k2,_⟩:=h.inner i g r hg hr
 exact⟨(Array.getElem?_eq_some_iff.1 k2).1,k1⟩
theorem D7.ltG (h:D7 w hid e0 e1 n G gs T):G < w.heap.size:=by
 obtain⟨cur,h1,_⟩:=h.outer
 exact(Array.getElem?_eq_some_iff.1 h1).1
theorem Ju {P:Program} {w:World} {t:TypeId} {g off:Nat} {cur:Array Value} {ty:TypeId} {u:Value} (hw:w.heap[g]? =some (.cells cur ty (0,0))) (ho:off < cur.size) (hsz:Ad P t=some 1) (hc:u.cells= #[u]) (h1:u.oneCell'=true):
  (Instr.storeAt t (.pointer (some ⟨g,off,none⟩)) u).run P w=.ok () (w.setRow g (cur.setIfInBounds off u)):=by
 have hst:=run_storeCells_at P g off ty [u] 0 cur w hw (by simp;omega) (by simpa using h1)
 have he:(cur.toList.take (off+0)++[u]++cur.toList.drop (off+0+[u].length)).toArray=cur.setIfInBounds off u:=by
  apply Array.ext'
  simp only[Nat.add_zero,Array.toList_setIfInBounds,List.toList_toArray,List.length_cons,List.length_nil,Nat.zero_add]
  rw[List.set_eq_take_append_cons_drop,if_pos (by simpa using ho)]
  simp
 rw[he] at hst
 try simp only[Nat.add_zero] at hst
 simp only[Instr.storeAt,Instr.sureAddr,Sem.run_bind,Sem.run_pure,Result.andThen_ok,storeVar,AU hsz,hc,ne_eq,not_true_eq_false,if_false,Sem.run_ite,hst,List.size_toArray,List.length_cons,List.length_nil,Nat.zero_add]
theorem setRow_other (w:World) {g k:Nat} (cs:Array Value) (h:k≠g):(w.setRow g cs).heap[k]? =w.heap[k]? :=by
 unfold World.setRow
 simp only[Array.getElem?_modify]
 rw[if_neg (fun e=>h e.symm)]
theorem setRow_size (w:World) (g:Nat) (cs:Array Value):(w.setRow g cs).heap.size=w.heap.size:=by
 unfold World.setRow;simp
theorem D7.push (h:D7 w hid e0 e1 n G gs T) (hT:T.length < n) {w1 w2:World} (h1:w1=w.alloc (.cells (Bm (List.replicate n false)) e1)) {cur:Array Value} (hc:w1.heap[G]? =some (.cells cur e0 (0,0))) (h2:w2=w1.setRow G (cur.setIfInBounds T.length (.slice (some ⟨w.heap.size,0,none⟩) n n)))
  (hh:∀g,hid g→hid' g) (hn:hid' w.heap.size):D7 w2 hid' e0 e1 n G (gs++[w.heap.size]) (T++[List.replicate n false]):=by
 subst h1;subst h2
 obtain⟨cur',g1,g2,g3⟩:=h.outer
 have hG:=h.ltG
 have hold:∀k,k < w.heap.size→(w.alloc (.cells (Bm (List.replicate n false)) e1)).heap[k]? =w.heap[k]? :=fun k hk=>heap_alloc_old w _ hk
 rw[hold G hG,g1] at hc
 obtain rfl:cur'=cur:=by injection hc with h1;injection h1
 refine⟨hh _ h.hidG,by simp[h.len],by simp;omega,⟨_,setRow_heap _ G cur' _ e0 _ ((hold G hG).trans g1),by simpa using g2,fun i g hg=>?_⟩,fun i g r hg hr=>?_,?_⟩
 ·rw[List.getElem?_append] at hg
  rw[Array.getElem?_setIfInBounds]
  split at hg
  ·rename_i hi
   rw[if_neg (by have:=h.len;omega)]
   exact g3 i g hg
  ·rename_i hi
   have hi0:i=T.length:=by
    have h7:=(List.getElem?_eq_some_iff.1 hg).1
    have h8:=h.len
    simp only[List.length_cons,List.length_nil] at h7;omega
   subst hi0
   rw[if_pos rfl,if_pos (by omega)]
   have hz:T.length - gs.length=0:=by have:=h.len;omega
   rw[hz] at hg
   have hg:w.heap.size=g:=by simpa using hg
   subst hg;rfl
 ·rw[List.getElem?_append] at hg hr
  rw[← h.len] at hr
  split at hg
  ·rename_i hi
   rw[if_pos hi] at hr
   obtain⟨k1,k2,k3⟩:=h.inner i g r hg hr
   have hlt:=(h.lt hg).1
   refine⟨hh _ k1,?_,k3⟩
   rw[setRow_other _ _ (fun e=>by
    have hnd:=h.nodup
    rw[List.nodup_cons] at hnd
    exact hnd.1 (e▸List.mem_of_getElem? hg)),hold g hlt]
   exact k2
  ·rename_i hi
   rw[if_neg hi] at hr
   have hz:i - gs.length=0:=by
    have:=(List.getElem?_eq_some_iff.1 hg).1
    simp at this;exact this
   rw[hz] at hg hr
   simp at hg hr;subst hg;subst hr
   refine⟨hn,?_,by simp⟩
   rw[setRow_other _ _ (by omega)]
   exact heap_alloc_new w _
 ·have hnd:=h.nodup
  rw[← List.cons_append]
  refine List.nodup_append.2 ⟨hnd,by simp,?_⟩
  intro x hx y hy
  simp only[List.mem_singleton] at hy
  subst hy
  rcases List.mem_cons.1 hx with rfl |hx
  ·omega
  ·obtain⟨i,hi⟩:=List.mem_iff_getElem?.1 hx
   have:=(h.lt hi).1
   omega
theorem D7.set (h:D7 w hid e0 e1 n G gs T) {i j g:Nat} {r:List Bool} {b:Bool} (hg:gs[i]? =some g) (hr:T[i]? =some r) (hh:∀g,hid g→hid' g):D7 (w.setRow g (Bm (r.set j b))) hid' e0 e1 n G gs (T.set i (r.set j b)):=by
 obtain⟨cur,g1,g2,g3⟩:=h.outer
 have hnd:=h.nodup
 rw[List.nodup_cons] at hnd
 have hGg:G≠g:=fun e=>hnd.1 (e▸List.mem_of_getElem? hg)
 obtain⟨k1,k2,k3⟩:=h.inner i g r hg hr
 refine⟨hh _ h.hidG,by simp[h.len],by simpa using h.le,⟨cur,(setRow_other _ _ hGg).trans g1,g2,g3⟩,fun i' g' r' hg' hr'=>?_,h.nodup⟩
 by_cases he:i=i'
 ·subst he
  rw[hg] at hg';cases hg'
  rw[List.getElem?_set,if_pos rfl,if_pos (List.getElem?_eq_some_iff.1 hr).1] at hr'
  cases hr'
  exact⟨hh _ k1,setRow_heap _ g _ _ e1 _ k2,by simpa using k3⟩
 ·rw[List.getElem?_set,if_neg he] at hr'
  obtain⟨m1,m2,m3⟩:=h.inner i' g' r' hg' hr'
  refine⟨hh _ m1,(setRow_other _ _ (fun e=>?_)).trans m2,m3⟩
  subst e
  have:=(List.getElem?_inj (List.getElem?_eq_some_iff.1 hg).1 hnd.2).1 (hg.trans hg'.symm)
  exact he this
def HT (K0:Ctx P) (e0 e1:TypeId) (n t G:Nat) (v:Value) (gs:List Nat) (T:List (List Bool)) (st:St) (a:Act) (w:World):Prop:=
 ∃(K:Ctx P) (p:Pl),K.ios=[]∧FM K0 K∧(∀k,K.w0.heap.size≤k∨k∈K.ivs→K0.w0.heap.size≤k∨k∈K0.ivs)∧Rel K st a w p∧D7 w (Hf K0 K) e0 e1 n G gs T∧a.eval (.tmp t)=v
theorem D7.keep {p p':Pl} {st':St} {a':Act} {w':World} (hK:K.ios=[]) (R:Rel K st a w p) (R':Rel K st' a' w' p') (h:D7 w (Hf K0 K) e0 e1 n G gs T):D7 w' (Hf K0 K) e0 e1 n G gs T:=
 h.mono fun _ hg=>⟨hg,(hg.1.heap hK R').trans (hg.1.heap hK R).symm⟩
theorem HT.weak (h:HT K0 e0 e1 n t G v gs T st a w) {st':St} (W:D1 st st'):HT K0 e0 e1 n t G v gs T st' a w:=by
 obtain⟨K,p,h1,h2,h3,R,h5,h6⟩:=h
 obtain⟨p',R',_⟩:=R.weak0 W
 exact⟨K,p',h1,h2,h3,R',h5,h6⟩
theorem HT.bool (h:HT K0 e0 e1 n t G v gs T st a w) {s:Nat} {c:Bool} (hs:st.look s=.d (.bool c)):a.eval (.tmp s)=.bool c:=by
 obtain⟨K,p,h1,h2,h3,R,h5,h6⟩:=h
 exact Ow R hs
theorem HT.wpl (h:HT K0 e0 e1 n t G v gs T st a w) {ops:Array Oper} {l:List Oper} {st1:St} {F:Exit→Act→World→Prop} (hT:∀K:Ctx P,K.ios=[]→Az P K ops l st (Ml st1)) (hd:∀o∈l,o.dst≠some t) (H:∀a w,HT K0 e0 e1 n t G v gs T st1 a w→F .normal a w):wpList P ops F l a w:=by
 obtain⟨K,p,h1,h2,h3,R,h5,h6⟩:=h
 exact Ov (hT K h1) hd R h6 fun a' w' p' R' hv=>H a' w' ⟨K,p',h1,h2,h3,R',h5.keep h1 R R',hv⟩
theorem HT.reg (h:HT K0 e0 e1 n t G v gs T st a w) {id:Nat} {l:List Oper} {y:Code} {st1:St} {F:Exit→Act→World→Prop} (hT:∀K:Ctx P,K.ios=[]→Az P K l.toArray l st (Ml st1)) (hd:∀o∈l,o.dst≠some t) (H:∀a w,HT K0 e0 e1 n t G v gs T st1 a w→y.wp P F a w):(Code.seq (.region id l.toArray false) y).wp P F a w:=
 wp_seq (wp_region_lit (h.wpl hT hd H))
theorem HT.regL (h:HT K0 e0 e1 n t G v gs T st a w) {id:Nat} {l:List Oper} {st1:St} {F:Exit→Act→World→Prop} (hT:∀K:Ctx P,K.ios=[]→Az P K l.toArray l st (Ml st1)) (hd:∀o∈l,o.dst≠some t) (H:∀a w,HT K0 e0 e1 n t G v gs T st1 a w→F .normal a w):(Code.region id l.toArray false).wp P F a w:=
 wp_region_lit (h.wpl hT hd H)
theorem HT.frzB (h:HT K0 e0 e1 n t G v gs T st a w) {m:Nat} {cs:List AV} {row:List D} (hb:get st.box m=some cs) (hd:EC cs=some row) (hn:m < 1000000):HT K0 e0 e1 n t G v gs T (st.frzB m row) a w:=by
 obtain⟨K,p,h1,h2,h3,R,h5,h6⟩:=h
 obtain⟨p',R'⟩:=R.frzB hb hd (by rw[h1];rfl) hn (fun i hi=>absurd hi (Nat.not_lt_zero i))
 exact⟨K,p',h1,h2,h3,R',h5,h6⟩
theorem HT.start {p:Pl} (R:Rel K0 st a w p) (hK:K0.ios=[]) {m:Nat} {rows:List (List D)} (hn:get st.vec m=some ⟨e0,1,rows⟩) (he:e0 < 1000000) (hl:rows.length=n) (hpos:0 < n) (ht:get st.env t=some (.vec m)) {st':St} (W:D1 st st') (hv:st'.lv m=false):
  ∃G cap,n≤cap∧HT K0 e0 e1 n t G (.slice (some ⟨G,0,none⟩) n cap) [] [] st' a w:=by
 obtain⟨hat,hz,hbm⟩:=R.vec m _ hn
 obtain⟨xv,hown,_⟩:=hat.row (CK he)
 rcases hown.2 with ⟨h0,h2⟩ |⟨g,cap,cur,hrw,_,hg,h3,h4,h5,_⟩
 ·simp at h2;subst h2;simp at hl;omega
 have hrw:p.rw m=.slice (some ⟨g,0,none⟩) n cap:=by rw[hrw];simp[hl]
 have hreg:a.eval (.tmp t)=.slice (some ⟨g,0,none⟩) n cap:=by
  have:=R.env t (.vec m) ht
  simp only[Act.eval]
  generalize a.tmps.getD t undef=u at this
  cases this;exact hrw
 obtain⟨K',p',t1,t2,t3,t4,t5,t6,t7,t8,t9,t10⟩:=R.turn hK W (w2:=w) (Nat.le_refl _) ⟨rfl,rfl,rfl⟩ (fun _ _=>rfl) (fun _ _=>rfl) (fun _ _ _ _=>rfl) (Nat.le_refl _) K0 (FM.refl K0) (fun _ _ _=>rfl) hK (fun _ h=>h)
 obtain⟨u1,u2⟩:=t9 m g (by simp[St.lv,hn]) hv (by rw[hrw];rfl)
 exact⟨g,cap,by have:rows.length≤cap:=h3;omega,K',p',t1,t5,t6,t3,⟨⟨u1,u2⟩,rfl,Nat.zero_le _,⟨cur,hg,by simp at h3 h5;omega,fun i g h=>by simp at h⟩,fun i g r h=>by simp at h,by simp⟩,hreg⟩
theorem HT.show {cap:Nat} (h:HT K0 e0 e1 n t G (.slice (some ⟨G,0,none⟩) n cap) gs T st a w) (hc:n≤cap) (hn:T.length=n):∃p,Rel K0 (st.put t (.d (.slice (AB (DJ B2) T)))) a w p:=by
 obtain⟨K,p,h1,h2,h3,R,h5,h6⟩:=h
 have R0:=h2.rel _ _ _ _ R
 have hsh:∀g,Hf K0 K g→okc K0 w p g:=fun g hg=>hg.1.show h1 R hg.2
 refine⟨p,R0.also ?_⟩
 simp only[Act.eval] at h6
 rw[h6]
 obtain⟨cur,g1,g2,g3⟩:=h5.outer
 subst hn
 have hl:(AB (DJ B2) T).length=T.length:=by simp[AB]
 have hfl:∀(T:List (List Bool)) (j:Nat),(AB (DJ B2) T).flatten[j]? =(T[j]?).map fun r=>D.slice (AB B2 r):=fun T=>by
  induction T with
  |nil=>intro j;simp[AB]
  |cons x T ih=>
   intro j
   have:AB (DJ B2) (x::T)=[.slice (AB B2 x)]::AB (DJ B2) T:=rfl
   rw[this,List.flatten_cons]
   cases j with
   |zero=>simp
   |succ j=>simpa using ih j
 have hfb:∀(r:List Bool) (j:Nat),(AB B2 r).flatten[j]? =(r[j]?).map D.bool:=fun r=>by
  induction r with
  |nil=>intro j;simp[AB]
  |cons x r ih=>
   intro j
   have:AB B2 (x::r)=[.bool x]::AB B2 r:=rfl
   rw[this,List.flatten_cons]
   cases j with
   |zero=>simp
   |succ j=>simpa using ih j
 have hfin:RD w (okc K0 w p) (.slice (AB (DJ B2) T)) (.slice (some ⟨G,0,none⟩) (AB (DJ B2) T).length cap):=by
  refine RD.slice (a:=⟨G,0,none⟩) (c:=cap) 1 (fun j=>cur.getD j undef) (fun r hr=>by unfold AB at hr;obtain⟨q,_,rfl⟩:=List.mem_map.1 hr;rfl) (hsh _ h5.hidG) (by rw[hl];exact hc) (fun j hj=>?_) (fun j d hd=>?_)
  ·rw[A4 (z:=1) (fun r hr=>by unfold AB at hr;obtain⟨q,_,rfl⟩:=List.mem_map.1 hr;rfl),hl] at hj
   rw[Ah]
   simp only[World.cell?,g1,Nat.zero_add]
   simp[show j < cur.size by omega]
  ·rw[hfl] at hd
   obtain⟨r,hr,rfl⟩:=Option.map_eq_some_iff.1 hd
   obtain⟨g,hg⟩:∃g,gs[j]? =some g:=⟨_,List.getElem?_eq_getElem (by have:=(List.getElem?_eq_some_iff.1 hr).1;have:=h5.len;omega)⟩
   have hcj:=g3 j g hg
   obtain⟨k1,k2,k3⟩:=h5.inner j g r hg hr
   have hcg:cur.getD j undef=.slice (some ⟨g,0,none⟩) T.length T.length:=by
    simp[Array.getD_eq_getD_getElem?,hcj]
   rw[hcg]
   have hrl:(AB B2 r).length=T.length:=by simp[AB,k3]
   have hr2:RD w (okc K0 w p) (.slice (AB B2 r)) (.slice (some ⟨g,0,none⟩) (AB B2 r).length T.length):=by
    refine RD.slice (a:=⟨g,0,none⟩) 1 (fun j=>(Bm r).getD j undef) (fun q hq=>by unfold AB at hq;obtain⟨x,_,rfl⟩:=List.mem_map.1 hq;rfl) (hsh _ k1) (by omega) (fun i hi=>?_) (fun i d hd=>?_)
    ·rw[A4 (z:=1) (fun q hq=>by unfold AB at hq;obtain⟨x,_,rfl⟩:=List.mem_map.1 hq;rfl)] at hi
     rw[Ah]
     simp only[World.cell?,k2,Nat.zero_add]
     have:i < (Bm r).size:=by unfold Bm;simp[AB] at hi ⊢;omega
     simp[this]
    ·rw[hfb] at hd
     obtain⟨x,hx,rfl⟩:=Option.map_eq_some_iff.1 hd
     have:(Bm r).getD i undef=.bool x:=by unfold Bm;simp[Array.getD_eq_getD_getElem?,hx]
     rw[this];exact .bool
   rw[hrl] at hr2
   exact hr2
 rw[hl] at hfin
 exact .d hfin
end
end Go.Vl
