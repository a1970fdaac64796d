/- A queue's append at the kit's wp, the old row's cells told. Conditions: none. -/
import Derived.Test.YthpiljonjcfgcaaGreatVmQu
set_option linter.unusedSimpArgs false
set_option linter.unusedVariables false
namespace Go.Vl
open Go Go.RowKit
section
variable {P:Program} {K:Ctx P} {st:St} {ops:Array Oper} {Q:Exit→St→Prop}
theorem wpl_appq {l:List Oper} {o:Oper} {x y:Operand} {t e:TypeId} {d n z lo k:Nat} {s:VS} {zs:List AV} {ys:List (List D)}
  (hg:gdA ops st o=some true) (ho:o.op=.call { callee:=.builtin .append,args:=#[x,y],argTypes:=#[t,t]}) (hd:o.dst=some d) (hdn:d < st.nt)
  (hx:opd st x=.cut n z lo k) (hs:get st.vec n=some s) (he:s.e=e) (hsz:s.z=z) (hzl:zs.length=z) (hu:P.underlying t=some (.slice e)) (hz:zerOf P e=some zs) (hpos:0 < z) (hby:byOk P e=true) (he6:e < 1000000)
  (hy:rowsOf st (opd st y)=some ys) (hyz:∀r∈ys,r.length=z) (hm:0 < ys.length) (hlen:lo+k=s.rows.length) (hk:0 < k) (hsm:s.rows.length+ys.length≤268435456)
  {a:Act} {w:World} {p:Pl} (R:Rel K st a w p) {F:Exit→Act→World→Prop}
  (HH:∀st1 v' w' p',(st1=st.appQ n d z s (s.rows++ys) lo (k+ys.length)∨st1=st.appQ n d z s (s.rows.drop lo++ys) 0 (k+ys.length))→Rel K st1 (a.put (some d) v') w' p'→(∀(c g off j:Nat) (kd:IntKind) (m:Int),a.eval x=.slice (some ⟨g,off,none⟩) k c→s.rows.flatten[j]? =some (.int kd m)→w'.cell? ⟨g,j,none⟩=some (.int kd m))→wpList P ops F l (a.put (some d) v') w'):wpList P ops F (o::l) a w:=by
 subst he;subst hzl
 unfold wpList
 rw[gd_sound R hg,if_pos rfl]
 left
 unfold Oper.wp
 have hM:s.isM=false:=isM_lt he6
 obtain⟨hat,hxz,_⟩:=R.vec n s hs
 obtain⟨xv,hown,hxr⟩:=hat.row hM
 have hyu:=R.opd y
 have hxv:=R.opd x
 rw[hx] at hxv
 have fin:∀{v':Value} {w':World} {p':Pl} {st1:St} {u:AV},(Builtin.append_ #[t,t] o.type #[a.eval x,a.eval y]).run P w=.ok v' w'→Rel K st1 a w' p'→RA w' (okc K w' p') p' u v'→st1.nt=st.nt→(st1.put d u=st.appQ n d zs.length s (s.rows++ys) lo (k+ys.length)∨st1.put d u=st.appQ n d zs.length s (s.rows.drop lo++ys) 0 (k+ys.length))→(∀(c g off j:Nat) (kd:IntKind) (m:Int),a.eval x=.slice (some ⟨g,off,none⟩) k c→s.rows.flatten[j]? =some (.int kd m)→w'.cell? ⟨g,j,none⟩=some (.int kd m))→o.upon P a (wpList P ops F l) F ((execOp a.eval o).run P w):=by
  intro v' w' p' st1 u hrun R' h1 h2 H hcell
  rw[show (execOp a.eval o).run P w=.ok (.value v') w' by simp[execOp,ho,resolve,invoke,builtin,hrun]]
  show wpList P ops F l (a.put o.dst v') w'
  rw[hd]
  exact HH _ _ _ _ H (R'.put h1 (by rw[h2];exact hdn)) hcell
 clear HH
 generalize hax:a.eval x=ax at *
 generalize hay:a.eval y=ay at *
 cases hxv with
 |cut0=>omega
 |cut hn hv hoff hle=>
 rename_i off g c len
 have hoff':off=lo * zs.length:=hoff.1.resolve_left (by omega)
 subst hoff'
 obtain⟨i,zv,hi,hzv,hs0,hzs,h1⟩:=zerOf_some hz
 have hzl:zs.length=i.size:=by rw[hzs];simp[hs0]
 rw[hsz] at hown
 obtain⟨b,cy,rfl,hc⟩:=src_cells R hy hyu
 have hbytes:i.bytes≤65536:=by simpa[byOk,hi] using hby
 have hbb:(s.rows.length+ys.length) * i.bytes≤268435456 * 65536:=Nat.mul_le_mul hsm hbytes
 have hbk:(k+ys.length) * i.bytes≤268435456 * 65536:=Nat.mul_le_mul (by omega) hbytes
 have hy0:ys≠[]:=fun e=>by subst e;simp at hm
 rcases hc with rfl |⟨ad,z',news,rfl,hl,hz',hcell,hone,hrd⟩
 ·simp at hm
 obtain⟨r,hr⟩:=List.exists_mem_of_ne_nil _ hy0
 have hzz:z'=i.size:=(hz' r hr).symm.trans ((hyz r hr).trans hzl)
 subst hzz
 rcases hown.2 with ⟨h0,_⟩ |⟨g',cap,cur,h0,hb1,hgc,hb2,hb3,hb4,hb5⟩
 ·rw[hv] at h0;cases h0
 rw[hv] at h0
 injection h0 with h01 h02 h03
 injection h01 with h01
 injection h01 with h01
 subst h01;subst h02;subst h03
 have hxvl:xv.length=s.rows.length * i.size:=by rw[← hzl];exact hown.1
 have hgl:g < w.heap.size:=(Array.getElem?_eq_some_iff.1 hgc).1
 have hdl:get (del st.vec n) n=none:=by rw[get_del,if_pos rfl]
 have hfx:s.rows.flatten.length=s.rows.length * zs.length:=flat_len (fun r hr=>(hxz r hr).trans hsz)
 have hcx:∀j u,xv[j]? =some u→w.cell? ⟨g,j,none⟩=some u:=fun j u hj=>by
  have hjl:=(List.getElem?_eq_some_iff.1 hj).1
  rw[← hb5,List.getElem?_take] at hj
  split at hj
  ·simp only[World.cell?,hgc]
   rw[Array.getElem?_toList] at hj
   simp[hj]
  ·cases hj
 by_cases hroom:k+ys.length≤c - lo
 ·-- there is room
  obtain⟨v',w',xv',r1,o1,g1,_,x1⟩:=app_own (ty:=o.type) hu hz hpos hby R (v:=p.rw n) hown hy (u:=.slice (some ad) ys.length cy) hyu hyz hsm (fun r hr=>(hxz r hr).trans hsz) hxr
  have hcap:cur.size=c * i.size:=by rw[← hzl];exact hb4
  have hin:∀j,j < news.length→s.rows.length * i.size+j < c * i.size:=fun j hj=>by
   have:(s.rows.length+ys.length) * i.size≤c * i.size:=Nat.mul_le_mul_right _ (by omega)
   rw[Nat.add_mul] at this;omega
  have hc1:∀j,j < news.length→(w.cell? ⟨g,s.rows.length * i.size+j,none⟩).isSome=true:=fun j hj=>by
   have:=hin j hj
   simp only[World.cell?,hgc]
   rw[Array.getElem?_eq_getElem (by omega)]
   rfl
  have hf1:∀j,j < news.length→w.frozen? ⟨g,s.rows.length * i.size+j,none⟩=false:=fun j hj=>by
   simp[World.frozen?,hgc]
  have e1:=run_append_room_cells (P:=P) w t o.type s.e i hu hi g 0 s.rows.length c ad ys.length cy news hl hcell hone (by omega) (by simpa using hc1) (by simpa using hf1)
  have hmul:lo * i.size+k * i.size=s.rows.length * i.size:=by rw[← Nat.add_mul,hlen]
  have e2:=run_append_room_cells (P:=P) w t o.type s.e i hu hi g (lo * i.size) k (c - lo) ad ys.length cy news hl hcell hone hroom (by rw[hmul];exact hc1) (by rw[hmul];exact hf1)
  rw[hmul] at e2
  rw[Nat.zero_add] at e1
  rw[hv] at r1
  rw[e1] at r1
  injection r1 with r1 r2
  subst r1;subst r2
  have hv2:p.rw n=.slice (some ⟨g,0,none⟩) s.rows.length c:=hv
  have R':=R.setVec (n:=n) (d:=n) (s:={ s with rows:=s.rows++ys }) hM hdl g1 (Nat.zero_le _) (.inr ⟨hn,rfl⟩) (by show World.ownsRow _ _ s.e s.z _ _ xv';rw[hsz];exact o1)
   (fun r hr=>by rcases List.mem_append.1 hr with h |h;exact hxz r h;exact(hyz r h).trans hsz.symm) x1 (.inr (.inl ⟨hn,by rw[hv];rfl⟩))
  refine fin (v':=.slice (some ⟨g,lo * zs.length,none⟩) (k+ys.length) (c - lo)) (by rw[hzl];exact e2) R' ?_ rfl (.inl rfl) (fun c' g' off j kd m hsl hj=>?_)
  rotate_left
  ·injection hsl with q1 q2 q3
   injection q1 with q1
   injection q1 with q1
   subst q1
   rcases o1.2 with ⟨o0,_⟩ |⟨g2,cap2,cur2,o0,_,ogc,_,_,_,o5⟩
   ·cases o0
   ·injection o0 with o01 o02 o03
    injection o01 with o01
    injection o01 with o01
    subst o01
    have hjl:j < s.rows.flatten.length:=(List.getElem?_eq_some_iff.1 hj).1
    have hx1:j < xv'.length:=by
     rw[o1.1,List.length_append]
     rw[hfx] at hjl
     have:s.rows.length * zs.length≤(s.rows.length+ys.length) * zs.length:=Nat.mul_le_mul_right _ (by omega)
     omega
    have hxj:=List.getElem?_eq_getElem hx1
    have hrd2:=x1 j _ _ (by rw[List.flatten_append,List.getElem?_append,if_pos hjl];exact hj) hxj
    have hval:xv'[j]=.int kd m:=by
     generalize xv'[j]=u at hrd2
     cases hrd2;rfl
    rw[hval,←o5,List.getElem?_take] at hxj
    split at hxj
    ·rw[Array.getElem?_toList] at hxj
     simp only[World.cell?,ogc]
     simp[hxj]
    ·cases hxj
  refine RA.cut (n:=n) (z:=zs.length) (lo:=lo) (k:=k+ys.length) (o:=lo * zs.length) (g:=g) (c:=c) (len:=s.rows.length+ys.length) (Or.inl rfl) (upd_same _ _ _) ⟨.inr rfl,fun h=>by rw[h];simp⟩ (by omega)
 ·-- a new row
  have ho1:(xv.drop (lo * i.size)).length=k * i.size:=by
   have:lo * i.size+k * i.size=s.rows.length * i.size:=by rw[← Nat.add_mul,hlen]
   rw[List.length_drop];omega
  have ho2:∀j u,(xv.drop (lo * i.size))[j]? =some u→w.cell? ((⟨g,lo * i.size,none⟩:Addr).add j)=some u:=fun j u hj=>by
   rw[List.getElem?_drop] at hj
   rw[Addr.add_lit];exact hcx _ _ hj
  have hrun:=run_append_grow (P:=P) w t o.type s.e i zv hu hi hzv ⟨g,lo * i.size,none⟩ k (c - lo) (xv.drop (lo * i.size)) ho1 ho2 ad ys.length cy news hl hcell (by omega) (by omega) (growslice_fits (by omega) (by omega))
  have hge:=grownCap_ge w (k+ys.length) (c - lo) s.e
  have hcm:grownCap w (k+ys.length) (c - lo) s.e≤maxLen:=grownCap_le_maxLen w _ _ s.e (by simp only[maxLen];omega)
  have hlen2:(xv.drop (lo * i.size)++news).length=(k+ys.length) * i.size:=by rw[List.length_append,ho1,hl,Nat.add_mul]
  have hdr:(s.rows.drop lo).length=k:=by simp;omega
  have hown2:(w.drew.alloc (.cells ((xv.drop (lo * i.size)).toArray++news.toArray++Builtin.zeroCells zv.cells (grownCap w (k+ys.length) (c - lo) s.e - (k+ys.length))) s.e)).ownsRow 0 s.e zs.length (.slice (some ⟨w.heap.size,0,none⟩) (k+ys.length) (grownCap w (k+ys.length) (c - lo) s.e)) (s.rows.drop lo++ys).length (xv.drop (lo * i.size)++news):=by
   rw[hzl,List.length_append,hdr]
   refine⟨hlen2,.inr ⟨w.heap.size,_,_,rfl,Nat.zero_le _,heap_alloc_new w.drew _,hge,hcm,?_,?_⟩⟩
   ·simp only[Array.size_append,List.size_toArray,size_zeroCells,hs0,ho1,hl,←Nat.add_mul]
    congr 1
    omega
   ·simp only[Array.toList_append,List.append_assoc]
    rw[← List.append_assoc,←hlen2]
    exact List.take_left
  have R':=R.setVec (n:=n) (d:=n) (s:={ s with rows:=s.rows.drop lo++ys }) (w':=w.drew.alloc (.cells ((xv.drop (lo * i.size)).toArray++news.toArray++Builtin.zeroCells zv.cells (grownCap w (k+ys.length) (c - lo) s.e - (k+ys.length))) s.e)) (v':=.slice (some ⟨w.heap.size,0,none⟩) (k+ys.length) (grownCap w (k+ys.length) (c - lo) s.e)) (row:=none) hM hdl ⟨rfl,rfl,rfl,by simp,fun k hk _=>Below.heap_alloc w.drew _ k hk⟩ (Nat.zero_le _) (.inl rfl) (by show World.ownsRow _ _ s.e s.z _ _ _;rw[hsz];exact hown2)
   (fun r hr=>by rcases List.mem_append.1 hr with h |h;exact hxz r (List.mem_of_mem_drop h);exact(hyz r h).trans hsz.symm) (fun j d u hdd hu'=>by
    have hfd:(s.rows.drop lo).flatten=s.rows.flatten.drop (lo * i.size):=by rw[← hzl];exact flat_drop (fun r hr=>(hxz r hr).trans hsz) lo
    rw[List.flatten_append,List.getElem?_append] at hdd
    rw[List.getElem?_append] at hu'
    have hfl:(s.rows.drop lo).flatten.length=k * i.size:=by
     rw[flat_len (z:=zs.length) (fun r hr=>(hxz r (List.mem_of_mem_drop hr)).trans hsz),hdr,hzl]
    split at hdd
    ·rw[if_pos (by omega)] at hu'
     rw[hfd,List.getElem?_drop] at hdd
     rw[List.getElem?_drop] at hu'
     exact hxr _ d u hdd hu'
    ·rw[if_neg (by omega)] at hu'
     exact hrd _ d u hdd (by rw[hfl,←ho1];exact hu')) (.inr (.inr rfl))
  refine fin (v':=.slice (some ⟨w.heap.size,0,none⟩) (k+ys.length) (grownCap w (k+ys.length) (c - lo) s.e)) (by rw[hzl];exact hrun) R' ?_ rfl (.inr rfl) (fun c' g' off j kd m hsl hj=>?_)
  rotate_left
  ·injection hsl with q1 q2 q3
   injection q1 with q1
   injection q1 with q1
   subst q1
   have hjl:j < s.rows.flatten.length:=(List.getElem?_eq_some_iff.1 hj).1
   have hx1:j < xv.length:=by rw[hxvl,←hzl];omega
   have hxj:=List.getElem?_eq_getElem hx1
   have hrd2:=hxr j _ _ hj hxj
   have hval:xv[j]=.int kd m:=by
    generalize xv[j]=u at hrd2
    cases hrd2;rfl
   rw[hval] at hxj
   have h9:=hcx j _ hxj
   have hold:(w.drew.alloc (.cells ((xv.drop (lo * i.size)).toArray++news.toArray++Builtin.zeroCells zv.cells (grownCap w (k+ys.length) (c - lo) s.e - (k+ys.length))) s.e)).heap[g]? =w.heap[g]? :=heap_alloc_old w.drew _ hgl
   simp only[World.cell?,hold] at h9 ⊢
   exact h9
  refine RA.cut (n:=n) (z:=zs.length) (lo:=0) (k:=k+ys.length) (o:=0) (g:=w.heap.size) (c:=grownCap w (k+ys.length) (c - lo) s.e) (len:=k+ys.length) (Or.inl rfl) (upd_same _ _ _) ⟨.inr (by simp),fun _=>rfl⟩ (by omega)
end
end Go.Vl
