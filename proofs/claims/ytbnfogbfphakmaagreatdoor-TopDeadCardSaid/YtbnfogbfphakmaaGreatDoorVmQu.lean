/- A queue: append to the end part of an owned row; what lies ahead of the part stays, or is gone. Conditions: none. -/
import Derived.Test.YtbnfogbfphakmaaGreatDoorVmFr
import Derived.Test.YtbnfogbfphakmaaGreatDoorVmQq
import Derived.ArgAppend
set_option linter.unusedSimpArgs false
set_option linter.unusedVariables false
namespace Go.Vl
open Go Go.RowKit
section
variable {P:Program} {K:Ctx P} {st:St} {ops:Array Oper} {Q:Exit→St→Prop}
def St.appQ (st:St) (n d z:Nat) (s:VS) (rows:List (List D)) (lo k:Nat):St:=St.put { nt:=st.nt,env:=Bl (AV.scrub n) st.env,box:=Bl (List.map (AV.scrub n)) st.box,vec:=(n,{ s with rows:=rows })::del st.vec n } d (.cut n z lo k)
theorem Pt {l:List Oper} {o:Oper} {x y:Operand} {t e:TypeId} {d n z lo k:Nat} {s:VS} {zs:List AV} {ys:List (List D)}
  (hg:gdA ops st o=some true) (ho:o.op=.call { callee:=.builtin .append,args:=#[x,y],argTypes:=#[t,t]}) (hd:o.dst=some d) (hdn:d < st.nt)
  (hx:opd st x=.cut n z lo k) (hs:get st.vec n=some s) (he:s.e=e) (hsz:s.z=z) (hzl:zs.length=z) (hu:P.underlying t=some (.slice e)) (hz:Aw P e=some zs) (hpos:0 < z) (hby:EX P e=true) (he6:e < 1000000)
  (hy:rowsOf st (opd st y)=some ys) (hyz:∀r∈ys,r.length=z) (hm:0 < ys.length) (hlen:lo+k=s.rows.length) (hk:0 < k) (hsm:s.rows.length+ys.length≤268435456)
  (H1:Az P K ops l (st.appQ n d z s (s.rows++ys) lo (k+ys.length)) Q) (H2:Az P K ops l (st.appQ n d z s (s.rows.drop lo++ys) 0 (k+ys.length)) Q):Az P K ops (o::l) st Q:=by
 subst he;subst hzl
 intro a w p R
 unfold wpList
 rw[A9 R hg,if_pos rfl]
 left
 unfold Oper.wp
 have hM:s.isM=false:=CK he6
 obtain⟨hat,hxz,_⟩:=R.vec n s hs
 obtain⟨xv,hown,hxr⟩:=hat.row hM
 have hyu:=R.opd y
 have hxv:=R.opd x
 rw[hx] at hxv
 have fin:∀{v':Value} {w':World} {p':Pl} {st1:St} {u:AV},(Builtin.append_ #[t,t] o.type #[a.eval x,a.eval y]).run P w=.ok v' w'→Rel K st1 a w' p'→RA w' (okc K w' p') p' u v'→st1.nt=st.nt→Az P K ops l (st1.put d u) Q→o.upon P a (wpList P ops (Pst K Q) l) (Pst K Q) ((execOp a.eval o).run P w):=by
  intro v' w' p' st1 u hrun R' h1 h2 H
  rw[show (execOp a.eval o).run P w=.ok (.value v') w' by simp[execOp,ho,resolve,invoke,builtin,hrun]]
  show wpList P ops (Pst K Q) l (a.put o.dst v') w'
  rw[hd]
  exact H _ _ _ (R'.put h1 (by rw[h2];exact hdn))
 generalize hax:a.eval x=ax at *
 generalize hay:a.eval y=ay at *
 cases hxv with
 |cut0=>omega
 |cut hn hv hoff hle=>
 rename_i off g c len
 have hoff':off=lo * zs.length:=hoff.1.resolve_left (by omega)
 subst hoff'
 obtain⟨i,zv,hi,hzv,hs0,hzs,h1⟩:=CS hz
 have hzl:zs.length=i.size:=by rw[hzs];simp[hs0]
 rw[hsz] at hown
 obtain⟨b,cy,rfl,hc⟩:=EE R hy hyu
 have hbytes:i.bytes≤65536:=by simpa[EX,hi] using hby
 have hbb:(s.rows.length+ys.length) * i.bytes≤268435456 * 65536:=Nat.mul_le_mul hsm hbytes
 have hbk:(k+ys.length) * i.bytes≤268435456 * 65536:=Nat.mul_le_mul (by omega) hbytes
 have hy0:ys≠[]:=fun e=>by subst e;simp at hm
 rcases hc with rfl |⟨ad,z',news,rfl,hl,hz',hcell,hone,hrd⟩
 ·simp at hm
 obtain⟨r,hr⟩:=List.exists_mem_of_ne_nil _ hy0
 have hzz:z'=i.size:=(hz' r hr).symm.trans ((hyz r hr).trans hzl)
 subst hzz
 rcases hown.2 with ⟨h0,_⟩ |⟨g',cap,cur,h0,hb1,hgc,hb2,hb3,hb4,hb5⟩
 ·rw[hv] at h0;cases h0
 rw[hv] at h0
 injection h0 with h01 h02 h03
 injection h01 with h01
 injection h01 with h01
 subst h01;subst h02;subst h03
 have hxvl:xv.length=s.rows.length * i.size:=by rw[← hzl];exact hown.1
 have hgl:g < w.heap.size:=(Array.getElem?_eq_some_iff.1 hgc).1
 have hdl:get (del st.vec n) n=none:=by rw[Av,if_pos rfl]
 have hfx:s.rows.flatten.length=s.rows.length * zs.length:=A4 (fun r hr=>(hxz r hr).trans hsz)
 have hcx:∀j u,xv[j]? =some u→w.cell? ⟨g,j,none⟩=some u:=fun j u hj=>by
  have hjl:=(List.getElem?_eq_some_iff.1 hj).1
  rw[← hb5,List.getElem?_take] at hj
  split at hj
  ·simp only[World.cell?,hgc]
   rw[Array.getElem?_toList] at hj
   simp[hj]
  ·cases hj
 by_cases hroom:k+ys.length≤c - lo
 ·-- there is room
  obtain⟨v',w',xv',r1,o1,g1,_,x1⟩:=GM (ty:=o.type) hu hz hpos hby R (v:=p.rw n) hown hy (u:=.slice (some ad) ys.length cy) hyu hyz hsm (fun r hr=>(hxz r hr).trans hsz) hxr
  have hcap:cur.size=c * i.size:=by rw[← hzl];exact hb4
  have hin:∀j,j < news.length→s.rows.length * i.size+j < c * i.size:=fun j hj=>by
   have:(s.rows.length+ys.length) * i.size≤c * i.size:=Nat.mul_le_mul_right _ (by omega)
   rw[Nat.add_mul] at this;omega
  have hc1:∀j,j < news.length→(w.cell? ⟨g,s.rows.length * i.size+j,none⟩).isSome=true:=fun j hj=>by
   have:=hin j hj
   simp only[World.cell?,hgc]
   rw[Array.getElem?_eq_getElem (by omega)]
   rfl
  have hf1:∀j,j < news.length→w.frozen? ⟨g,s.rows.length * i.size+j,none⟩=false:=fun j hj=>by
   simp[World.frozen?,hgc]
  have e1:=run_append_room_cells (P:=P) w t o.type s.e i hu hi g 0 s.rows.length c ad ys.length cy news hl hcell hone (by omega) (by simpa using hc1) (by simpa using hf1)
  have hmul:lo * i.size+k * i.size=s.rows.length * i.size:=by rw[← Nat.add_mul,hlen]
  have e2:=run_append_room_cells (P:=P) w t o.type s.e i hu hi g (lo * i.size) k (c - lo) ad ys.length cy news hl hcell hone hroom (by rw[hmul];exact hc1) (by rw[hmul];exact hf1)
  rw[hmul] at e2
  rw[Nat.zero_add] at e1
  rw[hv] at r1
  rw[e1] at r1
  injection r1 with r1 r2
  subst r1;subst r2
  have hv2:p.rw n=.slice (some ⟨g,0,none⟩) s.rows.length c:=hv
  have R':=R.setVec (n:=n) (d:=n) (s:={ s with rows:=s.rows++ys }) hM hdl g1 (Nat.zero_le _) (.inr ⟨hn,rfl⟩) (by show World.ownsRow _ _ s.e s.z _ _ xv';rw[hsz];exact o1)
   (fun r hr=>by rcases List.mem_append.1 hr with h |h;exact hxz r h;exact(hyz r h).trans hsz.symm) x1 (.inr (.inl ⟨hn,by rw[hv];rfl⟩))
  refine fin (v':=.slice (some ⟨g,lo * zs.length,none⟩) (k+ys.length) (c - lo)) (by rw[hzl];exact e2) R' ?_ rfl H1
  refine RA.cut (n:=n) (z:=zs.length) (lo:=lo) (k:=k+ys.length) (o:=lo * zs.length) (g:=g) (c:=c) (len:=s.rows.length+ys.length) (Or.inl rfl) (upd_same _ _ _) ⟨.inr rfl,fun h=>by rw[h];simp⟩ (by omega)
 ·-- a new row
  have ho1:(xv.drop (lo * i.size)).length=k * i.size:=by
   have:lo * i.size+k * i.size=s.rows.length * i.size:=by rw[← Nat.add_mul,hlen]
   rw[List.length_drop];omega
  have ho2:∀j u,(xv.drop (lo * i.size))[j]? =some u→w.cell? ((⟨g,lo * i.size,none⟩:Addr).add j)=some u:=fun j u hj=>by
   rw[List.getElem?_drop] at hj
   rw[Addr.add_lit];exact hcx _ _ hj
  have hrun:=run_append_grow (P:=P) w t o.type s.e i zv hu hi hzv ⟨g,lo * i.size,none⟩ k (c - lo) (xv.drop (lo * i.size)) ho1 ho2 ad ys.length cy news hl hcell (by omega) (by omega) (growslice_fits (by omega) (by omega))
  have hge:=grownCap_ge w (k+ys.length) (c - lo) s.e
  have hcm:grownCap w (k+ys.length) (c - lo) s.e≤maxLen:=grownCap_le_maxLen w _ _ s.e (by simp only[maxLen];omega)
  have hlen2:(xv.drop (lo * i.size)++news).length=(k+ys.length) * i.size:=by rw[List.length_append,ho1,hl,Nat.add_mul]
  have hdr:(s.rows.drop lo).length=k:=by simp;omega
  have hown2:(w.drew.alloc (.cells ((xv.drop (lo * i.size)).toArray++news.toArray++Builtin.zeroCells zv.cells (grownCap w (k+ys.length) (c - lo) s.e - (k+ys.length))) s.e)).ownsRow 0 s.e zs.length (.slice (some ⟨w.heap.size,0,none⟩) (k+ys.length) (grownCap w (k+ys.length) (c - lo) s.e)) (s.rows.drop lo++ys).length (xv.drop (lo * i.size)++news):=by
   rw[hzl,List.length_append,hdr]
   refine⟨hlen2,.inr ⟨w.heap.size,_,_,rfl,Nat.zero_le _,heap_alloc_new w.drew _,hge,hcm,?_,?_⟩⟩
   ·simp only[Array.size_append,List.size_toArray,size_zeroCells,hs0,ho1,hl,←Nat.add_mul]
    congr 1
    omega
   ·simp only[Array.toList_append,List.append_assoc]
    rw[← List.append_assoc,←hlen2]
    exact List.take_left
  have R':=R.setVec (n:=n) (d:=n) (s:={ s with rows:=s.rows.drop lo++ys }) (w':=w.drew.alloc (.cells ((xv.drop (lo * i.size)).toArray++news.toArray++Builtin.zeroCells zv.cells (grownCap w (k+ys.length) (c - lo) s.e - (k+ys.length))) s.e)) (v':=.slice (some ⟨w.heap.size,0,none⟩) (k+ys.length) (grownCap w (k+ys.length) (c - lo) s.e)) (row:=none) hM hdl ⟨rfl,rfl,rfl,by simp,fun k hk _=>Below.heap_alloc w.drew _ k hk⟩ (Nat.zero_le _) (.inl rfl) (by show World.ownsRow _ _ s.e s.z _ _ _;rw[hsz];exact hown2)
   (fun r hr=>by rcases List.mem_append.1 hr with h |h;exact hxz r (List.mem_of_mem_drop h);exact(hyz r h).trans hsz.symm) (fun j d u hdd hu'=>by
    have hfd:(s.rows.drop lo).flatten=s.rows.flatten.drop (lo * i.size):=by rw[← hzl];exact FV (fun r hr=>(hxz r hr).trans hsz) lo
    rw[List.flatten_append,List.getElem?_append] at hdd
    rw[List.getElem?_append] at hu'
    have hfl:(s.rows.drop lo).flatten.length=k * i.size:=by
     rw[A4 (z:=zs.length) (fun r hr=>(hxz r (List.mem_of_mem_drop hr)).trans hsz),hdr,hzl]
    split at hdd
    ·rw[if_pos (by omega)] at hu'
     rw[hfd,List.getElem?_drop] at hdd
     rw[List.getElem?_drop] at hu'
     exact hxr _ d u hdd hu'
    ·rw[if_neg (by omega)] at hu'
     exact hrd _ d u hdd (by rw[hfl,←ho1];exact hu')) (.inr (.inr rfl))
  refine fin (v':=.slice (some ⟨w.heap.size,0,none⟩) (k+ys.length) (grownCap w (k+ys.length) (c - lo) s.e)) (by rw[hzl];exact hrun) R' ?_ rfl H2
  refine RA.cut (n:=n) (z:=zs.length) (lo:=0) (k:=k+ys.length) (o:=0) (g:=w.heap.size) (c:=grownCap w (k+ys.length) (c - lo) s.e) (len:=k+ys.length) (Or.inl rfl) (upd_same _ _ _) ⟨.inr (by simp),fun _=>rfl⟩ (by omega)
theorem SU {s:St} (t n:Nat) {S:VS} (ht:s.look t=.vec n) (hs:get s.vec n=some S) (hM:S.isM=false:=by rfl):Wk s (s.put t (.cut n S.z 0 S.rows.length)):=fun K a w p R=>by
 obtain⟨hat,hxz,_⟩:=R.vec n S hs
 obtain⟨xv,hown,hxr⟩:=hat.row hM
 have hn:p.lv n:=(R.lvi n).2 (by simp[St.lv,hs])
 refine⟨p,R.also ?_⟩
 have h:=R.opd (.tmp t)
 have ho:opd s (.tmp t)=.vec n:=ht
 rw[ho] at h
 simp only[Act.eval] at h
 generalize a.tmps.getD t undef=v at h
 cases h
 rcases hown.2 with ⟨h0,h2⟩ |⟨g,cap,cur,h0,_,_,_⟩
 ·rw[h0,h2];exact .cut0 hn h0
 ·rw[h0]
  exact RA.cut (n:=n) (z:=S.z) (lo:=0) (k:=S.rows.length) (o:=0) (g:=g) (c:=cap) (len:=S.rows.length) hn h0 ⟨.inr (by simp),fun _=>rfl⟩ (by omega)
theorem Mm {c:Code} {σ ε γ:Type} {body:σ→Option (Lp σ ε)} {Q:Exit→St→Prop} (S:γ→σ→St) (I:γ→σ→Prop) {g0:γ} {s0:σ} {e:ε} (hg0:I g0 s0) (hI:iter body s0=some e) (W:Wk st (S g0 s0))
  (round:∀(G:σ→Prop) (g:γ) (s:σ) (o:Lp σ ε),I g s→body s=some o→(∀s',.go s'=o→G s')→(∀e',.out e'=o→e'=e)→Tr P K c (S g s) (Cq (fun st'=>∃g' s',G s'∧I g' s'∧Wk st' (S g' s')) Q)):Tr P K (.loop c) st Q:=fun a w p R=>by
 obtain⟨p1,R1⟩:=W K a w p R
 obtain⟨n0,hn0⟩:=EL.1 hI
 exact wp_loop_ghost (fun n a' w'=>∃g s p',I g s∧itN body n s=some e∧Rel K (S g s) a' w' p') n0 ⟨g0,s0,_,hg0,hn0,R1⟩ (fun n a' w' ⟨g,s,p',hi,hn,R'⟩=>by
  cases n with
  |zero=>simp[itN] at hn
  |succ n=>
   simp only[itN] at hn
   cases hb:body s with
   |none=>simp[hb] at hn
   |some o=>
    rw[hb] at hn
    refine wp_mono (round (fun s'=>itN body n s'=some e) g s o hi hb (fun s' h=>by subst h;exact hn) (fun e' h=>by subst h;simpa using hn) a' w' p' R') fun x a2 w2 ⟨t,p2,R2,q⟩=>?_
    cases x with
    |normal=>
     obtain⟨g',s',hG,hi',W2⟩:=q
     obtain⟨p3,R3⟩:=W2 K a2 w2 p2 R2
     exact⟨n,Nat.lt_succ_self n,g',s',_,hi',hG,R3⟩
    |_=>exact⟨t,p2,R2,q⟩)
end
end Go.Vl
