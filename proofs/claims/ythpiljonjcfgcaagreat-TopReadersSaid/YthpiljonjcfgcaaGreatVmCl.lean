/- The end of an owned row is cleared. Conditions: none. -/
import Derived.Test.YthpiljonjcfgcaaGreatVmU
set_option linter.unusedSimpArgs false
set_option linter.unusedVariables false
namespace Go.Vl
open Go
section
variable {P:Program} {K:Ctx P} {st:St} {ops:Array Oper} {Q:Exit→St→Prop}
theorem rep_flat {z k:Nat} {zs:List D} (hz:zs.length=z) (hp:0 < z):∀(j:Nat),j < k * z→(List.replicate k zs).flatten[j]? =zs[j % z]? :=by
 induction k with
 |zero=>intro j h;simp at h
 |succ k ih=>
  intro j h
  rw[List.replicate_succ,List.flatten_cons,List.getElem?_append]
  by_cases h1:j < zs.length
  ·rw[if_pos h1,Nat.mod_eq_of_lt (by omega)]
  ·rw[if_neg h1,hz]
   have h2:j - z < k * z:=by rw[Nat.add_mul] at h;omega
   rw[ih (j - z) h2]
   congr 1
   rw[Nat.mod_eq_sub_mod (a:=j) (by omega)]
theorem clear1 {cs:Array Value} (h:cs.toList.all Value.oneCell'=true):∀(j:Nat) (v:Value),cs[j]? =some v→v.oneCell'=true:=fun j v hj=>List.all_eq_true.1 h v (by
 rw[← Array.getElem?_toList] at hj
 exact List.mem_of_getElem? hj)
def zval:D→Option Value
 | .int k n=>some (.int k n)
 | .bool b=>some (.bool b)
 | .str s=>some (.string s)
 |_=>none
def zvals:List D→Option (List Value)
 |[]=>some []
 |d::l=>(zval d).bind fun v=>(zvals l).map (v::·)
theorem zvals_get:∀{zs:List D} {cs:List Value},zvals zs=some cs→∀(j:Nat) (y:D) (v:Value),zs[j]? =some y→cs[j]? =some v→zval y=some v
 |[],_,h,j,y,v,h1,_=>by simp at h1
 |d::l,cs,h,j,y,v,h1,h2=>by
  simp only[zvals] at h
  obtain⟨u,hu,h⟩:=Option.bind_eq_some_iff.1 h
  obtain⟨cs',hc,rfl⟩:=Option.map_eq_some_iff.1 h
  cases j with
  |zero=>simp at h1 h2;subst h1;subst h2;exact hu
  |succ j=>simp at h1 h2;exact zvals_get hc j y v h1 h2
theorem clearD {zs:List D} {cs:Array Value} (h:zvals zs=some cs.toList):∀(w:World) (ok:Nat→Prop) (j:Nat) (y:D) (v:Value),zs[j]? =some y→cs[j]? =some v→RD w ok y v:=fun w ok j y v h1 h2=>by
 have:=zvals_get h j y v h1 (by rw[← Array.getElem?_toList] at h2;exact h2)
 cases y <;> simp[zval] at this <;> subst this
 ·exact .int
 ·exact .bool
 ·exact .str
theorem tops_clear {l:List Oper} {o:Oper} {t e:TypeId} {x:Operand} {n z lo k:Nat} {s:VS} {v0:Value} {zs:List D}
  (hg:gdA ops st o=some true) (ho:o.op=.call { callee:=.builtin .clear,args:=#[x],argTypes:=#[t]}) (hd:o.dst=none) (hx:opd st x=.cut n z lo k) (hs:get st.vec n=some s) (hM:s.isM=false)
  (hu:P.underlying t=some (.slice e)) (hzv:∀w,(zeroValue e).run P w=.ok v0 w) (hc:v0.cells.size=z) (hz:s.z=z) (hzl:zs.length=z) (hpos:0 < z) (hlen:lo+k=s.rows.length) (h1:∀(j:Nat) (v:Value),v0.cells[j]? =some v→v.oneCell'=true)
  (hrd:∀(w:World) (ok:Nat→Prop) (j:Nat) (y:D) (v:Value),zs[j]? =some y→v0.cells[j]? =some v→RD w ok y v)
  {rows':List (List D)} (hr:s.rows.take lo++List.replicate k zs=rows') (H:TOps P K ops l { st with vec:=(n,{ s with rows:=rows' })::st.vec } Q):TOps P K ops (o::l) st Q:=by
 subst hr
 intro a w p R
 unfold wpList
 rw[gd_sound R hg,if_pos rfl]
 left
 unfold Oper.wp
 obtain⟨hat,hzz,hmine⟩:=R.vec n s hs
 have hxr:=R.opd x
 rw[hx] at hxr
 generalize hax:a.eval x=ax at hxr
 have hput:∀{st':St} {w':World} {p':Pl},Rel K st' a w' p'→TOps P K ops l st' Q→(execOp a.eval o).run P w=.ok (.value (.tuple #[])) w'→o.upon P a (wpList P ops (Pst K Q) l) (Pst K Q) ((execOp a.eval o).run P w):=fun {st' w' p'} R' H' hr=>by
  rw[hr]
  show wpList P ops (Pst K Q) l (a.put o.dst (.tuple #[])) w'
  rw[hd]
  exact H' _ _ _ R'
 by_cases hk:k=0
 ·-- nothing to clear
  subst hk
  have he:s.rows.take lo=s.rows:=List.take_of_length_le (by omega)
  have hgv:∀m,get ((n,{ s with rows:=s.rows.take lo++List.replicate 0 zs })::st.vec) m=get st.vec m:=fun m=>by
   rw[he]
   simp only[List.replicate_zero,List.append_nil,get]
   split
   ·rename_i e;subst e;exact hs.symm
   ·rfl
  have R':Rel K { st with vec:=(n,{ s with rows:=s.rows.take lo++List.replicate 0 zs })::st.vec } a w p:={
   lb:=R.lb,lv:=by rw[R.lv];funext m;simp only[St.lv,hgv]
   dfr:=R.dfr,nt:=R.nt,ntl:=R.ntl,ion:=R.ion,size:=R.size,os:=R.os,tape:=R.tape,dr:=R.dr,output:=R.output,old:=R.old,env:=R.env,box:=R.box
   vec:=fun m s' h=>R.vec m s' (by rw[← hgv];exact h)
   dbb:=R.dbb,dbv:=R.dbv,dvv:=R.dvv }
  refine hput R' H ?_
  have hrun:(Builtin.clear_ #[t] o.type #[ax]).run P w=.ok (.tuple #[]) w:=by
   cases hxr with
   |cut _ _ _ _=>simp[Builtin.clear_,run_underlying hu,Result.andThen]
   |cut0 _ _=>simp[Builtin.clear_,run_underlying hu,Result.andThen]
  simp[execOp,ho,resolve,invoke,builtin,hax,hrun]
 ·cases hxr with
  |cut0 _ _=>omega
  |cut hn hv hoff hle=>
  rename_i off g c len
  have hoff':off=lo * z:=hoff.1.resolve_left hk
  subst hoff'
  obtain⟨xs,hown,hrdx⟩:=hat.row hM
  rcases hown.2 with ⟨h0,_⟩ |⟨g',cap,cur,h0,hb1,hgc,hb2,hb3,hb4,hb5⟩
  ·rw[hv] at h0;cases h0
  rw[hv] at h0
  injection h0 with h01 h02 h03
  injection h01 with h01
  injection h01 with h01
  subst h01;subst h02;subst h03
  have hsz:(Builtin.zeroCells v0.cells k).toList.length=k * z:=by simp[Builtin.zeroCells,hc]
  have hzget:∀(j:Nat) (v:Value),(Builtin.zeroCells v0.cells k).toList[j]? =some v→v0.cells[j % z]? =some v:=fun j v hj=>by
   have hj':j < k * z:=by have:=(List.getElem?_eq_some_iff.1 hj).1;omega
   simp only[Builtin.zeroCells,hc,Array.toList_map,List.getElem?_map,Array.toList_range,List.getElem?_range hj',Option.map_some] at hj
   have hm:j % z < v0.cells.size:=by rw[hc];exact Nat.mod_lt _ hpos
   rw[getElem!_pos v0.cells (j % z) hm] at hj
   rw[Array.getElem?_eq_getElem hm]
   exact hj
  have hone:∀v∈(Builtin.zeroCells v0.cells k).toList,v.oneCell'=true:=fun v hv'=>by
   obtain⟨j,hj⟩:=List.mem_iff_getElem?.1 hv'
   exact h1 _ v (hzget j v hj)
  have hbd:lo * z+k * z=s.rows.length * z:=by rw[← Nat.add_mul,hlen]
  have hcap:s.rows.length * z≤c * z:=Nat.mul_le_mul_right _ hb2
  rw[hz] at hb4 hb5 hown
  have hst:=run_storeCells_at P g (lo * z) s.e (Builtin.zeroCells v0.cells k).toList 0 cur w hgc (by rw[hsz];omega) hone
  simp only[Nat.add_zero] at hst
  generalize hcs:(Builtin.zeroCells v0.cells k).toList=cs at *
  let xs':=xs.take (lo * z)++cs++xs.drop (lo * z+cs.length)
  have hxl:xs.length=s.rows.length * z:=hown.1
  have hget:∀j,xs'[j]? =if j < lo * z then xs[j]? else if j < lo * z+k * z then cs[j - lo * z]? else xs[j]? :=fun j=>by
   simp only[xs']
   rw[splice_get _ _ (by omega),hsz]
  have hrows:∀r∈s.rows.take lo++List.replicate k zs,r.length=s.z:=fun r hr=>by
   rcases List.mem_append.1 hr with hr |hr
   ·exact hzz r (List.mem_of_mem_take hr)
   ·rw[(List.mem_replicate.1 hr).2,hz];exact hzl
  have hown':(w.setRow g (cur.toList.take (lo * z)++cs++cur.toList.drop (lo * z+cs.length)).toArray).ownsRow 0 s.e s.z (p.rw n) s.rows.length xs':=by
   rw[hz]
   refine⟨by simp[xs'];omega,.inr ⟨g,c,_,hv,hb1,setRow_heap w g cur _ s.e _ hgc,hb2,hb3,by simp;omega,?_⟩⟩
   apply List.ext_getElem?
   intro j
   rw[hget,List.getElem?_take,splice_get _ _ (by simp;omega),←hb5,hsz]
   simp only[List.getElem?_take,Array.getElem?_toList]
   by_cases hj:j < s.rows.length * z
   ·simp only[hj,if_true]
   ·rw[if_neg hj,if_neg (by omega),if_neg (by omega),if_neg hj]
  have hfl:(s.rows.take lo).flatten.length=lo * z:=by
   have:∀r∈s.rows.take lo,r.length=z:=fun r hr=>by rw[← hz];exact hzz r (List.mem_of_mem_take hr)
   rw[flat_len this,List.length_take,Nat.min_eq_left (by omega)]
  have hfx:s.rows.flatten=(s.rows.take lo).flatten++(s.rows.drop lo).flatten:=by rw[← List.flatten_append,List.take_append_drop]
  have R':=R.setRows (rows':=s.rows.take lo++List.replicate k zs) (xs':=xs') hs hv (by simp;omega) hrows hown' (fun j y v hy hv'=>by
   rw[hget] at hv'
   rw[List.flatten_append,List.getElem?_append,hfl] at hy
   by_cases hj:j < lo * z
   ·rw[if_pos hj] at hy hv'
    refine hrdx j y v ?_ hv'
    rw[hfx,List.getElem?_append,hfl,if_pos hj];exact hy
   ·rw[if_neg hj] at hy hv'
    have hj2:j - lo * z < k * z:=by
     have:=(List.getElem?_eq_some_iff.1 hy).1
     rw[flat_len (z:=z) (fun r hr=>by rw[(List.mem_replicate.1 hr).2];exact hzl),List.length_replicate] at this
     exact this
    rw[if_pos (by omega)] at hv'
    rw[rep_flat hzl hpos _ hj2] at hy
    have hv'':=hzget (j - lo * z) v hv'
    exact hrd w _ _ y v hy hv'')
  refine hput R' H ?_
  have hrun:(Builtin.clear_ #[t] o.type #[.slice (some ⟨g,lo * z,none⟩) k (c - lo)]).run P w=.ok (.tuple #[]) (w.setRow g (cur.toList.take (lo * z)++cs++cur.toList.drop (lo * z+cs.length)).toArray):=by
   obtain⟨m,rfl⟩:∃m,k=m+1:=⟨k - 1,by omega⟩
   simp[Builtin.clear_,run_underlying hu,Result.andThen,hzv,hcs,hst]
  simp[execOp,ho,resolve,invoke,builtin,hax,hrun]
end
end Go.Vl
