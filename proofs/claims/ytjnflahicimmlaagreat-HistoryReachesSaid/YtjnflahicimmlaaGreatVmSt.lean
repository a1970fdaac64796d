/- The value logic: a string converted to bytes. Conditions: none. -/
import Derived.Test.YtjnflahicimmlaaGreatVmX
import Derived.Lib.ConvBytes
set_option linter.unusedSimpArgs false
set_option linter.unusedVariables false
namespace Go.Vl
open Go
def sbytes (b:ByteArray):List Int:=b.data.toList.map fun c=>(c.toNat:Int)
theorem sbytes_length (b:ByteArray):(sbytes b).length=b.size:=by unfold sbytes;rw[List.length_map,Array.length_toList];rfl
section
variable {P:Program} {K:Ctx P} {st:St} {a:Act} {w:World} {p:Pl} {ops:Array Oper} {Q:Exit→St→Prop}
theorem tops_str {l:List Oper} {o:Oper} {s t e:TypeId} {x:Operand} {d:Nat} {b:ByteArray} (hg:gdA ops st o=some true) (ho:o.op=.convert s t x) (hd:o.dst=some d) (hdn:d < st.nt) (hx:opd st x=.d (.str b))
  (hs:P.underlying s=some .string) (hu:P.underlying t=some (.slice e)) (he:P.underlying e=some (.int .u8))
  (h:TOps P K ops l (st.put d (.d (.slice (rowsF (iRow .u8) (sbytes b))))) Q):TOps P K ops (o::l) st Q:=by
 intro a w p R
 have hxv:=R.opd x
 rw[hx] at hxv
 have hxe:a.eval x=.string b:=by
  generalize a.eval x=v at hxv
  cases hxv with |d h=>cases h;rfl
 unfold wpList
 rw[gd_sound R hg,if_pos rfl]
 refine .inl ?_
 unfold Oper.wp
 have hrun:(execOp a.eval o).run P w=.ok (.value (.slice (some ⟨w.heap.size,0,none⟩) b.size (grownCap w b.size 0 e))) (Lib.bytesWorld w e b):=by
  simp only[execOp,ho]
  rw[hxe]
  simp[Lib.run_convert_string_bytes w s t e b hs hu he]
 rw[hrun]
 have hold:∀j,j < w.heap.size→(Lib.bytesWorld w e b).heap[j]? =w.heap[j]? :=fun j hj=>Lib.bytesWorld_at_old w e b j hj
 have hsz:(Lib.bytesWorld w e b).heap.size=w.heap.size+1:=Lib.bytesWorld_size w e b
 have hok:∀k,okc K w p k→okc K (Lib.bytesWorld w e b) p k:=fun k hk=>okc_grow (by omega) hk
 have hblt:∀n,p.lb n→p.bx n < w.heap.size:=fun n hn=>R.blt hn
 have hvlt:∀n g,p.lv n→(p.rw n).blk=some g→g < w.heap.size:=fun n g hn hg=>(R.vlt hn hg).2
 have R1:Rel K st a (Lib.bytesWorld w e b) p:=R.evo ⟨by omega,by simp[Lib.bytesWorld,World.freeze,World.alloc,World.drew, -World.alloc_eq, -World.drew_eq],by simp[Lib.bytesWorld,World.freeze,World.alloc,World.drew, -World.alloc_eq, -World.drew_eq],by simp[Lib.bytesWorld,World.freeze,World.alloc,World.drew, -World.alloc_eq, -World.drew_eq],fun k h1 _=>hold k (by have:=R.size;omega),fun q hq=>see_of_block (hold _ hq.1),hok,fun _ _ h=>⟨h,rfl⟩,fun _ _ h=>⟨h,rfl⟩,by simp[Lib.bytesWorld,World.freeze,World.alloc,World.drew, -World.alloc_eq, -World.drew_eq]⟩ (fun n hn=>hold _ (hblt n hn)) (fun n g hn hg=>hold _ (hvlt n g hn hg))
 have hk:okc K (Lib.bytesWorld w e b) p w.heap.size:=⟨by omega,.inr (.inl R.size),fun n hn e1=>by have:=hblt n hn;omega,fun n hn e1=>by have:=hvlt n _ hn e1;omega⟩
 have hlen:(rowsF (iRow .u8) (sbytes b)).length=b.size:=by simp[rowsF,sbytes_length]
 have hfl:(rowsF (iRow .u8) (sbytes b)).flatten=(sbytes b).map fun c=>D.int .u8 c:=by
  unfold rowsF
  generalize sbytes b=l
  induction l with
  |nil=>rfl
  |cons y l ih=>rw[List.map_cons,List.flatten_cons,ih];rfl
 have hrd:RA (Lib.bytesWorld w e b) (okc K (Lib.bytesWorld w e b) p) p (.d (.slice (rowsF (iRow .u8) (sbytes b)))) (.slice (some ⟨w.heap.size,0,none⟩) b.size (grownCap w b.size 0 e)):=by
  rw[← hlen]
  refine .d (.slice 1 (fun j=>.int .u8 (b.data.toList.getD j 0).toNat) (fun r hr=>?_) hk (by rw[hlen];exact grownCap_ge w b.size 0 e) (fun j hj=>?_) fun j x hx=>?_)
  ·unfold rowsF at hr
   obtain⟨y,_,rfl⟩:=List.mem_map.1 hr
   rfl
  ·rw[hfl,List.length_map,sbytes_length] at hj
   rw[add_blk,Nat.zero_add]
   exact Lib.bytesWorld_cell w e b j hj
  ·rw[hfl,sbytes,List.map_map,List.getElem?_map] at hx
   cases hj:b.data.toList[j]? with
   |none=>rw[hj] at hx;cases hx
   |some c=>
    rw[hj] at hx
    simp only[Option.map_some,Option.some.injEq,Function.comp] at hx
    subst hx
    rw[List.getD_eq_getElem?_getD,hj]
    exact .int
 show wpList P ops (Pst K Q) l (a.put o.dst _) _
 rw[hd]
 exact h _ _ _ (R1.put hrd hdn)
theorem kstr {ops:Array Oper} {o:Oper} {l:List Oper} {s t e:TypeId} {x:Operand} {d:Nat} {b:ByteArray} {st1:St} (ks:List Nat) (ho:o.op=.convert s t x) (hd:o.dst=some d) (hs:P.underlying s=some .string) (hu:P.underlying t=some (.slice e)) (he:P.underlying e=some (.int .u8))
  (hall:gdA ops st o=some true∧d < st.nt∧opd st x=.d (.str b))
  (hst:St.kp ks (st.put d (.d (.slice (rowsF (iRow .u8) (sbytes b)))))=st1) (h:TOps P K ops l st1 Q):TOps P K ops (o::l) st Q:=by
 obtain⟨hg,hdn,hx⟩:=hall
 subst hst
 exact tops_str hg ho hd hdn hx hs hu he (tops_wk (wk_kp ks) h)
theorem Rel.nilBox (R:Rel K st a w p) {b i:Nat} {cs:List AV} (hb:get st.box b=some cs) (hi:cs[i]? =some .nilS):Rel K { st with box:=(b,cs.set i (.d (.slice [])))::st.box } a w p:=by
 have hl:∀m,(get ((b,cs.set i (.d (.slice [])))::st.box) m).isSome=(get st.box m).isSome:=fun m=>by
  simp only[get]
  split
  ·rename_i h;subst h;simp[hb]
  ·rfl
 exact {
  lb:=by rw[R.lb];funext m;simp only[St.lb,hl]
  lv:=R.lv
  dfr:=R.dfr
  nt:=R.nt
  ntl:=R.ntl
  ion:=R.ion
  size:=R.size
  os:=R.os
  tape:=R.tape
  dr:=R.dr
  output:=R.output
  old:=R.old
  env:=R.env
  box:=fun m cs' h=>by
   simp only[get] at h
   split at h
   ·rename_i hm
    subst hm
    cases h
    obtain⟨⟨vs,ty,h1,h2,h3,h4⟩,h5⟩:=R.box _ _ hb
    refine⟨⟨vs,ty,h1,by simpa using h2,fun j c v hc hv=>?_,h4⟩,h5⟩
    rw[List.getElem?_set] at hc
    by_cases hj:i=j
    ·subst hj
     have hlt:i < cs.length:=(List.getElem?_eq_some_iff.1 hi).1
     rw[if_pos rfl,if_pos hlt] at hc
     cases hc
     exact(h3 i _ v hi hv).fin
    ·rw[if_neg hj] at hc
     exact h3 j c v hc hv
   ·exact R.box _ _ h
  vec:=R.vec
  dbb:=R.dbb
  dbv:=R.dbv
  dvv:=R.dvv }
theorem wk_nilb {s:St} (b i:Nat) {cs:List AV} (hb:get s.box b=some cs) (hi:cs[i]? =some .nilS):Wk s { s with box:=(b,cs.set i (.d (.slice [])))::s.box }:=fun _ _ _ _ R=>⟨_,R.nilBox hb hi⟩
theorem tops_nilq {l:List Oper} {o:Oper} {t e ty:TypeId} {x y:Operand} {d:Nat} (hg:gdA ops st o=some true) (ho:o.op=.binOp .eql t x y ty) (hd:o.dst=some d) (hdn:d < st.nt) (hx:opd st x=.d (.slice [])) (hy:opd st y=.nilS)
  (hu:P.underlying t=some (.slice e)) (h:∀b:Bool,TOps P K ops l (st.put d (.d (.bool b))) Q):TOps P K ops (o::l) st Q:=by
 intro a w p R
 have hxv:=R.opd x
 have hyv:=R.opd y
 rw[hx] at hxv
 rw[hy] at hyv
 unfold wpList
 rw[gd_sound R hg,if_pos rfl]
 refine .inl ?_
 unfold Oper.wp
 generalize hax:a.eval x=u at hxv
 generalize hay:a.eval y=v at hyv
 cases hyv
 have:∃(q:Option Addr) (n c:Nat),u=.slice q n c:=by
  cases hxv with
  |d hq=>cases hq with
   |snil=>exact⟨_,_,_,rfl⟩
   |slice=>exact⟨_,_,_,rfl⟩
 obtain⟨q,n,c,e1⟩:=this
 subst e1
 have hrun:(execOp a.eval o).run P w=.ok (.value (.bool q.isNone)) w:=by
  have hgu:(eqGuard .eql t x y (.slice q n c) (.slice none 0 0)).run P w=.ok () w:=by cases q <;> simp[eqGuard]
  simp[execOp,ho,hax,hay,hgu,(run_slice_nilcmp (w:=w) hu q n c).1,Result.andThen]
 rw[hrun]
 show wpList P ops (Pst K Q) l (a.put o.dst _) w
 rw[hd]
 exact h q.isNone _ _ _ (R.put (.d .bool) hdn)
end
end Go.Vl
