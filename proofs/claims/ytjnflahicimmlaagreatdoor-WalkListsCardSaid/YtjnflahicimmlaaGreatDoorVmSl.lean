/- The value logic: a string converted to bytes. Conditions: none. -/
import Derived.Lib.ConvBytes
import Derived.Test.YtjnflahicimmlaaGreatDoorVmZv
set_option linter.unusedSimpArgs false
set_option linter.unusedVariables false
namespace Go.Vl
open Go
def fU (b:ByteArray):List Int:=b.data.toList.map λc=>(c.toNat:Int)
theorem rq (b:ByteArray):(fU b).length=b.size:=by unfold fU;rw[bq,kE];rfl
section
variable {P:Program} {K:Ctx P} {st:St} {a:Act} {w:World} {p:Pl} {ops:Array Oper} {Q:Exit→St→Prop}
theorem Q5 {l:List Oper} {o:Oper} {s t e:TypeId} {x:Operand} {d:Nat} {b:ByteArray} (hg:pW ops st o=some true) (ho:o.op=.convert s t x) (hd:o.dst=some d) (nW:d < st.nt) (hx:ca st x=.d (.str b))
  (hs:P.underlying s=some .string) (hu:P.underlying t=some (.slice e)) (he:P.underlying e=some (.int .u8))
  (h:fc P K ops l (st.put d (.d (.slice (ak (aH .u8) (fU b))))) Q):fc P K ops (o::l) st Q:=by
 intro a w p R;have xn:=R.ca x;rw[hx] at xn;have Jh:a.eval x=.string b:=by
  generalize a.eval x=v at xn;cases xn with |d h=>cases h;rfl
 unfold wpList;rw[fH R hg,ai rfl];refine .inl ?_;unfold Oper.wp;have gT:(execOp a.eval o).run P w=.ok (.value (.slice (some ⟨w.heap.size,0,none⟩) b.size (grownCap w b.size 0 e))) (Lib.bytesWorld w e b):=by
  simp only[execOp,ho];rw[Jh];simp[Lib.run_convert_string_bytes w s t e b hs hu he]
 rw[gT];have hold:∀j,j < w.heap.size→(Lib.bytesWorld w e b).heap[j]? =w.heap[j]? :=λj hj=>Lib.bytesWorld_at_old w e b j hj
 have gS:(Lib.bytesWorld w e b).heap.size=w.heap.size+1:=Lib.bytesWorld_size w e b;have gD:∀k,dx K w p k→dx K (Lib.bytesWorld w e b) p k:=λk hk=>xZ (by omega) hk
 have V2:∀n,p.lb n→p.bx n < w.heap.size:=λn hn=>R.blt hn
 have abU:∀n g,p.lv n→(p.rw n).fN=some g→g < w.heap.size:=λn g hn hg=>(R.yI hn hg).2
 have R1:Rel K st a (Lib.bytesWorld w e b) p:=R.evo ⟨by omega,by simp[Lib.bytesWorld,World.freeze,World.alloc,World.drew, -World.alloc_eq, -World.drew_eq],by simp[Lib.bytesWorld,World.freeze,World.alloc,World.drew, -World.alloc_eq, -World.drew_eq],by simp[Lib.bytesWorld,World.freeze,World.alloc,World.drew, -World.alloc_eq, -World.drew_eq],λk h1 _=>hold k (by have:=R.size;omega),λq hq=>cT (hold _ hq.1),gD,λ_ _ h=>⟨h,rfl⟩,λ_ _ h=>⟨h,rfl⟩,by simp[Lib.bytesWorld,World.freeze,World.alloc,World.drew, -World.alloc_eq, -World.drew_eq]⟩ (λn hn=>hold _ (V2 n hn)) (λn g hn hg=>hold _ (abU n g hn hg));have hk:dx K (Lib.bytesWorld w e b) p w.heap.size:=⟨by omega,.inr (.inl R.size),λn hn e1=>by have:=V2 n hn;omega,λn hn e1=>by have:=abU n _ hn e1;omega⟩;have hlen:(ak (aH .u8) (fU b)).length=b.size:=by simp[ak,rq]
 have tW:(ak (aH .u8) (fU b)).flatten=(fU b).map λc=>D.int .u8 c:=by
  unfold ak;generalize fU b=l
  induction l with
  |nil=>rfl
  |cons y l ih=>rw[aW,eG,ih];rfl
 have rD:RA (Lib.bytesWorld w e b) (dx K (Lib.bytesWorld w e b) p) p (.d (.slice (ak (aH .u8) (fU b)))) (.slice (some ⟨w.heap.size,0,none⟩) b.size (grownCap w b.size 0 e)):=by
  rw[← hlen];refine .d (.slice 1 (λj=>.int .u8 (b.data.toList.getD j 0).toNat) (λr hr=>?_) hk (by rw[hlen];exact grownCap_ge w b.size 0 e) (λj hj=>?_) λj x hx=>?_)
  ·unfold ak at hr
   obtain⟨y,_,rfl⟩:=aG.1 hr
   rfl
  ·rw[tW,bq,rq] at hj
   rw[ix,gg];exact Lib.bytesWorld_cell w e b j hj
  ·rw[tW,fU,kU,aA] at hx
   cases hj:b.data.toList[j]? with
   |none=>rw[hj] at hx;cases hx
   |some c=>
    rw[hj] at hx;simp only[cr,ba,Function.comp] at hx;subst hx;rw[List.getD_eq_getElem?_getD,hj];exact .int
 show wpList P ops (FZ K Q) l (a.put o.dst _) _;rw[hd];exact h _ _ _ (R1.put rD nW)
theorem ae0 {ops:Array Oper} {o:Oper} {l:List Oper} {s t e:TypeId} {x:Operand} {d:Nat} {b:ByteArray} {st1:St} (ks:List Nat) (ho:o.op=.convert s t x) (hd:o.dst=some d) (hs:P.underlying s=some .string) (hu:P.underlying t=some (.slice e)) (he:P.underlying e=some (.int .u8))
  (tX:pW ops st o=some true∧d < st.nt∧ca st x=.d (.str b))
  (sV:St.kp ks (st.put d (.d (.slice (ak (aH .u8) (fU b)))))=st1) (h:fc P K ops l st1 Q):fc P K ops (o::l) st Q:=by
 obtain⟨hg,nW,hx⟩:=tX;subst sV;exact Q5 hg ho hd nW hx hs hu he (lA (CG ks) h)
theorem Rel.Yv (R:Rel K st a w p) {b i:Nat} {cs:List AV} (hb:get st.box b=some cs) (hi:cs[i]? =some .dK):Rel K { st with box:=(b,cs.set i (.d (.slice [])))::st.box } a w p:=by
 have hl:∀m,(get ((b,cs.set i (.d (.slice [])))::st.box) m).isSome=(get st.box m).isSome:=λm=>by
  simp only[get];split
  ·rename_i h;subst h;simp[hb]
  ·rfl
 exact {
  lb:=by rw[R.lb];funext m;simp only[St.lb,hl]
  lv:=R.lv
  pj:=R.pj
  nt:=R.nt
  pK:=R.pK
  oB:=R.oB
  size:=R.size
  os:=R.os
  tape:=R.tape
  dr:=R.dr
  output:=R.output
  old:=R.old
  env:=R.env
  box:=λm cs' h=>by
   simp only[get] at h;split at h
   ·rename_i hm
    subst hm;cases h;obtain⟨⟨vs,ty,h1,h2,h3,h4⟩,h5⟩:=R.box _ _ hb;refine⟨⟨vs,ty,h1,by simpa using h2,λj c v hc hv=>?_,h4⟩,h5⟩;rw[iV] at hc;by_cases hj:i=j
    ·subst hj
     have iN:i < cs.length:=(aj.1 hi).1;rw[ai rfl,ai iN] at hc;cases hc;exact(h3 i _ v hi hv).fin
    ·rw[ah hj] at hc
     exact h3 j c v hc hv
   ·exact R.box _ _ h
  vec:=R.vec
  oF:=R.oF
  my:=R.my
  mX:=R.mX }
theorem UJ {s:St} (b i:Nat) {cs:List AV} (hb:get s.box b=some cs) (hi:cs[i]? =some .dK):Wk s { s with box:=(b,cs.set i (.d (.slice [])))::s.box }:=λ_ _ _ _ R=>⟨_,R.Yv hb hi⟩
theorem OT {l:List Oper} {o:Oper} {t e ty:TypeId} {x y:Operand} {d:Nat} (hg:pW ops st o=some true) (ho:o.op=.binOp .eql t x y ty) (hd:o.dst=some d) (nW:d < st.nt) (hx:ca st x=.d (.slice [])) (hy:ca st y=.dK)
  (hu:P.underlying t=some (.slice e)) (h:∀b:Bool,fc P K ops l (st.put d (.d (.bool b))) Q):fc P K ops (o::l) st Q:=by
 intro a w p R;have xn:=R.ca x;have SB:=R.ca y;rw[hx] at xn;rw[hy] at SB;unfold wpList;rw[fH R hg,ai rfl];refine .inl ?_;unfold Oper.wp;generalize Jm:a.eval x=u at xn;generalize UA:a.eval y=v at SB;cases SB;have:∃(q:Option Addr) (n c:Nat),u=.slice q n c:=by
  cases xn with
  |d hq=>cases hq with
   |pQ=>exact⟨_,_,_,rfl⟩
   |slice=>exact⟨_,_,_,rfl⟩
 obtain⟨q,n,c,e1⟩:=this;subst e1;have gT:(execOp a.eval o).run P w=.ok (.value (.bool q.isNone)) w:=by
  have hgu:(eqGuard .eql t x y (.slice q n c) (.slice none 0 0)).run P w=.ok () w:=by cases q <;> simp[eqGuard]
  simp[execOp,ho,Jm,UA,hgu,(jC (w:=w) hu q n c).1,Result.andThen]
 rw[gT];show wpList P ops (FZ K Q) l (a.put o.dst _) w;rw[hd];exact h q.isNone _ _ _ (R.put (.d .bool) nW)
end
end Go.Vl
namespace Go.Vl
theorem Qg {α β:Type} {x y:Option α} {f:α→Option β} (h:x=y):x.bind f=y.bind f:=by rw[h]
attribute [congr] Qg
end Go.Vl
