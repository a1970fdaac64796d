/- The value logic: a region that draws its order, taken in every order. Conditions: none. -/
import Derived.Test.YtjnflahicimmlaaGreatDoorVmO
set_option linter.unusedSimpArgs false
set_option linter.unusedVariables false
namespace Go.Vl
open Go Go.RowKit
section
variable {P:Program} {K:Ctx P} {ops:Array Oper} {st st1:St} {Q:Exit→St→Prop} {n:Nat} {listed:Array Bool}
def gB (P:Program) (o:Oper):Bool:=gZ o||(match o.op with
 | .binOp op _ _ _ _=>match op with | .add | .sub | .mul=>true |_=>false
 | .fieldAddr _ _ _=>true
 | .indexAddr t _ _=>match P.underlying t with |some (.array _ _)=>true |some (.slice _)=>true |_=>false
 |_=>false)
theorem Qh {op:BinOp} (sB:op=.add∨op=.sub∨op=.mul) {t:TypeId} {x y z:AV} (h:FJ P op t x y=some z):(∃k a k' b,x=.d (.int k a)∧y=.d (.int k' b)∧∃kz c,z=.d (.int kz c))∨(∃a b,x=.d (.str a)∧y=.d (.str b)∧∃c,z=.d (.str c)):=by
 unfold FJ at h;split at h
 ·rename_i k a k' b
  left
  refine⟨k,a,k',b,rfl,rfl,?_⟩;rcases sB with rfl |rfl |rfl <;> simp only[aP] at h
  all_goals
   obtain⟨d,hd,rfl⟩:=h;split at hd
   case isFalse=>cases hd
   simp only[tT,ba] at hd;exact⟨_,_,by rw[← hd]⟩
 ·rename_i a b
  right
  refine⟨a,b,rfl,rfl,?_⟩;rcases sB with rfl |rfl |rfl <;> simp[zH] at h
  exact⟨_,h.2.symm⟩
 ·rcases sB with rfl |rfl |rfl <;> simp[za] at h
 ·rcases sB with rfl |rfl |rfl <;> simp at h
 all_goals (rcases sB with rfl |rfl |rfl <;> simp at h)
theorem JQ {w:World} {ok:Nat→Prop} {p:Pl} {t e:TypeId} (hs:P.underlying t=some (.slice e)) {rows:List (List D)} {row:List D} {k:IntKind} {i:Int} (h0:0≤i) (iE:rows[i.toNat]? =some row)
  (hz:fh P e=some row.length) {u:Value} (h:RD w ok (.slice rows) u):∃v,(∀w':World,(Instr.indexAt t u (.int k i)).run P w'=.ok v w')∧RA w ok p (.cN row 0) v:=by
 have hi:i.toNat < rows.length:=(aj.1 iE).1;obtain⟨v,h1,h2⟩:=Ih (p:=p) (k:=k) hs h0 iE hz h;cases h with
 |pQ=>simp at hi
 |slice z vs Aw gD hc eY hd=>
  rename_i b c;have iN:i < (rows.length:Int):=by omega
  have gT:∀w':World,(Instr.indexAt t (.slice (some b) rows.length c) (.int k i)).run P w'=.ok (.pointer (some (b.add (i.toNat * row.length)))) w':=λw'=>by
   simp[Instr.indexAt,aJ hs,asIntOf,h0,iN,eO hz]
  rw[gT w] at h1;cases h1;exact⟨_,gT,h2⟩
theorem xW {a:Act} {w:World} {p:Pl} (R:Rel K st a w p) {o:Oper} {x:AV} (hp:gB P o=true) (h:gI P st o=some x):∃v,(∀w':World,(execOp a.eval o).run P w'=.ok (.value v) w')∧RA w (dx K w p) p x v:=by
 unfold gB at hp;rw[cj] at hp;rcases hp with hp |hp
 ·exact Mm R hp h
 split at hp
 ·rename_i op t y z b ho
  have sB:op=.add∨op=.sub∨op=.mul:=by cases op <;> simp at hp <;> simp
  simp only[gI,ho] at h;have hy:=R.ca y;have hz:=R.ca z;rcases Qh sB h with ⟨k,a1,k',b1,e1,e2,kz,c,rfl⟩ |⟨a1,b1,e1,e2,c,rfl⟩
  ·rw[e1] at hy h
   rw[e2] at hz h;generalize hu:a.eval y=u at hy;generalize hv:a.eval z=v at hz;cases hy with |d hy=>cases hy with |int=>
   cases hz with |d hz=>cases hz with |int=>
   refine⟨.int kz c,λw'=>?_,.d .int⟩;obtain⟨r,h1,h2⟩:=rh (w:=w') (ok:=λ_=>False) (p:=p) h (.d .int) (.d .int) y z;cases h2 with |d h2=>cases h2 with |int=>
   have hg:(eqGuard op t y z (Value.int k a1) (Value.int k' b1)).run P w'=.ok () w':=by rcases sB with rfl |rfl |rfl <;> simp[eqGuard]
   simp only[bk,hg,aU] at h1;simp[execOp,ho,hu,hv,hg,h1]
  ·rw[e1] at hy h
   rw[e2] at hz h;generalize hu:a.eval y=u at hy;generalize hv:a.eval z=v at hz;cases hy with |d hy=>cases hy with |str=>
   cases hz with |d hz=>cases hz with |str=>
   refine⟨.string c,λw'=>?_,.d .str⟩;obtain⟨r,h1,h2⟩:=rh (w:=w') (ok:=λ_=>False) (p:=p) h (.d .str) (.d .str) y z;cases h2 with |d h2=>cases h2 with |str=>
   have hg:(eqGuard op t y z (Value.string a1) (Value.string b1)).run P w'=.ok () w':=by rcases sB with rfl |rfl |rfl <;> simp[eqGuard]
   simp only[bk,hg,aU] at h1;simp[execOp,ho,hu,hv,hg,h1]
 ·rename_i s y f ho
  simp only[gI,ho] at h;unfold Fu at h;split at h
  case h_2=>cases h
  rename_i fs hs;cases hf:fs[f]? with
  |none=>simp[hf] at h
  |some fd=>
   simp only[hf,aa] at h;split at h
   case h_2=>cases h
   rename_i k hk;obtain⟨b,e,hb⟩:=wF h (R.ca y);exact⟨_,λw'=>by simp[execOp,ho,e,Instr.fieldAt,Instr.sureAddr,aJ hs,hf,fieldPlace,eO hk],hb⟩
 ·rename_i t y i ho
  simp only[gI,ho] at h;cases hi:pA (ca st i) with
  |none=>simp[hi] at h
  |some n=>
   simp only[hi,aa] at h;obtain⟨kk,ei⟩:=pL hi (R.ca i);have hy:=R.ca y;unfold uL at h;split at hp
   case h_3=>cases hp
   ·rename_i len e hs
    rw[hs] at h;simp only at h;split at h
    case isFalse=>cases h
    rename_i hh;cases hz:fh P e with
    |none=>simp[hz] at h
    |some z=>
     simp only[hz,aa] at h;obtain⟨b,eb,hb⟩:=wF h hy;exact⟨_,λw'=>by simp[execOp,ho,ei,eb,Instr.indexAt,Instr.sureAddr,aJ hs,asIntOf,hh.1,hh.2,eO hz],hb⟩
   ·rename_i e hs
    rw[hs] at h;simp only at h;split at h
    case isFalse=>cases h
    rename_i h0;generalize UA:a.eval y=u at hy;split at h
    ·rename_i rows _
     cases iE:rows[n.toNat]? with
     |none=>simp[iE] at h
     |some row=>
      simp only[iE,aa] at h;split at h
      case isFalse=>cases h
      rename_i hz;cases h;rename_i YJ;rw[YJ] at hy;cases hy with
      |d hd=>
       obtain⟨v,g1,g2⟩:=JQ (p:=p) (k:=kk) hs h0 iE hz hd;exact⟨v,λw'=>by simp[execOp,ho,ei,UA,g1 w'],g2⟩
    ·rename_i rows _
     cases iE:rows[n.toNat]? with
     |none=>simp[iE] at h
     |some row=>
      simp only[iE,aa] at h;split at h
      case isFalse=>cases h
      rename_i hz;cases h;rename_i YJ;rw[YJ] at hy;cases hy with
      |full hd=>
       obtain⟨v,g1,g2⟩:=JQ (p:=p) (k:=kk) hs h0 iE hz hd;exact⟨v,λw'=>by simp[execOp,ho,ei,UA,g1 w'],g2⟩
    ·rename_i m YJ
     rw[YJ] at hy;cases hb:get st.vec m with
     |none=>simp[hb] at h
     |some s=>
      simp only[hb,aa] at h;split at h
      case isFalse=>cases h
      rename_i hh;obtain⟨iN,hz,hM⟩:=hh;cases h;cases hy with
      |vec hn=>
       obtain⟨sJ,Aw,_⟩:=R.vec m s hb;obtain⟨xs,eC,hd⟩:=sJ.row hM;rcases eC.2 with ⟨_,h1⟩ |⟨g,cap,cur,hv,_,_,_,_,_,_⟩
       ·omega
       ·rw[hv] at UA
        have h1:n < (s.rows.length:Int):=by omega
        refine⟨.pointer (some ⟨g,n.toNat * s.z+0,none⟩),λw'=>?_,.iR hn hv⟩;simp[execOp,ho,ei,UA,Instr.indexAt,aJ hs,asIntOf,h0,h1,eO hz,ix]
    ·rename_i m z lo k' YJ
     rw[YJ] at hy;split at h
     case isFalse=>cases h
     rename_i hh;obtain⟨iN,hz⟩:=hh;cases h;cases hy with
     |cut hn hv Bb hle=>
      rename_i o' g c len;have h1:n < (k':Int):=by omega
      have h2:o'=lo * z:=Bb.1.resolve_left (by omega);refine⟨.pointer (some ⟨g,(lo+n.toNat) * z+0,none⟩),λw'=>?_,.iR hn hv⟩;simp[execOp,ho,ei,UA,Instr.indexAt,aJ hs,asIntOf,h0,h1,eO hz,ix,h2,dQ]
     |oG hn hv=>omega
    ·cases h
 ·cases hp
def Ly (P:Program) (K:Ctx P) (ops:Array Oper) (n:Nat) (listed:Array Bool) (st:St) (Q:Exit→St→Prop):Prop:=
 ∀a w p,Rel K st a w p→wpAny P .any ops (FZ K Q) n listed a w
theorem T0 {id:Nat} {l:List Oper} (hm:P.follows .mixedOrders=true) (H:Ly P K l.toArray l.length (Array.replicate l.length false) st Q):Tr P K (.region id l.toArray true) st Q:=by
 intro a w p R;refine wp_region_any hm ?_;simpa using H a { w with drawn:=w.drawn+1 } p R.drew
theorem tc (k:Nat) {o:Oper} (ho:ops[k]? =some o) (hs:Region.noSelect ops=true) (hf:((Region.ready .any ops listed).contains k&&Region.free .any ops listed k&&true)=true) (hp:gB P o=true) (hQ:OH Q) (hg:pW ops st o=some true∧sP P st o=some st1)
  (H:Ly P K ops n (listed.setIfInBounds k true) st1 Q):Ly P K ops (n+1) listed st Q:=by
 intro a w p R;simp only[aR] at hf;obtain⟨⟨hr,LL⟩,_⟩:=hf;obtain⟨hg,hv⟩:=hg;unfold sP at hv;cases hx:gI P st o with
 |none=>simp[hx] at hv
 |some x=>
  simp only[hx,aa] at hv;obtain⟨v,g1,g2⟩:=xW R hp hx;exact wpAny_take ho hs LL (by simpa using hr) (λc a w ⟨s,_,_,q⟩=>absurd q (hQ c s)) (.inl ⟨fH R hg,g1⟩) (H _ w p (R.BX g2 hv))
def XS (P:Program) (K:Ctx P) (ops:Array Oper) (n:Nat) (listed:Array Bool) (st:St) (Q:Exit→St→Prop) (i:Nat):Prop:=
 ∃o st1,ops[i]? =some o∧(pW ops st o=some true∧step P st o=some st1)∧Ly P K ops n (listed.setIfInBounds i true) st1 Q
def Ud (P:Program) (K:Ctx P) (ops:Array Oper) (n:Nat) (listed:Array Bool) (st:St) (Q:Exit→St→Prop):List Nat→Prop
 |[]=>True
 |i::l=>XS P K ops n listed st Q i∧Ud P K ops n listed st Q l
theorem Lw:∀{l:List Nat},Ud P K ops n listed st Q l→∀i∈l,XS P K ops n listed st Q i
 |[],_,i,hi=>by cases hi
 |j::l,h,i,hi=>by
  rcases aZ.1 hi with rfl |hi
  ·exact h.1
  ·exact Lw h.2 i hi
theorem wY (rs:List Nat) (hr:Region.ready .any ops listed=rs) (iA:rs≠[]) (H:Ud P K ops n listed st Q rs):Ly P K ops (n+1) listed st Q:=by
 intro a w p R;refine wpAny_all hr iA λi hi=>?_
 obtain⟨o,st1,ho,⟨hg,hs⟩,H1⟩:=Lw H i hi;unfold wpOp;simp only[ho];rw[fH R hg,ai rfl];refine .inl ?_;unfold Oper.wp;obtain⟨w',p',h |h⟩:=tF R hs
 ·obtain⟨v,e,R'⟩:=h
  rw[e];exact H1 _ _ _ R'
 ·obtain⟨e,R'⟩:=h
  rw[e];exact H1 _ _ _ R'
theorem Nk (hr:Region.ready .any ops listed=[]) (H:Q .normal st):Ly P K ops 0 listed st Q:=λa w p R=>⟨hr,st,p,R,H⟩
theorem lY {i:Nat} {l:List Nat} {o:Oper} {st1:St} (ho:ops[i]? =some o) (hg:pW ops st o=some true∧step P st o=some st1) (h:Ly P K ops n (listed.setIfInBounds i true) st1 Q) (t:Ud P K ops n listed st Q l):Ud P K ops n listed st Q (i::l):=⟨⟨o,st1,ho,hg,h⟩,t⟩
theorem ae1 {id:Nat} {l:List Oper} {y:Code} {S:St} (hm:P.follows .mixedOrders=true) (H:Ly P K l.toArray l.length (Array.replicate l.length false) st (λe s=>e=.normal∧lZ s S)) (h2:Tr P K y S Q):Tr P K (.seq (.region id l.toArray true) y) st Q:=
 aF λa w p R=>hU (T0 hm H a w p R) λe a' w' ⟨s,p',R',he,hw⟩=>by
  subst he;exact⟨s,p',R',H3 hw h2⟩
end
end Go.Vl
