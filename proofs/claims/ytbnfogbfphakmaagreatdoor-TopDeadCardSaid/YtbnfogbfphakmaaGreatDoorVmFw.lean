/- Walks beside which one slot is told unwritten: a row that a function changes where it lies. Conditions: none. -/
import Derived.Test.YtbnfogbfphakmaaGreatDoorVmHk
import Derived.Test.YtbnfogbfphakmaaGreatDoorVmU
import Derived.Test.YtbnfogbfphakmaaGreatDoorVmNs
set_option linter.unusedSimpArgs false
set_option linter.unusedVariables false
namespace Go.Vl
open Go Go.RowKit
section
variable {P:Program} {K:Ctx P} {st:St} {a:Act} {w:World} {p:Pl} {t:Nat} {v:Value} {Q:St→Prop}
theorem SZ (R:Rel K st a w p) {t n:Nat} (h:get st.env t=some (.vec n)):a.eval (.tmp t)=p.rw n:=by
 have:=R.env t (.vec n) h
 simp only[Act.eval]
 generalize a.tmps.getD t undef=u at this
 cases this;rfl
theorem Ks {md:Region.Mode} {ops:Array Oper} {F:Exit→Act→World→Prop} {t:Nat} {v:Value} (hd:∀(i:Nat) (o:Oper),ops[i]? =some o→o.dst≠some t):∀(n:Nat) (listed:Array Bool) (a:Act) (w:World),a.eval (.tmp t)=v→wpAny P md ops F n listed a w→
  wpAny P md ops (fun e a w=>F e a w∧(e=.normal→a.eval (.tmp t)=v)) n listed a w
 |0,_,_,_,hv,h=>⟨h.1,h.2,fun _=>hv⟩
 |n+1,listed,a,w,hv,h=>⟨fun hr=>⟨h.1 hr,fun _=>hv⟩,fun i hi=>Nx (hd i) hv (fun a' w' hv' hq=>Ks hd n _ a' w' hv' hq) (h.2 i hi)⟩
def TrF (P:Program) (K:Ctx P) (t:Nat) (v:Value) (c:Code) (st:St) (Q:St→Prop):Prop:=∀a w p,Rel K st a w p→a.eval (.tmp t)=v→c.wp P (fun e a' w'=>e=.normal∧∃s p',Rel K s a' w' p'∧Q s∧a'.eval (.tmp t)=v) a w
theorem Gs {id:Nat} {l:List Oper} {y:Code} {st1:St} (hT:Az P K l.toArray l st (Ml st1)) (hd:∀o∈l,o.dst≠some t) (h:TrF P K t v y st1 Q):TrF P K t v (.seq (.region id l.toArray false) y) st Q:=fun a w p R hv=>
 Yn hT hd R hv fun a w p R hv=>h a w p R hv
theorem Js {id:Nat} {l:List Oper} (As:List (List Nat)) (C:List Nat) (W:List (Nat×List Nat)) (V:Option (Nat×Nat)) (T:List Nat) (n:Nat) (hm:P.follows .mixedOrders=true) (hB:KS l.toArray As C W V T n=true) (hV:stV V T W st=true) (hd:∀o∈l,o.dst≠some t) (h:GZ P K l st As C W V T n (fun e s=>e=.normal∧Q s) []):TrF P K t v (.region id l.toArray true) st Q:=fun a w p R hv=>
 wp_mono (wp_region_any hm (Ks (fun i o ho=>hd o (by rw[List.getElem?_toArray] at ho;exact List.mem_of_getElem? ho)) _ _ _ _ hv (h (Y1 hB) hV ⟨fun i hi=>by simp at hi,fun i hi=>by simp at hi,fun i hi=>by simp at hi,fun i hi=>by simp at hi,fun i hi=>by simp at hi,fun i hi=>by simp at hi,fun i hi=>by simp at hi⟩ a _ p R.drew))) fun e a w ⟨⟨s,p',R',he,hq⟩,hv'⟩=>⟨he,s,p',R',hq,hv' he⟩
theorem Jt {c:Nat} {x y:Code} {b:Bool} (hc:st.look c=.d (.bool b)) (h1:b=true→TrF P K t v x st Q) (h2:b=false→TrF P K t v y st Q):TrF P K t v (.cond (.tmp c) x y) st Q:=fun a w p R hv=>
 wp_cond_split (Ow R hc) (fun hb=>h1 hb a w p R hv) fun hb=>h2 hb a w p R hv
theorem Sa (h:Q st):TrF P K t v .skip st Q:=fun a w p R hv=>wp_skip ⟨rfl,st,p,R,h,hv⟩
theorem Pu {id:Nat} {c:Code} (h:TrF P K t v c st Q):TrF P K t v (.block id c) st Q:=fun a w p R hv=>
 wp_block (wp_mono (h a w p R hv) fun e a w ⟨he,hq⟩=>by subst he;exact Ic ⟨rfl,hq⟩)
theorem V7 {f:FuncId} {fn:Func} {c:Code} {nt:Nat} {rs:List ResultVar} {bx:List (List AV)} {S:VS} {args:List AV} {res:AV} {bx':List (List AV)} {S':VS} (t:Nat) (hf:P.funcs[f]? =some fn) (hb:fn.body=some c) (hnt:fn.ntmps=nt) (hrs:fn.results.toList=rs)
  (hna:args.length≤nt) (hn6:nt≤1000000) (hlb:bx.length=bx'.length) (ht:get (Ap nt args bx [S]).env t=some (.vec 2000000)) (h:∀(K:Ctx P) (v:Value),K.ios.length=bx.length→TrF P K t v c (Ap nt args bx [S]) (fun s=>SX P rs res bx' [S'] [2000000] s∧get s.env t=some (.vec 2000000))):Ka P f bx [S] args res bx' [S']:=
 V6 hf hb hnt hrs hna hn6 hlb fun K a w p hK R=>wp_mono (h K (p.rw 2000000) hK a w p R (SZ R ht)) fun e a' w' ⟨he,s,p',R',⟨hF,hg⟩,hv⟩=>
  ⟨.inl he,s,p',R',[2000000],hF,rfl,by simp only[List.map_cons,List.map_nil];rw[← hv,SZ R' hg]⟩
end
end Go.Vl
