/- The value logic: an owned row under another name; arrays in boxes; bytes of strings. Conditions: none. -/
import Derived.Test.YtbnfogbfphakmaaGreatDoorVmU
set_option linter.unusedSimpArgs false
set_option linter.unusedVariables false
namespace Go.Vl
open Go Go.RowKit
mutual
def AV.ren (n m:Nat):AV→AV
 | .vec k=>if k=n then .vec m else .vec k
 | .vptr k z i o=>if k=n then .vptr m z i o else .vptr k z i o
 | .cut k z i o=>if k=n then .cut m z i o else .cut k z i o
 | .agg l=>.agg (AV.renL n m l)
 | .tup l=>.tup (AV.renL n m l)
 | .fn f l=>.fn f (AV.renL n m l)
 |x=>x
def AV.renL (n m:Nat):List AV→List AV
 |[]=>[]
 |x::l=>AV.ren n m x::AV.renL n m l
end
theorem Gb (n m:Nat):∀l:List AV,AV.renL n m l=l.map (AV.ren n m)
 |[]=>rfl
 |x::l=>by simp[AV.renL,Gb n m l]
theorem RA.ren {w:World} {ok ok':Nat→Prop} {p p':Pl} {n m:Nat} (ho:∀b,ok b→ok' b) (hb:∀k,p.lb k→p'.lb k∧p'.bx k=p.bx k) (hv:∀k,k≠n→p.lv k→p'.lv k∧p'.rw k=p.rw k)
  (hn:p.lv n→p'.lv m∧p'.rw m=p.rw n) {x:AV} {v:Value} (h:RA w ok p x v):RA w ok' p' (x.ren n m) v:=by
 induction h with
 |undef=>simp only[AV.ren];exact .undef
 |d h=>simp only[AV.ren];exact .d (h.mono (fun _ _=>rfl) ho)
 |nilS=>simp only[AV.ren];exact .nilS
 |full h=>simp only[AV.ren];exact .full (h.mono (fun _ _=>rfl) ho)
 |agg hl _ h1 ih=>
  simp only[AV.ren,Gb]
  refine .agg (by simpa using hl) (fun i a v ha hv'=>?_) h1
  simp only[List.getElem?_map,Option.map_eq_some_iff] at ha
  obtain⟨q,hq,rfl⟩:=ha
  exact ih i q v hq hv'
 |tup hl _ ih=>
  simp only[AV.ren,Gb]
  refine .tup (by simpa using hl) (fun i a v ha hv'=>?_)
  simp only[List.getElem?_map,Option.map_eq_some_iff] at ha
  obtain⟨q,hq,rfl⟩:=ha
  exact ih i q v hq hv'
 |ptr hm=>obtain⟨h1,h2⟩:=hb _ hm;simp only[AV.ren,←h2];exact .ptr h1
 |cptr vs hok hcell h=>simp only[AV.ren];exact .cptr vs (ho _ hok) hcell (fun j x hx=>(h j x hx).mono (fun _ _=>rfl) ho)
 |vec hm=>
  simp only[AV.ren]
  split
  ·subst_vars;obtain⟨h1,h2⟩:=hn hm;rw[← h2];exact .vec h1
  ·obtain⟨h1,h2⟩:=hv _ ‹_› hm;rw[← h2];exact .vec h1
 |vptr hm he=>
  simp only[AV.ren]
  split
  ·subst_vars;obtain⟨h1,h2⟩:=hn hm;exact .vptr h1 (h2.trans he)
  ·obtain⟨h1,h2⟩:=hv _ ‹_› hm;exact .vptr h1 (h2.trans he)
 |cut hm he ho' hle=>
  simp only[AV.ren]
  split
  ·subst_vars;obtain⟨h1,h2⟩:=hn hm;exact .cut h1 (h2.trans he) ho' hle
  ·obtain⟨h1,h2⟩:=hv _ ‹_› hm;exact .cut h1 (h2.trans he) ho' hle
 |cut0 hm he=>
  simp only[AV.ren]
  split
  ·subst_vars;obtain⟨h1,h2⟩:=hn hm;exact .cut0 h1 (h2.trans he)
  ·obtain⟨h1,h2⟩:=hv _ ‹_› hm;exact .cut0 h1 (h2.trans he)
 |slen=>simp only[AV.ren];exact .slen
 |iter=>simp only[AV.ren];exact .iter
 |fn hl _ ih=>
  simp only[AV.ren,Gb]
  refine .fn (by simpa using hl) (fun i a v ha hv'=>?_)
  simp only[List.getElem?_map,Option.map_eq_some_iff] at ha
  obtain⟨q,hq,rfl⟩:=ha
  exact ih i q v hq hv'
def St.ren (st:St) (n m:Nat):St:=
 match get st.vec n,get st.vec m with
 |some s,none=>{ nt:=st.nt,env:=Bl (AV.ren n m) st.env,box:=Bl (List.map (AV.ren n m)) st.box,vec:=(m,s)::del st.vec n }
 |_,_=>st
def St.shr (st:St) (t n k:Nat):St:=
 match get st.vec n with
 |some s=>St.put { nt:=st.nt,env:=Bl (AV.scrub n) st.env,box:=Bl (List.map (AV.scrub n)) st.box,vec:=(n,⟨s.e,s.z,s.rows.take k⟩)::del st.vec n } t (.vec n)
 |none=>st
theorem Wl {st:St} (n m:Nat):Wk st (st.ren n m):=fun K a w p R=>by
 unfold St.ren
 cases hs:get st.vec n with
 |none=>exact⟨p,R⟩
 |some s=>
 cases hm0:get st.vec m with
 |some _=>exact⟨p,R⟩
 |none=>
  have hnm:m≠n:=fun e=>by rw[e,hs] at hm0;cases hm0
  have hnl:p.lv n:=(R.lvi n).2 (by simp[St.lv,hs])
  have hml:¬p.lv m:=fun h=>by have:=(R.lvi m).1 h;simp[St.lv,hm0] at this
  have hne:∀k,p.lv k→k≠m:=fun k h e=>hml (e▸h)
  let p':Pl:=⟨p.bx,upd p.rw m (p.rw n),p.lb,fun k=>k=m∨(k≠n∧p.lv k)⟩
  have rwm:p'.rw m=p.rw n:=upd_same _ _ _
  have rwk:∀k,k≠m→p'.rw k=p.rw k:=fun k h=>upd_ne _ _ h
  have old:∀k,p'.lv k→∃k',p.lv k'∧p'.rw k=p.rw k'∧(k=m∧k'=n∨k≠m∧k'=k∧k≠n):=fun k hk=>by
   rcases hk with rfl |⟨h1,h2⟩
   ·exact⟨n,hnl,rwm,.inl ⟨rfl,rfl⟩⟩
   ·exact⟨k,h2,rwk k (hne k h2),.inr ⟨hne k h2,rfl,h1⟩⟩
  have hok:∀b,okc K w p b→okc K w p' b:=fun b h=>⟨h.1,h.2.1,h.2.2.1,fun k hk=>by
   obtain⟨k',h1,h2,_⟩:=old k hk;rw[h2];exact h.2.2.2 k' h1⟩
  have key:∀{x:AV} {v:Value},RA w (okc K w p) p x v→RA w (okc K w p') p' (x.ren n m) v:=fun h=>
   h.ren (p:=p) (p':=p') hok (fun k hk=>⟨hk,rfl⟩) (fun k hk hl=>⟨.inr ⟨hk,hl⟩,rwk k (hne k hl)⟩) (fun _=>⟨.inl rfl,rwm⟩)
  refine⟨p',?_⟩
  exact {
   lb:=by funext k;simp only[St.lb,BF,Option.isSome_map];show p.lb k=_;rw[R.lb];rfl
   lv:=by
    funext k
    simp only[St.lv,get,Av,eq_iff_iff]
    show(k=m∨(k≠n∧p.lv k))↔_
    by_cases e:m=k
    ·simp[e]
    ·rw[if_neg e]
     by_cases e2:n=k
     ·simp[e2,Ne.symm e]
     ·rw[if_neg e2];have:=R.lvi k;simp only[St.lv] at this;simp[Ne.symm e,Ne.symm e2,this]
   dfr:=R.dfr
   nt:=R.nt
   ntl:=R.ntl
   ion:=R.ion
   size:=R.size
   os:=R.os
   tape:=R.tape
   dr:=R.dr
   output:=R.output
   old:=R.old
   env:=fun t y h=>by obtain⟨x,hx,rfl⟩:=A3 h;exact key (R.env t x hx)
   box:=fun k cs' h=>by
    obtain⟨cs,hcs,rfl⟩:=A3 h
    obtain⟨⟨vs,ty,h1,h2,h3,h4⟩,h5⟩:=R.box k cs hcs
    refine⟨⟨vs,ty,h1,by simpa using h2,fun i c v hc hv=>?_,h4⟩,h5⟩
    rw[List.getElem?_map] at hc
    cases hq:cs[i]? with
    |none=>simp[hq] at hc
    |some q=>simp[hq] at hc;subst hc;exact key (h3 i q v hq hv)
   vec:=fun k s' h=>by
    simp only[get] at h
    split at h
    ·rename_i e;subst e;cases h
     obtain⟨h1,h3,h4⟩:=R.vec n s hs
     exact⟨by rw[rwm];exact h1.mono (fun _ _=>rfl) hok (fun _ _=>rfl),h3,fun g hg=>h4 g (by rw[← rwm];exact hg)⟩
    ·rename_i e
     rw[Av] at h
     split at h
     ·cases h
     ·obtain⟨h1,h3,h4⟩:=R.vec k s' h
      exact⟨by rw[rwk k (Ne.symm e)];exact h1.mono (fun _ _=>rfl) hok (fun _ _=>rfl),h3,fun g hg=>h4 g (by rw[← rwk k (Ne.symm e)];exact hg)⟩
   dbb:=R.dbb
   dbv:=fun k j hk hj=>by obtain⟨j',h1,h2,_⟩:=old j hj;rw[h2];exact R.dbv k j' hk h1
   dvv:=fun k j hk hj hne2=>by
    obtain⟨k',h1,h2,h3⟩:=old k hk
    obtain⟨j',g1,g2,g3⟩:=old j hj
    rw[h2,g2]
    refine R.dvv k' j' h1 g1 fun e=>?_
    rcases h3 with ⟨a1,a2⟩ |⟨a1,a2,a3⟩ <;> rcases g3 with ⟨b1,b2⟩ |⟨b1,b2,b3⟩
    ·exact hne2 (a1.trans b1.symm)
    ·exact b3 (by rw[← b2,←e,a2])
    ·exact a3 (by rw[← a2,e,b2])
    ·exact hne2 (by rw[← a2,e,b2])}
def Qh (n:Nat):List Int:=List.replicate n 0
theorem KD (n:Nat):(Qh n).length=n:=by unfold Qh;exact List.length_replicate
theorem Gc {α:Type} {f:α→List D} {g:α→D} (h:∀x,f x=[g x]):∀l:List α,arC f l=l.map fun x=>.d (g x)
 |[]=>rfl
 |x::l=>by simp[arC,h,Gc h l]
theorem TD {k:IntKind} (l:List Int):(arC (AH k) l).length=l.length:=by rw[Gc (f:=AH k) (g:=fun n=>.int k n) (fun _=>rfl)];simp
theorem Wm {k:IntKind} (l:List Int) (i:Nat):(arC (AH k) l)[i]? =l[i]?.map fun n=>.d (.int k n):=by rw[Gc (f:=AH k) (g:=fun n=>.int k n) (fun _=>rfl)];simp
def Qi (n:Nat):List Bool:=List.replicate n false
theorem KE (n:Nat):(Qi n).length=n:=by unfold Qi;exact List.length_replicate
theorem Qj (l:List Bool):(arC B2 l).length=l.length:=by rw[Gc (f:=B2) (g:=fun n=>.bool n) (fun _=>rfl)];simp
theorem TE (l:List Bool) (i:Nat):(arC B2 l)[i]? =l[i]?.map fun n=>.d (.bool n):=by rw[Gc (f:=B2) (g:=fun n=>.bool n) (fun _=>rfl)];simp
theorem FH {α:Type} {f:α→List D} {g:AV→AV} (hg:∀d,g (.d d)=.d d) (l:List α):(arC f l).map g=arC f l:=by
 induction l with
 |nil=>rfl
 |cons x l ih=>
  simp only[arC,List.map_append,ih,List.map_map]
  congr 1
  exact List.map_congr_left fun d _=>hg d
theorem TF {α:Type} {f:α→List D} (l:List α):AV.finL (arC f l)=arC f l:=by rw[Dt];exact FH (fun d=>rfl) l
theorem TG {α:Type} {f:α→List D} (τ:List Nat) (l:List α):AV.outVL τ (arC f l)=arC f l:=by rw[Ce];exact FH (fun d=>rfl) l
theorem Qk {α:Type} {f:α→List D} (vs:List (Nat×VS)) (τ σ:List Nat) (l:List α):AV.viewL vs τ σ (arC f l)=arC f l:=by rw[Db];exact FH (fun d=>rfl) l
theorem Ql {α:Type} {f:α→List D} (υ σ:List Nat) (l:List α):AV.backL υ σ (arC f l)=arC f l:=by rw[Dc];exact FH (fun d=>rfl) l
theorem TH {α:Type} {f:α→List D} (n m:Nat) (l:List α):AV.renL n m (arC f l)=arC f l:=by rw[Gb];exact FH (fun d=>rfl) l
theorem Wn {α:Type} {f:α→List D} (st':St) (l:List α):EW st' (arC f l) (arC f l):=by
 have key:∀cs:List AV,AV.wfL st'.lb st'.lv cs=true→EW st' cs cs:=fun cs=>by
  induction cs with
  |nil=>intro _;trivial
  |cons x cs ih=>intro h;simp only[AV.wfL,Bool.and_eq_true] at h;exact⟨.inr ⟨rfl,h.1⟩,ih h.2⟩
 exact key _ (Qf _ _ l)
end Go.Vl
