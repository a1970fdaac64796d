/- A region that draws its order, where boxes come in that are all held. Conditions: none. -/
import Derived.Test.YtjnflahicimmlaaGreatVmQq
set_option linter.unusedSimpArgs false
set_option linter.unusedVariables false
namespace Go.Vl
open Go Go.RowKit
section
variable {P:Program} {K:Ctx P} {st:St} {a:Act} {w:World} {p:Pl}
theorem Rel.freshI (R:Rel K st a w p) (hl:∀i,i < K.ios.length→st.lb (InO i)=true):∃K':Ctx P,K'.ios=K.ios∧Rel K' st a w p∧∀st' a' w' p',Rel K' st' a' w' p'→Rel K st' a' w' p'∧∀b,okc K w p b→w'.heap[b]? =w.heap[b]?∧okc K w' p' b:=by
 classical
 have hio:∀b,okc K w p b→b∉K.ios:=fun b hb hm=>by
  obtain⟨i,hi⟩:=List.mem_iff_getElem?.1 hm
  have hn:p.lb (InO i):=(R.lbi _).2 (hl i (List.getElem?_eq_some_iff.1 hi).1)
  have:=R.ion i hn
  rw[hi] at this
  exact hb.2.2.1 _ hn (Option.some.inj this)
 let L:=(List.range w.heap.size).filter fun b=>decide (((∃n,p.lb n∧p.bx n=b)∨(∃n,p.lv n∧(p.rw n).blk=some b)∨b∈K.ivs)∧¬okc K w p b∧¬(b∈K.ios∧b < K.w0.heap.size∧b∉K.ivs))
 have memL:∀b,b∈L↔b < w.heap.size∧((∃n,p.lb n∧p.bx n=b)∨(∃n,p.lv n∧(p.rw n).blk=some b)∨b∈K.ivs)∧¬okc K w p b∧¬(b∈K.ios∧b < K.w0.heap.size∧b∉K.ivs):=fun b=>by
  simp only[L,List.mem_filter,List.mem_range,decide_eq_true_eq]
 let K':Ctx P:=⟨w,okc K w p,K.ios,L,fun b i x h=>by
  obtain⟨h1,h2⟩:=R.glob b i x h
  exact⟨⟨h1.1,h1,hio b h1,fun hm=>((memL b).1 hm).2.2.1 h1⟩,h2⟩⟩
 have hL:∀b,b∈L→K.w0.heap.size≤b∨b∈K.ivs:=fun b hb=>by
  obtain⟨_,⟨n,hn,e⟩ |⟨n,hn,e⟩ |h,_,h3⟩:=(memL b).1 hb
  ·obtain⟨cs,hcs⟩:=Option.isSome_iff_exists.1 ((R.lbi n).1 hn)
   rcases(R.box n cs hcs).mine with h |h
   ·exact .inl (e▸h)
   ·rcases h with h |h
    ·rcases Nat.lt_or_ge b K.w0.heap.size with h5 |h5
     ·by_cases h6:b∈K.ivs
      ·exact .inr h6
      ·exact absurd ⟨e▸h,h5,h6⟩ h3
     ·exact .inl h5
    ·exact .inr (e▸h)
  ·exact(R.vlt hn e).1
  ·exact .inr h
 have hok:∀b,okc K w p b→okc K' w p b:=fun b h=>⟨h.1,.inl h,h.2.2.1,h.2.2.2⟩
 refine⟨K',rfl,?_,fun st' a' w' p' R'=>?_⟩
 ·exact {
   lb:=R.lb,lv:=R.lv,dfr:=R.dfr,nt:=R.nt,ntl:=R.ntl
   ion:=R.ion
   size:=Nat.le_refl _,os:=rfl,tape:=rfl,dr:=Nat.le_refl _,output:=rfl,old:=fun _ _ _=>rfl
   env:=fun t x hx=>(R.env t x hx).mono (fun _ _=>rfl) hok (fun _ h=>⟨h,rfl⟩) (fun _ h=>⟨h,rfl⟩)
   box:=fun n cs hcs=>by
    obtain⟨⟨vs,ty,h1,h2,h3,h4⟩,_⟩:=R.box n cs hcs
    have hn:p.lb n:=(R.lbi n).2 (by simp[St.lb,hcs])
    refine⟨⟨vs,ty,h1,h2,fun i c v hc hv=>(h3 i c v hc hv).mono (fun _ _=>rfl) hok (fun _ h=>⟨h,rfl⟩) (fun _ h=>⟨h,rfl⟩),h4⟩,?_⟩
    by_cases hm:p.bx n∈K.ios
    ·exact .inr (.inl hm)
    ·exact .inr (.inr ((memL _).2 ⟨R.blt hn,.inl ⟨n,hn,rfl⟩,fun h=>h.2.2.1 n hn rfl,fun h=>hm h.1⟩))
   vec:=fun n s hs=>by
    obtain⟨h1,h2,_⟩:=R.vec n s hs
    have hn:p.lv n:=(R.lvi n).2 (by simp[St.lv,hs])
    refine⟨h1.mono (fun _ _=>rfl) hok (fun _ _=>rfl),h2,fun g hg=>.inr ((memL _).2 ⟨(R.vlt hn hg).2,.inr (.inl ⟨n,hn,hg⟩),fun h=>h.2.2.2 n hn hg,fun h=>?_⟩)⟩
    rcases(R.vlt hn hg).1 with h5 |h5
    ·have:=h.2.1;omega
    ·exact h.2.2 h5
   dbb:=R.dbb,dbv:=R.dbv,dvv:=R.dvv }
 ·have hback:∀b,okc K' w' p' b→okc K w' p' b:=fun b h=>⟨h.1,by
   rcases h.2.1 with h1 |h1 |h1
   ·exact h1.2.1
   ·exact .inr (.inl (Nat.le_trans R.size h1))
   ·rcases hL b h1 with h2 |h2
    ·exact .inr (.inl h2)
    ·exact .inr (.inr h2),h.2.2.1,h.2.2.2⟩
  have hsame:∀b,okc K w p b→w'.heap[b]? =w.heap[b]? :=fun b hb=>R'.old b hb.1 fun h=>by
   rcases h with h |h
   ·exact hio b hb h
   ·exact((memL b).1 h).2.2.1 hb
  refine⟨?_,fun b hb=>⟨hsame b hb,Nat.lt_of_lt_of_le hb.1 R'.size,hb.2.1,fun n hn e=>?_,fun n hn e=>?_⟩⟩
  rotate_left
  ·obtain⟨cs,hcs⟩:=Option.isSome_iff_exists.1 ((R'.lbi n).1 hn)
   rcases(R'.box n cs hcs).mine with h |h |h
   ·have:=hb.1;have h2:w.heap.size≤p'.bx n:=h;omega
   ·exact hio b hb (e▸h)
   ·exact((memL _).1 h).2.2.1 (e▸hb)
  ·obtain⟨s,hs⟩:=Option.isSome_iff_exists.1 ((R'.lvi n).1 hn)
   rcases(R'.vec n s hs).mine b e with h |h
   ·have:=hb.1;have h2:w.heap.size≤b:=h;omega
   ·exact((memL _).1 h).2.2.1 hb
  exact {
   lb:=R'.lb,lv:=R'.lv,dfr:=R'.dfr,nt:=R'.nt,ntl:=R'.ntl
   ion:=R'.ion
   size:=Nat.le_trans R.size R'.size,os:=R'.os.trans R.os,tape:=R'.tape.trans R.tape,dr:=Nat.le_trans R.dr R'.dr,output:=R'.output.trans R.output
   old:=fun b hb hio=>(R'.old b (Nat.lt_of_lt_of_le hb R.size) fun h=>by
     rcases h with h |h
     ·exact hio (.inl h)
     ·rcases hL b h with h2 |h2
      ·omega
      ·exact hio (.inr h2)).trans (R.old b hb hio)
   env:=fun t x hx=>(R'.env t x hx).mono (fun _ _=>rfl) hback (fun _ h=>⟨h,rfl⟩) (fun _ h=>⟨h,rfl⟩)
   box:=fun n cs hcs=>by
    obtain⟨⟨vs,ty,h1,h2,h3,h4⟩,hm⟩:=R'.box n cs hcs
    refine⟨⟨vs,ty,h1,h2,fun i c v hc hv=>(h3 i c v hc hv).mono (fun _ _=>rfl) hback (fun _ h=>⟨h,rfl⟩) (fun _ h=>⟨h,rfl⟩),h4⟩,?_⟩
    rcases hm with hm |hm |hm
    ·exact .inl (Nat.le_trans R.size hm)
    ·exact .inr (.inl hm)
    ·rcases hL _ hm with h5 |h5
     ·exact .inl h5
     ·exact .inr (.inr h5)
   vec:=fun n s hs=>by
    obtain⟨h1,h2,h3⟩:=R'.vec n s hs
    refine⟨h1.mono (fun _ _=>rfl) hback (fun _ _=>rfl),h2,fun g hg=>?_⟩
    rcases h3 g hg with h5 |h5
    ·exact .inl (Nat.le_trans R.size h5)
    ·exact hL g h5
   dbb:=R'.dbb,dbv:=R'.dbv,dvv:=R'.dvv }
theorem ho_startI {Q:Exit→St→Prop} {id:Nat} {l:List Oper} {st1:St} (is:List Nat) (n k:Nat) (hK:K.ios.length=k) (hm:P.follows .mixedOrders=true) (hB:(Region.noSelect l.toArray&&decide (is.length+n=l.toArray.size)&&takeB l.toArray is (Array.replicate l.toArray.size false))=true) (hQ:∀c s,¬Q (.panic c) s)
  {ol:List (Option Oper)} (hol:is.map (l.toArray[·]?)=ol) {os:List Oper} (hoo:ol.filterMap (fun x=>x)=os) (hos:ol=os.map some) (h':stillsL P l.toArray os st=some st1) (hlv:∀i,i < k→st1.lb (InO i)=true)
  (H:∀K' S F,HCtx K' S F Q→HOps P K' S F l.toArray n (listAll is (Array.replicate l.toArray.size false)) st1):Tr P K (.region id l.toArray true) st Q:=by
 have h:stills P l.toArray is st=some st1:=(stills_of (hol.trans hos)).symm.trans h'
 intro a w p R
 simp only[Bool.and_eq_true,decide_eq_true_eq] at hB
 obtain⟨⟨hs,hn⟩,ht⟩:=hB
 have key:wpAnyH P .any l.toArray (Pst K Q) (Agree K p { w with drawn:=w.drawn+1 }) (is.length+n) (Array.replicate l.toArray.size false) a { w with drawn:=w.drawn+1 }:=by
  refine stills_run hs (fun c a w ⟨s,_,_,q⟩=>hQ c s q) (fun _ h=>h) (fun _ _=>rfl) is _ st a ht R.drew h fun a1 R1=>?_
  obtain⟨K',_,R2,hb⟩:=R1.freshI (by rw[hK];exact hlv)
  exact H K' _ _ ⟨fun st a w p R q hq=>see_of_block ((hb _ _ _ _ R).2 _ hq).1,fun e st a w p R q=>⟨st,p,(hb _ _ _ _ R).1,q⟩,fun c a w ⟨s,_,_,q⟩=>hQ c s q⟩ a1 _ p R2
 rw[hn] at key
 exact wp_region_held hm key
theorem kheldI {Q:Exit→St→Prop} {id:Nat} {l:List Oper} {y:Code} {S0:St} {st1:St} (is:List Nat) (n k:Nat) (hK:K.ios.length=k) (hm:P.follows .mixedOrders=true) (hB:(Region.noSelect l.toArray&&decide (is.length+n=l.toArray.size)&&takeB l.toArray is (Array.replicate l.toArray.size false))=true)
  {ol:List (Option Oper)} (hol:is.map (l.toArray[·]?)=ol) {os:List Oper} (hoo:ol.filterMap (fun x=>x)=os) (hos:ol=os.map some) (h':stillsL P l.toArray os st=some st1) (hlv:∀i,i < k→st1.lb (InO i)=true)
  (H:∀K' S F,HCtx K' S F (fun e s=>e=.normal∧Weak s S0)→HOps P K' S F l.toArray n (listAll is (Array.replicate l.toArray.size false)) st1) (h2:Tr P K y S0 Q):Tr P K (.seq (.region id l.toArray true) y) st Q:=
 trq fun a w p R=>wp_mono (ho_startI is n k hK hm hB (fun c s h=>by cases h.1) hol hoo hos h' hlv H a w p R) fun e a' w' ⟨s,p',R',he,hw⟩=>by
  subst he
  exact⟨s,p',R',tr_weak hw h2⟩
end
end Go.Vl
