/- Plain laws of the given program's functions (texts of other seats turned to this one). Conditions: none. -/
import Derived.Test.YtbnfogbfphakmaaGreatDoorLBx
import Derived.Test.YtbnfogbfphakmaaGreatDoorPlG
set_option linter.unusedSimpArgs false
set_option linter.unusedVariables false
namespace Go.Vl
open Go
section
end
def maxT:Int:=1099511627776
def TapeOk (m:zT):Prop:=0≤m.at_∧m.L.length≤1000000
def tnextV (m:zT) (n:Int):Int:=if(m.L.length:Int)≤m.at_ then 0 else((m.L[m.at_.toNat]?.getD 0) % 65536) % n
def tnextT (m:zT):zT:=if(m.L.length:Int)≤m.at_ then m else⟨m.L,m.at_+1⟩
theorem tnextT_ok {m:zT} (h:TapeOk m):TapeOk (tnextT m):=by
 unfold tnextT;split
 ·exact h
 ·exact⟨by have:=h.1;simp <;> omega,h.2⟩
theorem tnextV_bd (m:zT) {n:Int} (hn:0 < n):0≤tnextV m n∧tnextV m n < n:=by
 unfold tnextV;split
 ·omega
 ·exact⟨Int.emod_nonneg _ (by omega),Int.emod_lt_of_pos _ hn⟩
theorem next_spT {m:zT} (h:TapeOk m) {n:Int} (hn:0 < n):zT_Next m n=some (tnextV m n,tnextT m):=by
 obtain⟨h1,h2⟩:=h
 unfold zT_Next tnextV tnextT
 by_cases hb:(m.L.length:Int)≤m.at_
 ·rw[if_pos (by simpa using hb),if_pos hb,if_pos hb]
 ·rw[if_neg (by simpa using hb),if_neg hb,if_neg hb,idx_toNat h1 (by omega),List.getElem?_eq_getElem (show m.at_.toNat < m.L.length by omega)]
  simp only[Option.bind_some,ck_t (show n≠0 by omega),Option.getD_some,bAnd16]
  rw[Int.tmod_eq_emod_of_nonneg (Int.emod_nonneg _ (by omega)),w64 (by omega) (by omega)]
theorem between_spT {m:zT} (h:TapeOk m) {a b:Int} (hab:a≤b) (ha: -1000000≤a) (hb:b≤1000000):zT_Between m a b=some (a+tnextV m (b - a+1),tnextT m):=by
 have:=tnextV_bd m (n:=b - a+1) (by omega)
 unfold zT_Between
 rw[w64 (x:=b - a) (by omega) (by omega),w64 (x:=b - a+1) (by omega) (by omega),next_spT h (by omega)]
 simp only[Option.bind_some]
 rw[w64 (by omega) (by omega)]
theorem pick_spT {m:zT} (h:TapeOk m) {l:List Int} (hl:0 < l.length):∃x∈l,mYPick m l=some (x,tnextT m):=by
 have hb:=tnextV_bd m (n:=(l.length:Int)) (by omega)
 unfold mYPick
 rw[next_spT h (by omega)]
 simp only[Option.bind_some]
 refine⟨l[(tnextV m (l.length:Int)).toNat]'(by omega),List.getElem_mem _,?_⟩
 rw[idx_toNat hb.1 (by omega)]
 rfl
def existsB (d:api_Directory) (p:Int):Bool:=decide (0≤p)&&decide (p < (d.Kinds.length:Int))
theorem exists_sp (d:api_Directory) (p:Int):directory_exists d p=some (existsB d p):=rfl
def groupB (d:api_Directory) (p:Int):Bool:=existsB d p&&(d.Kinds.getD p.toNat 0==2)
theorem idx_ex {d:api_Directory} {p:Int} (h:existsB d p=true):idx d.Kinds p=some (d.Kinds.getD p.toNat 0):=by
 unfold existsB at h
 simp only[Bool.and_eq_true,decide_eq_true_eq] at h
 have hl:p.toNat < d.Kinds.length:=by omega
 rw[idx_toNat h.1 hl];simp[hl]
theorem group_sp (d:api_Directory) (p:Int):directory_group d p=some (groupB d p):=by
 unfold directory_group groupB
 rw[exists_sp]
 simp only[Option.bind_some]
 cases h:existsB d p with
 |true=>rw[if_pos rfl,idx_ex h];rfl
 |false=>rw[if_neg (by decide)];rfl
def kindBad (k:Int):Bool:=decide (k < 1)||decide (3 < k)
theorem kinds_sp {l:List Int} (hl:l.length≤1000000):sYContainsFunc_int_at_directory_Check_1 l=some (l.any kindBad):=by
 unfold sYContainsFunc_int_at_directory_Check_1 sYIndexFunc_int_at_directory_Check_1
 obtain⟨h1,h2⟩:=iter_findS (body:=sYIndexFunc_int_at_directory_Check_1_l0 l) l kindBad (fun i _=>.inr (i:Int)) (.inl ()) (fun i hi=>by
  unfold sYIndexFunc_int_at_directory_Check_1_l0
  rw[if_pos (by simp <;> omega),idx_lt hi,w64 (by omega) (by omega)]
  simp only[Option.bind_some,directory_Check_1,kindBad]
  split <;> simp[*]) (by
  unfold sYIndexFunc_int_at_directory_Check_1_l0
  rw[if_neg (by simp)])
 cases h:l.any kindBad with
 |false=>rw[h1 h];rfl
 |true=>
  obtain⟨i,hi,_,e⟩:=h2 h
  rw[e]
  simp only[Option.bind_some]
  rw[decide_eq_true (by omega)]
def evOk (d:api_Directory) (last:Int) (x:api_Member):Bool:=
 (x.Kind==1||x.Kind==2)&&(decide (last≤x.Time)&&(decide (x.Time≤maxT)&&(existsB d x.Principal&&(groupB d x.Group&& !(x.Principal==x.Group)))))
def dirOk (d:api_Directory):Bool:=decide (d.Kinds.length≤24)&&(decide (d.Events.length≤120)&&(!(d.Kinds.any kindBad)&&fitB (evOk d) (·.Time) 0 d.Events))
theorem dcheck_body (d:api_Directory) (hl:d.Events.length≤1000000) (i:Nat) (h:i < d.Events.length) (last:Int):directory_Check_l0 d (last,(i:Int))=some (if evOk d last d.Events[i]=true then .go (d.Events[i].Time,((i+1:Nat):Int)) else .out (.inr 30)):=by
 unfold directory_Check_l0
 rw[if_pos (by simp <;> omega)]
 simp only
 rw[idx_lt h,w64 (by omega) (by omega)]
 generalize d.Events[i]=x
 simp only[Option.bind_some,exists_sp,group_sp,evOk,maxT]
 by_cases h1:x.Kind=1 <;> by_cases h2:x.Kind=2 <;> by_cases h3:x.Time < last <;> by_cases h4:1099511627776 < x.Time <;>
  by_cases h5:existsB d x.Principal=true <;> by_cases h6:groupB d x.Group=true <;> by_cases h7:x.Principal=x.Group <;> grind
theorem dcheck_sp (d:api_Directory):directory_Check d=some (if dirOk d=true then 0 else 30):=by
 unfold directory_Check dirOk
 by_cases h1:d.Kinds.length≤24
 case neg=>rw[if_pos (by simp <;> omega)];simp[h1]
 rw[if_neg (by simp <;> omega)]
 by_cases h2:d.Events.length≤120
 case neg=>rw[if_pos (by simp <;> omega)];simp[h2]
 rw[if_neg (by simp <;> omega),kinds_sp (by omega)]
 simp only[Option.bind_some,h1,h2,decide_true,Bool.true_and]
 cases h3:d.Kinds.any kindBad with
 |true=>simp
 |false=>
  rw[if_neg (by decide),chain_loop d.Events (evOk d) (·.Time) 30 (fun i h last=>dcheck_body d (by omega) i h last) (fun last=>by
   unfold directory_Check_l0
   rw[if_neg (by simp)])]
  cases fitB (evOk d) (·.Time) 0 d.Events <;> simp
theorem contains_sp {l:List Int} (hl:l.length≤1000000) (x:Int):sYContains_int l x=some (l.contains x):=by
 unfold sYContains_int sYIndex_int
 obtain⟨h1,h2⟩:=iter_findS (body:=sYIndex_int_l0 l x) l (fun y=>x==y) (fun i _=>.inr (i:Int)) (.inl ()) (fun i hi=>by
  unfold sYIndex_int_l0
  rw[if_pos (by simp <;> omega),idx_lt hi,w64 (by omega) (by omega)]
  simp only[Option.bind_some]
  split <;> simp[*]) (by
  unfold sYIndex_int_l0
  rw[if_neg (by simp)])
 have e:l.any (fun y=>x==y)=l.contains x:=by
  rw[Bool.eq_iff_iff]
  simp
 cases h:l.any (fun y=>x==y) with
 |false=>rw[h1 h,←e,h];rfl
 |true=>
  obtain⟨i,hi,_,h3⟩:=h2 h
  rw[h3,←e,h]
  simp only[Option.bind_some]
  rw[decide_eq_true (by omega)]
open Classical in
theorem fit_of {α:Type} {p:Int→α→Bool} {t:α→Int} {q:α→Prop} (hp:∀last x,q x→last≤t x→p last x=true):∀{l:List α} {last:Int},(∀x∈l,q x)→l.Pairwise (fun a b=>t a≤t b)→(∀x∈l,last≤t x)→fitB p t last l=true
 |[],_,_,_,_=>rfl
 |x::l,last,h1,h2,h3=>by
  rw[List.pairwise_cons] at h2
  simp only[fitB,Bool.and_eq_true]
  exact⟨hp last x (h1 x (List.mem_cons_self ..)) (h3 x (List.mem_cons_self ..)),fit_of hp (fun y hy=>h1 y (List.mem_cons_of_mem _ hy)) h2.2 h2.1⟩
theorem pw_snoc {α:Type} {r:α→α→Prop} {l:List α} {x:α} (h:l.Pairwise r) (hx:∀y∈l,r y x):(l++[x]).Pairwise r:=by
 rw[List.pairwise_append]
 exact⟨h,List.pairwise_singleton _ _,fun a ha b hb=>by simp at hb;subst hb;exact hx a ha⟩
theorem all_snoc {α:Type} {q:α→Prop} {l:List α} {x:α} (h:∀y∈l,q y) (hx:q x):∀y∈l++[x],q y:=fun y hy=>by
 rcases List.mem_append.1 hy with hy |hy
 ·exact h y hy
 ·simp at hy;subst hy;exact hx
theorem clock_spT {m:zT} (h:TapeOk m) {n:Int} (h0:0≤n) (hn:n≤1000):∃(l:List Int) (m':zT),mYClock m n=some (l,m')∧TapeOk m'∧l.Pairwise (·≤·)∧(∀x∈l,0≤x∧x≤3+2 * n)∧(l.length:Int)=n:=by
 unfold mYClock
 rw[next_spT h (by omega)]
 simp only[Option.bind_some]
 have hb:=tnextV_bd m (n:=4) (by omega)
 have key:∃e,iter (mYClock_l0 n) (tnextV m 4,0,(tnextT m).L,(tnextT m).at_,[])=some e∧(TapeOk ⟨e.1,e.2.1⟩∧e.2.2.Pairwise (·≤·)∧(∀x∈e.2.2,0≤x∧x≤3+2 * n)∧(e.2.2.length:Int)=n):=by
  refine iter_ex (body:=mYClock_l0 n) (fun s=>0≤s.2.1∧s.2.1≤n∧0≤s.1∧s.1≤3+2 * s.2.1∧TapeOk ⟨s.2.2.1,s.2.2.2.1⟩∧s.2.2.2.2.Pairwise (·≤·)∧(∀x∈s.2.2.2.2,0≤x∧x≤s.1)∧(s.2.2.2.2.length:Int)=s.2.1) (fun s=>(n - s.2.1).toNat) _ ?_ ⟨by simp,h0,hb.1,by simp only;omega,tnextT_ok h,.nil,by simp,by simp⟩
  rintro⟨now,i,L,p,out⟩ ⟨g1,g2,g3,g4,g5,g6,g7,g8⟩
  simp only at g1 g2 g3 g4 g5 g6 g7 g8
  unfold mYClock_l0
  simp only
  by_cases hi:i < n
  ·left
   have hv:=tnextV_bd ⟨L,p⟩ (n:=3) (by omega)
   rw[if_pos (by simpa using hi),next_spT g5 (by omega)]
   simp only[Option.bind_some]
   rw[w64 (x:=i+1) (by omega) (by omega),w64 (x:=now+tnextV ⟨L,p⟩ 3) (by omega) (by omega),ck_t (by simp;omega)]
   refine⟨_,rfl,⟨by simp only;omega,by simp only;omega,by simp only;omega,by simp only;omega,tnextT_ok g5,pw_snoc g6 fun y hy=>by have:=g7 y hy;omega,all_snoc (fun y hy=>by have:=g7 y hy;simp only;omega) (by simp only;omega),by simp;omega⟩,by simp only;omega⟩
  ·right
   rw[if_neg (by simpa using hi)]
   refine⟨_,rfl,g5,g6,fun x hx=>by have:=g7 x hx;show 0≤x∧x≤3+2 * n;omega,by show(out.length:Int)=n;omega⟩
 obtain⟨e,he,h1,h2,h3,h4⟩:=key
 rw[he]
 exact⟨_,_,rfl,h1,h2,h3,h4⟩
structure MadeD (d:api_Directory):Prop where
 ok:dirOk d=true
 few:3≤d.Kinds.length∧d.Kinds.length≤7
 ev:∀x∈d.Events,0≤x.Time∧x.Time≤25
def MemOk (ks:List Int) (x:api_Member):Prop:=(x.Kind=1∨x.Kind=2)∧x.Time≤25∧existsB ⟨ks,[]⟩ x.Principal=true∧groupB ⟨ks,[]⟩ x.Group=true∧x.Principal≠x.Group
theorem evOk_of {ks:List Int} {ev:List api_Member} (last:Int) (x:api_Member) (h:MemOk ks x) (hl:last≤x.Time):evOk ⟨ks,ev⟩ last x=true:=by
 obtain⟨h1,h2,h3,h4,h5⟩:=h
 unfold evOk
 have e3:existsB ⟨ks,ev⟩ x.Principal=true:=h3
 have e4:groupB ⟨ks,ev⟩ x.Group=true:=h4
 rw[e3,e4]
 simp only[Bool.true_and,Bool.and_eq_true,Bool.or_eq_true,decide_eq_true_eq,beq_iff_eq,maxT,Bool.not_eq_true',beq_eq_false_iff_ne]
 refine⟨h1,hl,?_,h5⟩
 have:x.Time≤1099511627776:=by omega
 exact decide_eq_true this
theorem directory_spT {m:zT} (h:TapeOk m):∃(d:api_Directory) (m':zT),mYDirectory m=some (d,m')∧TapeOk m'∧MadeD d:=by
 have hb:=tnextV_bd m (n:=6 - 2+1) (by omega)
 unfold mYDirectory
 rw[between_spT h (by omega) (by omega) (by omega)]
 simp only[Option.bind_some]
 generalize tnextV m (6 - 2+1)=v at *
 have h1:=tnextT_ok h
 generalize tnextT m=m1 at *
 -- the kinds
 have key:∃e,iter mYDirectory_l0 (2+v,m1.L,m1.at_,[1])=some e∧(TapeOk ⟨e.1,e.2.1⟩∧(∀k∈e.2.2,kindBad k=false)∧3≤e.2.2.length∧e.2.2.length≤7):=by
  refine iter_ex (body:=mYDirectory_l0) (fun s=>0≤s.1∧TapeOk ⟨s.2.1,s.2.2.1⟩∧(∀k∈s.2.2.2,kindBad k=false)∧(s.2.2.2.length:Int)+s.1=3+v) (fun s=>s.1.toNat) _ ?_ ⟨by simp only;omega,h1,by simp;decide,by simp;omega⟩
  rintro⟨i,L,p,out⟩ ⟨g1,g2,g3,g4⟩
  simp only at g1 g2 g3 g4
  unfold mYDirectory_l0
  simp only
  by_cases hi:0 < i
  ·left
   obtain⟨k,hk,e⟩:=pick_spT g2 (l:=[2,2,1,3]) (by simp)
   rw[if_pos (by simpa using hi),e]
   simp only[Option.bind_some]
   rw[w64 (x:=i - 1) (by omega) (by omega),ck_t (by simp;omega)]
   refine⟨_,rfl,⟨by simp only;omega,tnextT_ok g2,all_snoc g3 ?_,by simp;omega⟩,by simp only;omega⟩
   simp only[List.mem_cons,List.not_mem_nil,or_false] at hk
   rcases hk with rfl |rfl |rfl |rfl <;> rfl
  ·right
   rw[if_neg (by simpa using hi)]
   exact⟨_,rfl,g2,g3,by show 3≤out.length;omega,by show out.length≤7;omega⟩
 obtain⟨⟨L,p,ks⟩,e1,k1,k2,k3,k4⟩:=key
 simp only at k1 k2 k3 k4
 rw[e1]
 simp only[Option.bind_some]
 -- the groups
 have keyG:∃e,iter (mYDirectory_l1 (L,p,ks)) (0,[])=some e∧(∀g∈e,groupB ⟨ks,[]⟩ g=true)∧e.length≤7:=by
  have:=(iter_foldlS (body:=mYDirectory_l1 (L,p,ks)) ks (fun i acc=>((i:Int),acc.1)) (fun (acc:List Int×Nat) k=>if k==2 then(acc.1++[(acc.2:Int)],acc.2+1) else(acc.1,acc.2+1)) (fun acc=>acc.1) (fun i (acc:List Int×Nat)=>acc.2=i∧acc.1.length≤i∧∀g∈acc.1,groupB ⟨ks,[]⟩ g=true) (fun i hi acc ⟨a1,a2,a3⟩=>by
   unfold mYDirectory_l1
   simp only
   rw[if_pos (by simp <;> omega),ck_t (by constructor <;> omega),idx_lt hi,w64 (by omega) (by omega)]
   simp only[Option.bind_some]
   by_cases hk:ks[i]=2
   ·have hg:groupB ⟨ks,[]⟩ (i:Int)=true:=by
     unfold groupB existsB
     simp[hi,hk]
    rw[if_pos (by simpa using hk),ck_t (by simp;omega),if_pos (by simpa using hk)]
    refine⟨by rw[a1];rfl,by simp only;omega,by simp;omega,?_⟩
    rw[a1]
    exact all_snoc a3 hg
   ·rw[if_neg (by simpa using hk),if_neg (by simpa using hk)]
    exact⟨rfl,by simp only;omega,by simp only;omega,a3⟩) (fun acc _=>by
   unfold mYDirectory_l1
   simp only
   rw[if_neg (by simp)]) ([],0) ⟨rfl,by simp,by simp⟩)
  exact⟨_,this.1,this.2.2.2,Nat.le_trans this.2.2.1 k4⟩
 obtain⟨gs,e2,q1,q2⟩:=keyG
 rw[e2]
 simp only[Option.bind_some]
 have hkb:ks.any kindBad=false:=by
  rw[List.any_eq_false]
  exact fun x hx=>by simp[k2 x hx]
 have fin:∀ev:List api_Member,ev.length≤11→(∀x∈ev,MemOk ks x∧0≤x.Time)→ev.Pairwise (fun a b=>a.Time≤b.Time)→MadeD ⟨ks,ev⟩:=fun ev he hm hp=>by
  refine⟨?_,⟨k3,k4⟩,fun x hx=>⟨(hm x hx).2,(hm x hx).1.2.1⟩⟩
  unfold dirOk
  simp only[hkb,Bool.not_false,Bool.true_and,Bool.and_eq_true,decide_eq_true_eq]
  exact⟨by omega,by omega,fit_of (q:=MemOk ks) (fun last x hq hl=>evOk_of last x hq hl) (fun x hx=>(hm x hx).1) hp fun x hx=>(hm x hx).2⟩
 by_cases hg0:gs.length=0
 ·rw[if_pos (by simpa using hg0)]
  exact⟨_,_,rfl,k1,fin [] (by simp) (by simp) .nil⟩
 rw[if_neg (by simpa using hg0),next_spT k1 (by omega)]
 simp only[Option.bind_some]
 have hb2:=tnextV_bd ⟨L,p⟩ (n:=12) (by omega)
 have h2:=tnextT_ok k1
 generalize tnextV ⟨L,p⟩ 12=n at *
 generalize tnextT ⟨L,p⟩=m2 at *
 obtain⟨cl,m3,e3,c1,c2,c3,c4⟩:=clock_spT h2 hb2.1 (by omega)
 rw[e3]
 simp only[Option.bind_some]
 have keyE:∃e,iter (mYDirectory_l2 (cl,m3) (L,p,ks) gs) (0,m3.L,m3.at_,[])=some e∧(TapeOk ⟨e.1,e.2.1⟩∧e.2.2.length≤11∧(∀x∈e.2.2,MemOk ks x∧0≤x.Time)∧e.2.2.Pairwise (fun a b=>a.Time≤b.Time)):=by
  refine iter_ex (body:=mYDirectory_l2 (cl,m3) (L,p,ks) gs) (fun s=>0≤s.1∧s.1≤n∧TapeOk ⟨s.2.1,s.2.2.1⟩∧(s.2.2.2.length:Int)≤s.1∧(∀x∈s.2.2.2,MemOk ks x∧0≤x.Time∧∃j:Nat,(j:Int) < s.1∧cl[j]? =some x.Time)∧s.2.2.2.Pairwise (fun a b=>a.Time≤b.Time)) (fun s=>(n - s.1).toNat) _ ?_ ⟨by simp,hb2.1,c1,by simp,by simp,.nil⟩
  rintro⟨i,L2,p2,out⟩ ⟨g1,g2,g3,g4,g5,g6⟩
  simp only at g1 g2 g3 g4 g5 g6
  unfold mYDirectory_l2
  simp only
  by_cases hi:i < n
  ·left
   obtain⟨i,rfl⟩:=Int.eq_ofNat_of_zero_le g1
   have hic:i < cl.length:=by omega
   have hv:=tnextV_bd ⟨L2,p2⟩ (n:=(ks.length:Int)) (by omega)
   have t1:=tnextT_ok g3
   rw[if_pos (by simp <;> omega),idx_lt hic,next_spT g3 (by omega)]
   simp only[Option.bind_some]
   have hv2:=tnextV_bd (tnextT ⟨L2,p2⟩) (n:=(gs.length:Int)) (by omega)
   have t2:=tnextT_ok t1
   rw[next_spT t1 (by omega)]
   simp only[Option.bind_some]
   rw[ck_t (by constructor <;> omega),idx_toNat hv2.1 (by omega)]
   simp only[Option.bind_some]
   rw[next_spT t2 (by omega)]
   simp only[Option.bind_some]
   have t3:=tnextT_ok t2
   have hgm:=q1 _ (List.getElem_mem (show (tnextV (tnextT ⟨L2,p2⟩) (gs.length:Int)).toNat < gs.length by omega))
   generalize gs[(tnextV (tnextT ⟨L2,p2⟩) (gs.length:Int)).toNat]'(by omega)=g at *
   generalize tnextV ⟨L2,p2⟩ (ks.length:Int)=pr at *
   have hpr:existsB ⟨ks,[]⟩ pr=true:=by unfold existsB;simp;omega
   have hct:=c3 _ (List.getElem_mem hic)
   have hle:∀y∈out,y.Time≤cl[i]:=fun y hy=>by
    obtain⟨_,_,j,hj,hjt⟩:=g5 y hy
    obtain⟨hj2,hj3⟩:=List.getElem?_eq_some_iff.1 hjt
    rw[← hj3]
    exact List.pairwise_iff_getElem.1 c2 j i hj2 hic (by omega)
   have step:∀kind:Int,(kind=1∨kind=2)→∃s',mYDirectory_j3 (pr,tnextT ⟨L2,p2⟩) g ((i:Int),L2,p2,out) cl[i] ((tnextT (tnextT (tnextT ⟨L2,p2⟩))).L,(tnextT (tnextT (tnextT ⟨L2,p2⟩))).at_,kind)=some (.go s')∧(0≤s'.1∧s'.1≤n∧TapeOk ⟨s'.2.1,s'.2.2.1⟩∧(s'.2.2.2.length:Int)≤s'.1∧(∀x∈s'.2.2.2,MemOk ks x∧0≤x.Time∧∃j:Nat,(j:Int) < s'.1∧cl[j]? =some x.Time)∧s'.2.2.2.Pairwise (fun a b=>a.Time≤b.Time))∧(n - s'.1).toNat < (n - (i:Int)).toNat:=fun kind hk=>by
    unfold mYDirectory_j3
    simp only
    rw[w64 (by omega) (by omega)]
    by_cases hne:pr=g
    ·rw[if_neg (by simpa using hne)]
     exact⟨_,rfl,⟨by simp only;omega,by simp only;omega,t3,by simp only;omega,fun x hx=>by
      obtain⟨a1,a2,j,a3,a4⟩:=g5 x hx
      exact⟨a1,a2,j,by simp only;omega,a4⟩,g6⟩,by simp only;omega⟩
    ·rw[if_pos (by simpa using hne),ck_t (by simp;omega)]
     exact⟨_,rfl,⟨by simp only;omega,by simp only;omega,t3,by simp;omega,all_snoc (fun x hx=>by
      obtain⟨a1,a2,j,a3,a4⟩:=g5 x hx
      exact⟨a1,a2,j,by simp only;omega,a4⟩) ⟨⟨hk,by simp only;omega,hpr,hgm,hne⟩,by simp only;omega,i,by simp only;omega,by simp[hic]⟩,pw_snoc g6 hle⟩,by simp only;omega⟩
   split
   ·exact step 2 (.inr rfl)
   ·exact step 1 (.inl rfl)
  ·right
   rw[if_neg (by simp <;> omega)]
   exact⟨_,rfl,g3,by show out.length≤11;omega,fun x hx=>⟨(g5 x hx).1,(g5 x hx).2.1⟩,g6⟩
 obtain⟨e,e4,z1,z2,z3,z4⟩:=keyE
 rw[e4]
 exact⟨_,_,rfl,z1,fin _ z2 z3 z4⟩
def edge (T:List (List Bool)) (i j:Nat):Prop:=∃r,T[i]? =some r∧r[j]? =some true
inductive Rch (T:List (List Bool)) (p:Nat):Nat→Prop
 |refl:Rch T p p
 |step {i j:Nat}:Rch T p i→edge T i j→Rch T p j
def Sq (n:Nat) (T:List (List Bool)):Prop:=T.length=n∧∀r∈T,r.length=n
def castL (l:List Nat):List Int:=l.map fun (i:Nat)=>(i:Int)
theorem castL_app (l m:List Nat):castL (l++m)=castL l++castL m:=by simp[castL]
theorem castL_len (l:List Nat):(castL l).length=l.length:=by simp[castL]
section
variable {β:Type}
noncomputable def gl1 (vis:β→Bool) (mk:Int→β) (k:Nat) (q:Int) (row:List Bool) (s:Int×List β×List Int):Option (Lp (Int×List β×List Int) (List β×List Int)):=
 if(decide (s.1 < ((row).length:Int)))=true then
  (idx row s.1).bind fun x=>
  Option.bind (
   if x=true then
    (ck (0≤s.1∧(Int.toNat s.1) < (s.2.1).length)).bind fun _=>
    (idx s.2.1 s.1).bind fun y=>
    some (!vis y)
   else
    some false) fun v=>
  if v=true then
   (ck (k+s.2.2.length+1≤268435456)).bind fun _=>
   (ck (0≤s.1∧(Int.toNat s.1) < (s.2.1).length)).bind fun _=>
   some (.go (IntKind.i64.wrap (s.1+1),s.2.1.set (Int.toNat s.1) (mk q),s.2.2++[s.1]))
  else
   some (.go (IntKind.i64.wrap (s.1+1),s.2.1,s.2.2))
 else
  some (.out (s.2.1,s.2.2))
noncomputable def gl0 (vis:β→Bool) (mk:Int→β) (tb:List (List Bool)) (s:Nat×List β×List Int):Option (Lp (Nat×List β×List Int) (List β)):=
 match s.2.2 with
 |[]=>some (.out s.2.1)
 |q::_=>
  (idx tb q).bind fun row=>
  (iter (gl1 vis mk s.1 q row) (0,s.2.1,s.2.2)).bind fun r=>
  (ck (0 < r.2.length)).bind fun _=>
  some (.go (s.1+1,r.1,r.2.drop 1))
structure BInv (T:List (List Bool)) (n p:Nat) (vis:β→Bool) (mk:Int→β) (M:List β) (ord:List Nat):Prop where
 len:M.length=n
 nd:ord.Nodup
 lt:∀i∈ord,i < n
 head:ord[0]? =some p
 vis:∀i x,M[i]? =some x→(vis x=true↔i∈ord)
 rch:∀i∈ord,Rch T p i
 par:∀b j,ord[b]? =some j→0 < b→∃a i,a < b∧ord[a]? =some i∧edge T i j∧M[j]? =some (mk (i:Int))
theorem ord_len {ord:List Nat} {n:Nat} (h:ord.Nodup) (hb:∀i∈ord,i < n):ord.length≤n:=by
 have hs:ord ⊆ List.range n:=fun x hx=>List.mem_range.2 (hb x hx)
 simpa using h.length_le_of_subset hs
theorem BInv.add {T:List (List Bool)} {n p:Nat} {vis:β→Bool} {mk:Int→β} {M:List β} {ord:List Nat} (h:BInv T n p vis mk M ord) {i j:Nat} (hi:i∈ord) (he:edge T i j) (hj:j < n) (hn:j∉ord) (hv:vis (mk (i:Int))=true):BInv T n p vis mk (M.set j (mk (i:Int))) (ord++[j]) where
 len:=by simpa using h.len
 nd:=List.nodup_append.2 ⟨h.nd,by simp,fun a ha b hb=>by simp at hb;subst hb;exact fun e=>hn (e▸ha)⟩
 lt:=fun k hk=>by
  rcases List.mem_append.1 hk with hk |hk
  ·exact h.lt k hk
  ·simp at hk;omega
 head:=by
  have:=h.head
  have h0:0 < ord.length:=(List.getElem?_eq_some_iff.1 this).1
  rw[List.getElem?_append_left h0];exact this
 vis:=fun k x hx=>by
  rw[List.getElem?_set] at hx
  by_cases hjk:j=k
  ·subst hjk
   rw[if_pos rfl,if_pos (by rw[h.len];exact hj)] at hx
   cases hx
   simp[hv]
  ·rw[if_neg hjk] at hx
   rw[h.vis k x hx]
   simp[Ne.symm hjk]
 rch:=fun k hk=>by
  rcases List.mem_append.1 hk with hk |hk
  ·exact h.rch k hk
  ·simp at hk;subst hk;exact .step (h.rch i hi) he
 par:=fun b k hb h0=>by
  rw[List.getElem?_append] at hb
  split at hb
  ·rename_i hlt
   obtain⟨a,i',h1,h2,h3,h4⟩:=h.par b k hb h0
   refine⟨a,i',h1,?_,h3,?_⟩
   ·rw[List.getElem?_append_left (by omega)];exact h2
   ·have hk:k∈ord:=List.mem_of_getElem? hb
    rw[List.getElem?_set,if_neg (fun e=>hn (by rw[e];exact hk))];exact h4
  ·rename_i hge
   have hb0:b=ord.length:=by
    have:=(List.getElem?_eq_some_iff.1 hb).1
    simp at this;omega
   subst hb0
   simp at hb
   subst hb
   obtain⟨a,ha,e⟩:=List.getElem_of_mem hi
   refine⟨a,i,ha,?_,he,?_⟩
   ·rw[List.getElem?_append_left ha,List.getElem?_eq_getElem ha,e]
   ·rw[List.getElem?_set,if_pos rfl,if_pos (by rw[h.len];exact hj)]
theorem gl1_ex {T:List (List Bool)} {n p:Nat} {vis:β→Bool} {mk:Int→β} (hT:Sq n T) (hn:n≤1000000) (hmk:∀i:Nat,vis (mk (i:Int))=true) {pre rest:List Nat} {q:Nat} {row:List Bool} (hr:T[q]? =some row) {M:List β} (h:BInv T n p vis mk M (pre++q::rest)):
  ∃e,iter (gl1 vis mk pre.length (q:Int) row) (0,M,castL (q::rest))=some e∧∃new,e.2=castL (q::rest++new)∧BInv T n p vis mk e.1 (pre++(q::rest++new))∧∀j,edge T q j→j∈pre++(q::rest++new):=by
 have hrl:row.length=n:=hT.2 row (List.mem_of_getElem? hr)
 refine iter_ex (body:=gl1 vis mk pre.length (q:Int) row) (fun s=>∃(i:Nat) (new:List Nat),s.1=(i:Int)∧i≤n∧s.2.2=castL (q::rest++new)∧BInv T n p vis mk s.2.1 (pre++(q::rest++new))∧∀j,j < i→row[j]? =some true→j∈pre++(q::rest++new)) (fun s=>n - s.1.toNat) _ ?_ ⟨0,[],rfl,Nat.zero_le _,by simp,by simpa using h,fun j hj=>by omega⟩
 rintro⟨i,M,Q⟩ ⟨i,new,rfl,hi,hQ,hB,hc⟩
 simp only at hQ hB
 subst hQ
 have hlen:=ord_len hB.nd hB.lt
 unfold gl1
 simp only
 by_cases hlt:i < n
 ·left
  have hir:i < row.length:=by omega
  rw[if_pos (by simp;omega),idx_lt hir,w64 (by omega) (by omega)]
  simp only[Option.bind_some]
  have hiM:i < M.length:=by rw[hB.len];exact hlt
  have hvi:=hB.vis i M[i] (List.getElem?_eq_getElem hiM)
  by_cases hx:row[i]=true
  ·rw[if_pos hx,ck_t (by constructor <;> omega),idx_lt hiM]
   simp only[Option.bind_some]
   by_cases hv:vis M[i]=true
   ·rw[hv,if_neg (by decide)]
    refine⟨_,rfl,⟨i+1,new,by simp only;omega,by omega,rfl,hB,fun j hj hjr=>?_⟩,by simp only;omega⟩
    rcases Nat.lt_or_eq_of_le (Nat.le_of_lt_succ hj) with hj |hj
    ·exact hc j hj hjr
    ·subst hj;exact hvi.1 hv
   ·have hni:i∉pre++(q::rest++new):=fun hm=>hv (hvi.2 hm)
    have he:edge T q i:=⟨row,hr,by rw[List.getElem?_eq_getElem hir,hx]⟩
    have hB2:=hB.add (i:=q) (j:=i) (by simp) he hlt hni (hmk q)
    have hl2:=ord_len hB2.nd hB2.lt
    simp only[List.length_append,List.length_cons,List.length_nil] at hl2
    rw[if_pos (by simpa using hv),ck_t (by rw[castL_len];simp only[List.length_append,List.length_cons];omega)]
    simp only[Option.bind_some]
    refine⟨_,rfl,⟨i+1,new++[i],by simp only;omega,by omega,?_,?_,fun j hj hjr=>?_⟩,by simp only;omega⟩
    ·simp only[castL,List.map_append,List.map_cons,List.map_nil,List.cons_append,List.append_assoc]
    ·simp only[Int.toNat_natCast]
     simpa[List.append_assoc] using hB2
    ·rcases Nat.lt_or_eq_of_le (Nat.le_of_lt_succ hj) with hj |hj
     ·have:=hc j hj hjr
      simp only[List.mem_append,List.mem_cons] at this ⊢
      rcases this with h1 |(h1 |h1) |h1
      ·exact .inl h1
      ·exact .inr (.inl (.inl h1))
      ·exact .inr (.inl (.inr h1))
      ·exact .inr (.inr (.inl h1))
     ·subst hj;simp
  ·rw[if_neg hx]
   simp only[Option.bind_some]
   rw[if_neg (by decide)]
   refine⟨_,rfl,⟨i+1,new,by simp only;omega,by omega,rfl,hB,fun j hj hjr=>?_⟩,by simp only;omega⟩
   rcases Nat.lt_or_eq_of_le (Nat.le_of_lt_succ hj) with hj |hj
   ·exact hc j hj hjr
   ·subst hj
    rw[List.getElem?_eq_getElem hir] at hjr
    exact absurd (Option.some.inj hjr) hx
 ·right
  rw[if_neg (by simp;omega)]
  refine⟨_,rfl,new,rfl,hB,fun j ⟨r,h1,h2⟩=>?_⟩
  rw[hr] at h1
  cases h1
  exact hc j (by have:=(List.getElem?_eq_some_iff.1 h2).1;omega) h2
theorem gl0_ex {T:List (List Bool)} {n p:Nat} {vis:β→Bool} {mk:Int→β} (hT:Sq n T) (hn:n≤1000000) (hmk:∀i:Nat,vis (mk (i:Int))=true) {M0:List β} (h:BInv T n p vis mk M0 [p]):
  ∃M,iter (gl0 vis mk T) (0,M0,castL [p])=some M∧∃ord,BInv T n p vis mk M ord∧∀i,Rch T p i→i∈ord:=by
 refine iter_ex (body:=gl0 vis mk T) (fun s=>∃(pre queue:List Nat),s.1=pre.length∧s.2.2=castL queue∧BInv T n p vis mk s.2.1 (pre++queue)∧∀i∈pre,∀j,edge T i j→j∈pre++queue) (fun s=>n - s.1) _ ?_ ⟨[],[p],rfl,rfl,by simpa using h,fun i hi=>by simp at hi⟩
 rintro⟨k,M,Q⟩ ⟨pre,queue,rfl,hQ,hB,hc⟩
 simp only at hQ hB
 subst hQ
 have hlen:=ord_len hB.nd hB.lt
 cases queue with
 |nil=>
  right
  refine⟨M,by simp[gl0,castL],pre,by simpa using hB,fun i hi=>?_⟩
  induction hi with
  |refl=>have:=hB.head;rw[List.append_nil] at this;exact List.mem_of_getElem? this
  |step _ he ih=>simpa using hc _ ih _ he
 |cons q rest=>
  left
  have hq:q < n:=hB.lt q (by simp)
  have hqT:q < T.length:=by rw[hT.1];exact hq
  obtain⟨e,e1,new,e2,e3,e4⟩:=gl1_ex hT hn hmk (List.getElem?_eq_getElem hqT) hB
  simp only[List.length_append,List.length_cons] at hlen
  unfold gl0
  simp only[castL,List.map_cons]
  rw[idx_lt hqT]
  simp only[Option.bind_some]
  simp only[castL,List.map_cons] at e1
  rw[e1]
  simp only[Option.bind_some]
  rw[ck_t (by rw[e2];simp[castL])]
  refine⟨_,rfl,⟨pre++[q],rest++new,by simp,by rw[e2];simp[castL],by simpa[List.append_assoc] using e3,fun i hi j he=>?_⟩,by simp only;omega⟩
  rcases List.mem_append.1 hi with hi |hi
  ·have:=hc i hi j he
   simp only[List.mem_append,List.mem_cons,List.not_mem_nil,or_false] at this ⊢
   rcases this with h1 |h1 |h1
   ·exact .inl (.inl h1)
   ·exact .inl (.inr h1)
   ·exact .inr (.inl h1)
  ·simp at hi
   subst hi
   have:=e4 j he
   simpa[List.append_assoc] using this
end
theorem dirRows_ex {n:Nat} {t:Int}:∀{l:List api_Member} {T:List (List Bool)},Sq n T→(∀x∈l,(0≤x.Principal∧x.Principal < n)∧0≤x.Group∧x.Group < n)→∃r,dirRows t l T=some r∧Sq n r
 |[],T,hT,_=>⟨T,rfl,hT⟩
 |x::l,T,hT,h=>by
  have hx:=h x (List.mem_cons_self ..)
  have hl:=fun y hy=>h y (List.mem_cons_of_mem x hy)
  unfold dirRows
  split
  ·have h1:x.Principal.toNat < T.length:=by rw[hT.1];omega
   have h2:T[x.Principal.toNat].length=n:=hT.2 _ (List.getElem_mem h1)
   rw[ck_t ⟨hx.1.1,hx.2.1⟩,Option.bind_some,List.getElem?_eq_getElem h1,Option.bind_some,ck_t (by rw[hT.1];omega),Option.bind_some]
   exact dirRows_ex ⟨by simpa using hT.1,fun r hr=>by
    rcases List.mem_or_eq_of_mem_set hr with hr |hr
    ·exact hT.2 r hr
    ·rw[hr];simpa using h2⟩ hl
  ·exact dirRows_ex hT hl
theorem dir_ev {d:api_Directory} (hd:dirOk d=true):∀x∈d.Events,(0≤x.Principal∧x.Principal < (d.Kinds.length:Int))∧0≤x.Group∧x.Group < (d.Kinds.length:Int):=fun x hx=>by
 unfold dirOk at hd
 simp only[Bool.and_eq_true] at hd
 obtain⟨a,ha⟩:=fit_mem hd.2.2.2 x hx
 unfold evOk groupB existsB at ha
 simp only[Bool.and_eq_true,decide_eq_true_eq] at ha
 exact⟨ha.2.2.2.1,ha.2.2.2.2.1.1⟩
theorem dir_few {d:api_Directory} (hd:dirOk d=true):d.Kinds.length≤24∧d.Events.length≤120:=by
 unfold dirOk at hd
 simp only[Bool.and_eq_true,decide_eq_true_eq] at hd
 exact⟨hd.1,hd.2.1⟩
theorem at_ex {d:api_Directory} (hd:dirOk d=true) (h0:0 < d.Kinds.length) (t:Int):∃T,directory_at d t=some T∧Sq d.Kinds.length T:=by
 obtain⟨h1,h2⟩:=dir_few hd
 unfold directory_at
 rw[ck_t ⟨h0,by omega,by omega⟩,Option.bind_some]
 exact dirRows_ex ⟨by simp,fun r hr=>by rw[(List.mem_replicate.1 hr).2];simp⟩ (dir_ev hd)
theorem up_l0 (T:List (List Bool)):directory_table_upward_l0 T=gl0 (β:=Bool) (fun b=>b) (fun _=>true) T:=by
 funext s
 obtain⟨k,M,Q⟩:=s
 cases Q <;> rfl
theorem upward_ex {T:List (List Bool)} {n:Nat} (hT:Sq n T) (hn:n≤1000000) {p:Nat} (hp:p < n):∃U ord,directory_table_upward T (p:Int)=some U∧BInv T n p (fun b=>b) (fun _=>true) U ord∧∀i,Rch T p i→i∈ord:=by
 unfold directory_table_upward
 rw[ck_t (by rw[hT.1];omega),Option.bind_some,ck_t (by rw[hT.1];constructor <;> omega),Option.bind_some,up_l0]
 obtain⟨M,h1,ord,h2,h3⟩:=gl0_ex (β:=Bool) (vis:=fun b=>b) (mk:=fun _=>true) hT hn (fun _=>rfl) (p:=p) (M0:=(List.replicate T.length false).set p true) {
  len:=by simp[hT.1]
  nd:=by simp
  lt:=fun i hi=>by simp at hi;omega
  head:=rfl
  vis:=fun i x hx=>by
   rw[List.getElem?_set] at hx
   by_cases hpi:p=i
   ·subst hpi
    rw[if_pos rfl,if_pos (by simp[hT.1,hp])] at hx
    cases hx;simp
   ·rw[if_neg hpi,List.getElem?_replicate] at hx
    split at hx
    ·cases hx;simp[Ne.symm hpi]
    ·cases hx
  rch:=fun i hi=>by simp at hi;subst hi;exact .refl
  par:=fun b j hb h0=>by
   have:=(List.getElem?_eq_some_iff.1 hb).1
   simp at this;omega }
 exact⟨M,ord,by simpa[castL] using h1,h2,h3⟩
def thoseN (U:List Bool):List Nat:=(List.range U.length).filter fun i=>U.getD i false
theorem thoseN_mem {U:List Bool} {i:Nat}:i∈thoseN U↔U[i]? =some true:=by
 unfold thoseN
 rw[List.mem_filter,List.mem_range,List.getD_eq_getElem?_getD]
 constructor
 ·rintro⟨h1,h2⟩
  rw[List.getElem?_eq_getElem h1] at h2 ⊢
  simpa using h2
 ·intro h
  exact⟨(List.getElem?_eq_some_iff.1 h).1,by rw[h];rfl⟩
theorem thoseN_sorted (U:List Bool):(thoseN U).Pairwise (· < ·):=List.Pairwise.filter _ List.pairwise_lt_range
theorem castL_mem {l:List Nat} {x:Int}:x∈castL l↔∃i∈l,x=(i:Int):=by
 unfold castL
 rw[List.mem_map]
 exact⟨fun ⟨i,h1,h2⟩=>⟨i,h1,h2.symm⟩,fun ⟨i,h1,h2⟩=>⟨i,h1,h2.symm⟩⟩
theorem those_sp {U:List Bool} (hU:U.length≤1000000):directory_those U=some (castL (thoseN U)):=by
 have key:iter (directory_those_l0 U) (0,[])=some (castL (thoseN U)):=by
  have:=iter_eq (body:=directory_those_l0 U) (fun s=>∃i:Nat,s.1=(i:Int)∧i≤U.length∧s.2=castL ((List.range i).filter fun i=>U.getD i false)) (fun s=>U.length - s.1.toNat) (fun _=>castL (thoseN U)) (fun s hs=>?_) (s:=(0,[])) ⟨0,rfl,Nat.zero_le _,rfl⟩
  ·exact this
  obtain⟨a,b⟩:=s
  obtain⟨i,rfl,hi,hb⟩:=hs
  simp only at hb
  subst hb
  have hl:((List.range i).filter fun i=>U.getD i false).length≤i:=Nat.le_trans (List.length_filter_le _ _) (by simp)
  unfold directory_those_l0
  simp only
  by_cases hlt:i < U.length
  ·left
   rw[if_pos (by simp;omega),idx_lt hlt,w64 (by omega) (by omega)]
   simp only[Option.bind_some]
   by_cases hx:U[i]=true
   ·rw[if_pos hx,ck_t (by rw[castL_len];simp only[List.length_cons,List.length_nil];omega)]
    refine⟨_,rfl,⟨i+1,by simp only;omega,by omega,?_⟩,by simp only;omega,trivial⟩
    simp[castL,List.range_succ,List.filter_append,hlt,hx]
   ·rw[if_neg hx]
    refine⟨_,rfl,⟨i+1,by simp only;omega,by omega,?_⟩,by simp only;omega,trivial⟩
    simp[castL,List.range_succ,List.filter_append,hlt,hx]
  ·right
   have:i=U.length:=by omega
   subst this
   rw[if_neg (by simp)]
   rfl
 unfold directory_those
 rw[key];rfl
structure UpOk (d:api_Directory) (p:Nat) (t:Int) (T:List (List Bool)) (U:List Nat):Prop where
 tab:directory_at d t=some T
 sq:Sq d.Kinds.length T
 up:directory_Upward d (p:Int) t=some (castL U)
 sorted:U.Pairwise (· < ·)
 lt:∀i∈U,i < d.Kinds.length
 rch:∀i,i∈U↔Rch T p i
theorem known_sp {d:api_Directory} (hd:dirOk d=true) (p:Int):directory_known d p=some (existsB d p):=by
 unfold directory_known
 rw[dcheck_sp,if_pos hd]
 simp only[Option.bind_some]
 rw[if_pos (by decide),exists_sp]
 rfl
theorem ex_nat {d:api_Directory} {p:Nat} (hp:p < d.Kinds.length):existsB d (p:Int)=true:=by
 unfold existsB
 simp[hp]
theorem up_ok {d:api_Directory} (hd:dirOk d=true) {p:Nat} (hp:p < d.Kinds.length) (t:Int):∃T U,UpOk d p t T U:=by
 obtain⟨T,h1,h2⟩:=at_ex hd (by omega) t
 have hn:=(dir_few hd).1
 obtain⟨U,ord,h3,h4,h5⟩:=upward_ex h2 (by omega) hp
 have hUl:U.length≤1000000:=by rw[h4.len];omega
 refine⟨T,thoseN U,h1,h2,?_,thoseN_sorted U,fun i hi=>?_,fun i=>?_⟩
 ·unfold directory_Upward
  rw[known_sp hd,ex_nat hp]
  simp only[Option.bind_some]
  rw[if_neg (by decide),h1]
  simp only[Option.bind_some]
  rw[h3]
  simp only[Option.bind_some]
  rw[those_sp hUl];rfl
 ·rw[thoseN_mem] at hi
  have:=(List.getElem?_eq_some_iff.1 hi).1
  rw[h4.len] at this;exact this
 ·rw[thoseN_mem]
  constructor
  ·intro hi
   exact h4.rch i ((h4.vis i true hi).1 rfl)
  ·intro hi
   have hm:=h5 i hi
   have hlt:=h4.lt i hm
   have hiU:i < U.length:=by rw[h4.len];exact hlt
   rw[List.getElem?_eq_getElem hiU]
   exact congrArg some ((h4.vis i _ (List.getElem?_eq_getElem hiU)).2 hm)
structure ChainOk (T:List (List Bool)) (n p q:Nat) (c:List Nat):Prop where
 head:c.head? =some p
 last:c.getLast? =some q
 nd:c.Nodup
 lt:∀i∈c,i < n
 edge:∀a i j,c[a]? =some i→c[a+1]? =some j→edge T i j
def rightE (P:Int) (x:api_Access):Prop:=
 (0≤x.Place∧x.Place < P)∧
 ((x.Kind=1∨x.Kind=2)∧(0≤x.Principal∧x.Principal≤23)∧x.Until=0∧x.Content=0∧x.From=0∨
  x.Kind=3∧(x.Time < x.Until∧x.Until≤1099511627776)∧x.Principal=0∧x.Content=0∧x.From=0∨
  x.Kind=4∧x.Principal=0∧x.Until=0∧x.Content=0∧x.From=0∨
  (x.Kind=5∨x.Kind=6)∧(0≤x.Content∧x.Content≤63)∧x.Principal=0∧x.Until=0∧x.From=0∨
  x.Kind=7∧(0≤x.From∧x.From < P∧x.From≠x.Place)∧x.Principal=0∧x.Until=0∧x.Content=0)
structure EstOk (a:api_Estate):Prop where
 places:1≤a.Places∧a.Places≤16
 len:a.Events.length≤120
 right:∀x∈a.Events,rightE a.Places x
 times:∀x∈a.Events,0≤x.Time∧x.Time≤1099511627776
 order:a.Events.Pairwise fun x y=>x.Time≤y.Time
theorem place_sp {a:api_Estate} (h:1≤a.Places∧a.Places≤16) (p:Int):access_Place a p=some (decide (0≤p)&&decide (p < a.Places)):=by
 unfold access_Place access_among
 rw[w64 (by omega) (by omega)]
 simp only[Option.bind_some]
 congr 2
 by_cases h1:p < a.Places
 ·rw[decide_eq_true h1,decide_eq_true (by omega)]
 ·rw[decide_eq_false h1,decide_eq_false (by omega)]
theorem place_t {a:api_Estate} (h:1≤a.Places∧a.Places≤16) {p:Int} (hp:0≤p∧p < a.Places):access_Place a p=some true:=by
 rw[place_sp h,decide_eq_true hp.1,decide_eq_true hp.2];rfl
theorem right_sp {a:api_Estate} (h:1≤a.Places∧a.Places≤16) {x:api_Access} (hx:rightE a.Places x):access_right a x=some true:=by
 obtain⟨hp,hx⟩:=hx
 have hpl:=place_t h hp
 unfold access_right access_right_j1 access_right_j2
 rcases hx with ⟨hk,hq,h1,h2,h3⟩ |⟨hk,hq,h1,h2,h3⟩ |⟨hk,hq,h1,h2,h3⟩ |⟨hk,hq,h1,h2,h3⟩ |⟨hk,hq,h1,h2,h3⟩
 ·have ha:access_among x.Principal 0 23=some true:=by unfold access_among;simp[hq.1,hq.2]
  rcases hk with hk |hk <;> simp[hk,ha,access_right_j0,hpl,h1,h2,h3]
 ·simp[hk,access_right_j0,hpl,hq.1,hq.2,h1,h2,h3]
 ·simp[hk,access_right_j0,hpl,hq,h1,h2,h3]
 ·have ha:access_Content x.Content=some true:=by unfold access_Content access_among;simp[hq.1,hq.2]
  rcases hk with hk |hk <;> simp[hk,ha,access_right_j0,hpl,h1,h2,h3]
 ·have ha:=place_t h (p:=x.From) ⟨hq.1,hq.2.1⟩
  simp[hk,ha,access_right_j0,hpl,hq.2.2,h1,h2,h3]
theorem acheck_sp {a:api_Estate} (h:EstOk a):access_Check a=some 0:=by
 unfold access_Check
 have h1:access_among a.Places 1 16=some true:=by unfold access_among;simp[h.places.1,h.places.2]
 rw[h1]
 simp only[Option.bind_some]
 have hl:=h.len
 rw[if_neg (by decide)]
 simp only[Option.bind_some]
 rw[if_neg (by simp;omega)]
 have key:iter (access_Check_l0 a) (0,0)=some (.inl ()):=by
  have:=iter_eq (body:=access_Check_l0 a) (fun s=>∃i:Nat,s.2=(i:Int)∧i≤a.Events.length∧(∀j (hj:j < a.Events.length),i≤j→s.1≤a.Events[j].Time)) (fun s=>a.Events.length - s.2.toNat) (fun _=>.inl ()) (fun s hs=>?_) (s:=(0,0)) ⟨0,rfl,Nat.zero_le _,fun j hj _=>(h.times _ (List.getElem_mem hj)).1⟩
  ·exact this
  obtain⟨last,b⟩:=s
  obtain⟨i,rfl,hi,hb⟩:=hs
  simp only at hb
  unfold access_Check_l0
  simp only
  by_cases hlt:i < a.Events.length
  ·left
   have hx:=List.getElem_mem hlt
   have ht:=h.times _ hx
   have hlast:=hb i hlt (Nat.le_refl _)
   rw[if_pos (by simp;omega),idx_lt hlt,w64 (by omega) (by omega)]
   simp only[Option.bind_some]
   rw[if_neg (by simp;omega),if_neg (by simp;omega),right_sp h.places (h.right _ hx)]
   simp only[Option.bind_some]
   rw[if_neg (by decide)]
   refine⟨_,rfl,⟨i+1,rfl,by omega,fun j hj hij=>?_⟩,by simp only;omega,trivial⟩
   exact List.pairwise_iff_getElem.1 h.order i j hlt hj (by omega)
  ·right
   rw[if_neg (by simp;omega)]
 rw[key]
 rfl
theorem aknown_sp {a:api_Estate} (h:EstOk a) {p:Int} (hp:0≤p∧p < a.Places):access_known a p=some true:=by
 unfold access_known
 rw[acheck_sp h]
 simp only[Option.bind_some]
 rw[if_pos (by decide),place_t h.places hp]
 rfl
structure GrantsOk (a:api_Estate) (place t:Int) (m:List (Int×Int)):Prop where
 nd:(m.map (·.1)).Nodup
 at_:∀q i,mget inE m q=some i→0≤i∧∃x,a.Events[i.toNat]? =some x∧x.Kind=1∧x.Place=place∧x.Time≤t∧x.Principal=q
theorem inE_ok:∀a b:Int,inE a b=true↔a=b:=inE_eq
theorem mset_len {κ ν:Type} (e:κ→κ→Bool):∀(l:List (κ×ν)) (x:κ) (v:ν),(mset e l x v).length≤l.length+1
 |[],x,v=>by simp[mset,mfind]
 |q::l,x,v=>by
  rw[mset_cons]
  split
  ·simp
  ·have:=mset_len e l x v
   simp;omega
theorem grants_ex {a:api_Estate} (hl:a.Events.length≤1000) (place t:Int):∃m,access_grants a place t=some m∧GrantsOk a place t m∧m.length≤a.Events.length:=by
 have key:∃e,iter (access_grants_l0 a t place) (0,[])=some e∧(GrantsOk a place t e∧e.length≤a.Events.length):=by
  refine iter_ex (body:=access_grants_l0 a t place) (fun s=>∃i:Nat,s.1=(i:Int)∧i≤a.Events.length∧GrantsOk a place t s.2∧s.2.length≤i) (fun s=>a.Events.length - s.1.toNat) _ ?_ ⟨0,rfl,Nat.zero_le _,⟨by simp,fun q i h=>by simp[mget,mfind] at h⟩,by simp⟩
  rintro⟨b,m⟩ ⟨i,rfl,hi,hm,hml⟩
  simp only at hm hml
  unfold access_grants_l0
  simp only
  by_cases hlt:i < a.Events.length
  ·left
   rw[if_pos (by simp;omega),idx_lt hlt,w64 (by omega) (by omega)]
   simp only[Option.bind_some]
   by_cases hv:(decide (t < a.Events[i].Time)||a.Events[i].Place != place)=true
   ·rw[if_pos hv]
    exact⟨_,rfl,⟨i+1,rfl,by omega,hm,by simp only;omega⟩,by simp only;omega⟩
   ·rw[if_neg hv]
    simp only[Bool.or_eq_true,decide_eq_true_eq,bne_iff_ne,ne_eq,not_or,Classical.not_not] at hv
    by_cases hk1:a.Events[i].Kind=1
    ·rw[if_pos (by simpa using hk1)]
     refine⟨_,rfl,⟨i+1,rfl,by omega,⟨mset_nodup inE_ok hm.nd _ _,fun q k hq=>?_⟩,?_⟩,by simp only;omega⟩
     ·obtain⟨g1,g2⟩:=mget_mset inE_ok m a.Events[i].Principal (i:Int) q
      by_cases hqp:q=a.Events[i].Principal
      ·rw[g1 hqp] at hq
       cases hq
       exact⟨by omega,a.Events[i],by simp[hlt],hk1,hv.2,by omega,hqp.symm⟩
      ·rw[g2 hqp] at hq
       exact hm.at_ q k hq
     ·have:=mset_len inE m a.Events[i].Principal (i:Int)
      simp only;omega
    ·rw[if_neg (by simpa using hk1)]
     by_cases hk2:a.Events[i].Kind=2
     ·rw[if_pos (by simpa using hk2)]
      refine⟨_,rfl,⟨i+1,rfl,by omega,⟨mdel_nodup hm.nd _,fun q k hq=>?_⟩,?_⟩,by simp only;omega⟩
      ·obtain⟨g1,g2⟩:=mget_mdel inE_ok hm.nd a.Events[i].Principal q
       by_cases hqp:q=a.Events[i].Principal
       ·rw[g1 hqp] at hq;cases hq
       ·rw[g2 hqp] at hq
        exact hm.at_ q k hq
      ·have:=(mdel_sub (e:=inE) m a.Events[i].Principal).length_le
       simp only;omega
     ·rw[if_neg (by simpa using hk2)]
      exact⟨_,rfl,⟨i+1,rfl,by omega,hm,by simp only;omega⟩,by simp only;omega⟩
  ·right
   rw[if_neg (by simp;omega)]
   exact⟨_,rfl,hm,by omega⟩
 obtain⟨e,h1,h2,h3⟩:=key
 exact⟨e,by unfold access_grants;rw[h1];rfl,h2,h3⟩
theorem granted_ex {a:api_Estate} (h:EstOk a) {place:Int} (hp:0≤place∧place < a.Places) (t:Int):∃(m:List (Int×Int)) (G:List Int),access_grants a place t=some m∧GrantsOk a place t m∧access_Granted a place t=some G∧(∀q,q∈G↔(mget inE m q).isSome=true)∧G.length≤1000:=by
 obtain⟨m,h1,h2,h3⟩:=grants_ex (a:=a) (by have:=h.len;omega) place t
 have hl:=h.len
 refine⟨m,sortI (m.map (·.1)),h1,h2,?_,fun q=>?_,by unfold sortI;simp;omega⟩
 ·unfold access_Granted
  rw[aknown_sp h hp]
  simp only[Option.bind_some]
  rw[if_neg (by decide),h1]
  simp only[Option.bind_some]
  rw[ck_t (by omega)]
  rfl
 ·unfold sortI
  rw[List.mem_mergeSort,mget_mem inE_ok]
theorem linked_sp {a:api_Estate} (h:EstOk a) {place:Int} (hp:0≤place∧place < a.Places) (t:Int):access_Linked a place t=some (((downL a.Events a.Events.length).findSome? (lkStep place t)).getD (0,false)):=by
 unfold access_Linked access_LinkedK
 rw[aknown_sp h hp]
 simp only[Option.bind_some]
 have:=h.len
 rw[if_neg (by decide),ck_t (by omega)]
 rfl
def bitC (c:Int):Int:=IntKind.u64.wrap (1 * 2 ^ (min (Int.toNat c) IntKind.u64.bits))
def hasC (x c:Int):Bool:=bAnd .u64 x (bitC c) != 0
theorem bit_sp {c:Int} (h:0≤c):copies_bit c=some (bitC c):=by
 unfold copies_bit bitC
 rw[ck_t (by omega)];rfl
def hapC (s:List Int) (x:api_Access):List Int:=
 if x.Kind=5 then s.set x.Place.toNat (bOr .u64 (s.getD x.Place.toNat 0) (bitC x.Content))
 else if x.Kind=6 then s.set x.Place.toNat (bAndNot .u64 (s.getD x.Place.toNat 0) (bitC x.Content))
 else if x.Kind=7 then s.set x.Place.toNat (bOr .u64 (s.getD x.Place.toNat 0) (s.getD x.From.toNat 0))
 else s
def stC (a:api_Estate) (t:Int):Nat→List Int
 |0=>List.replicate a.Places.toNat 0
 |i+1=>match a.Events[i]? with
  |some x=>if x.Time≤t then hapC (stC a t i) x else stC a t i
  |none=>stC a t i
structure WayOk (a:api_Estate) (c t:Int) (i pl:Nat) (w:List Nat):Prop where
 sorted:w.Pairwise (· < ·)
 lt:∀k∈w,k < i
 each:∀b k,w[b]? =some k→∃x,a.Events[k]? =some x∧x.Time≤t∧(b=0→x.Kind=5∧x.Content=c)∧(0 < b→x.Kind=7∧∃k' x',w[b - 1]? =some k'∧a.Events[k']? =some x'∧x.From=x'.Place)∧∀m y,k < m→m < (w[b+1]?.getD i)→a.Events[m]? =some y→¬(y.Kind=6∧y.Content=c∧y.Place=x.Place∧y.Time≤t)
 last:∃k x,w.getLast? =some k∧a.Events[k]? =some x∧x.Place=(pl:Int)
def Few2 (a:api_Estate):Prop:=∀x∈a.Events,(x.Kind=5∨x.Kind=6)→0≤x.Content∧x.Content≤2
structure JC (a:api_Estate) (c t:Int) (i:Nat) (s:List Int) (w:List (List Nat)):Prop where
 sl:s.length=a.Places.toNat
 wl:w.length=a.Places.toNat
 small:∀j,0≤s.getD j 0∧s.getD j 0≤7
 same:∀j,hasC (s.getD j 0) c=true↔w.getD j []≠[]
 way:∀j,w.getD j []≠[]→WayOk a c t i j (w.getD j [])
theorem getD_lt {α:Type} {l:List α} {i:Nat} (h:i < l.length) (d:α):l.getD i d=l[i]:=by
 rw[List.getD_eq_getElem?_getD,List.getElem?_eq_getElem h];rfl
theorem hap_sp {s:List Int} {P:Int} {x:api_Access} (hs:s.length=P.toNat) (hr:rightE P x):copies_state_happen_vec0 s x=some (hapC s x):=by
 have hp:=hr.1
 have hpl:x.Place.toNat < s.length:=by rw[hs];omega
 unfold copies_state_happen_vec0 hapC
 by_cases h5:x.Kind=5
 ·have hc:0≤x.Content:=by rcases hr.2 with h |h |h |h |h <;> omega
  rw[if_pos (by simpa using h5),if_pos h5,ck_t ⟨hp.1,hpl⟩,idx_toNat hp.1 hpl,bit_sp hc,getD_lt hpl]
  rfl
 rw[if_neg (by simpa using h5),if_neg h5]
 by_cases h6:x.Kind=6
 ·have hc:0≤x.Content:=by rcases hr.2 with h |h |h |h |h <;> omega
  rw[if_pos (by simpa using h6),if_pos h6,ck_t ⟨hp.1,hpl⟩,idx_toNat hp.1 hpl,bit_sp hc,getD_lt hpl]
  rfl
 rw[if_neg (by simpa using h6),if_neg h6]
 by_cases h7:x.Kind=7
 ·have hf:0≤x.From∧x.From < P:=by rcases hr.2 with h |h |h |h |h <;> omega
  have hfl:x.From.toNat < s.length:=by rw[hs];omega
  rw[if_pos (by simpa using h7),if_pos h7,ck_t ⟨hp.1,hpl⟩,idx_toNat hp.1 hpl,ck_t ⟨hf.1,hfl⟩,idx_toNat hf.1 hfl,getD_lt hpl,getD_lt hfl]
  rfl
 rw[if_neg (by simpa using h7),if_neg h7]
theorem hap_len (s:List Int) (x:api_Access):(hapC s x).length=s.length:=by
 unfold hapC
 split
 ·simp
 ·split
  ·simp
  ·split <;> simp
theorem stC_len (a:api_Estate) (t:Int):∀i,(stC a t i).length=a.Places.toNat
 |0=>by simp[stC]
 |i+1=>by
  unfold stC
  split
  ·split
   ·rw[hap_len];exact stC_len a t i
   ·exact stC_len a t i
  ·exact stC_len a t i
theorem cat_sp {a:api_Estate} (h:EstOk a) (t:Int):copies_at a t=some (stC a t a.Events.length):=by
 have hl:=h.len
 have hp:=h.places
 have key:iter (copies_at_l0 a t) (0,stC a t 0)=some (stC a t a.Events.length):=by
  have:=iter_eq (body:=copies_at_l0 a t) (fun s=>∃i:Nat,s.1=(i:Int)∧i≤a.Events.length∧s.2=stC a t i) (fun s=>a.Events.length - s.1.toNat) (fun _=>stC a t a.Events.length) (fun s hs=>?_) (s:=(0,stC a t 0)) ⟨0,rfl,Nat.zero_le _,rfl⟩
  ·exact this
  obtain⟨b,q⟩:=s
  obtain⟨i,rfl,hi,hq⟩:=hs
  simp only at hq
  subst hq
  unfold copies_at_l0
  simp only
  by_cases hlt:i < a.Events.length
  ·left
   have e1:stC a t (i+1)=if a.Events[i].Time≤t then hapC (stC a t i) a.Events[i] else stC a t i:=by
    show(match a.Events[i]? with |some x=>if x.Time≤t then hapC (stC a t i) x else stC a t i |none=>stC a t i)=_
    rw[List.getElem?_eq_getElem hlt]
   rw[if_pos (by simp;omega),idx_lt hlt,w64 (by omega) (by omega)]
   simp only[Option.bind_some]
   by_cases ht:a.Events[i].Time≤t
   ·rw[if_pos (by simpa using ht),hap_sp (stC_len a t i) (h.right _ (List.getElem_mem hlt))]
    simp only[Option.bind_some]
    refine⟨_,rfl,⟨i+1,rfl,by omega,by rw[e1,if_pos ht]⟩,by simp only;omega,trivial⟩
   ·rw[if_neg (by simpa using ht)]
    refine⟨_,rfl,⟨i+1,rfl,by omega,by rw[e1,if_neg ht]⟩,by simp only;omega,trivial⟩
  ·right
   have:i=a.Events.length:=by omega
   subst this
   rw[if_neg (by simp)]
 unfold copies_at
 rw[ck_t (by constructor <;> omega)]
 simp only[Option.bind_some]
 have e:(List.replicate (Int.toNat a.Places) (0:Int))=stC a t 0:=rfl
 rw[e,key]
 rfl
theorem content_sp {c:Int} (hc:0≤c∧c≤2):access_Content c=some true:=by
 unfold access_Content access_among
 simp only[Option.bind_some]
 rw[decide_eq_true hc.1,decide_eq_true (show c≤63 by omega)];rfl
def whereN (a:api_Estate) (c t:Int):List Nat:=(List.range a.Places.toNat).filter fun j=>hasC ((stC a t a.Events.length).getD j 0) c
theorem where_sp {a:api_Estate} (h:EstOk a) {c:Int} (hc:0≤c∧c≤2) (t:Int):copies_Where a c t=some (castL (whereN a c t)):=by
 have hp:=h.places
 unfold copies_Where
 rw[acheck_sp h]
 simp only[Option.bind_some]
 rw[if_neg (by decide),content_sp hc]
 simp only[Option.bind_some]
 rw[if_neg (by decide),cat_sp h]
 simp only[Option.bind_some]
 have hsl:=stC_len a t a.Events.length
 generalize hS:stC a t a.Events.length=S at *
 have key:iter (copies_Where_l0 S c) (0,[])=some (castL (whereN a c t)):=by
  have:=iter_eq (body:=copies_Where_l0 S c) (fun s=>∃i:Nat,s.1=(i:Int)∧i≤S.length∧s.2=castL ((List.range i).filter fun j=>hasC (S.getD j 0) c)) (fun s=>S.length - s.1.toNat) (fun _=>castL (whereN a c t)) (fun s hs=>?_) (s:=(0,[])) ⟨0,rfl,Nat.zero_le _,rfl⟩
  ·exact this
  obtain⟨b,q⟩:=s
  obtain⟨i,rfl,hi,hb⟩:=hs
  simp only at hb
  subst hb
  have hl:((List.range i).filter fun j=>hasC (S.getD j 0) c).length≤i:=Nat.le_trans (List.length_filter_le _ _) (by simp)
  unfold copies_Where_l0
  simp only
  by_cases hlt:i < S.length
  ·left
   rw[if_pos (by simp;omega),idx_lt hlt,w64 (by omega) (by omega)]
   simp only[Option.bind_some]
   rw[bit_sp hc.1]
   simp only[Option.bind_some]
   have e:(bAnd .u64 S[i] (bitC c) != 0)=hasC (S.getD i 0) c:=by rw[getD_lt hlt];rfl
   rw[e]
   by_cases hx:hasC (S.getD i 0) c=true
   ·rw[if_pos hx,ck_t (by rw[castL_len];simp only[List.length_cons,List.length_nil];omega)]
    refine⟨_,rfl,⟨i+1,rfl,by omega,?_⟩,by simp only;omega,trivial⟩
    rw[List.range_succ,List.filter_append,List.filter_cons,if_pos hx,List.filter_nil,castL_app]
    rfl
   ·rw[if_neg hx]
    refine⟨_,rfl,⟨i+1,rfl,by omega,?_⟩,by simp only;omega,trivial⟩
    rw[List.range_succ,List.filter_append,List.filter_cons,if_neg hx,List.filter_nil,List.append_nil]
  ·right
   have:i=S.length:=by omega
   subst this
   rw[if_neg (by simp)]
   unfold whereN
   rw[hS,hsl]
 rw[key];rfl
structure RdOk (d:api_Directory) (p:Nat):Prop where
 lt:p < d.Kinds.length
 kind:d.Kinds[p]?≠some 2
theorem rcheck2_sp {d:api_Directory} (hd:dirOk d=true) {a:api_Estate} (h:EstOk a):readers_Check d a=some 0:=by
 unfold readers_Check
 rw[dcheck_sp,if_pos hd]
 simp only[Option.bind_some]
 rw[if_neg (by decide),acheck_sp h]
 rfl
theorem reader_sp {d:api_Directory} {p:Nat} (hp:RdOk d p):readers_Reader d (p:Int)=some true:=by
 have hk:=hp.kind
 have hl:=hp.lt
 rw[List.getElem?_eq_getElem hl] at hk
 unfold readers_Reader
 rw[if_pos (by simp),if_pos (by simpa using hl),idx_lt hl]
 simp only[Option.bind_some]
 congr 1
 simpa using hk
theorem fine_sp {d:api_Directory} (hd:dirOk d=true) {a:api_Estate} (h:EstOk a) {p:Nat} (hp:RdOk d p) {place:Int} (hpl:0≤place∧place < a.Places):readers_fine d a (p:Int) place=some true:=by
 unfold readers_fine
 rw[rcheck2_sp hd h]
 simp only[Option.bind_some]
 rw[if_pos (by decide),reader_sp hp]
 simp only[Option.bind_some,if_true]
 rw[place_t h.places hpl]
 rfl
theorem grantR_ex {d:api_Directory} {p:Nat} {t:Int} {T:List (List Bool)} {U:List Nat} (hU:UpOk d p t T U) (hn:d.Kinds.length≤1000) {a:api_Estate} {place:Int} {G:List Int} (hG:access_Granted a place t=some G) (hGl:G.length≤1000):
  ∃g,readers_grant d a (p:Int) place t=some g∧(g.2=true→g.1∈G∧∃q∈U,g.1=(q:Int))∧(g.2=false→g.1=0∧∀x∈G,x∉castL U):=by
 have hul:U.length≤d.Kinds.length:=ord_len (hU.sorted.imp fun h=>Nat.ne_of_lt h) hU.lt
 unfold readers_grant
 rw[hU.up,hG]
 simp only[Option.bind_some]
 obtain⟨h1,h2⟩:=iter_findS (body:=readers_grant_l0 G (castL U)) G (fun x=>(castL U).contains x) (fun _ x=>.inr (x,true)) (.inl ()) (fun i hi=>by
  unfold readers_grant_l0
  rw[if_pos (by simp;omega),idx_lt hi,w64 (by omega) (by omega)]
  simp only[Option.bind_some]
  rw[contains_sp (by rw[castL_len];omega)]
  simp only[Option.bind_some]
  split <;> rfl) (by
  unfold readers_grant_l0
  rw[if_neg (by simp)])
 cases h:G.any (fun x=>(castL U).contains x) with
 |false=>
  rw[h1 h]
  refine⟨(0,false),rfl,(fun h=>by cases h),fun _=>⟨rfl,fun x hx hm=>?_⟩⟩
  have:=List.any_eq_false.1 h x hx
  exact this (List.contains_iff_mem.2 hm)
 |true=>
  obtain⟨i,hi,h3,h4⟩:=h2 h
  rw[h4]
  refine⟨(G[i],true),rfl,fun _=>⟨List.getElem_mem hi,?_⟩,fun h=>by cases h⟩
  obtain⟨q,hq,e⟩:=castL_mem.1 (List.contains_iff_mem.1 h3)
  exact⟨q,hq,e⟩
theorem compact_ok {zs:List Int} (hs:zs.Pairwise (·≤·)):(Lib.compact zs).Pairwise (· < ·)∧∀x,x∈Lib.compact zs↔x∈zs:=by
 have key:∀m,m≤zs.length→(Lib.compactUpTo zs.toArray m).Pairwise (· < ·)∧(∀x,x∈Lib.compactUpTo zs.toArray m↔x∈zs.take m)∧∀x∈Lib.compactUpTo zs.toArray m,∀y,zs[m - 1]? =some y→x≤y:=fun m=>by
  induction m with
  |zero=>intro _;refine⟨by simp[Lib.compactUpTo],by simp[Lib.compactUpTo],by simp[Lib.compactUpTo]⟩
  |succ m ih=>
   intro hm
   obtain⟨i1,i2,i3⟩:=ih (by omega)
   have hmz:m < zs.length:=by omega
   have ed:zs.toArray[m]! =zs[m]:=by simp[hmz]
   rw[Lib.compactUpTo_succ,ed]
   have htake:∀x,x∈zs.take (m+1)↔x∈zs.take m∨x=zs[m]:=fun x=>by rw[List.take_add_one,List.getElem?_eq_getElem hmz,Option.toList_some,List.mem_append,List.mem_singleton]
   have hle:∀x∈Lib.compactUpTo zs.toArray m,x≤zs[m]:=fun x hx=>by
    have:=(i2 x).1 hx
    obtain⟨j,hj,e⟩:=List.mem_take_iff_getElem.1 this
    rw[← e]
    exact List.pairwise_iff_getElem.1 hs j m (by omega) hmz (by omega)
   have hy:∀y,zs[m+1 - 1]? =some y→y=zs[m]:=fun y h=>by simp[hmz] at h;exact h.symm
   cases hk:Lib.keeps zs.toArray m with
   |true=>
    simp only[if_true]
    have hlt:∀x∈Lib.compactUpTo zs.toArray m,x < zs[m]:=fun x hx=>by
     simp only[Lib.keeps,decide_eq_true_eq] at hk
     rcases hk with hk |hk
     ·subst hk;simp[Lib.compactUpTo] at hx
     ·have hm0:m≠0:=fun e=>by subst e;simp[Lib.compactUpTo] at hx
      have hp:m - 1 < zs.length:=by omega
      have e1:zs.toArray[m - 1]! =zs[m - 1]:=by simp[hp]
      rw[ed,e1] at hk
      have h1:=i3 x hx zs[m - 1] (List.getElem?_eq_getElem hp)
      have h2:zs[m - 1]≤zs[m]:=List.pairwise_iff_getElem.1 hs (m - 1) m hp hmz (by omega)
      omega
    refine⟨List.pairwise_append.2 ⟨i1,by simp,fun x hx y hy=>by simp at hy;subst hy;exact hlt x hx⟩,fun x=>?_,fun x hx y hy'=>?_⟩
    ·rw[htake,List.mem_append,i2];simp
    ·rw[hy y hy']
     rw[List.mem_append] at hx
     rcases hx with hx |hx
     ·exact hle x hx
     ·simp at hx;omega
   |false=>
    simp only[Bool.false_eq_true,if_false,List.append_nil]
    have hm0:m≠0:=fun e=>by subst e;simp[Lib.keeps] at hk
    have hp:m - 1 < zs.length:=by omega
    have e0:zs[m]=zs[m - 1]:=by
     simp only[Lib.keeps,decide_eq_false_iff_not,not_or,ne_eq,Decidable.not_not] at hk
     have e1:zs.toArray[m - 1]! =zs[m - 1]:=by simp[hp]
     rw[← ed,←e1];exact hk.2
    refine⟨i1,fun x=>?_,fun x hx y hy'=>by rw[hy y hy'];exact hle x hx⟩
    rw[htake,i2]
    constructor
    ·exact .inl
    ·rintro(h |h)
     ·exact h
     ·rw[h,e0];exact List.mem_take_iff_getElem.2 ⟨m - 1,by omega,rfl⟩
 have h:=key zs.length (Nat.le_refl _)
 rw[List.take_length] at h
 exact⟨by simpa[Lib.compact] using h.1,fun x=>by simpa[Lib.compact] using h.2.1 x⟩
theorem sorted_mergeQ (l:List Int):(l.mergeSort fun x y=>decide (x≤y)).Pairwise (·≤·):=by
 have:=List.pairwise_mergeSort (le:=fun x y:Int=>decide (x≤y)) (fun a b c h1 h2=>by simp at h1 h2 ⊢;omega) (fun a b=>by simp;omega) l
 exact this.imp fun h=>by simpa using h
theorem sortT_sp {l:List Int} (hl:l.length≤268435456):sYSort_int_vec0 l=some (l.mergeSort fun x y=>decide (x≤y)):=by
 unfold sYSort_int_vec0
 rw[ck_t hl];rfl
theorem compT_sp {l:List Int} (hl:l.length≤268435456):sYCompact_int_eat0_own0 l=some (Lib.compact l):=by
 unfold sYCompact_int_eat0_own0
 rw[ck_t hl];rfl
theorem atimes_ex {a:api_Estate} (h:EstOk a):∃L,access_Times_own0 a=some L∧L.length≤120∧∀x,x∈L↔∃e∈a.Events,e.Time=x:=by
 have hl:=h.len
 have key:iter (access_Times_own0_l0 a) (0,[])=some (a.Events.map (·.Time)):=by
  have:=(iter_foldlS (body:=access_Times_own0_l0 a) a.Events (fun i acc=>((i:Int),acc)) (fun (acc:List Int) x=>acc++[x.Time]) (fun acc=>acc) (fun i (acc:List Int)=>acc=(a.Events.take i).map (·.Time)) (fun i hi acc hacc=>by
   subst hacc
   unfold access_Times_own0_l0
   simp only
   rw[if_pos (by simp;omega),idx_lt hi,w64 (by omega) (by omega)]
   simp only[Option.bind_some]
   rw[ck_t (by simp;omega)]
   exact⟨rfl,by rw[List.take_succ_eq_append_getElem hi,List.map_append];rfl⟩) (fun acc _=>by
   unfold access_Times_own0_l0
   simp only
   rw[if_neg (by simp)]) [] (by simp))
  obtain⟨t1,t2⟩:=this
  rw[t2,List.take_length] at t1
  exact t1
 have hs:(a.Events.map (·.Time)).Pairwise (·≤·):=by
  rw[List.pairwise_map];exact h.order
 refine⟨Lib.compact (a.Events.map (·.Time)),?_,Nat.le_trans (compact_len _) (by simp;omega),fun x=>?_⟩
 ·unfold access_Times_own0
  rw[acheck_sp h]
  simp only[Option.bind_some]
  rw[if_neg (by decide),key]
  simp only[Option.bind_some]
  rw[compT_sp (by simp;omega)]
  rfl
 ·rw[(compact_ok hs).2,List.mem_map]
theorem times_ex {d:api_Directory} (hd:dirOk d=true) {a:api_Estate} (h:EstOk a):∃L,exposure_times d a=some L∧L.length≤1000∧L.Pairwise (· < ·)∧∀x,x∈L↔(∃e∈a.Events,e.Time=x)∨∃e∈d.Events,e.Time=x:=by
 obtain⟨A,a1,a2,a3⟩:=atimes_ex h
 have hdl:=(dir_few hd).2
 have key:iter (exposure_times_l0 d) (0,A)=some (A++d.Events.map (·.Time)):=by
  have:=(iter_foldlS (body:=exposure_times_l0 d) d.Events (fun i acc=>((i:Int),acc)) (fun (acc:List Int) x=>acc++[x.Time]) (fun acc=>acc) (fun i (acc:List Int)=>acc=A++(d.Events.take i).map (·.Time)) (fun i hi acc hacc=>by
   subst hacc
   unfold exposure_times_l0
   simp only
   rw[if_pos (by simp;omega),idx_lt hi,w64 (by omega) (by omega)]
   simp only[Option.bind_some]
   rw[ck_t (by simp;omega)]
   exact⟨rfl,by rw[List.take_succ_eq_append_getElem hi,List.map_append,List.append_assoc];rfl⟩) (fun acc _=>by
   unfold exposure_times_l0
   simp only
   rw[if_neg (by simp)]) A (by simp))
  obtain⟨t1,t2⟩:=this
  rw[t2,List.take_length] at t1
  exact t1
 have hll:(A++d.Events.map (·.Time)).length≤240:=by simp;omega
 generalize hB:A++d.Events.map (·.Time)=B at *
 have hsl:(B.mergeSort fun x y=>decide (x≤y)).length≤240:=by simpa using hll
 obtain⟨c1,c2⟩:=compact_ok (sorted_mergeQ B)
 refine⟨Lib.compact (B.mergeSort fun x y=>decide (x≤y)),?_,Nat.le_trans (compact_len _) (by omega),c1,fun x=>?_⟩
 ·unfold exposure_times
  rw[a1]
  simp only[Option.bind_some]
  rw[key]
  simp only[Option.bind_some]
  rw[sortT_sp (by omega)]
  simp only[Option.bind_some]
  rw[compT_sp (by omega)]
  rfl
 ·rw[c2,List.mem_mergeSort,←hB,List.mem_append,a3,List.mem_map]
theorem xcheck_sp {d:api_Directory} (hd:dirOk d=true) {a:api_Estate} (h:EstOk a) {c:Int} (hc:0≤c∧c≤2):exposure_check d a c=some 0:=by
 unfold exposure_check
 rw[rcheck2_sp hd h]
 simp only[Option.bind_some]
 rw[if_neg (by decide),content_sp hc]
 rfl
structure MadeE (a:api_Estate):Prop where
 ok:EstOk a
 few:Few2 a
 ev:∀x∈a.Events,0≤x.Time∧x.Time≤44
def EvOk (P:Int) (x:api_Access):Prop:=rightE P x∧(0≤x.Time∧x.Time≤44)∧((x.Kind=5∨x.Kind=6)→0≤x.Content∧x.Content≤2)
theorem estate_spT {m:zT} (h:TapeOk m) {d:api_Directory} (hd:MadeD d):∃(a:api_Estate) (m':zT),mYEstate m d=some (a,m')∧TapeOk m'∧MadeE a:=by
 obtain⟨k3,k7⟩:=hd.few
 have hb:=tnextV_bd m (n:=4 - 1+1) (by omega)
 unfold mYEstate
 rw[between_spT h (by omega) (by omega) (by omega)]
 simp only[Option.bind_some]
 have h1:=tnextT_ok h
 generalize hP:1+tnextV m (4 - 1+1)=P at *
 have hP1:1≤P∧P≤4:=by omega
 generalize tnextT m=m1 at *
 have hb2:=tnextV_bd m1 (n:=16) (by omega)
 rw[next_spT h1 (by omega)]
 simp only[Option.bind_some]
 have h2:=tnextT_ok h1
 generalize tnextV m1 16=n at *
 generalize tnextT m1=m2 at *
 obtain⟨cl,m3,e3,c1,c2,c3,c4⟩:=clock_spT h2 hb2.1 (by omega)
 rw[e3]
 simp only[Option.bind_some]
 have keyE:∃e,iter (mYEstate_l0 (cl,m3) (P,m1) d) (0,m3.L,m3.at_,[])=some e∧(TapeOk ⟨e.1,e.2.1⟩∧e.2.2.length≤15∧(∀x∈e.2.2,EvOk P x)∧e.2.2.Pairwise (fun a b=>a.Time≤b.Time)):=by
  refine iter_ex (body:=mYEstate_l0 (cl,m3) (P,m1) d) (fun s=>0≤s.1∧s.1≤n∧TapeOk ⟨s.2.1,s.2.2.1⟩∧(s.2.2.2.length:Int)≤s.1∧(∀x∈s.2.2.2,EvOk P x∧∃j:Nat,(j:Int) < s.1∧cl[j]? =some x.Time)∧s.2.2.2.Pairwise (fun a b=>a.Time≤b.Time)) (fun s=>(n - s.1).toNat) _ ?_ ⟨by simp,hb2.1,c1,by simp,by simp,.nil⟩
  rintro⟨i,L2,p2,out⟩ ⟨g1,g2,g3,g4,g5,g6⟩
  simp only at g1 g2 g3 g4 g5 g6
  unfold mYEstate_l0
  simp only
  by_cases hi:i < n
  ·left
   obtain⟨i,rfl⟩:=Int.eq_ofNat_of_zero_le g1
   have hic:i < cl.length:=by omega
   obtain⟨kd,hkd,epk⟩:=pick_spT g3 (l:=[1,1,2,3,4,5,5,6,7,7]) (by simp)
   have t1:=tnextT_ok g3
   rw[if_pos (by simp <;> omega),idx_lt hic,epk]
   simp only[Option.bind_some]
   have hv:=tnextV_bd (tnextT ⟨L2,p2⟩) (n:=P) (by omega)
   have t2:=tnextT_ok t1
   rw[next_spT t1 (by omega)]
   simp only[Option.bind_some]
   have hct:=c3 _ (List.getElem_mem hic)
   have hle:∀y∈out,y.Time≤cl[i]:=fun y hy=>by
    obtain⟨_,j,hj,hjt⟩:=g5 y hy
    obtain⟨hj2,hj3⟩:=List.getElem?_eq_some_iff.1 hjt
    rw[← hj3]
    exact List.pairwise_iff_getElem.1 c2 j i hj2 hic (by omega)
   generalize tnextV (tnextT ⟨L2,p2⟩) P=pl at *
   generalize tnextT (tnextT ⟨L2,p2⟩)=m4 at *
   generalize tnextT ⟨L2,p2⟩=m5 at *
   have keep:∀(L5:List Int) (p5:Int),TapeOk ⟨L5,p5⟩→0≤((i:Int)+1,L5,p5,out).1∧((i:Int)+1,L5,p5,out).1≤n∧TapeOk ⟨L5,p5⟩∧(out.length:Int)≤(i:Int)+1∧(∀x∈out,EvOk P x∧∃j:Nat,(j:Int) < (i:Int)+1∧cl[j]? =some x.Time)∧out.Pairwise (fun a b=>a.Time≤b.Time):=fun L5 p5 h5=>
    ⟨by simp only;omega,by simp only;omega,h5,by omega,fun x hx=>by
     obtain⟨a1,j,a2,a3⟩:=g5 x hx
     exact⟨a1,j,by omega,a3⟩,g6⟩
   have step:∀(v9:List Int×Int×Int×Int×Int×Int),TapeOk ⟨v9.1,v9.2.1⟩→EvOk P ⟨cl[i],kd,pl,v9.2.2.1,v9.2.2.2.1,v9.2.2.2.2.1,v9.2.2.2.2.2⟩→∃s',mYEstate_j1 ((i:Int),L2,p2,out) cl[i] (kd,m5) (pl,m4) v9=some (.go s')∧(0≤s'.1∧s'.1≤n∧TapeOk ⟨s'.2.1,s'.2.2.1⟩∧(s'.2.2.2.length:Int)≤s'.1∧(∀x∈s'.2.2.2,EvOk P x∧∃j:Nat,(j:Int) < s'.1∧cl[j]? =some x.Time)∧s'.2.2.2.Pairwise (fun a b=>a.Time≤b.Time))∧(n - s'.1).toNat < (n - (i:Int)).toNat:=fun v9 h9 hE=>by
    unfold mYEstate_j1
    simp only
    rw[w64 (by omega) (by omega),ck_t (by simp;omega)]
    exact⟨_,rfl,⟨by simp only;omega,by simp only;omega,h9,by simp;omega,all_snoc (fun x hx=>by
     obtain⟨a1,j,a3,a4⟩:=g5 x hx
     exact⟨a1,j,by simp only;omega,a4⟩) ⟨hE,i,by simp only;omega,by simp[hic]⟩,pw_snoc g6 hle⟩,by simp only;omega⟩
   have htm:0≤cl[i]∧cl[i]≤44:=by omega
   have ev:∀q u c f,rightE P ⟨cl[i],kd,pl,q,u,c,f⟩→((kd=5∨kd=6)→0≤c∧c≤2)→EvOk P ⟨cl[i],kd,pl,q,u,c,f⟩:=fun q u c f h1 h2=>⟨h1,htm,h2⟩
   have j3:∀b,(kd=5∨kd=6→b=true)→(kd=4∨kd=7→b=false)→(kd=4∨kd=5∨kd=6∨kd=7)→∃s',mYEstate_j3 (pl,m4) ((i:Int),L2,p2,out) cl[i] (kd,m5) (P,m1) b=some (.go s')∧(0≤s'.1∧s'.1≤n∧TapeOk ⟨s'.2.1,s'.2.2.1⟩∧(s'.2.2.2.length:Int)≤s'.1∧(∀x∈s'.2.2.2,EvOk P x∧∃j:Nat,(j:Int) < s'.1∧cl[j]? =some x.Time)∧s'.2.2.2.Pairwise (fun a b=>a.Time≤b.Time))∧(n - s'.1).toNat < (n - (i:Int)).toNat:=fun b hb1 hb2 hk=>by
    unfold mYEstate_j3
    have hv3:=tnextV_bd m4 (n:=3) (by omega)
    have hvP:=tnextV_bd m4 (n:=P) (by omega)
    have t3:=tnextT_ok t2
    cases b with
    |true=>
     have hk5:kd=5∨kd=6:=by
      rcases hk with h |h |h |h
      ·exact absurd (hb2 (.inl h)) (by decide)
      ·exact .inl h
      ·exact .inr h
      ·exact absurd (hb2 (.inr h)) (by decide)
     rw[if_pos rfl,next_spT t2 (by omega)]
     simp only[Option.bind_some]
     exact step _ t3 (ev _ _ _ _ ⟨hv,.inr (.inr (.inr (.inl ⟨hk5,by simp only;omega,rfl,rfl,rfl⟩)))⟩ fun _=>by simp only;omega)
    |false=>
     rw[if_neg (by decide)]
     by_cases h7:kd=7
     ·rw[if_pos (by simpa using h7),next_spT t2 (by omega)]
      simp only[Option.bind_some]
      by_cases hne:tnextV m4 P=pl
      ·rw[if_pos (by simpa using hne),w64 (by omega) (by omega)]
       exact⟨_,rfl,keep _ _ t3,by simp only;omega⟩
      ·rw[if_neg (by simpa using hne)]
       exact step _ t3 (ev _ _ _ _ ⟨hv,.inr (.inr (.inr (.inr ⟨h7,⟨hvP.1,hvP.2,hne⟩,rfl,rfl,rfl⟩)))⟩ fun h=>by omega)
     ·have h4:kd=4:=by
       rcases hk with h |h |h |h
       ·exact h
       ·exact absurd (hb1 (.inl h)) (by decide)
       ·exact absurd (hb1 (.inr h)) (by decide)
       ·exact absurd h h7
      rw[if_neg (by simpa using h7)]
      exact step _ t2 (ev _ _ _ _ ⟨hv,.inr (.inr (.inl ⟨h4,rfl,rfl,rfl,rfl⟩))⟩ fun h=>by omega)
   have j2:∀b,(kd=1∨kd=2→b=true)→(¬(kd=1∨kd=2)→b=false)→∃s',mYEstate_j2 (pl,m4) d ((i:Int),L2,p2,out) cl[i] (kd,m5) (P,m1) b=some (.go s')∧(0≤s'.1∧s'.1≤n∧TapeOk ⟨s'.2.1,s'.2.2.1⟩∧(s'.2.2.2.length:Int)≤s'.1∧(∀x∈s'.2.2.2,EvOk P x∧∃j:Nat,(j:Int) < s'.1∧cl[j]? =some x.Time)∧s'.2.2.2.Pairwise (fun a b=>a.Time≤b.Time))∧(n - s'.1).toNat < (n - (i:Int)).toNat:=fun b hb1 hb2=>by
    unfold mYEstate_j2
    have t3:=tnextT_ok t2
    have hvk:=tnextV_bd m4 (n:=(d.Kinds.length:Int)+1) (by omega)
    have hv5:=tnextV_bd m4 (n:=5) (by omega)
    simp only[List.mem_cons,List.not_mem_nil,or_false] at hkd
    by_cases hk:kd=1∨kd=2
    ·rw[hb1 hk,if_pos rfl,w64 (by omega) (by omega),next_spT t2 (by omega)]
     simp only[Option.bind_some]
     exact step _ t3 (ev _ _ _ _ ⟨hv,.inl ⟨hk,by simp only;omega,rfl,rfl,rfl⟩⟩ fun h=>by omega)
    ·rw[hb2 hk,if_neg (by decide)]
     by_cases h3:kd=3
     ·rw[if_pos (by simpa using h3),next_spT t2 (by omega)]
      simp only[Option.bind_some]
      rw[w64 (x:=cl[i]+1) (by omega) (by omega),w64 (x:=cl[i]+1+tnextV m4 5) (by omega) (by omega)]
      exact step _ t3 (ev _ _ _ _ ⟨hv,.inr (.inl ⟨h3,by simp only;omega,rfl,rfl,rfl⟩)⟩ fun h=>by omega)
     ·rw[if_neg (by simpa using h3)]
      by_cases h5:kd=5
      ·rw[if_pos (by simpa using h5)]
       exact j3 _ (fun _=>by simpa using h5) (fun h=>by omega) (by omega)
      ·rw[if_neg (by simpa using h5)]
       refine j3 _ (fun h=>by simp;omega) (fun h=>by simp;omega) ?_
       rcases hkd with h |h |h |h |h |h |h |h |h |h <;> omega
   by_cases hk1:kd=1
   ·rw[if_pos (by simpa using hk1)]
    exact j2 _ (fun _=>by simpa using hk1) (fun h=>absurd (.inl hk1) h)
   ·rw[if_neg (by simpa using hk1)]
    exact j2 _ (fun h=>by simp;omega) (fun h=>by simp;omega)
  ·right
   rw[if_neg (by simp <;> omega)]
   exact⟨_,rfl,g3,by show out.length≤15;omega,fun x hx=>(g5 x hx).1,g6⟩
 obtain⟨e,e4,z1,z2,z3,z4⟩:=keyE
 rw[e4]
 refine⟨_,_,rfl,z1,⟨⟨by simp only;omega,by simp only;omega,fun x hx=>(z3 x hx).1,fun x hx=>by have:=(z3 x hx).2.1;omega,z4⟩,fun x hx hk=>(z3 x hx).2.2 hk,fun x hx=>(z3 x hx).2.1⟩⟩
def recB (low:Int) (r:api_Record):Bool:=decide (low≤r.Known)&&(decide (r.Known≤1099511627776)&&(decide (0≤r.Since)&&(decide (r.Since≤1099511627776)&&(decide (0≤r.Subject)&&(decide (r.Subject≤15)&&(decide (-1000000≤r.Value)&&decide (r.Value≤1000000)))))))
theorem recB_iff {low:Int} {r:api_Record}:recB low r=true↔low≤r.Known∧r.Known≤1099511627776∧0≤r.Since∧r.Since≤1099511627776∧0≤r.Subject∧r.Subject≤15∧ -1000000≤r.Value∧r.Value≤1000000:=by
 simp only[recB,Bool.and_eq_true,decide_eq_true_eq]
def recK (l:List api_Record):Nat→Int
 |0=>0
 |i+1=>(l.getD i default).Known
def ValidL (l:List api_Record):Prop:=l.length≤100∧∀i,(h:i < l.length)→recB (recK l i) l[i]=true
instance (l:List api_Record):Decidable (ValidL l):=by unfold ValidL;infer_instance
open Classical in
theorem lcheck_loop (l:List api_Record) (hl:l.length≤1000):∀(m i:Nat),i+m=l.length→iter (ledger_Check_l0 l) (recK l i,(i:Int))=some (if (∀j,i≤j→(h:j < l.length)→recB (recK l j) l[j]=true) then .inl () else .inr 44):=fun m=>by
 induction m with
 |zero=>
  intro i h
  rw[if_pos (fun j h1 h2=>by omega)]
  refine iter_out ?_
  unfold ledger_Check_l0
  rw[if_neg (by simp;omega)]
 |succ m ih=>
  intro i h
  have hi:i < l.length:=by omega
  have hstep:ledger_Check_l0 l (recK l i,(i:Int))=some (if recB (recK l i) l[i]=true then .go (recK l (i+1),((i+1:Nat):Int)) else .out (.inr 44)):=by
   unfold ledger_Check_l0 ledger_among
   simp only
   rw[if_pos (by simp;omega),idx_lt hi,w64 (by omega) (by omega)]
   simp only[Option.bind_some]
   have hk:recK l (i+1)=l[i].Known:=by simp[recK,List.getD,hi]
   rw[hk]
   generalize recK l i=low
   generalize l[i]=r
   unfold recB
   generalize decide (low≤r.Known)=b1
   generalize decide (r.Known≤1099511627776)=b2
   generalize decide (0≤r.Since)=b3
   generalize decide (r.Since≤1099511627776)=b4
   generalize decide (0≤r.Subject)=b5
   generalize decide (r.Subject≤15)=b6
   generalize decide (-1000000≤r.Value)=b7
   generalize decide (r.Value≤1000000)=b8
   cases b1 <;> cases b2 <;> (try rfl) <;> cases b3 <;> cases b4 <;> (try rfl) <;> cases b5 <;> cases b6 <;> (try rfl) <;> cases b7 <;> cases b8 <;> rfl
  by_cases hr:recB (recK l i) l[i]=true
  ·rw[if_pos hr] at hstep
   rw[iter_go hstep,ih (i+1) (by omega)]
   congr 1
   have:(∀j,i+1≤j→(h:j < l.length)→recB (recK l j) l[j]=true)↔(∀j,i≤j→(h:j < l.length)→recB (recK l j) l[j]=true):=⟨fun g j h1 h2=>by
    rcases Nat.lt_or_eq_of_le h1 with h3 |h3
    ·exact g j h3 h2
    ·subst h3;exact hr,fun g j h1 h2=>g j (by omega) h2⟩
   simp only[this]
  ·rw[if_neg hr] at hstep
   rw[iter_out hstep,if_neg (fun g=>hr (g i (Nat.le_refl i) hi))]
open Classical in
theorem lcheck_sp (l:List api_Record):ledger_Check l=some (if ValidL l then 0 else 44):=by
 unfold ledger_Check
 by_cases h:l.length≤100
 ·rw[if_neg (by simp;omega)]
  have:=lcheck_loop l (by omega) l.length 0 (by omega)
  rw[show ((0:Int),(0:Int))=(recK l 0,((0:Nat):Int)) from rfl,this]
  simp only[Option.bind_some]
  by_cases g:∀j,0≤j→(h:j < l.length)→recB (recK l j) l[j]=true
  ·rw[if_pos g,if_pos ⟨h,fun j hj=>g j (Nat.zero_le j) hj⟩]
  ·rw[if_neg g,if_neg (fun q=>g fun j _ hj=>q.2 j hj)]
 ·rw[if_pos (by simp;omega),if_neg (fun q=>h q.1)]
theorem valid_mono {l:List api_Record} (h:ValidL l):∀(d i:Nat) (hi:i+d < l.length),l[i].Known≤l[i+d].Known:=fun d=>by
 induction d with
 |zero=>intro i hi;exact Int.le_refl _
 |succ d ih=>
  intro i hi
  have h1:=ih i (by omega)
  have:=(recB_iff.1 (h.2 (i+d+1) (by omega))).1
  have hk:recK l (i+d+1)=l[i+d].Known:=by simp[recK,List.getD,show i+d < l.length by omega]
  rw[hk] at this
  exact Int.le_trans h1 this
def selB (k s t:Int) (r:api_Record):Bool:=decide (r.Known≤k)&&(r.Subject==s&&decide (r.Since≤t))
def bestF (l:List api_Record) (k s t:Int):Nat→Int
 |0=> -1
 |i+1=>if selB k s t (l.getD i default)=true∧(bestF l k s t i < 0∨(l.getD (bestF l k s t i).toNat default).Since≤(l.getD i default).Since) then(i:Int) else bestF l k s t i
theorem bestF_bd (l:List api_Record) (k s t:Int):∀n, -1≤bestF l k s t n∧bestF l k s t n < n:=fun n=>by
 induction n with
 |zero=>exact⟨by simp[bestF],by simp[bestF]⟩
 |succ n ih=>unfold bestF;split <;> omega
abbrev bel (l:List api_Record) (k s t:Int):Int:=bestF l k s t l.length
theorem believe_sp {l:List api_Record} (hl:l.length≤1000) (k s t:Int):ledger_believe l k s t=some (bel l k s t):=by
 have key:∀(m i:Nat),i+m=l.length→iter (ledger_believe_l0 l k s t) (bestF l k s t i,(i:Int))=some (bel l k s t):=fun m=>by
  induction m with
  |zero=>
   intro i h
   have:i=l.length:=by omega
   subst this
   refine iter_out ?_
   unfold ledger_believe_l0
   rw[if_neg (by simp)]
  |succ m ih=>
   intro i h
   have hi:i < l.length:=by omega
   obtain⟨b1,b2⟩:=bestF_bd l k s t i
   have hg:l.getD i default=l[i]:=by simp[List.getD,hi]
   have hgo:ledger_believe_l0 l k s t (bestF l k s t i,(i:Int))=some (.go (bestF l k s t (i+1),((i+1:Nat):Int))):=by
    unfold ledger_believe_l0
    simp only
    rw[if_pos (by simp;omega),idx_lt hi,w64 (by omega) (by omega)]
    simp only[Option.bind_some,bestF,hg]
    unfold selB
    by_cases h1:l[i].Known≤k
    ·by_cases h2:l[i].Subject=s
     ·by_cases h3:l[i].Since≤t
      ·by_cases h4:bestF l k s t i= -1
       ·simp[h1,h2,h3,h4]
       ·have h5:(bestF l k s t i).toNat < l.length:=by omega
        have h6:l.getD (bestF l k s t i).toNat default=l[(bestF l k s t i).toNat]:=by simp[List.getD,h5]
        rw[idx_toNat (by omega) h5,h6]
        by_cases h7:l[(bestF l k s t i).toNat].Since≤l[i].Since
        ·simp[h1,h2,h3,h4,h7]
        ·have h8:¬bestF l k s t i < 0:=by omega
         simp[h1,h2,h3,h4,h7,h8]
      ·simp[h1,h2,h3]
     ·simp[h1,h2]
    ·simp[h1]
   rw[iter_go hgo]
   exact ih (i+1) (by omega)
 unfold ledger_believe
 rw[show ((-1:Int),(0:Int))=(bestF l k s t 0,((0:Nat):Int)) from rfl,key l.length 0 (by omega)]
 rfl
theorem bestF_spec (l:List api_Record) (k s t:Int):∀n,n≤l.length→(bestF l k s t n= -1∧∀j (h:j < l.length),j < n→selB k s t l[j]=false)∨
  ∃(i:Nat) (hi:i < l.length),i < n∧bestF l k s t n=(i:Int)∧selB k s t l[i]=true∧∀j (h:j < l.length),j < n→selB k s t l[j]=true→l[j].Since < l[i].Since∨(l[j].Since=l[i].Since∧j≤i):=fun n=>by
 induction n with
 |zero=>intro _;exact .inl ⟨rfl,fun j _ h=>by omega⟩
 |succ n ih=>
  intro hn
  have hn':n < l.length:=by omega
  have hg:l.getD n default=l[n]:=by simp[List.getD,hn']
  unfold bestF
  rw[hg]
  rcases ih (by omega) with ⟨h1,h2⟩ |⟨i,hi,h0,h1,h2,h3⟩
  ·rw[h1]
   by_cases hs:selB k s t l[n]=true
   ·rw[if_pos ⟨hs,.inl (by decide)⟩]
    refine .inr ⟨n,hn',by omega,rfl,hs,fun j hj hjn hsj=>?_⟩
    by_cases e:j=n
    ·subst e;exact .inr ⟨rfl,Nat.le_refl _⟩
    ·rw[h2 j hj (by omega)] at hsj;cases hsj
   ·rw[if_neg (fun q=>hs q.1)]
    refine .inl ⟨rfl,fun j hj hjn=>?_⟩
    by_cases e:j=n
    ·subst e;exact Bool.eq_false_iff.2 hs
    ·exact h2 j hj (by omega)
  ·rw[h1]
   have hgi:l.getD ((i:Int)).toNat default=l[i]:=by simp[List.getD,hi]
   rw[hgi]
   by_cases hc:selB k s t l[n]=true∧((i:Int) < 0∨l[i].Since≤l[n].Since)
   ·rw[if_pos hc]
    refine .inr ⟨n,hn',by omega,rfl,hc.1,fun j hj hjn hsj=>?_⟩
    have hle:l[i].Since≤l[n].Since:=hc.2.resolve_left (by omega)
    by_cases e:j=n
    ·subst e;exact .inr ⟨rfl,Nat.le_refl _⟩
    ·rcases h3 j hj (by omega) hsj with h |h
     ·left;omega
     ·by_cases e2:l[i].Since=l[n].Since
      ·right;exact⟨by omega,by omega⟩
      ·left;omega
   ·rw[if_neg hc]
    refine .inr ⟨i,hi,by omega,rfl,h2,fun j hj hjn hsj=>?_⟩
    by_cases e:j=n
    ·subst e
     left
     apply Int.lt_of_not_ge
     intro hge
     exact hc ⟨hsj,.inr hge⟩
    ·exact h3 j hj (by omega) hsj
theorem bel_none {l:List api_Record} {k s t:Int} (h:bel l k s t < 0):bel l k s t= -1∧∀r∈l,selB k s t r=false:=by
 rcases bestF_spec l k s t l.length (Nat.le_refl _) with ⟨h1,h2⟩ |⟨i,_,_,h1,_⟩
 ·refine⟨h1,fun r hr=>?_⟩
  obtain⟨j,hj,rfl⟩:=List.getElem_of_mem hr
  exact h2 j hj hj
 ·unfold bel at h;omega
theorem bel_some {l:List api_Record} {k s t:Int} (h:¬bel l k s t < 0):∃(i:Nat) (hi:i < l.length),bel l k s t=(i:Int)∧selB k s t l[i]=true∧∀j (hj:j < l.length),selB k s t l[j]=true→l[j].Since < l[i].Since∨(l[j].Since=l[i].Since∧j≤i):=by
 rcases bestF_spec l k s t l.length (Nat.le_refl _) with ⟨h1,_⟩ |⟨i,hi,_,h1,h2,h3⟩
 ·unfold bel at h;omega
 ·exact⟨i,hi,h1,h2,fun j hj=>h3 j hj hj⟩
theorem bel_is {l:List api_Record} {k s t:Int} {i:Nat} (hi:i < l.length) (h1:selB k s t l[i]=true) (h2:∀j (hj:j < l.length),selB k s t l[j]=true→l[j].Since < l[i].Since∨(l[j].Since=l[i].Since∧j≤i)):bel l k s t=(i:Int):=by
 by_cases h:bel l k s t < 0
 ·rw[(bel_none h).2 _ (List.getElem_mem hi)] at h1;cases h1
 ·obtain⟨j,hj,e,g1,g2⟩:=bel_some h
  rw[e]
  have a:=h2 j hj g1
  have b:=g2 i hi h1
  omega
theorem selB_iff {k s t:Int} {r:api_Record}:selB k s t r=true↔r.Known≤k∧r.Subject=s∧r.Since≤t:=by
 simp[selB]
open Classical in
theorem Believe_sp {l:List api_Record} (k s t:Int):ledger_Believe l k s t=some (if ValidL l then(if bel l k s t < 0 then(⟨0, -1⟩,false) else(⟨(l.getD (bel l k s t).toNat default).Value,bel l k s t⟩,true)) else(⟨0, -1⟩,false)):=by
 unfold ledger_Believe
 rw[lcheck_sp]
 simp only[Option.bind_some]
 by_cases h:ValidL l
 ·have hl:=h.1
  rw[if_pos h,if_pos h,if_neg (by simp),believe_sp (by omega)]
  simp only[Option.bind_some]
  obtain⟨b1,b2⟩:=bestF_bd l k s t l.length
  by_cases hb:bel l k s t < 0
  ·have:=(bel_none hb).1
   rw[if_pos hb,if_pos (by rw[this];rfl)]
  ·have h5:(bel l k s t).toNat < l.length:=by unfold bel at hb ⊢;omega
   have h6:l.getD (bel l k s t).toNat default=l[(bel l k s t).toNat]:=by simp[List.getD,h5]
   rw[if_neg hb,if_neg (by simp;omega),idx_toNat (by omega) h5,h6]
   rfl
 ·rw[if_neg h,if_neg h,if_pos (by simp)]
open Classical in
open Classical in
/-! The line, in the reference -/
structure LineInv (l:List api_Record) (k s:Int) (i:Nat) (out:List api_Record):Prop where
 asc:out.Pairwise fun x y=>x.Since < y.Since
 mem:∀x,x∈out↔∃(j:Nat) (hj:j < l.length),j < i∧x=l[j]∧bel l k s l[j].Since=(j:Int)
 len:out.length≤i
open Classical in
/-! The changes -/
def belK (l:List api_Record) (s t:Int) (i:Nat):Int:=bel l (l.getD i default).Known s t
def chSt (l:List api_Record) (s t:Int):Nat→Int×List api_Belief
 |0=>(-1,[])
 |i+1=>if belK l s t i=(chSt l s t i).1 then chSt l s t i else(belK l s t i,(chSt l s t i).2++[⟨(l.getD (belK l s t i).toNat default).Value,belK l s t i⟩])
theorem sel_up {k k' s t:Int} {r:api_Record} (h:k≤k') (hs:selB k s t r=true):selB k' s t r=true:=by
 obtain⟨a,b,c⟩:=selB_iff.1 hs
 exact selB_iff.2 ⟨by omega,b,c⟩
theorem bel_up {l:List api_Record} {k k' s t:Int} (h:k≤k') (hb:¬bel l k s t < 0):¬bel l k' s t < 0:=fun hc=>by
 obtain⟨i,hi,_,g,_⟩:=bel_some hb
 have:=(bel_none hc).2 _ (List.getElem_mem hi)
 rw[sel_up h g] at this
 cases this
theorem ch_before {l:List api_Record} (s t:Int):∀i,(chSt l s t (i+1)).1=belK l s t i:=fun i=>by
 unfold chSt
 split
 ·rename_i h;exact h.symm
 ·rfl
theorem ch_inv {l:List api_Record} (hv:ValidL l) (s t:Int):∀i,i≤l.length→(chSt l s t i).2.length≤i∧ -1≤(chSt l s t i).1∧(i < l.length→¬(chSt l s t i).1 < 0→¬belK l s t i < 0)∧(((chSt l s t i).1= -1∧(chSt l s t i).2=[])∨(0≤(chSt l s t i).1∧∃o v,(chSt l s t i).2=o++[⟨v,(chSt l s t i).1⟩])):=fun i=>by
 induction i with
 |zero=>intro _;exact⟨Nat.le_refl _,by simp[chSt],fun _ h=>absurd (show (-1:Int) < 0 by decide) h,.inl ⟨rfl,rfl⟩⟩
 |succ i ih=>
  intro hi
  obtain⟨h1,h2,h3,h4⟩:=ih (by omega)
  have hb:=(bestF_bd l (l.getD i default).Known s t l.length).1
  have hb': -1≤belK l s t i:=hb
  have hm:i+1 < l.length→¬(chSt l s t (i+1)).1 < 0→¬belK l s t (i+1) < 0:=fun hi1 hn=>by
   rw[ch_before] at hn
   refine bel_up ?_ hn
   have:=valid_mono hv 1 i hi1
   simpa[List.getD,show i < l.length by omega,hi1] using this
  by_cases hc:belK l s t i=(chSt l s t i).1
  ·have e:chSt l s t (i+1)=chSt l s t i:=by
    show(if belK l s t i=(chSt l s t i).1 then chSt l s t i else _)=_
    rw[if_pos hc]
   rw[e] at hm ⊢
   exact⟨by omega,h2,hm,h4⟩
  ·have e:chSt l s t (i+1)=(belK l s t i,(chSt l s t i).2++[⟨(l.getD (belK l s t i).toNat default).Value,belK l s t i⟩]):=by
    show(if belK l s t i=(chSt l s t i).1 then chSt l s t i else _)=_
    rw[if_neg hc]
   rw[e] at hm ⊢
   refine⟨by simp;omega,hb',hm,.inr ⟨?_,_,_,rfl⟩⟩
   simp only
   rcases h4 with ⟨q,_⟩ |⟨q,_⟩
   ·omega
   ·have:=h3 (by omega) (by omega);omega
theorem ch_step {l:List api_Record} (hv:ValidL l) (s t:Int) {i:Nat} (hi:i < l.length) (hc:belK l s t i≠(chSt l s t i).1):0≤belK l s t i∧(belK l s t i).toNat < l.length:=by
 obtain⟨_,_,h3,h4⟩:=ch_inv hv s t i (by omega)
 obtain⟨b1,b2⟩:=bestF_bd l (l.getD i default).Known s t l.length
 have hb1: -1≤belK l s t i:=b1
 have hb2:belK l s t i < l.length:=b2
 have h0:0≤belK l s t i:=by
  rcases h4 with ⟨q,_⟩ |⟨q,_⟩
  ·omega
  ·have:=h3 hi (by omega);omega
 omega
theorem ch_loop {l:List api_Record} (hv:ValidL l) (s t:Int):iter (ledger_Changes_l0 l s t) (-1,0,[])=some (chSt l s t l.length).2:=by
 have hl:=hv.1
 have key:∀(m i:Nat),i+m=l.length→iter (ledger_Changes_l0 l s t) ((chSt l s t i).1,(i:Int),(chSt l s t i).2)=some (chSt l s t l.length).2:=fun m=>by
  induction m with
  |zero=>
   intro i h
   have:i=l.length:=by omega
   subst this
   refine iter_out ?_
   unfold ledger_Changes_l0
   rw[if_neg (by simp)]
  |succ m ih=>
   intro i h
   have hi:i < l.length:=by omega
   have hg:l.getD i default=l[i]:=by simp[List.getD,hi]
   have hk:belK l s t i=bel l l[i].Known s t:=by unfold belK;rw[hg]
   have hlen:=(ch_inv hv s t i (by omega)).1
   have hgo:ledger_Changes_l0 l s t ((chSt l s t i).1,(i:Int),(chSt l s t i).2)=some (.go ((chSt l s t (i+1)).1,((i+1:Nat):Int),(chSt l s t (i+1)).2)):=by
    unfold ledger_Changes_l0
    simp only
    rw[if_pos (by simp;omega),idx_lt hi,w64 (by omega) (by omega)]
    simp only[Option.bind_some]
    rw[believe_sp (by omega),←hk]
    simp only[Option.bind_some]
    by_cases hc:belK l s t i=(chSt l s t i).1
    ·rw[if_neg (by simpa using hc)]
     have e:chSt l s t (i+1)=chSt l s t i:=by
      show(if belK l s t i=(chSt l s t i).1 then chSt l s t i else _)=_
      rw[if_pos hc]
     rw[e]
     rfl
    ·obtain⟨q1,q2⟩:=ch_step hv s t hi hc
     have e:chSt l s t (i+1)=(belK l s t i,(chSt l s t i).2++[⟨(l.getD (belK l s t i).toNat default).Value,belK l s t i⟩]):=by
      show(if belK l s t i=(chSt l s t i).1 then chSt l s t i else _)=_
      rw[if_neg hc]
     have hgb:l.getD (belK l s t i).toNat default=l[(belK l s t i).toNat]:=by simp[List.getD,q2]
     rw[if_pos (by simpa using hc),idx_toNat q1 q2,e,hgb]
     simp only[Option.bind_some]
     rw[ck_t (by simp;omega)]
     rfl
   rw[iter_go hgo]
   exact ih (i+1) (by omega)
 exact key l.length 0 (by omega)
def goodJ (l:List api_Record) (s t v:Int) (j:Nat):Bool:=decide (0≤belK l s t j)&&(l.getD (belK l s t j).toNat default).Value==v
theorem find_ch {l:List api_Record} (hv:ValidL l) (s t v:Int):∀n,n≤l.length→(chSt l s t n).2.find? (fun x=>x.Value==v)=((List.range n).find? (goodJ l s t v)).map fun j=>⟨(l.getD (belK l s t j).toNat default).Value,belK l s t j⟩:=fun n=>by
 induction n with
 |zero=>intro _;rfl
 |succ n ih=>
  intro hn
  have ih:=ih (by omega)
  rw[List.range_succ,List.find?_append]
  by_cases hc:belK l s t n=(chSt l s t n).1
  ·have e:chSt l s t (n+1)=chSt l s t n:=by
    show(if belK l s t n=(chSt l s t n).1 then chSt l s t n else _)=_
    rw[if_pos hc]
   rw[e,ih]
   cases hf:(List.range n).find? (goodJ l s t v) with
   |some j=>rfl
   |none=>
    have hg:goodJ l s t v n=false:=by
     cases n with
     |zero=>
      unfold goodJ
      have:belK l s t 0= -1:=hc
      rw[this];rfl
     |succ n=>
      rw[ch_before] at hc
      have:=List.find?_eq_none.1 hf n (by simp)
      unfold goodJ at this ⊢
      rw[hc]
      simpa using this
    simp[hg]
  ·obtain⟨q1,q2⟩:=ch_step hv s t (by omega) hc
   have e:chSt l s t (n+1)=(belK l s t n,(chSt l s t n).2++[⟨(l.getD (belK l s t n).toNat default).Value,belK l s t n⟩]):=by
    show(if belK l s t n=(chSt l s t n).1 then chSt l s t n else _)=_
    rw[if_neg hc]
   rw[e,List.find?_append,ih]
   cases hf:(List.range n).find? (goodJ l s t v) with
   |some j=>rfl
   |none=>
    simp only[Option.map_none,Option.none_or]
    by_cases hg:goodJ l s t v n=true
    ·have hval:((l.getD (belK l s t n).toNat default).Value==v)=true:=by
      unfold goodJ at hg
      simp only[Bool.and_eq_true] at hg
      exact hg.2
     simp only[List.find?_cons,hg,hval,List.find?_nil,Option.map_some]
    ·have hval:((l.getD (belK l s t n).toNat default).Value==v)=false:=by
      unfold goodJ at hg
      rw[decide_eq_true q1] at hg
      simpa using hg
     have hg':goodJ l s t v n=false:=by simpa using hg
     simp only[List.find?_cons,hg',hval,List.find?_nil,Option.map_none]
theorem first_known {l:List api_Record} (hv:ValidL l) (s t v:Int) {j:Nat} (hj:(List.range l.length).find? (goodJ l s t v)=some j):∃(hjl:j < l.length) (hb:(belK l s t j).toNat < l.length),0≤belK l s t j∧l[(belK l s t j).toNat].Known=l[j].Known:=by
 have hjl:j < l.length:=by have:=List.mem_of_find?_eq_some hj;simpa using this
 have hg:=List.find?_some hj
 have hg2:l.getD j default=l[j]:=by simp[List.getD,hjl]
 unfold goodJ at hg
 simp only[Bool.and_eq_true,decide_eq_true_eq] at hg
 obtain⟨h0,hval⟩:=hg
 obtain⟨i,hi,e,g1,g2⟩:=bel_some (l:=l) (k:=l[j].Known) (s:=s) (t:=t) (by unfold belK at h0;rw[hg2] at h0;omega)
 have hbi:belK l s t j=(i:Int):=by unfold belK;rw[hg2];exact e
 rw[hbi,Int.toNat_natCast] at hval
 refine⟨hjl,by rw[hbi,Int.toNat_natCast];exact hi,h0,?_⟩
 simp only[hbi,Int.toNat_natCast]
 obtain⟨s1,s2,s3⟩:=selB_iff.1 g1
 have hii:bel l l[i].Known s t=(i:Int):=bel_is hi (selB_iff.2 ⟨Int.le_refl _,s2,s3⟩) fun q hq hsq=>g2 q hq (sel_up s1 hsq)
 have hgi:l.getD i default=l[i]:=by simp[List.getD,hi]
 have hgood:goodJ l s t v i=true:=by
  unfold goodJ belK
  rw[hgi,hii,Int.toNat_natCast]
  simp only[Bool.and_eq_true,decide_eq_true_eq]
  exact⟨by omega,hval⟩
 have hle:j≤i:=by
  apply Nat.le_of_not_lt
  intro hlt
  obtain⟨_,pre,post,hr,hno⟩:=List.find?_eq_some_iff_append.1 hj
  have hmem:i∈pre:=by
   have hlen:pre.length=j:=by
    have h1:(List.range l.length)[pre.length]? =some j:=by rw[hr];simp
    rw[List.getElem?_range] at h1
    ·simpa using h1
    ·have:(List.range l.length).length=(pre++j::post).length:=by rw[hr]
     simp at this;omega
   have h2:(List.range l.length)[i]? =some i:=by rw[List.getElem?_range (by omega)]
   rw[hr,List.getElem?_append_left (by omega)] at h2
   exact List.mem_of_getElem? h2
  have:=hno i hmem
  rw[hgood] at this
  simp at this
 obtain⟨d,rfl⟩:∃d,i=j+d:=⟨i - j,by omega⟩
 have:=valid_mono hv d j hi
 omega
open Classical in
noncomputable def appV (l:List api_Record) (r:api_Record):List api_Record×Int:=if ValidL l then(if 100≤(l.length:Int) then([],3) else if ValidL (l++[r]) then(l++[r],0) else([],44)) else([],44)
theorem append1 (l:List api_Record) (r:api_Record):ledger_Append l r=some (appV l r):=by
 unfold ledger_Append appV
 rw[lcheck_sp]
 by_cases hv:ValidL l
 ·have hl:=hv.1
  rw[if_pos hv,if_pos hv]
  simp only[Option.bind_some]
  rw[if_neg (show ¬((0:Int) != 0)=true by decide)]
  by_cases h:100≤(l.length:Int)
  ·rw[if_pos (show decide (100≤(l.length:Int))=true from decide_eq_true h),if_pos h]
  ·rw[if_neg (show ¬decide (100≤(l.length:Int))=true by rw[decide_eq_false h];decide),if_neg h,ck_t (by omega)]
   simp only[Option.bind_some,Int.toNat_natCast,List.take_length]
   rw[ck_t (by simp;omega),lcheck_sp]
   simp only[Option.bind_some]
   by_cases hv2:ValidL (l++[r])
   ·rw[if_pos hv2,if_pos hv2,if_neg (show ¬((0:Int) != 0)=true by decide)]
   ·rw[if_neg hv2,if_neg hv2,if_pos (show ((44:Int) != 0)=true by decide)]
 ·rw[if_neg hv,if_neg hv]
  rfl
end Go.Vl
namespace Go.Vl
open Go Go.Proofs
theorem may_any {d:api_Directory} (hd:dirOk d=true) {a:api_Estate} (h:EstOk a) {p:Nat} (hp:p < d.Kinds.length) {place:Int} (hpl:0≤place∧place < a.Places) (t:Int):∃b,readers_May d a (p:Int) place t=some b:=by
 by_cases hk:d.Kinds[p]=2
 ·refine⟨false,?_⟩
  have hr:readers_Reader d (p:Int)=some false:=by
   unfold readers_Reader
   rw[if_pos (by simp),if_pos (by simpa using hp),idx_lt hp]
   simp only[Option.bind_some]
   rw[hk];rfl
  unfold readers_May readers_fine
  rw[rcheck2_sp hd h]
  simp only[Option.bind_some]
  rw[if_pos (by decide),hr]
  rfl
 ·have hR:RdOk d p:=⟨hp,by rw[List.getElem?_eq_getElem hp];simpa using hk⟩
  have hn:=(dir_few hd).1
  obtain⟨T,U,hU⟩:=up_ok hd hp t
  obtain⟨m,G,m1,m2,m3,m4,m5⟩:=granted_ex h hpl t
  obtain⟨g,g1,g2,g3⟩:=grantR_ex hU (by omega) m3 m5
  obtain⟨L,hL⟩:∃L,access_Linked a place t=some L:=⟨_,linked_sp h hpl t⟩
  refine⟨L.2||g.2,?_⟩
  unfold readers_May
  rw[fine_sp hd h hR hpl]
  simp only[Option.bind_some]
  rw[if_neg (by decide),hL,g1]
  rfl
theorem whereM_pl {a:api_Estate} {c t:Int} {j:Nat} (hp:1≤a.Places∧a.Places≤16) (hj:j∈whereN a c t):0≤(j:Int)∧(j:Int) < a.Places:=by
 unfold whereN at hj
 have:=(List.mem_filter.1 hj).1
 simp at this
 omega
theorem whereM_len (a:api_Estate) (c t:Int):(whereN a c t).length≤a.Places.toNat:=by
 unfold whereN
 exact Nat.le_trans (List.length_filter_le _ _) (by simp)
theorem castM_get {l:List Nat} {i:Nat} (h:i < l.length):(castL l)[i]'(by rw[castL_len];exact h)=((l[i]:Nat):Int):=by simp[castL]
theorem place_any {d:api_Directory} (hd:dirOk d=true) {a:api_Estate} (h:EstOk a) {c:Int} (hc:0≤c∧c≤2) {p:Int} (hp: -1≤p∧p < d.Kinds.length) (t:Int):∃r,exposure_place d a c p t=some r:=by
 have hpl:=h.places
 have hwl:=whereM_len a c t
 have key:∃e,iter (exposure_place_l0 (castL (whereN a c t)) a t p d) 0=some e∧True:=by
  refine iter_ex (body:=exposure_place_l0 (castL (whereN a c t)) a t p d) (fun s=>∃i:Nat,s=(i:Int)∧i≤(whereN a c t).length) (fun s=>(whereN a c t).length - s.toNat) _ ?_ ⟨0,rfl,Nat.zero_le _⟩
  rintro _ ⟨i,rfl,hi⟩
  unfold exposure_place_l0
  rw[castL_len]
  by_cases hlt:i < (whereN a c t).length
  ·have hm:=List.getElem_mem hlt
   have hpj:=whereM_pl hpl hm
   rw[if_pos (by simp;omega),idx_lt (by rw[castL_len];exact hlt),castM_get hlt,w64 (by omega) (by omega)]
   simp only[Option.bind_some]
   rw[linked_sp h hpj]
   simp only[Option.bind_some]
   have fin:∀b:Bool,(∃s',(if b=true then some (Lp.out (.inr (((whereN a c t)[i]:Int),true))) else some (Lp.go ((i:Int)+1)):Option (Lp Int (Unit ⊕ (Int×Bool))))=some (.go s')∧(∃k:Nat,s'=(k:Int)∧k≤(whereN a c t).length)∧(whereN a c t).length - s'.toNat < (whereN a c t).length - (i:Int).toNat)∨
     ∃e,(if b=true then some (Lp.out (.inr (((whereN a c t)[i]:Int),true))) else some (Lp.go ((i:Int)+1)):Option (Lp Int (Unit ⊕ (Int×Bool))))=some (.out e)∧True:=fun b=>by
    cases b with
    |true=>exact .inr ⟨_,by rw[if_pos rfl],trivial⟩
    |false=>exact .inl ⟨_,by rw[if_neg (by decide)],⟨i+1,by omega,by omega⟩,by omega⟩
   by_cases hneg:p= -1
   ·subst hneg
    rw[if_pos (by decide)]
    generalize hq:(Option.getD (List.findSome? (lkStep ((whereN a c t)[i]:Int) t) (downL a.Events a.Events.length)) (0,false)).2=q
    cases q with
    |true=>simp
    |false=>simpa using fin false
   ·obtain⟨b,hb⟩:=may_any hd h (p:=p.toNat) (by omega) hpj t
    rw[Int.toNat_of_nonneg (by omega)] at hb
    rw[if_neg (by rw[beq_iff_eq];exact hneg),if_pos (by rw[bne_iff_ne];exact hneg),hb]
    simpa using fin b
  ·right
   rw[if_neg (by simp;omega)]
   exact⟨_,rfl,trivial⟩
 obtain⟨e,e1,_⟩:=key
 unfold exposure_place
 rw[where_sp h hc]
 simp only[Option.bind_some]
 rw[e1]
 cases e with
 |inl u=>exact⟨_,rfl⟩
 |inr r=>exact⟨_,rfl⟩
theorem since_any {d:api_Directory} (hd:dirOk d=true) {a:api_Estate} (h:EstOk a) {c:Int} (hc:0≤c∧c≤2) {p:Int} (hp: -1≤p∧p < d.Kinds.length) (he:∀x∈a.Events,0≤x.Time∧x.Time≤44) (hde:∀x∈d.Events,0≤x.Time∧x.Time≤25):
  ∃r,exposure_since d a c p=some r∧(r.2=true→0≤r.1∧r.1≤44∧∃q,exposure_place d a c p r.1=some q∧q.2=true):=by
 obtain⟨L,l1,l2,l3,l4⟩:=times_ex hd h
 have key:∃e,iter (exposure_since_l0 L d a c p) 0=some e∧(e=.inl ()∨∃x∈L,e=.inr (x,true)∧∃q,exposure_place d a c p x=some q∧q.2=true):=by
  refine iter_ex (body:=exposure_since_l0 L d a c p) (fun s=>∃i:Nat,s=(i:Int)∧i≤L.length) (fun s=>L.length - s.toNat) _ ?_ ⟨0,rfl,Nat.zero_le _⟩
  rintro _ ⟨i,rfl,hi⟩
  unfold exposure_since_l0
  by_cases hlt:i < L.length
  ·have hm:=List.getElem_mem hlt
   obtain⟨r,r1⟩:=place_any hd h hc hp L[i]
   rw[if_pos (by simp;omega),idx_lt hlt,w64 (by omega) (by omega)]
   simp only[Option.bind_some]
   rw[r1]
   simp only[Option.bind_some]
   by_cases hr:r.2=true
   ·right
    rw[if_pos hr]
    exact⟨_,rfl,.inr ⟨L[i],hm,rfl,r,r1,hr⟩⟩
   ·left
    rw[if_neg hr]
    exact⟨_,rfl,⟨i+1,rfl,by omega⟩,by omega⟩
  ·right
   rw[if_neg (by simp;omega)]
   exact⟨_,rfl,.inl rfl⟩
 obtain⟨e,e1,e2⟩:=key
 unfold exposure_since
 rw[l1]
 simp only[Option.bind_some]
 rw[e1]
 rcases e2 with rfl |⟨x,hx,rfl,q,hq,hq2⟩
 ·exact⟨(0,false),rfl,fun h=>by cases h⟩
 ·refine⟨(x,true),rfl,fun _=>?_⟩
  rcases(l4 x).1 hx with ⟨e,he1,rfl⟩ |⟨e,he1,rfl⟩
  ·exact⟨(he e he1).1,(he e he1).2,q,hq,hq2⟩
  ·have:=hde e he1
   exact⟨this.1,by simp only;omega,q,hq,hq2⟩
structure ExOk (d:api_Directory) (a:api_Estate) (c:Int) (x:api_Exposure):Prop where
 lo: -1≤x.Principal
 hi:x.Principal < d.Kinds.length
 t0:0≤x.Time
 t1:x.Time≤44
 pl:∃q,exposure_place d a c x.Principal x.Time=some q∧q.2=true
theorem all_any {d:api_Directory} (hd:dirOk d=true) (hk:d.Kinds.length≤7) {a:api_Estate} (h:EstOk a) {c:Int} (hc:0≤c∧c≤2) (he:∀x∈a.Events,0≤x.Time∧x.Time≤44) (hde:∀x∈d.Events,0≤x.Time∧x.Time≤25):
  ∃L,exposure_All d a c=some (L,0)∧L.length≤8∧L.Pairwise (fun x y=>x.Principal < y.Principal)∧∀x∈L,ExOk d a c x:=by
 have key:∃L,iter (exposure_All_l0 d a c) (-1,[])=some L∧(L.length≤8∧L.Pairwise (fun x y=>x.Principal < y.Principal)∧∀x∈L,ExOk d a c x):=by
  refine iter_ex (body:=exposure_All_l0 d a c) (fun s=> -1≤s.1∧s.1≤d.Kinds.length∧(s.2.length:Int)≤s.1+1∧s.2.Pairwise (fun x y=>x.Principal < y.Principal)∧∀x∈s.2,ExOk d a c x∧x.Principal < s.1) (fun s=>((d.Kinds.length:Int) - s.1).toNat) _ ?_ ⟨by simp,by simp only;omega,by simp,by simp,by simp⟩
  rintro⟨p,L⟩ ⟨h1,h2,h3,h4,h5⟩
  simp only at h1 h2 h3 h4 h5
  unfold exposure_All_l0
  simp only
  by_cases hlt:p < d.Kinds.length
  ·obtain⟨r,r1,r2⟩:=since_any hd h hc ⟨h1,hlt⟩ he hde
   rw[if_pos (by simpa using hlt),r1,w64 (by omega) (by omega)]
   simp only[Option.bind_some]
   left
   by_cases hr:r.2=true
   ·rw[if_pos hr,ck_t (by simp only[List.length_cons,List.length_nil];omega)]
    obtain⟨q1,q2,q3⟩:=r2 hr
    refine⟨_,rfl,⟨by simp only;omega,by simp only;omega,by simp only[List.length_append,List.length_cons,List.length_nil];omega,?_,fun x hx=>?_⟩,by simp only;omega⟩
    ·rw[List.pairwise_append]
     refine⟨h4,by simp,fun x hx y hy=>?_⟩
     simp at hy
     subst hy
     exact(h5 x hx).2
    ·rcases List.mem_append.1 hx with hx |hx
     ·exact⟨(h5 x hx).1,by have:=(h5 x hx).2;simp only;omega⟩
     ·simp at hx
      subst hx
      exact⟨⟨h1,hlt,q1,q2,q3⟩,by simp only;omega⟩
   ·rw[if_neg hr]
    exact⟨_,rfl,⟨by simp only;omega,by simp only;omega,by simp only;omega,h4,fun x hx=>⟨(h5 x hx).1,by have:=(h5 x hx).2;simp only;omega⟩⟩,by simp only;omega⟩
  ·right
   rw[if_neg (by simpa using hlt)]
   exact⟨_,rfl,by omega,h4,fun x hx=>(h5 x hx).1⟩
 obtain⟨L,e1,e2⟩:=key
 refine⟨L,?_,e2⟩
 unfold exposure_All
 rw[xcheck_sp hd h hc]
 simp only[Option.bind_some]
 rw[if_neg (by decide),e1]
 rfl
theorem valid_snoc {l:List api_Record} (h:ValidL l) {x:api_Record} (hl:l.length < 100) (hx:recB 0 x=true) (hk:∀r∈l,r.Known≤x.Known):ValidL (l++[x]):=by
 refine⟨by simp;omega,fun i hi=>?_⟩
 have hK:recK (l++[x]) i=recK l i:=by
  cases i with
  |zero=>rfl
  |succ i=>
   have:i < l.length:=by simp at hi;omega
   simp[recK,List.getD,this,List.getElem?_append_left this]
 by_cases hlt:i < l.length
 ·rw[hK,List.getElem_append_left hlt];exact h.2 i hlt
 ·have:i=l.length:=by simp at hi;omega
  subst this
  rw[hK,List.getElem_append_right (Nat.le_refl _)]
  simp only[Nat.sub_self,List.getElem_cons_zero]
  rw[recB_iff] at hx ⊢
  refine⟨?_,hx.2⟩
  cases hn:l.length with
  |zero=>exact hx.1
  |succ n=>
   have hn':n < l.length:=by omega
   simp only[recK]
   rw[show l.getD n default=l[n] by simp[List.getD,hn']]
   exact hk _ (List.getElem_mem hn')
theorem subj_inj {l:List api_Record} (hd:l.Pairwise fun x y=>x.Subject < y.Subject) {i j:Nat} (hi:i < l.length) (hj:j < l.length) (h:l[i].Subject=l[j].Subject):i=j:=by
 rcases Nat.lt_trichotomy i j with h1 |h1 |h1
 ·have:=List.pairwise_iff_getElem.1 hd i j hi hj h1;omega
 ·exact h1
 ·have:=List.pairwise_iff_getElem.1 hd j i hj hi h1;omega
theorem bel_one {l:List api_Record} (hd:l.Pairwise fun x y=>x.Subject < y.Subject) {i:Nat} (hi:i < l.length) (k t:Int):bel l k l[i].Subject t=if l[i].Known≤k∧l[i].Since≤t then(i:Int) else -1:=by
 split
 ·rename_i h
  refine bel_is hi (selB_iff.2 ⟨h.1,rfl,h.2⟩) fun j hj hs=>?_
  have:=(selB_iff.1 hs).2.1
  have:=subj_inj hd hj hi this
  subst this
  exact .inr ⟨rfl,Nat.le_refl _⟩
 ·rename_i h
  by_cases hb:bel l k l[i].Subject t < 0
  ·exact(bel_none hb).1
  ·obtain⟨j,hj,e1,e2,_⟩:=bel_some hb
   have h2:=selB_iff.1 e2
   have:=subj_inj hd hj hi h2.2.1
   subst this
   exact absurd ⟨h2.1,h2.2.2⟩ h
theorem changes1 {l:List api_Record} (h:ValidL l) (s t:Int):ledger_Changes l s t=some ((chSt l s t l.length).2,0):=by
 unfold ledger_Changes
 rw[lcheck_sp]
 simp only[Option.bind_some,h,if_true]
 rw[if_neg (by simp),ch_loop h]
 rfl
theorem learned1 {l:List api_Record} (hv:ValidL l) (s t v:Int):ledger_Learned l s t v=some ((((List.range l.length).find? (goodJ l s t v)).map fun j=>((l.getD j default).Known,true)).getD (0,false)):=by
 have hl:=hv.1
 have hlen:=(ch_inv hv s t l.length (Nat.le_refl _)).1
 unfold ledger_Learned
 rw[changes1 hv]
 simp only[Option.bind_some]
 have hfind:=find_ch hv s t v l.length (Nat.le_refl _)
 have key:∀(m i:Nat),i+m=(chSt l s t l.length).2.length→((chSt l s t l.length).2.drop i).find? (fun x=>x.Value==v)=(chSt l s t l.length).2.find? (fun x=>x.Value==v)→
   iter (ledger_Learned_l0 ((chSt l s t l.length).2,0) v l) (i:Int)=some ((((chSt l s t l.length).2.find? (fun x=>x.Value==v)).map fun x=>Sum.inr ((l.getD x.Record.toNat default).Known,true)).getD (.inl ())):=fun m=>by
  induction m with
  |zero=>
   intro i h hd
   rw[← hd,List.drop_eq_nil_of_le (by omega)]
   refine iter_out ?_
   unfold ledger_Learned_l0
   rw[if_neg (by simp;omega)]
   rfl
  |succ m ih=>
   intro i h hd
   have hi:i < (chSt l s t l.length).2.length:=by omega
   rw[List.drop_eq_getElem_cons hi,List.find?_cons] at hd
   by_cases hc:((chSt l s t l.length).2[i].Value==v)=true
   ·rw[hc] at hd
    rw[← hd]
    refine iter_out ?_
    unfold ledger_Learned_l0
    simp only
    rw[if_pos (by simp;omega),idx_lt hi]
    simp only[Option.bind_some]
    rw[if_pos hc]
    rw[hfind] at hd
    cases hf:(List.range l.length).find? (goodJ l s t v) with
    |none=>rw[hf] at hd;cases hd
    |some j=>
     rw[hf] at hd
     obtain⟨hjl,hb,h0,_⟩:=first_known hv s t v hf
     have e:=Option.some.inj hd
     rw[e]
     simp only
     rw[idx_toNat h0 hb]
     have:l.getD (belK l s t j).toNat default=l[(belK l s t j).toNat]:=by simp[List.getD,hb]
     simp only[Option.bind_some,Option.map_some,Option.getD_some]
     rw[this]
   ·have hc':((chSt l s t l.length).2[i].Value==v)=false:=by simpa using hc
    rw[hc'] at hd
    have hgo:ledger_Learned_l0 ((chSt l s t l.length).2,0) v l (i:Int)=some (.go ((i+1:Nat):Int)):=by
     unfold ledger_Learned_l0
     simp only
     rw[if_pos (by simp;omega),idx_lt hi,w64 (by omega) (by omega)]
     simp only[Option.bind_some]
     rw[if_neg hc]
     rfl
    rw[iter_go hgo]
    exact ih (i+1) (by omega) hd
 have hk:iter (ledger_Learned_l0 ((chSt l s t l.length).2,0) v l) 0=_:=key (chSt l s t l.length).2.length 0 (by omega) rfl
 rw[hk,hfind]
 simp only[Option.bind_some]
 cases hf:(List.range l.length).find? (goodJ l s t v) with
 |none=>rfl
 |some j=>
  obtain⟨hjl,hb,h0,hk⟩:=first_known hv s t v hf
  have e1:l.getD (belK l s t j).toNat default=l[(belK l s t j).toNat]:=by simp[List.getD,hb]
  have e2:l.getD j default=l[j]:=by simp[List.getD,hjl]
  simp only[Option.map_some,Option.getD_some]
  rw[e1,e2,hk]
theorem learned_one {l:List api_Record} (hv:ValidL l) (hd:l.Pairwise fun x y=>x.Subject < y.Subject) {i:Nat} (hi:i < l.length) (h1:l[i].Value=1):ledger_Learned l l[i].Subject l[i].Since 1=some (l[i].Known,true):=by
 rw[learned1 hv]
 have hg:∀j,(hj:j < l.length)→goodJ l l[i].Subject l[i].Since 1 j=decide (l[i].Known≤l[j].Known):=fun j hj=>by
  unfold goodJ belK
  rw[show l.getD j default=l[j] by simp[List.getD,hj],bel_one hd hi]
  by_cases hk:l[i].Known≤l[j].Known
  ·rw[if_pos ⟨hk,Int.le_refl _⟩,decide_eq_true hk]
   have:l.getD ((i:Int)).toNat default=l[i]:=by simp[List.getD,hi]
   rw[this,h1]
   simp
  ·rw[if_neg (fun h=>hk h.1),decide_eq_false hk]
   simp
 cases hf:(List.range l.length).find? (goodJ l l[i].Subject l[i].Since 1) with
 |none=>
  have:=List.find?_eq_none.1 hf i (by simpa using hi)
  rw[hg i hi] at this
  simp at this
 |some j=>
  have hm:=List.mem_of_find?_eq_some hf
  have hj:j < l.length:=by simpa using hm
  have hp:=List.find?_some hf
  rw[hg j hj] at hp
  have hk:=of_decide_eq_true hp
  obtain⟨_,n,hn,hn2,hn3⟩:=List.find?_eq_some_iff_getElem.1 hf
  simp at hn2
  subst hn2
  have hle:n≤i:=by
   rcases Nat.lt_or_ge i n with h |h
   ·have:=hn3 i h
    simp at this
    rw[hg i hi] at this
    simp at this
   ·exact h
  have hmono:=valid_mono hv (i - n) n (by omega)
  have e:n+(i - n)=i:=by omega
  simp only[e] at hmono
  simp only[Option.map_some,Option.getD_some]
  rw[show l.getD n default=l[n] by simp[List.getD,hj]]
  congr 2
  omega
structure BookOk (d:api_Directory) (a:api_Estate) (c:Int) (L:List api_Exposure) (i:Nat) (now:Int) (book:List api_Record):Prop where
 valid:ValidL book
 len:book.length≤i
 asc:book.Pairwise fun x y=>x.Subject < y.Subject
 rec_:∀r∈book,50≤r.Known∧r.Known≤now∧r.Value=1∧0≤r.Since∧r.Since≤44∧0≤r.Subject∧∃q,exposure_place d a c r.Subject r.Since=some q∧q.2=true
 ahead:∀r∈book,∀j,(h:j < L.length)→i≤j→r.Subject < L[j].Principal
theorem book_loop {d:api_Directory} (hk:d.Kinds.length≤7) {a:api_Estate} {c:Int} {L:List api_Exposure} {e:Int} (hl:L.length≤8) (hp:L.Pairwise fun x y=>x.Principal < y.Principal) (hx:∀x∈L,ExOk d a c x) {m:zT} (hm:TapeOk m):
  ∃book now,iter (top_TopKnown_l0 (L,e)) ([],50,0,m.L,m.at_)=some (.inl book)∧BookOk d a c L L.length now book∧now≤74:=by
 have key:∃r,iter (top_TopKnown_l0 (L,e)) ([],50,0,m.L,m.at_)=some r∧∃book now,r=.inl book∧BookOk d a c L L.length now book∧now≤74:=by
  refine iter_ex (body:=top_TopKnown_l0 (L,e)) (fun s=>∃(i:Nat) (t:zT),s=(s.1,s.2.1,(i:Int),t.L,t.at_)∧TapeOk t∧i≤L.length∧50≤s.2.1∧s.2.1≤50+3 * i∧BookOk d a c L i s.2.1 s.1) (fun s=>L.length - s.2.2.1.toNat) _ ?_
   ⟨0,m,rfl,hm,Nat.zero_le _,by simp,by simp,⟨⟨by simp,fun i h=>by simp at h⟩,by simp,by simp,by simp,by simp⟩⟩
  rintro⟨book,now,k,tl,ta⟩ ⟨i,t,e1,ht,hi,h50,hnow,hB⟩
  cases e1
  simp only at h50 hnow hB
  unfold top_TopKnown_l0
  simp only
  by_cases hlt:i < L.length
  ·have hX:=hx _ (List.getElem_mem hlt)
   rw[if_pos (by simpa using hlt),idx_lt hlt,w64 (by omega) (by omega)]
   simp only[Option.bind_some]
   have hup:∀r∈book,∀j,(h:j < L.length)→i+1≤j→r.Subject < L[j].Principal:=fun r hr j h hj=>hB.ahead r hr j h (by omega)
   by_cases hneg:L[i].Principal < 0
   ·left
    rw[if_pos (by simpa using hneg)]
    exact⟨_,rfl,⟨i+1,t,by simp,ht,by omega,h50,by simp only;omega,⟨hB.valid,by have:=hB.len;simp only;omega,hB.asc,hB.rec_,hup⟩⟩,by simp only;omega⟩
   ·left
    rw[if_neg (by simpa using hneg)]
    have hv:=tnextV_bd t (n:=4) (by omega)
    rw[show (⟨t.L,t.at_⟩:zT)=t from rfl,next_spT ht (by omega)]
    have ht':=tnextT_ok ht
    generalize tnextV t 4=v at *
    generalize tnextT t=t' at *
    simp only[Option.bind_some]
    rw[w64 (by omega) (by omega)]
    have hlen:=hB.len
    have hrec:recB 0 (⟨now+v,L[i].Time,L[i].Principal,1⟩:api_Record)=true:=by
     rw[recB_iff]
     have:=hX.hi;have:=hX.t0;have:=hX.t1
     simp only
     omega
    have hval:=valid_snoc hB.valid (x:=⟨now+v,L[i].Time,L[i].Principal,1⟩) (by omega) hrec (fun r hr=>by have:=(hB.rec_ r hr).2.1;simp only;omega)
    rw[append1,appV,if_pos hB.valid,if_neg (by omega),if_pos hval]
    simp only[Option.bind_some]
    rw[if_neg (by decide)]
    refine⟨_,rfl,⟨i+1,t',by simp,ht',by omega,by simp only;omega,by simp only;omega,⟨hval,by simp only[List.length_append,List.length_cons,List.length_nil];omega,?_,fun r hr=>?_,fun r hr j h hj=>?_⟩⟩,by simp only;omega⟩
    ·simp only
     rw[List.pairwise_append]
     refine⟨hB.asc,by simp,fun x hx y hy=>?_⟩
     simp at hy
     subst hy
     exact hB.ahead x hx i hlt (Nat.le_refl _)
    ·simp only at hr ⊢
     rcases List.mem_append.1 hr with hr |hr
     ·obtain⟨q1,q2,q3⟩:=hB.rec_ r hr
      exact⟨q1,by omega,q3⟩
     ·simp at hr
      subst hr
      exact⟨by simp only;omega,Int.le_refl _,rfl,hX.t0,hX.t1,by simp only;omega,hX.pl⟩
    ·simp only at hr
     rcases List.mem_append.1 hr with hr |hr
     ·exact hup r hr j h hj
     ·simp at hr
      subst hr
      exact List.pairwise_iff_getElem.1 hp i j hlt h (by omega)
  ·right
   have:i=L.length:=by omega
   subst this
   rw[if_neg (by simp)]
   exact⟨_,rfl,book,now,rfl,hB,by omega⟩
 obtain⟨r,h1,book,now,rfl,h2,h3⟩:=key
 exact⟨book,now,h1,h2,h3⟩
theorem told_loop {d:api_Directory} (hd:dirOk d=true) {a:api_Estate} (h:EstOk a) {c:Int} (hc:0≤c∧c≤2) {L:List api_Exposure} {i:Nat} {now:Int} {book:List api_Record} (hB:BookOk d a c L i now book) (hn:now≤74) (m1 m2 m3:zT):
  iter (top_TopKnown_l1 book (d,m1) (a,m2) (c,m3)) 0=some (.inl ()):=by
 have hbl:=hB.valid.1
 have key:∀(m i:Nat),i+m=book.length→iter (top_TopKnown_l1 book (d,m1) (a,m2) (c,m3)) (i:Int)=some (.inl ()):=fun m=>by
  induction m with
  |zero=>
   intro i hi
   refine iter_out ?_
   unfold top_TopKnown_l1
   rw[if_neg (by simp;omega)]
  |succ m ih=>
   intro i hi
   have hlt:i < book.length:=by omega
   obtain⟨q1,q2,q3,q4,q5,q6,q,q7,q8⟩:=hB.rec_ _ (List.getElem_mem hlt)
   have hbel:∀k t:Int,bel book k book[i].Subject t=if book[i].Known≤k∧book[i].Since≤t then(i:Int) else -1:=bel_one hB.asc hlt
   have hgo:top_TopKnown_l1 book (d,m1) (a,m2) (c,m3) (i:Int)=some (.go ((i+1:Nat):Int)):=by
    unfold top_TopKnown_l1
    rw[if_pos (by simpa using hlt),idx_lt hlt,w64 (by omega) (by omega)]
    simp only[Option.bind_some]
    rw[w64 (x:=book[i].Known - 1) (by omega) (by omega),w64 (x:=book[i].Since - 1) (by omega) (by omega)]
    have hget:book.getD ((i:Int)).toNat default=book[i]:=by simp[List.getD,hlt]
    have hb1:ledger_Believe book book[i].Known book[i].Subject book[i].Since=some (⟨1,(i:Int)⟩,true):=by
     rw[Believe_sp,if_pos hB.valid]
     rw[show bel book book[i].Known book[i].Subject book[i].Since=(i:Int) from by rw[hbel,if_pos ⟨Int.le_refl _,Int.le_refl _⟩],if_neg (by omega),hget,q3]
    have hb2:ledger_Believe book (book[i].Known - 1) book[i].Subject book[i].Since=some (⟨0, -1⟩,false):=by
     rw[Believe_sp,if_pos hB.valid]
     rw[show bel book (book[i].Known - 1) book[i].Subject book[i].Since= -1 from by rw[hbel,if_neg (fun h=>by omega)],if_pos (by decide)]
    have hb3:ledger_Believe book 1000 book[i].Subject (book[i].Since - 1)=some (⟨0, -1⟩,false):=by
     rw[Believe_sp,if_pos hB.valid]
     rw[show bel book 1000 book[i].Subject (book[i].Since - 1)= -1 from by rw[hbel,if_neg (fun h=>by omega)],if_pos (by decide)]
    rw[hb1,hb2,hb3,learned_one hB.valid hB.asc hlt q3]
    simp only[Option.bind_some]
    have hcould:exposure_Could d a c book[i].Subject book[i].Since=some true:=by
     unfold exposure_Could
     rw[xcheck_sp hd h hc]
     simp only[Option.bind_some]
     rw[if_neg (by decide),if_neg (by simp;omega),decide_eq_false (by omega)]
     simp only[Option.bind_some]
     rw[if_neg (by decide),q7]
     simp only[Option.bind_some,q8]
    simp[hcould]
   rw[iter_go hgo]
   exact ih (i+1) (by omega)
 exact key book.length 0 (by omega)
theorem TopKnown_law (a0:List Int):top_TopKnown a0=some true:=by
 unfold top_TopKnown
 by_cases hlen:500 < (a0.length:Int)
 ·rw[if_pos (by simpa using hlen)];rfl
 rw[if_neg (by simpa using hlen)]
 have h0:TapeOk ⟨a0,0⟩:=⟨by simp,by simp only;omega⟩
 obtain⟨d,m1,e1,h1,hD⟩:=directory_spT h0
 rw[e1]
 simp only[Option.bind_some]
 obtain⟨a,m2,e2,h2,hE⟩:=estate_spT h1 hD
 rw[e2]
 simp only[Option.bind_some]
 have hb3:=tnextV_bd m2 (n:=3) (by omega)
 rw[next_spT h2 (by omega)]
 simp only[Option.bind_some]
 have h3:=tnextT_ok h2
 generalize tnextV m2 3=c at *
 generalize tnextT m2=m3 at *
 have hc:0≤c∧c≤2:=by omega
 obtain⟨L,l1,l2,l3,l4⟩:=all_any hD.ok hD.few.2 hE.ok hc hE.ev hD.ev
 rw[l1]
 simp only[Option.bind_some]
 rw[if_neg (by decide)]
 obtain⟨book,now,b1,b2,b3⟩:=book_loop hD.few.2 (e:=0) l2 l3 l4 h3
 rw[b1]
 simp only[Option.bind_some]
 rw[told_loop hD.ok hE.ok hc b2 b3]
 rfl
end Go.Vl
