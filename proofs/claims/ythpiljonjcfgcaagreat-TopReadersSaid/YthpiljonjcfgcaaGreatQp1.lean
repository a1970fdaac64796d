/- Plain laws of the given program's functions (texts of other seats turned to this one). Conditions: none. -/
import Derived.Test.YthpiljonjcfgcaaGreatQBx
import Derived.Test.YthpiljonjcfgcaaGreatPlG
set_option linter.unusedSimpArgs false
set_option linter.unusedVariables false
namespace Go.Vl
open Go
theorem asc_drop {l:List Int} {k:Nat} (hk:k+1 < l.length):ascB (l.drop k)=(decide (l[k] < l[k+1])&&ascB (l.drop (k+1))):=by
 rw[List.drop_eq_getElem_cons (show k < l.length by omega),List.drop_eq_getElem_cons hk];rfl
theorem asc_end {l:List Int} {k:Nat} (hk:l.length≤k+1):ascB (l.drop k)=true:=by
 have:(l.drop k).length≤1:=by simp <;> omega
 match h:l.drop k with
 |[]=>rfl
 |[_]=>rfl
 |_::_::_=>rw[h] at this;simp at this
theorem ascending_sp {l:List Int} (hl:l.length≤1000):directory_Ascending l=some (ascB l):=by
 unfold directory_Ascending
 rw[iter_eq (fun s=>∃k:Nat,s=(k:Int)+1∧k≤l.length) (fun s=>(l.length+1 - s).toNat) (fun s=>if ascB (l.drop (s - 1).toNat) then .inl () else .inr false) ?_ (s:=1) ⟨0,rfl,by omega⟩]
 ·simp only[Option.bind_some]
  cases h:ascB l <;> simp[h]
 ·rintro _ ⟨k,rfl,hk⟩
  have e0:((k:Int)+1 - 1).toNat=k:=by omega
  unfold directory_Ascending_l0
  by_cases hlt:k+1 < l.length
  ·rw[if_pos (by simp <;> omega),w64 (by omega) (by omega),show(k:Int)+1 - 1=(k:Int) by omega,idx_lt (by omega:k < l.length),show(k:Int)+1=((k+1:Nat):Int) by omega,idx_lt hlt]
   simp only[Option.bind_some]
   by_cases hx:l[k+1]≤l[k]
   ·right
    rw[if_pos (by simpa using hx)]
    have:ascB (l.drop k)=false:=by rw[asc_drop hlt];simp;intro h;omega
    simp[this]
   ·left
    rw[if_neg (by simpa using hx),w64 (by omega) (by omega)]
    refine⟨_,rfl,⟨k+1,rfl,by omega⟩,by omega,?_⟩
    have e1:(((k+1:Nat):Int)+1 - 1).toNat=k+1:=by omega
    have e2:(((k+1:Nat):Int) - 1).toNat=k:=by omega
    rw[e1,Int.toNat_natCast,asc_drop hlt]
    have:l[k] < l[k+1]:=by omega
    simp[this]
  ·right
   rw[if_neg (by simp <;> omega),e0,asc_end (by omega)];rfl
section
end
def maxT:Int:=1099511627776
def TapeOk (m:zT):Prop:=0≤m.at_∧m.L.length≤1000000
def tnextV (m:zT) (n:Int):Int:=if(m.L.length:Int)≤m.at_ then 0 else((m.L[m.at_.toNat]?.getD 0) % 65536) % n
def tnextT (m:zT):zT:=if(m.L.length:Int)≤m.at_ then m else⟨m.L,m.at_+1⟩
theorem tnextT_ok {m:zT} (h:TapeOk m):TapeOk (tnextT m):=by
 unfold tnextT;split
 ·exact h
 ·exact⟨by have:=h.1;simp <;> omega,h.2⟩
theorem tnextV_bd (m:zT) {n:Int} (hn:0 < n):0≤tnextV m n∧tnextV m n < n:=by
 unfold tnextV;split
 ·omega
 ·exact⟨Int.emod_nonneg _ (by omega),Int.emod_lt_of_pos _ hn⟩
theorem next_spT {m:zT} (h:TapeOk m) {n:Int} (hn:0 < n):zT_Next m n=some (tnextV m n,tnextT m):=by
 obtain⟨h1,h2⟩:=h
 unfold zT_Next tnextV tnextT
 by_cases hb:(m.L.length:Int)≤m.at_
 ·rw[if_pos (by simpa using hb),if_pos hb,if_pos hb]
 ·rw[if_neg (by simpa using hb),if_neg hb,if_neg hb,idx_toNat h1 (by omega),List.getElem?_eq_getElem (show m.at_.toNat < m.L.length by omega)]
  simp only[Option.bind_some,ck_t (show n≠0 by omega),Option.getD_some,bAnd16]
  rw[Int.tmod_eq_emod_of_nonneg (Int.emod_nonneg _ (by omega)),w64 (by omega) (by omega)]
theorem between_spT {m:zT} (h:TapeOk m) {a b:Int} (hab:a≤b) (ha: -1000000≤a) (hb:b≤1000000):zT_Between m a b=some (a+tnextV m (b - a+1),tnextT m):=by
 have:=tnextV_bd m (n:=b - a+1) (by omega)
 unfold zT_Between
 rw[w64 (x:=b - a) (by omega) (by omega),w64 (x:=b - a+1) (by omega) (by omega),next_spT h (by omega)]
 simp only[Option.bind_some]
 rw[w64 (by omega) (by omega)]
theorem pick_spT {m:zT} (h:TapeOk m) {l:List Int} (hl:0 < l.length):∃x∈l,mYPick m l=some (x,tnextT m):=by
 have hb:=tnextV_bd m (n:=(l.length:Int)) (by omega)
 unfold mYPick
 rw[next_spT h (by omega)]
 simp only[Option.bind_some]
 refine⟨l[(tnextV m (l.length:Int)).toNat]'(by omega),List.getElem_mem _,?_⟩
 rw[idx_toNat hb.1 (by omega)]
 rfl
def existsB (d:api_Directory) (p:Int):Bool:=decide (0≤p)&&decide (p < (d.Kinds.length:Int))
theorem exists_sp (d:api_Directory) (p:Int):directory_exists d p=some (existsB d p):=rfl
theorem rexists_sp {d:api_Directory} (h:d.Kinds.length≤1000000) (p:Int):ref23_Exists d p=some (existsB d p):=by
 unfold ref23_Exists ref23_in existsB
 rw[w64 (by omega) (by omega)]
 simp only[Option.bind_some]
 congr 2
 by_cases h1:p < (d.Kinds.length:Int)
 ·rw[decide_eq_true h1,decide_eq_true (by omega)]
 ·rw[decide_eq_false h1,decide_eq_false (by omega)]
def groupB (d:api_Directory) (p:Int):Bool:=existsB d p&&(d.Kinds.getD p.toNat 0==2)
theorem idx_ex {d:api_Directory} {p:Int} (h:existsB d p=true):idx d.Kinds p=some (d.Kinds.getD p.toNat 0):=by
 unfold existsB at h
 simp only[Bool.and_eq_true,decide_eq_true_eq] at h
 have hl:p.toNat < d.Kinds.length:=by omega
 rw[idx_toNat h.1 hl];simp[hl]
theorem group_sp (d:api_Directory) (p:Int):directory_group d p=some (groupB d p):=by
 unfold directory_group groupB
 rw[exists_sp]
 simp only[Option.bind_some]
 cases h:existsB d p with
 |true=>rw[if_pos rfl,idx_ex h];rfl
 |false=>rw[if_neg (by decide)];rfl
def kindBad (k:Int):Bool:=decide (k < 1)||decide (3 < k)
theorem kinds_sp {l:List Int} (hl:l.length≤1000000):sYContainsFunc_int_at_directory_Check_1 l=some (l.any kindBad):=by
 unfold sYContainsFunc_int_at_directory_Check_1 sYIndexFunc_int_at_directory_Check_1
 obtain⟨h1,h2⟩:=iter_findS (body:=sYIndexFunc_int_at_directory_Check_1_l0 l) l kindBad (fun i _=>.inr (i:Int)) (.inl ()) (fun i hi=>by
  unfold sYIndexFunc_int_at_directory_Check_1_l0
  rw[if_pos (by simp <;> omega),idx_lt hi,w64 (by omega) (by omega)]
  simp only[Option.bind_some,directory_Check_1,kindBad]
  split <;> simp[*]) (by
  unfold sYIndexFunc_int_at_directory_Check_1_l0
  rw[if_neg (by simp)])
 cases h:l.any kindBad with
 |false=>rw[h1 h];rfl
 |true=>
  obtain⟨i,hi,_,e⟩:=h2 h
  rw[e]
  simp only[Option.bind_some]
  rw[decide_eq_true (by omega)]
def evOk (d:api_Directory) (last:Int) (x:api_Member):Bool:=
 (x.Kind==1||x.Kind==2)&&(decide (last≤x.Time)&&(decide (x.Time≤maxT)&&(existsB d x.Principal&&(groupB d x.Group&& !(x.Principal==x.Group)))))
def dirOk (d:api_Directory):Bool:=decide (d.Kinds.length≤24)&&(decide (d.Events.length≤120)&&(!(d.Kinds.any kindBad)&&fitB (evOk d) (·.Time) 0 d.Events))
theorem dcheck_body (d:api_Directory) (hl:d.Events.length≤1000000) (i:Nat) (h:i < d.Events.length) (last:Int):directory_Check_l0 d (last,(i:Int))=some (if evOk d last d.Events[i]=true then .go (d.Events[i].Time,((i+1:Nat):Int)) else .out (.inr 30)):=by
 unfold directory_Check_l0
 rw[if_pos (by simp <;> omega)]
 simp only
 rw[idx_lt h,w64 (by omega) (by omega)]
 generalize d.Events[i]=x
 simp only[Option.bind_some,exists_sp,group_sp,evOk,maxT]
 by_cases h1:x.Kind=1 <;> by_cases h2:x.Kind=2 <;> by_cases h3:x.Time < last <;> by_cases h4:1099511627776 < x.Time <;>
  by_cases h5:existsB d x.Principal=true <;> by_cases h6:groupB d x.Group=true <;> by_cases h7:x.Principal=x.Group <;> grind
theorem dcheck_sp (d:api_Directory):directory_Check d=some (if dirOk d=true then 0 else 30):=by
 unfold directory_Check dirOk
 by_cases h1:d.Kinds.length≤24
 case neg=>rw[if_pos (by simp <;> omega)];simp[h1]
 rw[if_neg (by simp <;> omega)]
 by_cases h2:d.Events.length≤120
 case neg=>rw[if_pos (by simp <;> omega)];simp[h2]
 rw[if_neg (by simp <;> omega),kinds_sp (by omega)]
 simp only[Option.bind_some,h1,h2,decide_true,Bool.true_and]
 cases h3:d.Kinds.any kindBad with
 |true=>simp
 |false=>
  rw[if_neg (by decide),chain_loop d.Events (evOk d) (·.Time) 30 (fun i h last=>dcheck_body d (by omega) i h last) (fun last=>by
   unfold directory_Check_l0
   rw[if_neg (by simp)])]
  cases fitB (evOk d) (·.Time) 0 d.Events <;> simp
theorem contains_sp {l:List Int} (hl:l.length≤1000000) (x:Int):sYContains_int l x=some (l.contains x):=by
 unfold sYContains_int sYIndex_int
 obtain⟨h1,h2⟩:=iter_findS (body:=sYIndex_int_l0 l x) l (fun y=>x==y) (fun i _=>.inr (i:Int)) (.inl ()) (fun i hi=>by
  unfold sYIndex_int_l0
  rw[if_pos (by simp <;> omega),idx_lt hi,w64 (by omega) (by omega)]
  simp only[Option.bind_some]
  split <;> simp[*]) (by
  unfold sYIndex_int_l0
  rw[if_neg (by simp)])
 have e:l.any (fun y=>x==y)=l.contains x:=by
  rw[Bool.eq_iff_iff]
  simp
 cases h:l.any (fun y=>x==y) with
 |false=>rw[h1 h,←e,h];rfl
 |true=>
  obtain⟨i,hi,_,h3⟩:=h2 h
  rw[h3,←e,h]
  simp only[Option.bind_some]
  rw[decide_eq_true (by omega)]
open Classical in
theorem fit_of {α:Type} {p:Int→α→Bool} {t:α→Int} {q:α→Prop} (hp:∀last x,q x→last≤t x→p last x=true):∀{l:List α} {last:Int},(∀x∈l,q x)→l.Pairwise (fun a b=>t a≤t b)→(∀x∈l,last≤t x)→fitB p t last l=true
 |[],_,_,_,_=>rfl
 |x::l,last,h1,h2,h3=>by
  rw[List.pairwise_cons] at h2
  simp only[fitB,Bool.and_eq_true]
  exact⟨hp last x (h1 x (List.mem_cons_self ..)) (h3 x (List.mem_cons_self ..)),fit_of hp (fun y hy=>h1 y (List.mem_cons_of_mem _ hy)) h2.2 h2.1⟩
theorem pw_snoc {α:Type} {r:α→α→Prop} {l:List α} {x:α} (h:l.Pairwise r) (hx:∀y∈l,r y x):(l++[x]).Pairwise r:=by
 rw[List.pairwise_append]
 exact⟨h,List.pairwise_singleton _ _,fun a ha b hb=>by simp at hb;subst hb;exact hx a ha⟩
theorem all_snoc {α:Type} {q:α→Prop} {l:List α} {x:α} (h:∀y∈l,q y) (hx:q x):∀y∈l++[x],q y:=fun y hy=>by
 rcases List.mem_append.1 hy with hy |hy
 ·exact h y hy
 ·simp at hy;subst hy;exact hx
theorem clock_spT {m:zT} (h:TapeOk m) {n:Int} (h0:0≤n) (hn:n≤1000):∃(l:List Int) (m':zT),mYClock m n=some (l,m')∧TapeOk m'∧l.Pairwise (·≤·)∧(∀x∈l,0≤x∧x≤3+2 * n)∧(l.length:Int)=n:=by
 unfold mYClock
 rw[next_spT h (by omega)]
 simp only[Option.bind_some]
 have hb:=tnextV_bd m (n:=4) (by omega)
 have key:∃e,iter (mYClock_l0 n) (tnextV m 4,0,(tnextT m).L,(tnextT m).at_,[])=some e∧(TapeOk ⟨e.1,e.2.1⟩∧e.2.2.Pairwise (·≤·)∧(∀x∈e.2.2,0≤x∧x≤3+2 * n)∧(e.2.2.length:Int)=n):=by
  refine iter_ex (body:=mYClock_l0 n) (fun s=>0≤s.2.1∧s.2.1≤n∧0≤s.1∧s.1≤3+2 * s.2.1∧TapeOk ⟨s.2.2.1,s.2.2.2.1⟩∧s.2.2.2.2.Pairwise (·≤·)∧(∀x∈s.2.2.2.2,0≤x∧x≤s.1)∧(s.2.2.2.2.length:Int)=s.2.1) (fun s=>(n - s.2.1).toNat) _ ?_ ⟨by simp,h0,hb.1,by simp only;omega,tnextT_ok h,.nil,by simp,by simp⟩
  rintro⟨now,i,L,p,out⟩ ⟨g1,g2,g3,g4,g5,g6,g7,g8⟩
  simp only at g1 g2 g3 g4 g5 g6 g7 g8
  unfold mYClock_l0
  simp only
  by_cases hi:i < n
  ·left
   have hv:=tnextV_bd ⟨L,p⟩ (n:=3) (by omega)
   rw[if_pos (by simpa using hi),next_spT g5 (by omega)]
   simp only[Option.bind_some]
   rw[w64 (x:=i+1) (by omega) (by omega),w64 (x:=now+tnextV ⟨L,p⟩ 3) (by omega) (by omega),ck_t (by simp;omega)]
   refine⟨_,rfl,⟨by simp only;omega,by simp only;omega,by simp only;omega,by simp only;omega,tnextT_ok g5,pw_snoc g6 fun y hy=>by have:=g7 y hy;omega,all_snoc (fun y hy=>by have:=g7 y hy;simp only;omega) (by simp only;omega),by simp;omega⟩,by simp only;omega⟩
  ·right
   rw[if_neg (by simpa using hi)]
   refine⟨_,rfl,g5,g6,fun x hx=>by have:=g7 x hx;show 0≤x∧x≤3+2 * n;omega,by show(out.length:Int)=n;omega⟩
 obtain⟨e,he,h1,h2,h3,h4⟩:=key
 rw[he]
 exact⟨_,_,rfl,h1,h2,h3,h4⟩
structure MadeD (d:api_Directory):Prop where
 ok:dirOk d=true
 few:3≤d.Kinds.length∧d.Kinds.length≤7
 ev:∀x∈d.Events,0≤x.Time∧x.Time≤25
def MemOk (ks:List Int) (x:api_Member):Prop:=(x.Kind=1∨x.Kind=2)∧x.Time≤25∧existsB ⟨ks,[]⟩ x.Principal=true∧groupB ⟨ks,[]⟩ x.Group=true∧x.Principal≠x.Group
theorem evOk_of {ks:List Int} {ev:List api_Member} (last:Int) (x:api_Member) (h:MemOk ks x) (hl:last≤x.Time):evOk ⟨ks,ev⟩ last x=true:=by
 obtain⟨h1,h2,h3,h4,h5⟩:=h
 unfold evOk
 have e3:existsB ⟨ks,ev⟩ x.Principal=true:=h3
 have e4:groupB ⟨ks,ev⟩ x.Group=true:=h4
 rw[e3,e4]
 simp only[Bool.true_and,Bool.and_eq_true,Bool.or_eq_true,decide_eq_true_eq,beq_iff_eq,maxT,Bool.not_eq_true',beq_eq_false_iff_ne]
 refine⟨h1,hl,?_,h5⟩
 have:x.Time≤1099511627776:=by omega
 exact decide_eq_true this
theorem directory_spT {m:zT} (h:TapeOk m):∃(d:api_Directory) (m':zT),mYDirectory m=some (d,m')∧TapeOk m'∧MadeD d:=by
 have hb:=tnextV_bd m (n:=6 - 2+1) (by omega)
 unfold mYDirectory
 rw[between_spT h (by omega) (by omega) (by omega)]
 simp only[Option.bind_some]
 generalize tnextV m (6 - 2+1)=v at *
 have h1:=tnextT_ok h
 generalize tnextT m=m1 at *
 -- the kinds
 have key:∃e,iter mYDirectory_l0 (2+v,m1.L,m1.at_,[1])=some e∧(TapeOk ⟨e.1,e.2.1⟩∧(∀k∈e.2.2,kindBad k=false)∧3≤e.2.2.length∧e.2.2.length≤7):=by
  refine iter_ex (body:=mYDirectory_l0) (fun s=>0≤s.1∧TapeOk ⟨s.2.1,s.2.2.1⟩∧(∀k∈s.2.2.2,kindBad k=false)∧(s.2.2.2.length:Int)+s.1=3+v) (fun s=>s.1.toNat) _ ?_ ⟨by simp only;omega,h1,by simp;decide,by simp;omega⟩
  rintro⟨i,L,p,out⟩ ⟨g1,g2,g3,g4⟩
  simp only at g1 g2 g3 g4
  unfold mYDirectory_l0
  simp only
  by_cases hi:0 < i
  ·left
   obtain⟨k,hk,e⟩:=pick_spT g2 (l:=[2,2,1,3]) (by simp)
   rw[if_pos (by simpa using hi),e]
   simp only[Option.bind_some]
   rw[w64 (x:=i - 1) (by omega) (by omega),ck_t (by simp;omega)]
   refine⟨_,rfl,⟨by simp only;omega,tnextT_ok g2,all_snoc g3 ?_,by simp;omega⟩,by simp only;omega⟩
   simp only[List.mem_cons,List.not_mem_nil,or_false] at hk
   rcases hk with rfl |rfl |rfl |rfl <;> rfl
  ·right
   rw[if_neg (by simpa using hi)]
   exact⟨_,rfl,g2,g3,by show 3≤out.length;omega,by show out.length≤7;omega⟩
 obtain⟨⟨L,p,ks⟩,e1,k1,k2,k3,k4⟩:=key
 simp only at k1 k2 k3 k4
 rw[e1]
 simp only[Option.bind_some]
 -- the groups
 have keyG:∃e,iter (mYDirectory_l1 (L,p,ks)) (0,[])=some e∧(∀g∈e,groupB ⟨ks,[]⟩ g=true)∧e.length≤7:=by
  have:=(iter_foldlS (body:=mYDirectory_l1 (L,p,ks)) ks (fun i acc=>((i:Int),acc.1)) (fun (acc:List Int×Nat) k=>if k==2 then(acc.1++[(acc.2:Int)],acc.2+1) else(acc.1,acc.2+1)) (fun acc=>acc.1) (fun i (acc:List Int×Nat)=>acc.2=i∧acc.1.length≤i∧∀g∈acc.1,groupB ⟨ks,[]⟩ g=true) (fun i hi acc ⟨a1,a2,a3⟩=>by
   unfold mYDirectory_l1
   simp only
   rw[if_pos (by simp <;> omega),ck_t (by constructor <;> omega),idx_lt hi,w64 (by omega) (by omega)]
   simp only[Option.bind_some]
   by_cases hk:ks[i]=2
   ·have hg:groupB ⟨ks,[]⟩ (i:Int)=true:=by
     unfold groupB existsB
     simp[hi,hk]
    rw[if_pos (by simpa using hk),ck_t (by simp;omega),if_pos (by simpa using hk)]
    refine⟨by rw[a1];rfl,by simp only;omega,by simp;omega,?_⟩
    rw[a1]
    exact all_snoc a3 hg
   ·rw[if_neg (by simpa using hk),if_neg (by simpa using hk)]
    exact⟨rfl,by simp only;omega,by simp only;omega,a3⟩) (fun acc _=>by
   unfold mYDirectory_l1
   simp only
   rw[if_neg (by simp)]) ([],0) ⟨rfl,by simp,by simp⟩)
  exact⟨_,this.1,this.2.2.2,Nat.le_trans this.2.2.1 k4⟩
 obtain⟨gs,e2,q1,q2⟩:=keyG
 rw[e2]
 simp only[Option.bind_some]
 have hkb:ks.any kindBad=false:=by
  rw[List.any_eq_false]
  exact fun x hx=>by simp[k2 x hx]
 have fin:∀ev:List api_Member,ev.length≤11→(∀x∈ev,MemOk ks x∧0≤x.Time)→ev.Pairwise (fun a b=>a.Time≤b.Time)→MadeD ⟨ks,ev⟩:=fun ev he hm hp=>by
  refine⟨?_,⟨k3,k4⟩,fun x hx=>⟨(hm x hx).2,(hm x hx).1.2.1⟩⟩
  unfold dirOk
  simp only[hkb,Bool.not_false,Bool.true_and,Bool.and_eq_true,decide_eq_true_eq]
  exact⟨by omega,by omega,fit_of (q:=MemOk ks) (fun last x hq hl=>evOk_of last x hq hl) (fun x hx=>(hm x hx).1) hp fun x hx=>(hm x hx).2⟩
 by_cases hg0:gs.length=0
 ·rw[if_pos (by simpa using hg0)]
  exact⟨_,_,rfl,k1,fin [] (by simp) (by simp) .nil⟩
 rw[if_neg (by simpa using hg0),next_spT k1 (by omega)]
 simp only[Option.bind_some]
 have hb2:=tnextV_bd ⟨L,p⟩ (n:=12) (by omega)
 have h2:=tnextT_ok k1
 generalize tnextV ⟨L,p⟩ 12=n at *
 generalize tnextT ⟨L,p⟩=m2 at *
 obtain⟨cl,m3,e3,c1,c2,c3,c4⟩:=clock_spT h2 hb2.1 (by omega)
 rw[e3]
 simp only[Option.bind_some]
 have keyE:∃e,iter (mYDirectory_l2 (cl,m3) (L,p,ks) gs) (0,m3.L,m3.at_,[])=some e∧(TapeOk ⟨e.1,e.2.1⟩∧e.2.2.length≤11∧(∀x∈e.2.2,MemOk ks x∧0≤x.Time)∧e.2.2.Pairwise (fun a b=>a.Time≤b.Time)):=by
  refine iter_ex (body:=mYDirectory_l2 (cl,m3) (L,p,ks) gs) (fun s=>0≤s.1∧s.1≤n∧TapeOk ⟨s.2.1,s.2.2.1⟩∧(s.2.2.2.length:Int)≤s.1∧(∀x∈s.2.2.2,MemOk ks x∧0≤x.Time∧∃j:Nat,(j:Int) < s.1∧cl[j]? =some x.Time)∧s.2.2.2.Pairwise (fun a b=>a.Time≤b.Time)) (fun s=>(n - s.1).toNat) _ ?_ ⟨by simp,hb2.1,c1,by simp,by simp,.nil⟩
  rintro⟨i,L2,p2,out⟩ ⟨g1,g2,g3,g4,g5,g6⟩
  simp only at g1 g2 g3 g4 g5 g6
  unfold mYDirectory_l2
  simp only
  by_cases hi:i < n
  ·left
   obtain⟨i,rfl⟩:=Int.eq_ofNat_of_zero_le g1
   have hic:i < cl.length:=by omega
   have hv:=tnextV_bd ⟨L2,p2⟩ (n:=(ks.length:Int)) (by omega)
   have t1:=tnextT_ok g3
   rw[if_pos (by simp <;> omega),idx_lt hic,next_spT g3 (by omega)]
   simp only[Option.bind_some]
   have hv2:=tnextV_bd (tnextT ⟨L2,p2⟩) (n:=(gs.length:Int)) (by omega)
   have t2:=tnextT_ok t1
   rw[next_spT t1 (by omega)]
   simp only[Option.bind_some]
   rw[ck_t (by constructor <;> omega),idx_toNat hv2.1 (by omega)]
   simp only[Option.bind_some]
   rw[next_spT t2 (by omega)]
   simp only[Option.bind_some]
   have t3:=tnextT_ok t2
   have hgm:=q1 _ (List.getElem_mem (show (tnextV (tnextT ⟨L2,p2⟩) (gs.length:Int)).toNat < gs.length by omega))
   generalize gs[(tnextV (tnextT ⟨L2,p2⟩) (gs.length:Int)).toNat]'(by omega)=g at *
   generalize tnextV ⟨L2,p2⟩ (ks.length:Int)=pr at *
   have hpr:existsB ⟨ks,[]⟩ pr=true:=by unfold existsB;simp;omega
   have hct:=c3 _ (List.getElem_mem hic)
   have hle:∀y∈out,y.Time≤cl[i]:=fun y hy=>by
    obtain⟨_,_,j,hj,hjt⟩:=g5 y hy
    obtain⟨hj2,hj3⟩:=List.getElem?_eq_some_iff.1 hjt
    rw[← hj3]
    exact List.pairwise_iff_getElem.1 c2 j i hj2 hic (by omega)
   have step:∀kind:Int,(kind=1∨kind=2)→∃s',mYDirectory_j3 (pr,tnextT ⟨L2,p2⟩) g ((i:Int),L2,p2,out) cl[i] ((tnextT (tnextT (tnextT ⟨L2,p2⟩))).L,(tnextT (tnextT (tnextT ⟨L2,p2⟩))).at_,kind)=some (.go s')∧(0≤s'.1∧s'.1≤n∧TapeOk ⟨s'.2.1,s'.2.2.1⟩∧(s'.2.2.2.length:Int)≤s'.1∧(∀x∈s'.2.2.2,MemOk ks x∧0≤x.Time∧∃j:Nat,(j:Int) < s'.1∧cl[j]? =some x.Time)∧s'.2.2.2.Pairwise (fun a b=>a.Time≤b.Time))∧(n - s'.1).toNat < (n - (i:Int)).toNat:=fun kind hk=>by
    unfold mYDirectory_j3
    simp only
    rw[w64 (by omega) (by omega)]
    by_cases hne:pr=g
    ·rw[if_neg (by simpa using hne)]
     exact⟨_,rfl,⟨by simp only;omega,by simp only;omega,t3,by simp only;omega,fun x hx=>by
      obtain⟨a1,a2,j,a3,a4⟩:=g5 x hx
      exact⟨a1,a2,j,by simp only;omega,a4⟩,g6⟩,by simp only;omega⟩
    ·rw[if_pos (by simpa using hne),ck_t (by simp;omega)]
     exact⟨_,rfl,⟨by simp only;omega,by simp only;omega,t3,by simp;omega,all_snoc (fun x hx=>by
      obtain⟨a1,a2,j,a3,a4⟩:=g5 x hx
      exact⟨a1,a2,j,by simp only;omega,a4⟩) ⟨⟨hk,by simp only;omega,hpr,hgm,hne⟩,by simp only;omega,i,by simp only;omega,by simp[hic]⟩,pw_snoc g6 hle⟩,by simp only;omega⟩
   split
   ·exact step 2 (.inr rfl)
   ·exact step 1 (.inl rfl)
  ·right
   rw[if_neg (by simp <;> omega)]
   exact⟨_,rfl,g3,by show out.length≤11;omega,fun x hx=>⟨(g5 x hx).1,(g5 x hx).2.1⟩,g6⟩
 obtain⟨e,e4,z1,z2,z3,z4⟩:=keyE
 rw[e4]
 exact⟨_,_,rfl,z1,fin _ z2 z3 z4⟩
end Go.Vl
namespace Go.Vl
open Go
def edge (T:List (List Bool)) (i j:Nat):Prop:=∃r,T[i]? =some r∧r[j]? =some true
inductive Rch (T:List (List Bool)) (p:Nat):Nat→Prop
 |refl:Rch T p p
 |step {i j:Nat}:Rch T p i→edge T i j→Rch T p j
def Sq (n:Nat) (T:List (List Bool)):Prop:=T.length=n∧∀r∈T,r.length=n
def castL (l:List Nat):List Int:=l.map fun (i:Nat)=>(i:Int)
theorem castL_app (l m:List Nat):castL (l++m)=castL l++castL m:=by simp[castL]
theorem castL_len (l:List Nat):(castL l).length=l.length:=by simp[castL]
section
variable {β:Type}
noncomputable def gl1 (vis:β→Bool) (mk:Int→β) (k:Nat) (q:Int) (row:List Bool) (s:Int×List β×List Int):Option (Lp (Int×List β×List Int) (List β×List Int)):=
 if(decide (s.1 < ((row).length:Int)))=true then
  (idx row s.1).bind fun x=>
  Option.bind (
   if x=true then
    (ck (0≤s.1∧(Int.toNat s.1) < (s.2.1).length)).bind fun _=>
    (idx s.2.1 s.1).bind fun y=>
    some (!vis y)
   else
    some false) fun v=>
  if v=true then
   (ck (k+s.2.2.length+1≤268435456)).bind fun _=>
   (ck (0≤s.1∧(Int.toNat s.1) < (s.2.1).length)).bind fun _=>
   some (.go (IntKind.i64.wrap (s.1+1),s.2.1.set (Int.toNat s.1) (mk q),s.2.2++[s.1]))
  else
   some (.go (IntKind.i64.wrap (s.1+1),s.2.1,s.2.2))
 else
  some (.out (s.2.1,s.2.2))
noncomputable def gl0 (vis:β→Bool) (mk:Int→β) (tb:List (List Bool)) (s:Nat×List β×List Int):Option (Lp (Nat×List β×List Int) (List β)):=
 match s.2.2 with
 |[]=>some (.out s.2.1)
 |q::_=>
  (idx tb q).bind fun row=>
  (iter (gl1 vis mk s.1 q row) (0,s.2.1,s.2.2)).bind fun r=>
  (ck (0 < r.2.length)).bind fun _=>
  some (.go (s.1+1,r.1,r.2.drop 1))
structure BInv (T:List (List Bool)) (n p:Nat) (vis:β→Bool) (mk:Int→β) (M:List β) (ord:List Nat):Prop where
 len:M.length=n
 nd:ord.Nodup
 lt:∀i∈ord,i < n
 head:ord[0]? =some p
 vis:∀i x,M[i]? =some x→(vis x=true↔i∈ord)
 rch:∀i∈ord,Rch T p i
 par:∀b j,ord[b]? =some j→0 < b→∃a i,a < b∧ord[a]? =some i∧edge T i j∧M[j]? =some (mk (i:Int))
theorem ord_len {ord:List Nat} {n:Nat} (h:ord.Nodup) (hb:∀i∈ord,i < n):ord.length≤n:=by
 have hs:ord ⊆ List.range n:=fun x hx=>List.mem_range.2 (hb x hx)
 simpa using h.length_le_of_subset hs
theorem BInv.add {T:List (List Bool)} {n p:Nat} {vis:β→Bool} {mk:Int→β} {M:List β} {ord:List Nat} (h:BInv T n p vis mk M ord) {i j:Nat} (hi:i∈ord) (he:edge T i j) (hj:j < n) (hn:j∉ord) (hv:vis (mk (i:Int))=true):BInv T n p vis mk (M.set j (mk (i:Int))) (ord++[j]) where
 len:=by simpa using h.len
 nd:=List.nodup_append.2 ⟨h.nd,by simp,fun a ha b hb=>by simp at hb;subst hb;exact fun e=>hn (e▸ha)⟩
 lt:=fun k hk=>by
  rcases List.mem_append.1 hk with hk |hk
  ·exact h.lt k hk
  ·simp at hk;omega
 head:=by
  have:=h.head
  have h0:0 < ord.length:=(List.getElem?_eq_some_iff.1 this).1
  rw[List.getElem?_append_left h0];exact this
 vis:=fun k x hx=>by
  rw[List.getElem?_set] at hx
  by_cases hjk:j=k
  ·subst hjk
   rw[if_pos rfl,if_pos (by rw[h.len];exact hj)] at hx
   cases hx
   simp[hv]
  ·rw[if_neg hjk] at hx
   rw[h.vis k x hx]
   simp[Ne.symm hjk]
 rch:=fun k hk=>by
  rcases List.mem_append.1 hk with hk |hk
  ·exact h.rch k hk
  ·simp at hk;subst hk;exact .step (h.rch i hi) he
 par:=fun b k hb h0=>by
  rw[List.getElem?_append] at hb
  split at hb
  ·rename_i hlt
   obtain⟨a,i',h1,h2,h3,h4⟩:=h.par b k hb h0
   refine⟨a,i',h1,?_,h3,?_⟩
   ·rw[List.getElem?_append_left (by omega)];exact h2
   ·have hk:k∈ord:=List.mem_of_getElem? hb
    rw[List.getElem?_set,if_neg (fun e=>hn (by rw[e];exact hk))];exact h4
  ·rename_i hge
   have hb0:b=ord.length:=by
    have:=(List.getElem?_eq_some_iff.1 hb).1
    simp at this;omega
   subst hb0
   simp at hb
   subst hb
   obtain⟨a,ha,e⟩:=List.getElem_of_mem hi
   refine⟨a,i,ha,?_,he,?_⟩
   ·rw[List.getElem?_append_left ha,List.getElem?_eq_getElem ha,e]
   ·rw[List.getElem?_set,if_pos rfl,if_pos (by rw[h.len];exact hj)]
theorem gl1_ex {T:List (List Bool)} {n p:Nat} {vis:β→Bool} {mk:Int→β} (hT:Sq n T) (hn:n≤1000000) (hmk:∀i:Nat,vis (mk (i:Int))=true) {pre rest:List Nat} {q:Nat} {row:List Bool} (hr:T[q]? =some row) {M:List β} (h:BInv T n p vis mk M (pre++q::rest)):
  ∃e,iter (gl1 vis mk pre.length (q:Int) row) (0,M,castL (q::rest))=some e∧∃new,e.2=castL (q::rest++new)∧BInv T n p vis mk e.1 (pre++(q::rest++new))∧∀j,edge T q j→j∈pre++(q::rest++new):=by
 have hrl:row.length=n:=hT.2 row (List.mem_of_getElem? hr)
 refine iter_ex (body:=gl1 vis mk pre.length (q:Int) row) (fun s=>∃(i:Nat) (new:List Nat),s.1=(i:Int)∧i≤n∧s.2.2=castL (q::rest++new)∧BInv T n p vis mk s.2.1 (pre++(q::rest++new))∧∀j,j < i→row[j]? =some true→j∈pre++(q::rest++new)) (fun s=>n - s.1.toNat) _ ?_ ⟨0,[],rfl,Nat.zero_le _,by simp,by simpa using h,fun j hj=>by omega⟩
 rintro⟨i,M,Q⟩ ⟨i,new,rfl,hi,hQ,hB,hc⟩
 simp only at hQ hB
 subst hQ
 have hlen:=ord_len hB.nd hB.lt
 unfold gl1
 simp only
 by_cases hlt:i < n
 ·left
  have hir:i < row.length:=by omega
  rw[if_pos (by simp;omega),idx_lt hir,w64 (by omega) (by omega)]
  simp only[Option.bind_some]
  have hiM:i < M.length:=by rw[hB.len];exact hlt
  have hvi:=hB.vis i M[i] (List.getElem?_eq_getElem hiM)
  by_cases hx:row[i]=true
  ·rw[if_pos hx,ck_t (by constructor <;> omega),idx_lt hiM]
   simp only[Option.bind_some]
   by_cases hv:vis M[i]=true
   ·rw[hv,if_neg (by decide)]
    refine⟨_,rfl,⟨i+1,new,by simp only;omega,by omega,rfl,hB,fun j hj hjr=>?_⟩,by simp only;omega⟩
    rcases Nat.lt_or_eq_of_le (Nat.le_of_lt_succ hj) with hj |hj
    ·exact hc j hj hjr
    ·subst hj;exact hvi.1 hv
   ·have hni:i∉pre++(q::rest++new):=fun hm=>hv (hvi.2 hm)
    have he:edge T q i:=⟨row,hr,by rw[List.getElem?_eq_getElem hir,hx]⟩
    have hB2:=hB.add (i:=q) (j:=i) (by simp) he hlt hni (hmk q)
    have hl2:=ord_len hB2.nd hB2.lt
    simp only[List.length_append,List.length_cons,List.length_nil] at hl2
    rw[if_pos (by simpa using hv),ck_t (by rw[castL_len];simp only[List.length_append,List.length_cons];omega)]
    simp only[Option.bind_some]
    refine⟨_,rfl,⟨i+1,new++[i],by simp only;omega,by omega,?_,?_,fun j hj hjr=>?_⟩,by simp only;omega⟩
    ·simp only[castL,List.map_append,List.map_cons,List.map_nil,List.cons_append,List.append_assoc]
    ·simp only[Int.toNat_natCast]
     simpa[List.append_assoc] using hB2
    ·rcases Nat.lt_or_eq_of_le (Nat.le_of_lt_succ hj) with hj |hj
     ·have:=hc j hj hjr
      simp only[List.mem_append,List.mem_cons] at this ⊢
      rcases this with h1 |(h1 |h1) |h1
      ·exact .inl h1
      ·exact .inr (.inl (.inl h1))
      ·exact .inr (.inl (.inr h1))
      ·exact .inr (.inr (.inl h1))
     ·subst hj;simp
  ·rw[if_neg hx]
   simp only[Option.bind_some]
   rw[if_neg (by decide)]
   refine⟨_,rfl,⟨i+1,new,by simp only;omega,by omega,rfl,hB,fun j hj hjr=>?_⟩,by simp only;omega⟩
   rcases Nat.lt_or_eq_of_le (Nat.le_of_lt_succ hj) with hj |hj
   ·exact hc j hj hjr
   ·subst hj
    rw[List.getElem?_eq_getElem hir] at hjr
    exact absurd (Option.some.inj hjr) hx
 ·right
  rw[if_neg (by simp;omega)]
  refine⟨_,rfl,new,rfl,hB,fun j ⟨r,h1,h2⟩=>?_⟩
  rw[hr] at h1
  cases h1
  exact hc j (by have:=(List.getElem?_eq_some_iff.1 h2).1;omega) h2
theorem gl0_ex {T:List (List Bool)} {n p:Nat} {vis:β→Bool} {mk:Int→β} (hT:Sq n T) (hn:n≤1000000) (hmk:∀i:Nat,vis (mk (i:Int))=true) {M0:List β} (h:BInv T n p vis mk M0 [p]):
  ∃M,iter (gl0 vis mk T) (0,M0,castL [p])=some M∧∃ord,BInv T n p vis mk M ord∧∀i,Rch T p i→i∈ord:=by
 refine iter_ex (body:=gl0 vis mk T) (fun s=>∃(pre queue:List Nat),s.1=pre.length∧s.2.2=castL queue∧BInv T n p vis mk s.2.1 (pre++queue)∧∀i∈pre,∀j,edge T i j→j∈pre++queue) (fun s=>n - s.1) _ ?_ ⟨[],[p],rfl,rfl,by simpa using h,fun i hi=>by simp at hi⟩
 rintro⟨k,M,Q⟩ ⟨pre,queue,rfl,hQ,hB,hc⟩
 simp only at hQ hB
 subst hQ
 have hlen:=ord_len hB.nd hB.lt
 cases queue with
 |nil=>
  right
  refine⟨M,by simp[gl0,castL],pre,by simpa using hB,fun i hi=>?_⟩
  induction hi with
  |refl=>have:=hB.head;rw[List.append_nil] at this;exact List.mem_of_getElem? this
  |step _ he ih=>simpa using hc _ ih _ he
 |cons q rest=>
  left
  have hq:q < n:=hB.lt q (by simp)
  have hqT:q < T.length:=by rw[hT.1];exact hq
  obtain⟨e,e1,new,e2,e3,e4⟩:=gl1_ex hT hn hmk (List.getElem?_eq_getElem hqT) hB
  simp only[List.length_append,List.length_cons] at hlen
  unfold gl0
  simp only[castL,List.map_cons]
  rw[idx_lt hqT]
  simp only[Option.bind_some]
  simp only[castL,List.map_cons] at e1
  rw[e1]
  simp only[Option.bind_some]
  rw[ck_t (by rw[e2];simp[castL])]
  refine⟨_,rfl,⟨pre++[q],rest++new,by simp,by rw[e2];simp[castL],by simpa[List.append_assoc] using e3,fun i hi j he=>?_⟩,by simp only;omega⟩
  rcases List.mem_append.1 hi with hi |hi
  ·have:=hc i hi j he
   simp only[List.mem_append,List.mem_cons,List.not_mem_nil,or_false] at this ⊢
   rcases this with h1 |h1 |h1
   ·exact .inl (.inl h1)
   ·exact .inl (.inr h1)
   ·exact .inr (.inl h1)
  ·simp at hi
   subst hi
   have:=e4 j he
   simpa[List.append_assoc] using this
end
end Go.Vl
namespace Go.Vl
open Go
theorem dirRows_ex {n:Nat} {t:Int}:∀{l:List api_Member} {T:List (List Bool)},Sq n T→(∀x∈l,(0≤x.Principal∧x.Principal < n)∧0≤x.Group∧x.Group < n)→∃r,dirRows t l T=some r∧Sq n r
 |[],T,hT,_=>⟨T,rfl,hT⟩
 |x::l,T,hT,h=>by
  have hx:=h x (List.mem_cons_self ..)
  have hl:=fun y hy=>h y (List.mem_cons_of_mem x hy)
  unfold dirRows
  split
  ·have h1:x.Principal.toNat < T.length:=by rw[hT.1];omega
   have h2:T[x.Principal.toNat].length=n:=hT.2 _ (List.getElem_mem h1)
   rw[ck_t ⟨hx.1.1,hx.2.1⟩,Option.bind_some,List.getElem?_eq_getElem h1,Option.bind_some,ck_t (by rw[hT.1];omega),Option.bind_some]
   exact dirRows_ex ⟨by simpa using hT.1,fun r hr=>by
    rcases List.mem_or_eq_of_mem_set hr with hr |hr
    ·exact hT.2 r hr
    ·rw[hr];simpa using h2⟩ hl
  ·exact dirRows_ex hT hl
theorem dirRows_same {t t':Int}:∀{l:List api_Member} (T:List (List Bool)),(∀x∈l,x.Time≤t↔x.Time≤t')→dirRows t l T=dirRows t' l T
 |[],_,_=>rfl
 |x::l,T,h=>by
  have hx:=h x (List.mem_cons_self ..)
  have hl:=fun T=>dirRows_same (t:=t) (t':=t') T (fun y hy=>h y (List.mem_cons_of_mem x hy))
  unfold dirRows
  by_cases h1:x.Time≤t
  ·rw[if_pos h1,if_pos (hx.1 h1)]
   simp only[hl]
  ·rw[if_neg h1,if_neg (fun h2=>h1 (hx.2 h2)),hl]
theorem dir_ev {d:api_Directory} (hd:dirOk d=true):∀x∈d.Events,(0≤x.Principal∧x.Principal < (d.Kinds.length:Int))∧0≤x.Group∧x.Group < (d.Kinds.length:Int):=fun x hx=>by
 unfold dirOk at hd
 simp only[Bool.and_eq_true] at hd
 obtain⟨a,ha⟩:=fit_mem hd.2.2.2 x hx
 unfold evOk groupB existsB at ha
 simp only[Bool.and_eq_true,decide_eq_true_eq] at ha
 exact⟨ha.2.2.2.1,ha.2.2.2.2.1.1⟩
theorem dir_few {d:api_Directory} (hd:dirOk d=true):d.Kinds.length≤24∧d.Events.length≤120:=by
 unfold dirOk at hd
 simp only[Bool.and_eq_true,decide_eq_true_eq] at hd
 exact⟨hd.1,hd.2.1⟩
theorem at_ex {d:api_Directory} (hd:dirOk d=true) (h0:0 < d.Kinds.length) (t:Int):∃T,directory_at d t=some T∧Sq d.Kinds.length T:=by
 obtain⟨h1,h2⟩:=dir_few hd
 unfold directory_at
 rw[ck_t ⟨h0,by omega,by omega⟩,Option.bind_some]
 exact dirRows_ex ⟨by simp,fun r hr=>by rw[(List.mem_replicate.1 hr).2];simp⟩ (dir_ev hd)
theorem at_same {d:api_Directory} {t t':Int} (h:∀x∈d.Events,x.Time≤t↔x.Time≤t'):directory_at d t=directory_at d t':=by
 unfold directory_at
 rw[dirRows_same _ h]
theorem up_l0 (T:List (List Bool)):directory_table_upward_l0 T=gl0 (β:=Bool) (fun b=>b) (fun _=>true) T:=by
 funext s
 obtain⟨k,M,Q⟩:=s
 cases Q <;> rfl
theorem upward_ex {T:List (List Bool)} {n:Nat} (hT:Sq n T) (hn:n≤1000000) {p:Nat} (hp:p < n):∃U ord,directory_table_upward T (p:Int)=some U∧BInv T n p (fun b=>b) (fun _=>true) U ord∧∀i,Rch T p i→i∈ord:=by
 unfold directory_table_upward
 rw[ck_t (by rw[hT.1];omega),Option.bind_some,ck_t (by rw[hT.1];constructor <;> omega),Option.bind_some,up_l0]
 obtain⟨M,h1,ord,h2,h3⟩:=gl0_ex (β:=Bool) (vis:=fun b=>b) (mk:=fun _=>true) hT hn (fun _=>rfl) (p:=p) (M0:=(List.replicate T.length false).set p true) {
  len:=by simp[hT.1]
  nd:=by simp
  lt:=fun i hi=>by simp at hi;omega
  head:=rfl
  vis:=fun i x hx=>by
   rw[List.getElem?_set] at hx
   by_cases hpi:p=i
   ·subst hpi
    rw[if_pos rfl,if_pos (by simp[hT.1,hp])] at hx
    cases hx;simp
   ·rw[if_neg hpi,List.getElem?_replicate] at hx
    split at hx
    ·cases hx;simp[Ne.symm hpi]
    ·cases hx
  rch:=fun i hi=>by simp at hi;subst hi;exact .refl
  par:=fun b j hb h0=>by
   have:=(List.getElem?_eq_some_iff.1 hb).1
   simp at this;omega }
 exact⟨M,ord,by simpa[castL] using h1,h2,h3⟩
def thoseN (U:List Bool):List Nat:=(List.range U.length).filter fun i=>U.getD i false
theorem thoseN_mem {U:List Bool} {i:Nat}:i∈thoseN U↔U[i]? =some true:=by
 unfold thoseN
 rw[List.mem_filter,List.mem_range,List.getD_eq_getElem?_getD]
 constructor
 ·rintro⟨h1,h2⟩
  rw[List.getElem?_eq_getElem h1] at h2 ⊢
  simpa using h2
 ·intro h
  exact⟨(List.getElem?_eq_some_iff.1 h).1,by rw[h];rfl⟩
theorem thoseN_sorted (U:List Bool):(thoseN U).Pairwise (· < ·):=List.Pairwise.filter _ List.pairwise_lt_range
theorem thoseN_len (U:List Bool):(thoseN U).length≤U.length:=by
 unfold thoseN
 exact Nat.le_trans (List.length_filter_le _ _) (by simp)
theorem castL_mem {l:List Nat} {x:Int}:x∈castL l↔∃i∈l,x=(i:Int):=by
 unfold castL
 rw[List.mem_map]
 exact⟨fun ⟨i,h1,h2⟩=>⟨i,h1,h2.symm⟩,fun ⟨i,h1,h2⟩=>⟨i,h1,h2.symm⟩⟩
theorem castL_memN {l:List Nat} {i:Nat}:(i:Int)∈castL l↔i∈l:=by
 rw[castL_mem]
 exact⟨fun ⟨j,h1,h2⟩=>by rw[show i=j by omega];exact h1,fun h=>⟨i,h,rfl⟩⟩
theorem castL_sorted {l:List Nat} (h:l.Pairwise (· < ·)):(castL l).Pairwise (· < ·):=by
 unfold castL
 rw[List.pairwise_map]
 exact h.imp fun h=>by omega
theorem those_sp {U:List Bool} (hU:U.length≤1000000):directory_those U=some (castL (thoseN U)):=by
 have key:iter (directory_those_l0 U) (0,[])=some (castL (thoseN U)):=by
  have:=iter_eq (body:=directory_those_l0 U) (fun s=>∃i:Nat,s.1=(i:Int)∧i≤U.length∧s.2=castL ((List.range i).filter fun i=>U.getD i false)) (fun s=>U.length - s.1.toNat) (fun _=>castL (thoseN U)) (fun s hs=>?_) (s:=(0,[])) ⟨0,rfl,Nat.zero_le _,rfl⟩
  ·exact this
  obtain⟨a,b⟩:=s
  obtain⟨i,rfl,hi,hb⟩:=hs
  simp only at hb
  subst hb
  have hl:((List.range i).filter fun i=>U.getD i false).length≤i:=Nat.le_trans (List.length_filter_le _ _) (by simp)
  unfold directory_those_l0
  simp only
  by_cases hlt:i < U.length
  ·left
   rw[if_pos (by simp;omega),idx_lt hlt,w64 (by omega) (by omega)]
   simp only[Option.bind_some]
   by_cases hx:U[i]=true
   ·rw[if_pos hx,ck_t (by rw[castL_len];simp only[List.length_cons,List.length_nil];omega)]
    refine⟨_,rfl,⟨i+1,by simp only;omega,by omega,?_⟩,by simp only;omega,trivial⟩
    simp[castL,List.range_succ,List.filter_append,hlt,hx]
   ·rw[if_neg hx]
    refine⟨_,rfl,⟨i+1,by simp only;omega,by omega,?_⟩,by simp only;omega,trivial⟩
    simp[castL,List.range_succ,List.filter_append,hlt,hx]
  ·right
   have:i=U.length:=by omega
   subst this
   rw[if_neg (by simp)]
   rfl
 unfold directory_those
 rw[key];rfl
theorem those_own:directory_those_own0=directory_those:=by
 funext U
 rfl
structure UpOk (d:api_Directory) (p:Nat) (t:Int) (T:List (List Bool)) (U:List Nat):Prop where
 tab:directory_at d t=some T
 sq:Sq d.Kinds.length T
 up:directory_Upward d (p:Int) t=some (castL U)
 own:directory_Upward_own0 d (p:Int) t=some (castL U)
 sorted:U.Pairwise (· < ·)
 lt:∀i∈U,i < d.Kinds.length
 rch:∀i,i∈U↔Rch T p i
theorem known_sp {d:api_Directory} (hd:dirOk d=true) (p:Int):directory_known d p=some (existsB d p):=by
 unfold directory_known
 rw[dcheck_sp,if_pos hd]
 simp only[Option.bind_some]
 rw[if_pos (by decide),exists_sp]
 rfl
theorem ex_nat {d:api_Directory} {p:Nat} (hp:p < d.Kinds.length):existsB d (p:Int)=true:=by
 unfold existsB
 simp[hp]
theorem up_ok {d:api_Directory} (hd:dirOk d=true) {p:Nat} (hp:p < d.Kinds.length) (t:Int):∃T U,UpOk d p t T U:=by
 obtain⟨T,h1,h2⟩:=at_ex hd (by omega) t
 have hn:=(dir_few hd).1
 obtain⟨U,ord,h3,h4,h5⟩:=upward_ex h2 (by omega) hp
 have hUl:U.length≤1000000:=by rw[h4.len];omega
 refine⟨T,thoseN U,h1,h2,?_,?_,thoseN_sorted U,fun i hi=>?_,fun i=>?_⟩
 ·unfold directory_Upward
  rw[known_sp hd,ex_nat hp]
  simp only[Option.bind_some]
  rw[if_neg (by decide),h1]
  simp only[Option.bind_some]
  rw[h3]
  simp only[Option.bind_some]
  rw[those_sp hUl];rfl
 ·unfold directory_Upward_own0
  rw[known_sp hd,ex_nat hp]
  simp only[Option.bind_some]
  rw[if_neg (by decide),h1]
  simp only[Option.bind_some]
  rw[h3,those_own]
  simp only[Option.bind_some]
  rw[those_sp hUl];rfl
 ·rw[thoseN_mem] at hi
  have:=(List.getElem?_eq_some_iff.1 hi).1
  rw[h4.len] at this;exact this
 ·rw[thoseN_mem]
  constructor
  ·intro hi
   exact h4.rch i ((h4.vis i true hi).1 rfl)
  ·intro hi
   have hm:=h5 i hi
   have hlt:=h4.lt i hm
   have hiU:i < U.length:=by rw[h4.len];exact hlt
   rw[List.getElem?_eq_getElem hiU]
   exact congrArg some ((h4.vis i _ (List.getElem?_eq_getElem hiU)).2 hm)
theorem up_same {d:api_Directory} {p t t':Int} (h:∀x∈d.Events,x.Time≤t↔x.Time≤t'):directory_Upward d p t=directory_Upward d p t':=by
 unfold directory_Upward
 rw[at_same h]
theorem del_sp {l:List Int} (hl:l.length≤1000000) (hnd:l.Nodup) (p:Int):sYDeleteFunc_int_eat0_at_directory_Groups_1_ro_own0 l p=some (l.filter fun x=>x != p):=by
 unfold sYDeleteFunc_int_eat0_at_directory_Groups_1_ro_own0 sYIndexFunc_int_at_directory_Groups_1_ro
 obtain⟨h1,h2⟩:=iter_findS (body:=sYIndexFunc_int_at_directory_Groups_1_ro_l0 l p) l (fun y=>y==p) (fun i _=>.inr (i:Int)) (.inl ()) (fun i hi=>by
  unfold sYIndexFunc_int_at_directory_Groups_1_ro_l0 directory_Groups_1_cro
  rw[if_pos (by simp;omega),idx_lt hi,w64 (by omega) (by omega)]
  simp only[Option.bind_some]
  split <;> simp[*]) (by
  unfold sYIndexFunc_int_at_directory_Groups_1_ro_l0
  rw[if_neg (by simp)])
 cases h:l.any (fun y=>y==p) with
 |false=>
  rw[h1 h]
  simp only[Option.bind_some]
  rw[if_pos (by decide)]
  congr 1
  symm
  rw[List.filter_eq_self]
  intro x hx
  have:=List.any_eq_false.1 h x hx
  simpa using this
 |true=>
  obtain⟨i0,hi0,hp0,e0⟩:=h2 h
  rw[e0]
  simp only[Option.bind_some]
  have hne:¬(((i0:Int)== -1)=true):=by simp
  rw[if_neg hne]
  have hp1:l[i0]=p:=by simpa using hp0
  have hpre:(l.take (i0+1)).filter (fun x=>x != p)=l.take i0:=by
   rw[List.take_succ_eq_append_getElem hi0,List.filter_append]
   have a1:(l.take i0).filter (fun x=>x != p)=l.take i0:=by
    rw[List.filter_eq_self]
    intro x hx
    obtain⟨k,hk,rfl⟩:=List.getElem_of_mem hx
    rw[List.length_take] at hk
    rw[List.getElem_take]
    simp only[bne_iff_ne,ne_eq]
    intro e
    exact List.pairwise_iff_getElem.1 hnd k i0 (by omega) hi0 (by omega) (e.trans hp1.symm)
   rw[a1,List.filter_cons,if_neg (by simp[hp1]),List.filter_nil,List.append_nil]
  have key:∃e,iter (sYDeleteFunc_int_eat0_at_directory_Groups_1_ro_own0_l0 p) ((i0:Int),IntKind.i64.wrap ((i0:Int)+1),l)=some e∧(∃i:Nat,e.1=(i:Int)∧i≤e.2.length∧e.2.length=l.length∧e.2.take i=l.filter fun x=>x != p):=by
   refine iter_ex (body:=sYDeleteFunc_int_eat0_at_directory_Groups_1_ro_own0_l0 p) (fun s=>∃i j:Nat,s.1=(i:Int)∧s.2.1=(j:Int)∧i < j∧j≤l.length∧s.2.2.length=l.length∧s.2.2.take i=(l.take j).filter (fun x=>x != p)∧s.2.2.drop j=l.drop j) (fun s=>l.length - s.2.1.toNat) _ ?_ ⟨i0,i0+1,rfl,by rw[w64 (by omega) (by omega)];simp,by omega,by omega,rfl,hpre.symm,rfl⟩
   rintro⟨a,b,arr⟩ ⟨i,j,rfl,rfl,hij,hj,hal,ht,hdr⟩
   simp only at hal ht hdr
   unfold sYDeleteFunc_int_eat0_at_directory_Groups_1_ro_own0_l0
   simp only
   by_cases hlt:j < l.length
   ·left
    have hja:j < arr.length:=by omega
    have hx:arr[j]=l[j]:=by
     have e1:(arr.drop j)[0]? =(l.drop j)[0]? :=by rw[hdr]
     rw[List.getElem?_drop,List.getElem?_drop,Nat.add_zero,List.getElem?_eq_getElem hja,List.getElem?_eq_getElem hlt] at e1
     exact Option.some.inj e1
    have hdr2:arr.drop (j+1)=l.drop (j+1):=by
     rw[show j+1=j+1 from rfl,←List.drop_drop,←List.drop_drop,hdr]
    rw[if_pos (by simp;omega),ck_t (by constructor <;> omega),idx_lt hja]
    simp only[Option.bind_some]
    unfold directory_Groups_1_cro
    simp only[Option.bind_some]
    rw[hx,w64 (x:=(j:Int)+1) (by omega) (by omega)]
    by_cases hxp:l[j]=p
    ·rw[if_neg (by simp[hxp])]
     refine⟨_,rfl,⟨i,j+1,rfl,by simp,by omega,by omega,hal,?_,hdr2⟩,by simp only;omega⟩
     rw[List.take_succ_eq_append_getElem hlt,List.filter_append,List.filter_cons,if_neg (by simp[hxp]),List.filter_nil,List.append_nil]
     exact ht
    ·rw[if_pos (by simp[hxp]),ck_t (by constructor <;> omega),idx_lt (show i < arr.length by omega),w64 (x:=(i:Int)+1) (by omega) (by omega)]
     simp only[Option.bind_some]
     refine⟨_,rfl,⟨i+1,j+1,by simp,by simp,by omega,by omega,by simpa using hal,?_,?_⟩,by simp only;omega⟩
     ·simp only[Int.toNat_natCast]
      rw[List.take_succ_eq_append_getElem hlt,List.filter_append,List.filter_cons,if_pos (by simp[hxp]),List.filter_nil,←ht]
      rw[List.take_succ_eq_append_getElem (by simp;omega),List.getElem_set_self,List.take_set,List.set_eq_of_length_le (by rw[List.length_take];omega)]
     ·simp only[Int.toNat_natCast]
      rw[List.drop_set,if_pos (by omega)]
      exact hdr2
   ·right
    have hjl:j=l.length:=by omega
    subst hjl
    rw[if_neg (by simp;omega)]
    refine⟨_,rfl,i,rfl,by simp only;omega,hal,?_⟩
    rw[ht,List.take_length]
  obtain⟨e,e1,i,e2,e3,e4,e5⟩:=key
  rw[e1]
  simp only[Option.bind_some]
  rw[e2,ck_t (by refine⟨by omega,by omega,by omega⟩)]
  simp only[Option.bind_some,Int.toNat_natCast]
  have h9:(e.2.take i).length=i:=by rw[List.length_take];omega
  rw[ck_t (by refine⟨by omega,by omega,?_⟩;rw[List.length_append,h9];omega)]
  simp only[Option.bind_some]
  rw[List.take_left' h9,e5]
end Go.Vl
namespace Go.Vl
open Go Go.Proofs
theorem itQ {σ ε:Type} {body:σ→Option (Lp σ ε)} {s:σ} {e:ε} (n:Nat) (h:itN body n s=some e):iter body s=some e:=iter_iff.2 ⟨n,h⟩
theorem repI_sp {k:Nat} (h1:1≤k) (h8:k≤24):sYRepeat_int_own0 [-1] (k:Int)=some (List.replicate k (-1)):=by
 have h:k=1∨k=2∨k=3∨k=4∨k=5∨k=6∨k=7∨k=8∨k=9∨k=10∨k=11∨k=12∨k=13∨k=14∨k=15∨k=16∨k=17∨k=18∨k=19∨k=20∨k=21∨k=22∨k=23∨k=24:=by omega
 have key:∀k:Nat,∀e:List Int,itN sYRepeat_int_own0_l0 9 ((((min (List.replicate k (0:Int)).length ([-1]:List Int).length):Nat):Int),(([-1]:List Int).take (min (List.replicate k (0:Int)).length ([-1]:List Int).length)++(List.replicate k (0:Int)).drop (min (List.replicate k (0:Int)).length ([-1]:List Int).length)))=some e→math_bits_Mul (IntKind.u64.wrap ((([-1]:List Int).length:Nat):Int)) (IntKind.u64.wrap (k:Int))=some (0,(k:Int))→k≤24→sYRepeat_int_own0 [-1] (k:Int)=some e:=fun k e h1 h2 h3=>by
  unfold sYRepeat_int_own0
  rw[if_neg (by simp),h2]
  simp only[Option.bind_some]
  rw[if_neg (by simp;omega),w64 (by omega) (by omega),ck_t (by constructor <;> omega)]
  simp only[Option.bind_some,Int.toNat_natCast]
  rw[itQ 9 h1]
  rfl
 rcases h with rfl |rfl |rfl |rfl |rfl |rfl |rfl |rfl |rfl |rfl |rfl |rfl |rfl |rfl |rfl |rfl |rfl |rfl |rfl |rfl |rfl |rfl |rfl |rfl <;> exact key _ _ (by kernel_rfl) (by kernel_rfl) (by omega)
theorem why_l0 (T:List (List Bool)):directory_Why_l0 T=gl0 (β:=Int) (fun y=>!decide (y < 0)) (fun q=>q) T:=by
 have h1:∀k q row,directory_Why_l1 k q row=gl1 (β:=Int) (fun y=>!decide (y < 0)) (fun q=>q) k q row:=fun k q row=>by
  funext s
  unfold directory_Why_l1 gl1
  simp only[Bool.not_not]
 funext s
 obtain⟨k,M,Q⟩:=s
 unfold directory_Why_l0 gl0
 cases Q with
 |nil=>rfl
 |cons q r=>simp only[h1]
structure ChainOk (T:List (List Bool)) (n p q:Nat) (c:List Nat):Prop where
 head:c.head? =some p
 last:c.getLast? =some q
 nd:c.Nodup
 lt:∀i∈c,i < n
 edge:∀a i j,c[a]? =some i→c[a+1]? =some j→edge T i j
theorem why_chain {T:List (List Bool)} {n p q:Nat} {M:List Int} {ord:List Nat} (h:BInv T n p (fun y:Int=>!decide (y < 0)) (fun q=>q) M ord) (hn:n≤1000000) (hq:q∈ord):
  ∃c,iter (directory_Why_l2 M (p:Int)) [(q:Int)]=some (castL c)∧ChainOk T n p q c:=by
 have hol:=ord_len h.nd h.lt
 have hnd:∀{a b i:Nat},ord[a]? =some i→ord[b]? =some i→a=b:=fun {a b i} h1 h2=>(List.getElem?_inj (List.getElem?_eq_some_iff.1 h1).1 h.nd).1 (h1.trans h2.symm)
 have key:∃e,iter (directory_Why_l2 M (p:Int)) [(q:Int)]=some e∧(∃c,e=castL c∧ChainOk T n p q c):=by
  refine iter_ex (body:=directory_Why_l2 M (p:Int)) (fun s=>∃(c:List Nat) (x:Nat) (r:Nat),s=castL (x::c)∧ord[r]? =some x∧(∀y∈c,∃r',r < r'∧ord[r']? =some y)∧(x::c).Nodup∧(x::c).getLast? =some q∧(x::c).length+r≤ord.length∧∀a i j,(x::c)[a]? =some i→(x::c)[a+1]? =some j→edge T i j) (fun s=>n+1 - s.length) _ ?_ ?_
  ·rintro s ⟨c,x,r,rfl,hx,hc,hcn,hl,hlen,he⟩
   have hxn:x < n:=h.lt x (List.mem_of_getElem? hx)
   unfold directory_Why_l2
   simp only[castL,List.map_cons]
   rw[show (0:Int)=((0:Nat):Int) from rfl,idx_lt (by simp)]
   simp only[List.getElem_cons_zero,Option.bind_some]
   by_cases hxp:x=p
   ·right
    subst hxp
    rw[if_neg (by simp)]
    refine⟨_,rfl,x::c,rfl,rfl,hl,hcn,fun i hi=>?_,he⟩
    rcases List.mem_cons.1 hi with rfl |hi
    ·exact hxn
    ·obtain⟨r',_,h2⟩:=hc i hi
     exact h.lt i (List.mem_of_getElem? h2)
   ·left
    have hr0:0 < r:=by
     rcases Nat.eq_zero_or_pos r with h0 |h0
     ·subst h0
      rw[h.head] at hx
      exact absurd (Option.some.inj hx).symm hxp
     ·exact h0
    obtain⟨a,i,ha,hi,hei,hM⟩:=h.par r x hx hr0
    have hxM:x < M.length:=by rw[h.len];exact hxn
    rw[if_pos (by simp;omega),idx_nat,hM]
    simp only[Option.bind_some]
    simp only[List.length_cons] at hlen
    rw[ck_t (by simp;omega)]
    have hr:=(List.getElem?_eq_some_iff.1 hx).1
    refine⟨_,rfl,⟨x::c,i,a,rfl,hi,fun y hy=>?_,?_,?_,by simp only[List.length_cons];omega,?_⟩,by simp;omega⟩
    ·rcases List.mem_cons.1 hy with rfl |hy
     ·exact⟨r,ha,hx⟩
     ·obtain⟨r',h1,h2⟩:=hc y hy
      exact⟨r',by omega,h2⟩
    ·rw[List.nodup_cons]
     refine⟨fun hm=>?_,hcn⟩
     rcases List.mem_cons.1 hm with rfl |hm
     ·have:=hnd hi hx;omega
     ·obtain⟨r',h1,h2⟩:=hc i hm
      have:=hnd hi h2;omega
    ·rw[List.getLast?_cons_cons];exact hl
    ·intro b j k h1 h2
     cases b with
     |zero=>
      simp only[List.getElem?_cons_zero,Option.some.injEq,Nat.zero_add,List.getElem?_cons_succ] at h1 h2
      subst h1;subst h2;exact hei
     |succ b=>exact he b j k (by simpa using h1) (by simpa using h2)
  ·obtain⟨r,hr,e⟩:=List.getElem_of_mem hq
   exact⟨[],q,r,rfl,by rw[List.getElem?_eq_getElem hr,e],by simp,by simp,rfl,by simp;omega,fun a i j h1 h2=>by simp at h2⟩
 obtain⟨e,h1,c,rfl,h2⟩:=key
 exact⟨c,h1,h2⟩
theorem in_sp {d:api_Directory} {p:Nat} {t:Int} {T:List (List Bool)} {U:List Nat} (hU:UpOk d p t T U) (hn:d.Kinds.length≤1000) {q:Nat} (hq:q∈U) (hqp:q≠p):directory_In d (p:Int) (q:Int) t=some true:=by
 have hul:U.length≤d.Kinds.length:=ord_len (hU.sorted.imp fun h=>Nat.ne_of_lt h) hU.lt
 unfold directory_In directory_Groups
 rw[hU.own]
 simp only[Option.bind_some]
 rw[del_sp (by rw[castL_len];omega) ((castL_sorted hU.sorted).imp fun h=>by omega)]
 simp only[Option.bind_some]
 rw[contains_sp (Nat.le_trans (List.length_filter_le _ _) (by rw[castL_len];omega))]
 simp only[Option.bind_some]
 congr 1
 rw[List.contains_iff_mem,List.mem_filter]
 exact⟨castL_memN.2 hq,by simp;omega⟩
theorem why_ex {d:api_Directory} (hd:dirOk d=true) {p:Nat} (hp:p < d.Kinds.length) {t:Int} {T:List (List Bool)} {U:List Nat} (hU:UpOk d p t T U) {q:Nat} (hq:q∈U) (hqp:q≠p):
  ∃c,directory_Why d (p:Int) (q:Int) t=some (castL c,true)∧ChainOk T d.Kinds.length p q c:=by
 have hn:=(dir_few hd).1
 unfold directory_Why
 rw[in_sp hU (by omega) hq hqp]
 simp only[Option.bind_some]
 rw[if_neg (by decide),hU.tab]
 simp only[Option.bind_some]
 rw[hU.sq.1,repI_sp (by omega) hn]
 simp only[Option.bind_some,Int.toNat_natCast]
 rw[ck_t (by constructor <;> simp;omega),why_l0]
 simp only[Option.bind_some]
 obtain⟨M,h1,ord,h2,h3⟩:=gl0_ex (β:=Int) (vis:=fun y=>!decide (y < 0)) (mk:=fun q=>q) hU.sq (by omega) (fun i=>by simp) (p:=p) (M0:=(List.replicate d.Kinds.length (-1)).set p (p:Int)) {
  len:=by simp
  nd:=by simp
  lt:=fun i hi=>by simp at hi;omega
  head:=rfl
  vis:=fun i x hx=>by
   rw[List.getElem?_set] at hx
   by_cases hpi:p=i
   ·subst hpi
    rw[if_pos rfl,if_pos (by simpa using hp)] at hx
    cases hx;simp
   ·rw[if_neg hpi,List.getElem?_replicate] at hx
    split at hx
    ·cases hx;simp[Ne.symm hpi]
    ·cases hx
  rch:=fun i hi=>by simp at hi;subst hi;exact .refl
  par:=fun b j hb h0=>by
   have:=(List.getElem?_eq_some_iff.1 hb).1
   simp at this;omega }
 have h1':iter (gl0 (β:=Int) (fun y=>!decide (y < 0)) (fun q=>q) T) (0,(List.replicate d.Kinds.length (-1)).set p (p:Int),[(p:Int)])=some M:=h1
 rw[h1']
 simp only[Option.bind_some]
 obtain⟨c,h4,h5⟩:=why_chain h2 (by omega) (h3 q ((hU.rch q).1 hq))
 rw[h4]
 exact⟨c,rfl,h5⟩
theorem proves_ok {d:api_Directory} (hd:dirOk d=true) {p q:Nat} {t:Int} {T:List (List Bool)} (hT:directory_at d t=some T) (hS:Sq d.Kinds.length T) {c:List Nat} (hc:ChainOk T d.Kinds.length p q c) (h2:2≤c.length):directory_Proves d t (castL c)=some true:=by
 have hn:=(dir_few hd).1
 have hcl:=ord_len hc.nd hc.lt
 unfold directory_Proves
 rw[dcheck_sp,if_pos hd]
 simp only[Option.bind_some]
 rw[if_neg (show ¬((0:Int) != 0)=true by decide)]
 simp only[Option.bind_some,castL_len]
 rw[if_neg (by simp;omega),hT]
 simp only[Option.bind_some]
 have key:iter (directory_Proves_l0 (castL c) d T) 0=some (.inl ()):=by
  have:=iter_eq (body:=directory_Proves_l0 (castL c) d T) (fun s=>∃i:Nat,s=(i:Int)∧i≤c.length) (fun s=>c.length - s.toNat) (fun _=>.inl ()) (fun s hs=>?_) (s:=0) ⟨0,rfl,Nat.zero_le _⟩
  ·exact this
  obtain⟨i,rfl,hi⟩:=hs
  unfold directory_Proves_l0
  rw[castL_len]
  by_cases hlt:i < c.length
  ·left
   have hci:i < (castL c).length:=by rw[castL_len];exact hlt
   have hval:∀j (h:j < (castL c).length),(castL c)[j]=((c[j]'(by rw[castL_len] at h;exact h):Nat):Int):=fun j h=>by simp[castL]
   rw[if_pos (by simp;omega),idx_lt hci,hval]
   simp only[Option.bind_some]
   rw[exists_sp,ex_nat (hc.lt _ (List.getElem_mem hlt))]
   simp only[Option.bind_some]
   rw[if_neg (by decide),ck_t (by refine⟨by omega,by omega,by omega⟩)]
   simp only[Option.bind_some,Int.toNat_natCast]
   rw[contains_sp (by rw[List.length_take,castL_len];omega)]
   simp only[Option.bind_some]
   have hnc:((castL c).take i).contains ((c[i]:Nat):Int)=false:=by
    rw[Bool.eq_false_iff]
    intro hm
    rw[List.contains_iff_mem] at hm
    obtain⟨k,hk,e⟩:=List.getElem_of_mem hm
    rw[List.length_take,castL_len] at hk
    rw[List.getElem_take,hval] at e
    exact List.pairwise_iff_getElem.1 hc.nd k i (by omega) hlt (by omega) (by omega)
   rw[hnc,if_neg (by decide),w64 (x:=(i:Int)+1) (by omega) (by omega)]
   by_cases h0:0 < i
   ·rw[if_pos (by simpa using h0),w64 (by omega) (by omega),show(i:Int) - 1=((i - 1:Nat):Int) by omega,idx_lt (show i - 1 < (castL c).length by rw[castL_len];omega),hval]
    simp only[Option.bind_some]
    obtain⟨r,hr1,hr2⟩:=hc.edge (i - 1) (c[i - 1]'(by omega)) c[i] (List.getElem?_eq_getElem (by omega)) (by rw[show i - 1+1=i by omega];exact List.getElem?_eq_getElem hlt)
    rw[idx_nat,hr1]
    simp only[Option.bind_some]
    rw[idx_nat,hr2]
    simp only[Option.bind_some]
    rw[if_neg (by decide)]
    exact⟨_,rfl,⟨i+1,rfl,by omega⟩,by omega,trivial⟩
   ·rw[if_neg (by simpa using h0)]
    simp only[Option.bind_some]
    rw[if_neg (by decide)]
    exact⟨_,rfl,⟨i+1,rfl,by omega⟩,by omega,trivial⟩
  ·right
   rw[if_neg (by simp;omega)]
 rw[key]
 rfl
end Go.Vl
