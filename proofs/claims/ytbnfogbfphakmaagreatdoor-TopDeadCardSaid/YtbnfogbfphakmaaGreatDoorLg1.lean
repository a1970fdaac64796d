/- directory.table.upward: its mirror and its contract (a queue). Conditions: none. -/
import Derived.Test.YtbnfogbfphakmaaGreatDoorL0x
import Derived.Test.YtbnfogbfphakmaaGreatDoorVmQu
import Derived.Test.YtbnfogbfphakmaaGreatDoorVmLz
import Derived.Test.YtbnfogbfphakmaaGreatDoorLso
import Derived.Test.YtbnfogbfphakmaaGreatDoorVmCc
import Derived.Test.YtbnfogbfphakmaaGreatDoorVmRd
import Derived.Test.YtbnfogbfphakmaaGreatDoorVmHu
import Derived.Test.YtbnfogbfphakmaaGreatDoorVmFw
import Derived.Test.YtbnfogbfphakmaaGreatDoorLlk
import Derived.Test.YtbnfogbfphakmaaGreatDoorVmHk
set_option maxHeartbeats 4000000
set_option linter.unusedSimpArgs false
set_option linter.unusedVariables false
namespace Go.Vl
open Go Go.Proofs
noncomputable def directory_table_upward_l1 (k:Nat) (row:List Bool) (s:Int×List Bool×List Int):Option (Lp (Int×List Bool×List Int) (List Bool×List Int)):=
 if(decide (s.1 < ((row).length:Int)))=true then
  (idx row s.1).bind fun x=>
  Option.bind (
   if x=true then
    (ck (0≤s.1∧(Int.toNat s.1) < (s.2.1).length)).bind fun _=>
    (idx s.2.1 s.1).bind fun y=>
    some (!y)
   else
    some false) fun v=>
  if v=true then
   (ck (k+s.2.2.length+1≤268435456)).bind fun _=>
   (ck (0≤s.1∧(Int.toNat s.1) < (s.2.1).length)).bind fun _=>
   some (.go (IntKind.i64.wrap (s.1+1),s.2.1.set (Int.toNat s.1) true,s.2.2++[s.1]))
  else
   some (.go (IntKind.i64.wrap (s.1+1),s.2.1,s.2.2))
 else
  some (.out (s.2.1,s.2.2))
noncomputable def directory_table_upward_l0 (a0:List (List Bool)) (s:Nat×List Bool×List Int):Option (Lp (Nat×List Bool×List Int) (List Bool)):=
 match s.2.2 with
 |[]=>some (.out s.2.1)
 |q::_=>
  (idx a0 q).bind fun row=>
  (iter (directory_table_upward_l1 s.1 row) (0,s.2.1,s.2.2)).bind fun r=>
  (ck (0 < r.2.length)).bind fun _=>
  some (.go (s.1+1,r.1,r.2.drop 1))
noncomputable def directory_table_upward (a0:List (List Bool)) (a1:Int):Option (List Bool):=
 (ck (a0.length≤268435456)).bind fun _=>
 (ck (0≤a1∧(Int.toNat a1) < a0.length)).bind fun _=>
 iter (directory_table_upward_l0 a0) (0,(List.replicate a0.length false).set (Int.toNat a1) true,[a1])
theorem Dp {a0:List (List Bool)} {a1:Int} {r:List Bool} (h0:directory_table_upward a0 a1=some r):Ac Tryz.prog 194 [] [.d (.slice (AB (DJ B2) a0)),.d (.int .i64 a1)] (.d (.slice (AB B2 r))) []:=by
 unfold directory_table_upward at h0
 obtain⟨_,p1,h0⟩:=bnd h0
 replace p1:=AZ p1
 obtain⟨_,p2,h0⟩:=bnd h0
 replace p2:=AZ p2
 obtain⟨p2a,p2b⟩:=p2
 refine AW (nt:=51) (rs:=[.tmp 4]) Tryz.func194 rfl Tryz.ntmps194 rfl (by simp) (by decide) rfl fun K=>?_
 refine kr [0,1] (by simp;rfl) ?_
 have p1z:(0:Int)≤(a0.length:Int)∧(a0.length:Int)≤268435456:=by omega
 refine kr [0,1,5] (by simp[p1z,(show List.replicate (Int.toNat (a0.length:Int)) ([.bool false]:List D)=AB B2 (List.replicate a0.length false) from by simp[AB])];rfl) ?_
 have p2c:a1 < (a0.length:Int):=by omega
 refine kr [0,1,5] (by simp[p2a,p2b,p2c];rfl) ?_
 refine trq ?_
 refine kr [0,5,6] (by simp;rfl) ?_
 refine Al (SU 6 16 (S:=⟨3,1,[[.int .i64 a1]]⟩) (by simp[St.look,get]) (by simp[get])) ?_
 refine tjv (fun v:List Bool=>({ nt:=51,env:=[(5,.vec 11)],box:=[],vec:=[(11,⟨4,1,AB B2 v⟩)]}:St)) (fun v=>v=r) (fun v hv _ W1=>?_) ?_
 ·subst hv
  refine Al W1 ?_
  refine kr [4] (by simp;rfl) ?_
  exact trr ⟨[11],by simp,rfl,by simp⟩
 refine trb (Mm (fun (pre:List Int) (s:Nat×List Bool×List Int)=>({ nt:=51,env:=[(0,.d (.slice (AB (DJ B2) a0))),(5,.vec 11),(6,.cut 16 1 pre.length s.2.2.length)],box:=[],vec:=[(11,⟨4,1,AB B2 s.2.1⟩),(16,⟨3,1,AB (AH .i64) (pre++s.2.2)⟩)]}:St)) (fun pre s=>pre.length≤s.1) (g0:=[]) (by simp) h0 (wk (by simp[wkI,AB])) fun G1 pre s o hi h1 hg1 he1=>?_)
 unfold directory_table_upward_l0 at h1
 refine trq ?_
 obtain⟨k,out,queue⟩:=s
 dsimp only at h1 hi ⊢
 refine kr [0,5,6,19] (by simp;rfl) ?_
 cases queue with
 |nil=>
  refine trc (b:=false) (by simp) (fun c=>by cases c) (fun _=>?_)
  refine Af ?_
  exact⟨_,(he1 _ (Option.some.inj h1)),wk (by simp[wkI])⟩
 |cons q rest=>
  dsimp only at h1
  refine trc (b:=true) (by simp) (fun _=>?_) (fun c=>by cases c)
  refine trk ?_
  obtain⟨row,p3,h1⟩:=bnd h1
  replace p3:=AT p3
  have p3':=p3;try simp at p3'
  obtain⟨e2,hI2,h1⟩:=bnd h1
  obtain⟨_,p4,h1⟩:=bnd h1
  replace p4:=AZ p4
  refine trq ?_
  refine trb ?_
  have hq:(pre++q::rest)[pre.length]? =some q:=by simp
  refine kr [0,5,6,27,28,29] (by simp[hq,p3,p3'];rfl) ?_
  refine tjv (fun v:List Int×List Bool×List Int=>({ nt:=51,env:=[(0,.d (.slice (AB (DJ B2) a0))),(5,.vec 11),(6,.cut 16 1 v.1.length v.2.2.length)],box:=[],vec:=[(11,⟨4,1,AB B2 v.2.1⟩),(16,⟨3,1,AB (AH .i64) (v.1++v.2.2)⟩)]}:St)) (fun v=>v.2=e2∧v.1.length≤k) (fun v hv _ W1=>?_) ?_
  ·obtain⟨pre',out',queue'⟩:=v
   obtain⟨rfl,hle⟩:=hv
   dsimp only at hle h1 p4 W1 ⊢
   refine Al W1 ?_
   cases queue' with
   |nil=>simp at p4
   |cons q' rest'=>
    have q1:(1:Int)≤(rest'.length:Int)+1:=by omega
    refine lr (by simp[q1];rfl) ?_
    exact⟨pre'++[q'],_,hg1 _ (Option.some.inj h1),by simp;omega,wk (by simp[wkI])⟩
  ·refine trb (Mm (fun (pre:List Int) (s:Int×List Bool×List Int)=>({ nt:=51,env:=[(0,.d (.slice (AB (DJ B2) a0))),(5,.vec 11),(6,.cut 16 1 pre.length s.2.2.length),(27,.d (.slice (AB B2 row))),(28,.d (.int .i64 (row.length:Int))),(29,.d (.int .i64 s.1))],box:=[],vec:=[(11,⟨4,1,AB B2 s.2.1⟩),(16,⟨3,1,AB (AH .i64) (pre++s.2.2)⟩)]}:St)) (fun pre s=>pre.length≤k∧0 < s.2.2.length) (g0:=pre) (by simp;omega) hI2 (wk (by simp[wkI])) fun G2 pre2 s2 o2 hi2 h2 hg2 he2=>?_)
   unfold directory_table_upward_l1 at h2
   obtain⟨i2,out2,queue2⟩:=s2
   dsimp only at h2 hi2 ⊢
   refine kr [0,5,6,27,28,29,30] (by simp;rfl) ?_
   refine trq ?_
   refine trc (b:=(decide (i2 < (row.length:Int)))) (by simp) (fun c5=>?_) (fun c5=>?_)
   ·rw[if_pos c5] at h2
    refine trk ?_
    refine trq ?_
    refine trb ?_
    obtain⟨x,p5,h2⟩:=bnd h2
    replace p5:=AT p5
    have p5':=p5;try simp at p5'
    refine kr [0,5,6,7,8,27,28,29] (by simp[p5,p5'];rfl) ?_
    refine kc ?_
    refine ko [0,5,6,7,8,27,28,29,35] 2 (by simp;rfl) ?_
    obtain⟨v,hv,h2⟩:=bnd h2
    refine AG 35 x (by simp) (fun c8=>?_) (fun c8=>?_)
    ·rw[if_pos c8] at hv
     obtain⟨_,p9,hv⟩:=bnd hv
     replace p9:=AZ p9
     obtain⟨p9a,p9b⟩:=p9
     have p9c:i2 < (out2.length:Int):=by omega
     obtain⟨y,p6,hv⟩:=bnd hv
     replace p6:=AT p6
     have p6':=p6;try simp at p6'
     cases hv
     refine ko [0,5,6,7,8,27,28,29,41] 6 (by simp (maxSteps:=1000000) [-getElem?_pos,List.getElem?_cons_zero,List.getElem?_cons_succ,p6,p6',p9a,p9c];rfl) ?_
     refine tpN ?_
     refine trc (b:=!y) (by simp) (fun c9=>?_) (fun c9=>?_)
     ·rw[if_pos c9] at h2
      obtain⟨_,p7,h2⟩:=bnd h2
      replace p7:=AZ p7
      obtain⟨_,p8,h2⟩:=bnd h2
      replace p8:=AZ p8
      have p8':=p8;try simp at p8'
      refine kc1 ?_
      refine ko [0,5,7,27,28,29,42,43,44,46] 5 (by simp;rfl) ?_
      refine Pt (x:=.tmp 44) (y:=.tmp 46) (t:=22) (e:=3) (d:=47) (n:=16) (z:=1) (lo:=pre2.length) (k:=queue2.length) (s:=⟨3,1,AB (AH .i64) (pre2++queue2)⟩) (zs:=[.d (.int .i64 0)]) (ys:=[[.int .i64 i2]])
       (by simp) rfl rfl (by simp) (by simp[get]) (by simp[get]) rfl rfl rfl Tryz.underlying22 (by kernel_rfl) (by decide) (by kernel_rfl) (by decide) (by simp) (by simp) (by simp) (by simp) hi2.2 (by simp;omega) ?_ ?_
      ·refine ko [0,5,6,27,28,29] 3 (by simp (maxSteps:=1000000) [-getElem?_pos,List.getElem?_cons_zero,List.getElem?_cons_succ,St.appQ,p6,p6',p9a,p9c];rfl) ?_
       refine tpN ?_
       refine lr (by simp;rfl) ?_
       exact⟨pre2,_,hg2 _ (Option.some.inj h2),⟨hi2.1,by simp⟩,wk (by simp[wkI])⟩
      ·refine ko [0,5,6,27,28,29] 3 (by simp (maxSteps:=1000000) [-getElem?_pos,List.getElem?_cons_zero,List.getElem?_cons_succ,St.appQ,p6,p6',p9a,p9c];rfl) ?_
       refine tpN ?_
       refine lr (by simp;rfl) ?_
       exact⟨[],_,hg2 _ (Option.some.inj h2),⟨by simp,by simp⟩,wk (by simp[wkI])⟩
     ·rw[if_neg (by rw[c9];decide)] at h2
      refine trk ?_
      refine lr (by simp;rfl) ?_
      exact⟨pre2,_,hg2 _ (Option.some.inj h2),hi2,wk (by simp[wkI])⟩
    ·rw[if_neg (by rw[c8];decide)] at hv
     cases hv
     rw[if_neg (by decide)] at h2
     refine AR 5 [] (by kernel_rfl) ?_
     refine ko [0,5,6,7,8,27,28,29,41] 1 (by simp[c8];rfl) ?_
     refine tpN ?_
     refine trc (b:=false) (by simp) (fun c9=>by cases c9) (fun c9=>?_)
     refine trk ?_
     refine lr (by simp;rfl) ?_
     exact⟨pre2,_,hg2 _ (Option.some.inj h2),hi2,wk (by simp[wkI])⟩
   ·rw[if_neg (by rw[c5];decide)] at h2
    refine Af ?_
    exact⟨(pre2,out2,queue2),⟨he2 _ (Option.some.inj h2),hi2.1⟩,wk (by simp[wkI])⟩
end Go.Vl
namespace Go.Vl
open Go Go.Proofs
def Fy (l:List Int):List Int:=l.mergeSort fun x y=>decide (x≤y)
theorem Ny {a b:List Int} (h:a.Perm b):Fy a=Fy b:=by
 unfold Fy
 refine List.Perm.eq_of_pairwise (le:=fun x y:Int=>x≤y) (fun x y _ _ h1 h2=>by omega) ?_ ?_ ((List.mergeSort_perm ..).trans (h.trans (List.mergeSort_perm ..).symm))
 ·refine List.Pairwise.imp (fun {a b} h=>?_) (List.pairwise_mergeSort (le:=fun x y:Int=>decide (x≤y)) (fun a b c h1 h2=>by simp at h1 h2 ⊢;omega) (fun a b=>by simp;omega) a)
  simpa using h
 ·refine List.Pairwise.imp (fun {a b} h=>?_) (List.pairwise_mergeSort (le:=fun x y:Int=>decide (x≤y)) (fun a b c h1 h2=>by simp at h1 h2 ⊢;omega) (fun a b=>by simp;omega) b)
  simpa using h
theorem Ld (l:List Int):(Fy l).Pairwise (·≤·):=by
 unfold Fy
 refine List.Pairwise.imp (fun {a b} h=>?_) (List.pairwise_mergeSort (le:=fun x y:Int=>decide (x≤y)) (fun a b c h1 h2=>by simp at h1 h2 ⊢;omega) (fun a b=>by simp;omega) l)
 simpa using h
theorem Mo {l:List Int} (h:l.Pairwise (·≤·)):Fy l=l:=by
 refine List.Perm.eq_of_pairwise (le:=fun x y:Int=>x≤y) (fun x y _ _ h1 h2=>by omega) (Ld l) h (List.mergeSort_perm ..)
theorem Kt {ν:Type} (n:Nat):∀(l:List (Int×ν)) (s:List Int),s.length+l.length≤n→C9 (fun (s:List Int) (q:Int×ν)=>(ck (s.length+1≤n)).bind fun _=>some (Lp.go (ε:=List Int) (s++[q.1]))) (fun s=>s) s l=some (s++l.map (·.1))
 |[],s,_=>by simp[C9]
 |q::l,s,h=>by
  simp only[C9]
  rw[Cn (by simp at h;omega)]
  simp only[Option.bind_some]
  rw[Kt n l _ (by simp at h ⊢;omega)]
  simp
noncomputable def access_Granted (a0:AJ) (a1:Int) (a2:Int):Option (List Int):=
 (access_known a0 a1).bind fun y1=>
 if(!y1)=true then some [] else
 (access_grants a0 a1 a2).bind fun m=>
 (ck (m.length≤1000000)).bind fun _=>
 some (Fy (m.map (·.1)))
theorem Gt {a0:AJ} {a1 a2:Int} {r:List Int} (h0:access_Granted a0 a1 a2=some r):Ac Tryz.prog 154 [] [.agg (AX a0),.d (.int .i64 a1),.d (.int .i64 a2)] (.d (.slice (AB (AH .i64) r))) []:=by
 unfold access_Granted at h0
 refine LK (nt:=29) (rs:=[.tmp 6]) Tryz.func154 rfl Tryz.ntmps154 rfl (by simp) (by decide) rfl fun K hK=>?_
 refine kr [1,2,3] (by simp;rfl) ?_
 refine trq ?_
 refine kc ?_
 refine ko [1,2,3,9,10] 2 (by simp;rfl) ?_
 replace h0:=bnd h0;obtain⟨y1,hy1,h0⟩:=h0
 refine AM [1,2,3,11] [] (Er hy1) rfl rfl rfl Tryz.call120 (by simp) (by simp;rfl) ?_
 refine ko [1,2,3,12] 1 (by simp;rfl) ?_
 refine tpN ?_
 refine trc (b:=(!y1)) (by simp) (fun c3=>?_) (fun c3=>?_)
 ·rw[if_pos c3] at h0
  refine kr [6] (by simp;rfl) ?_
  cases h0
  exact trr ⟨[],by simp,rfl,by simp⟩
 ·rw[if_neg (by rw[c3];decide)] at h0
  replace h0:=bnd h0;obtain⟨m,hm,h0⟩:=h0
  obtain⟨_,hml,h0⟩:=bnd h0
  replace hml:=AZ hml
  refine trk ?_
  refine kr [1,2,3,7] (by simp;rfl) ?_
  refine sjv (fun v:List Int=>({ nt:=29,env:=[(7,.vec 25)],box:=[],vec:=[(25,⟨3,1,AB (AH .i64) v⟩)]}:St)) (fun v=>v.length≤1000000∧Fy v=r) (fun v hv=>?_) ?_
  ·have hy:sYSort_int_vec0 v=some r:=by
    unfold sYSort_int_vec0
    rw[Cn (by have:=hv.1;omega),←hv.2];rfl
   refine kc ?_
   refine ko [7,26] 1 (by simp;rfl) ?_
   refine NH [7] [] [25] [(7,25),(26,25)] (Dh hy) rfl rfl rfl Tryz.call116 (by simp) (by simp;rfl) ?_
   refine tpN ?_
   refine Wa 25 ?_
   refine kr [6] (by simp;rfl) ?_
   exact trr ⟨[],by simp,rfl,by simp⟩
  ·refine Wb 7 25 3 1 (by simp) (by simp) ?_
   refine Ps 4 rfl rfl rfl rfl Tryz.underlying256 ?_
   refine ko [7,13,14,15] 3 (by simp;rfl) ?_
   refine AM [7,16] [] (Ha hm) rfl rfl rfl Tryz.call195 (by simp) (by simp;rfl) ?_
   refine tpN ⟨ES 256 1 false false,2,AB (C7 (AH .i64) (AH .i64)) m,by simp,by simp,fun rr=>?_⟩
   refine Po ?_
   refine SO (row:=C7 (AH .i64) (AH .i64)) (left0:=m) (kA:=fun q=>.d (.int .i64 q.1)) (vA:=fun q=>.d (.int .i64 q.2)) (S:=fun s:List Int=>({ nt:=29,env:=[(7,.vec 25),(17,.iter rr)],box:=[],vec:=[(25,⟨3,1,AB (AH .i64) s⟩)]}:St))
    (body:=fun (s:List Int) (q:Int×Int)=>(ck (s.length+1≤268435456)).bind fun _=>some (Lp.go (ε:=List Int) (s++[q.1]))) (fin:=fun s=>s) (s0:=[]) (Φ:=fun v=>v.length≤1000000∧Fy v=r)
    (List.eq_nil_of_length_eq_zero (by simpa using hK)) ⟨rfl,rfl,rfl⟩ rfl rfl rfl rfl rfl rfl (by decide) (fun s=>by simp) (fun s=>by simp) (fun q=>?_) (fun q=>?_) (fun l hl=>?_) ?_ ?_ ?_
   ·simp[E7,Qq,NI,C7]
   ·simp[E7,Qr,NI,C7]
   ·refine⟨_,Kt 268435456 l [] (by rw[hl.length_eq];simp;omega),?_,?_⟩
    ·simp only[List.nil_append,List.length_map];rw[hl.length_eq];exact hml
    ·simp only[List.nil_append];rw[← Option.some.inj h0];exact Ny (hl.map _)
   ·simp[wkI]
   ·intro K' G s q o hK' hb hg he
    obtain⟨_,h2,hb⟩:=bnd hb
    have h2:=AZ h2
    have h3:s.length≤268435455:=by omega
    cases hb
    refine ko [7,8,17] 2 (by simp;rfl) ?_
    refine tpN ?_
    refine lr (by simp[h3];rfl) ?_
    exact⟨_,hg _ rfl,by simp[wkI]⟩
   ·intro v hv
    exact⟨v,hv,wk (by simp[wkI])⟩
end Go.Vl
namespace Go.Vl
open Go Go.Proofs Go.RowKit
noncomputable def dirRows (t:Int):List Eb→List (List Bool)→Option (List (List Bool))
 |[],T=>some T
 |x::l,T=>
  if x.Time≤t then
   (ck (0≤x.Principal∧0≤x.Group)).bind fun _=>
   (T[x.Principal.toNat]?).bind fun r=>
   (ck (x.Group.toNat < T.length)).bind fun _=>
   dirRows t l (T.set x.Principal.toNat (r.set x.Group.toNat (x.Kind==1)))
  else dirRows t l T
noncomputable def directory_at (a0:AI) (a1:Int):Option (List (List Bool)):=
 (ck (0 < a0.Kinds.length∧a0.Kinds.length≤1000000∧a0.Events.length≤1000000)).bind fun _=>
 dirRows a1 a0.Events (List.replicate a0.Kinds.length (List.replicate a0.Kinds.length false))
theorem Za:((Tryz.prog.info? 4).bind fun i=>i.zero.map fun z=>(z,i.size,i.bytes))=some (.bool false,1,1):=by kernel_rfl
theorem ZR:∃i,Tryz.prog.info? 4=some i∧i.zero=some (.bool false)∧i.size=1∧i.bytes=1:=by
 have h:=Za
 cases hi:Tryz.prog.info? 4 with
 |none=>rw[hi] at h;cases h
 |some i=>
  rw[hi] at h
  simp only[Option.bind_some] at h
  cases hz:i.zero with
  |none=>rw[hz] at h;cases h
  |some z=>
   rw[hz] at h
   have h:=Option.some.inj h
   injection h with h1 h2
   injection h2 with h2 h3
   exact⟨i,rfl,by rw[hz,h1],h2,h3⟩
theorem IL {a0:AI} {a1:Int} {r:List (List Bool)} (h0:directory_at a0 a1=some r):Ac Tryz.prog 193 [] [.agg (AY a0),.d (.int .i64 a1)] (.d (.slice (AB (DJ B2) r))) []:=by
 unfold directory_at at h0
 obtain⟨_,p1,h0⟩:=bnd h0
 replace p1:=AZ p1
 obtain⟨p1,p2,p3⟩:=p1
 obtain⟨i4,hi4,hz4,hs4,hb4⟩:=ZR
 refine LK (nt:=50) (rs:=[.tmp 4]) Tryz.func193 rfl Tryz.ntmps193 rfl (by simp) (by decide) rfl fun K hK=>?_
 refine kr [1,2] (by simp;rfl) ?_
 refine TJ 2 [.d (.slice (AB (AH .i64) a0.Kinds)),.d (.slice (AB AS a0.Events))] [.slice (AB (AH .i64) a0.Kinds),.slice (AB AS a0.Events)] (by simp) (by simp) hK (by decide) (fun i hi=>absurd hi (Nat.not_lt_zero i)) ?_
 have p1z:(0:Int)≤(a0.Kinds.length:Int)∧(a0.Kinds.length:Int)≤268435456:=by omega
 refine kr [1,2,5] (by simp[p1z];rfl) ?_
 intro a w p R
 have hKi:K.ios=[]:=List.eq_nil_of_length_eq_zero hK
 obtain⟨G,cap,hcap,H⟩:=HT.start (e1:=4) (t:=5) (st':=({ nt:=50,env:=[(1,.d (.int .i64 a1)),(2,.cptr [.slice (AB (AH .i64) a0.Kinds),.slice (AB AS a0.Events)] 0)],box:=[],vec:=[]}:St)) R hKi (m:=12) (e0:=251) (n:=a0.Kinds.length) (rows:=List.replicate a0.Kinds.length [.slice []]) (by simp[get]) (by decide) (by simp) p1 (by simp[get]) (by simp[wkI]) (by simp[St.lv,get])
 generalize hn:a0.Kinds.length=n at *
 have e5:a.eval (.tmp 5)=.slice (some ⟨G,0,none⟩) n cap:=H.val
 refine wp_seq (wp_seq (wp_region_lit ?_))
 refine Ck rfl (v:=.slice (some ⟨G,0,none⟩) n cap) (w':=w) (by simp[execOp,e5]) ?_
 have e13:(a.put (some 13) (.slice (some ⟨G,0,none⟩) n cap)).eval (.tmp 13)=.slice (some ⟨G,0,none⟩) n cap:=BR (by rw[H.nt];simp)
 have H:=H.put (d:=13) (x:=.undef) (u:=.slice (some ⟨G,0,none⟩) n cap) (fun _ _=>.undef) (by simp) (by simp)
 refine Ck rfl (v:=.int .i64 (n:Int)) (w':=w) (by simp[execOp,resolve,invoke,builtin,e13,Builtin.len_];rfl) ?_
 have H:=H.put (d:=14) (x:=.d (.int .i64 (n:Int))) (u:=.int .i64 (n:Int)) (fun _ _=>.d .int) (by simp[St.put]) (by simp)
 refine H.wpl (fun K' _=>ko [1,2,14,15] 1 (by simp[St.put];rfl) BA) (by simp) fun a w H=>?_
 refine wp_block (wp_loop_ghost (fun m a w=>∃(i:Nat) (gs:List Nat),HT K 251 4 n 5 G (.slice (some ⟨G,0,none⟩) n cap) gs (List.replicate i (List.replicate n false)) ({ nt:=50,env:=[(1,.d (.int .i64 a1)),(2,.cptr [.slice (AB (AH .i64) a0.Kinds),.slice (AB AS a0.Events)] 0),(14,.d (.int .i64 (n:Int))),(15,.d (.int .i64 (i:Int)))],box:=[],vec:=[]}:St) a w∧i≤n∧m=n - i) n ⟨0,[],H,Nat.zero_le _,rfl⟩ fun m a w ⟨i,gs,H,hi,hm⟩=>?_)
 refine H.reg (fun K' _=>ko [1,2,14,15,16] 1 (by simp;rfl) BA) (by simp) fun a w H=>?_
 have h16:=H.bool (s:=16) (c:=decide ((i:Int) < (n:Int))) (by simp[St.look,get])
 refine wp_seq (wp_cond_split h16 (fun hch=>wp_skip (Cw ?_)) fun hch=>wp_exit ?_)
 ·have hil:i < n:=by have:=of_decide_eq_true hch;omega
  refine wp_seq (wp_block ?_)
  refine H.reg (fun K' _=>ko [1,2,6,14,15] 2 (by simp;rfl) BA) (by simp) fun a w H=>?_
  refine wp_region_lit ?_
  refine Ck rfl (v:=(.slice (some ⟨G,0,none⟩) n cap)) (w':=w) (by simp[execOp,H.val]) ?_
  have e18:(a.put (some 18) (.slice (some ⟨G,0,none⟩) n cap)).eval (.tmp 18)=(.slice (some ⟨G,0,none⟩) n cap):=BR (by rw[H.nt];simp)
  have H:=H.put (d:=18) (x:=.undef) (u:=(.slice (some ⟨G,0,none⟩) n cap)) (fun _ _=>.undef) (by simp) (by simp)
  generalize a.put (some 18) (.slice (some ⟨G,0,none⟩) n cap)=a at *
  obtain⟨K1,p1',k1,k2,k3,R1,H1,hv⟩:=H
  refine SY (G:=fun a w=>∃p,Rel K1 ({ nt:=50,env:=[(1,.d (.int .i64 a1)),(2,.cptr [.slice (AB (AH .i64) a0.Kinds),.slice (AB AS a0.Events)] 0),(14,.d (.int .i64 (n:Int))),(15,.d (.int .i64 (i:Int))),(19,.d (.int .i64 (i:Int))),(22,.d (.int .i64 (n:Int)))],box:=[],vec:=[]}:St) a w p∧D7 w (Hf K K1) 251 4 n G gs (List.replicate i (List.replicate n false))∧a.eval (.tmp 5)=(.slice (some ⟨G,0,none⟩) n cap)∧a.eval (.tmp 18)=(.slice (some ⟨G,0,none⟩) n cap)) 4 (SS (t:=5) (t':=18) (ko [1,2,14,15,19,22] 4 (by simp[St.put,hn]) BA) (by simp) (by simp) R1 hv e18 fun a' w' p' R' hv' e18'=>⟨rfl,p',R',H1.keep k1 R1 R',hv',e18'⟩) fun a w ⟨p',R',H',hv',e18'⟩=>?_
  refine HT.grow (t:=5) k1 hKi k2 k3 R' H' (by simpa using hil) p2 Tryz.underlying251 Tryz.underlying253 Q1 Q1 hi4 hz4 hs4 hb4 rfl rfl rfl rfl rfl rfl rfl rfl rfl e18' (Jq R' (by simp[St.look,get])) (Jq R' (by simp[St.look,get])) hv' (by decide) (by decide) (by decide) (by decide) (by decide) (by simp) (by simp) (st':=({ nt:=50,env:=[(1,.d (.int .i64 a1)),(2,.cptr [.slice (AB (AH .i64) a0.Kinds),.slice (AB AS a0.Events)] 0),(14,.d (.int .i64 (n:Int))),(15,.d (.int .i64 (i:Int)))],box:=[],vec:=[]}:St)) (by simp[wkI,St.put]) fun gs a w H=>?_
  refine Ic (Cw ?_)
  have hw:IntKind.i64.wrap ((i:Int)+1)=(i:Int)+1:=QS (by omega) (by omega)
  refine H.regL (fun K' _=>ko [1,2,14,15] 2 (by simp;rfl) BA) (by simp) fun a w H=>?_
  refine⟨n - (i+1),by omega,i+1,gs,?_,by omega,rfl⟩
  rw[List.replicate_succ']
  exact H.weak (by simp[wkI,hw])
 have hin:i=n:=by have:=of_decide_eq_false hch;omega
 subst hin
 refine Fg (Fg (Ox (Cw ?_)))
 refine wp_seq ?_
 refine H.reg (fun K' _=>ko [1,27,28,29] 4 (by simp;rfl) BA) (by simp) fun a w H=>?_
 refine wp_block (wp_loop_ghost (fun m a w=>∃(j:Nat) (gs:List Nat) (T:List (List Bool)),HT K 251 4 i 5 G (.slice (some ⟨G,0,none⟩) i cap) gs T ({ nt:=50,env:=[(1,.d (.int .i64 a1)),(27,.d (.slice (AB AS a0.Events))),(28,.d (.int .i64 (a0.Events.length:Int))),(29,.d (.int .i64 (j:Int)))],box:=[],vec:=[]}:St) a w∧dirRows a1 (a0.Events.drop j) T=some r∧T.length=i∧j≤a0.Events.length∧m=a0.Events.length - j) a0.Events.length ⟨0,gs,_,H,h0,by simp,Nat.zero_le _,rfl⟩ fun m a w ⟨j,gs,T,H,hd,hl,hj,hm⟩=>?_)
 refine H.reg (fun K' _=>ko [1,27,28,29,30] 1 (by simp;rfl) BA) (by simp) fun a w H=>?_
 have h30:=H.bool (s:=30) (c:=decide ((j:Int) < (a0.Events.length:Int))) (by simp[St.look,get])
 refine wp_seq (wp_cond_split h30 (fun hch=>wp_skip (Cw ?_)) fun hch=>wp_exit ?_)
 ·have hjl:j < a0.Events.length:=by have:=of_decide_eq_true hch;omega
  obtain⟨c,hcc⟩:∃c,a0.Events[j]? =some c:=⟨_,List.getElem?_eq_getElem hjl⟩
  have hdrop:a0.Events.drop j=c::a0.Events.drop (j+1):=by
   rw[List.getElem?_eq_getElem hjl] at hcc
   rw[List.drop_eq_getElem_cons hjl,Option.some.inj hcc]
  rw[hdrop] at hd
  unfold dirRows at hd
  refine wp_seq (wp_block ?_)
  refine H.reg (fun K' _=>ko [1,8,27,28,29] 4 (by simp[hcc];rfl) BA) (by simp) fun a w H=>?_
  have H:=H.frzB (m:=8) (cs:=KF c) (row:=AS c) (by simp[get]) (by simp) (by decide)
  have H:=H.weak (st':=({ nt:=50,env:=[(1,.d (.int .i64 a1)),(8,.cptr (AS c) 0),(27,.d (.slice (AB AS a0.Events))),(28,.d (.int .i64 (a0.Events.length:Int))),(29,.d (.int .i64 (j:Int)))],box:=[],vec:=[]}:St)) (by simp[wkI,St.frzB])
  refine H.reg (fun K' _=>ko [1,8,27,28,29,36] 4 (by simp;rfl) BA) (by simp) fun a w H=>?_
  have h36:=H.bool (s:=36) (c:=decide (c.Time≤a1)) (by simp[St.look,get])
  have H:=H.weak (st':=({ nt:=50,env:=[(1,.d (.int .i64 a1)),(8,.cptr (AS c) 0),(27,.d (.slice (AB AS a0.Events))),(28,.d (.int .i64 (a0.Events.length:Int))),(29,.d (.int .i64 (j:Int)))],box:=[],vec:=[]}:St)) (by simp[wkI])
  have hw:IntKind.i64.wrap ((j:Int)+1)=(j:Int)+1:=QS (by omega) (by omega)
  refine wp_cond_split h36 (fun hch=>?_) fun hch=>wp_skip ?_
  ·rw[if_pos (of_decide_eq_true hch)] at hd
   obtain⟨_,q1,hd⟩:=bnd hd
   replace q1:=AZ q1
   obtain⟨q1,q2⟩:=q1
   obtain⟨row,q3,hd⟩:=bnd hd
   obtain⟨_,q4,hd⟩:=bnd hd
   replace q4:=AZ q4
   refine wp_mono (Q:=fun e a w=>e=.normal∧HT K 251 4 i 5 G (.slice (some ⟨G,0,none⟩) i cap) gs (T.set c.Principal.toNat (row.set c.Group.toNat (c.Kind==1))) ({ nt:=50,env:=[(1,.d (.int .i64 a1)),(27,.d (.slice (AB AS a0.Events))),(28,.d (.int .i64 (a0.Events.length:Int))),(29,.d (.int .i64 (j:Int)))],box:=[],vec:=[]}:St) a w) (H.draw (st':=({ nt:=50,env:=[(1,.d (.int .i64 a1)),(8,.cptr (AS c) 0),(27,.d (.slice (AB AS a0.Events))),(28,.d (.int .i64 (a0.Events.length:Int))),(29,.d (.int .i64 (j:Int)))],box:=[],vec:=[]}:St)) (by simp[wkI]) hKi fol fun K' p' w' k1 k2 k3 R H6 hreg hsee=>?_) fun e a w ⟨he,H⟩=>?_
   case refine_2=>
    subst he
    refine Ic (Cw ?_)
    refine H.regL (fun K' _=>ko [1,27,28,29] 2 (by simp;rfl) BA) (by simp) fun a w H=>?_
    exact⟨a0.Events.length - (j+1),by omega,j+1,gs,_,H.weak (by simp[wkI,hw]),hd,by simpa using hl,by omega,rfl⟩
   have e5:=hreg
   refine(?_:wpAnyH Tryz.prog .any _ _ _ (11+1) _ a w')
   refine V5 (i:=0) rfl (by decide +kernel) (by decide +kernel) (by decide +kernel) (fun c a w q=>absurd q.1 (by simp)) rfl rfl rfl e5 (KJ.of k1 R) ?_
   have e37:(a.put (some 37) (.slice (some ⟨G,0,none⟩) i cap)).eval (.tmp 37)=(.slice (some ⟨G,0,none⟩) i cap):=BR (by rw[R.nt];simp)
   have e5:(a.put (some 37) (.slice (some ⟨G,0,none⟩) i cap)).eval (.tmp 5)=(.slice (some ⟨G,0,none⟩) i cap):=(eval_put_ne (by simp)).trans e5
   have R2:=R.put (d:=37) (x:=.undef) (v:=(.slice (some ⟨G,0,none⟩) i cap)) .undef (by simp)
   generalize a.put (some 37) (.slice (some ⟨G,0,none⟩) i cap)=a at *
   refine IE [5,37] (by decide +kernel) (fun c a w q=>absurd q.1 (by simp)) (fun w2 h q hq=>Aq (h.agree k1 R hsee _ hq)) (KJ.of k1 R) (n:=5) [1,2,5,6,7,8] _ _ _ (by decide +kernel) (SV (by decide +kernel)) R2 (Nw rfl rfl rfl (by simp[Bz,Ef,Bw,Bv,St.put];rfl)) fun a4 R4 hk=>?_
   have e5:a4.eval (.tmp 5)=(.slice (some ⟨G,0,none⟩) i cap):=(hk 5 (by simp)).trans e5
   have e37:a4.eval (.tmp 37)=(.slice (some ⟨G,0,none⟩) i cap):=(hk 37 (by simp)).trans e37
   have ei:a4.eval (.tmp 39)=.int .i64 (c.Principal.toNat:Int):=by
    rw[Int.toNat_of_nonneg q1];exact Jq R4 (by simp[St.look,get,St.put])
   have ej:a4.eval (.tmp 43)=.int .i64 (c.Group.toNat:Int):=by
    rw[Int.toNat_of_nonneg q2];exact Jq R4 (by simp[St.look,get,St.put])
   have ek:a4.eval (.tmp 45)=.int .i64 c.Kind:=Jq R4 (by simp[St.look,get,St.put])
   refine(?_:wpAnyH Tryz.prog .any _ _ _ (4+1) _ a4 w')
   refine wpAnyH_take (v:=.bool (c.Kind==1)) (i:=9) rfl (by decide +kernel) (by decide +kernel) (by decide +kernel) (fun c a w q=>absurd q.1 (by simp)) (.inl ⟨by simp[Region.wanted],fun w2 _=>V9 p' rfl Tryz.underlying3 ek rfl w2⟩) (KJ.of k1 R) ?_
   change wpAnyH Tryz.prog .any _ _ _ 4 _ (a4.put (some 46) (.bool (c.Kind==1))) w'
   have eb:(a4.put (some 46) (.bool (c.Kind==1))).eval (.tmp 46)=.bool (c.Kind==1):=BR (by rw[R4.nt];simp[St.put])
   have e5:(a4.put (some 46) (.bool (c.Kind==1))).eval (.tmp 5)=_:=(eval_put_ne (by simp)).trans e5
   have e37:(a4.put (some 46) (.bool (c.Kind==1))).eval (.tmp 37)=_:=(eval_put_ne (by simp)).trans e37
   have ei:(a4.put (some 46) (.bool (c.Kind==1))).eval (.tmp 39)=_:=(eval_put_ne (by simp)).trans ei
   have ej:(a4.put (some 46) (.bool (c.Kind==1))).eval (.tmp 43)=_:=(eval_put_ne (by simp)).trans ej
   have R4:=R4.put (d:=46) (x:=.undef) (v:=.bool (c.Kind==1)) .undef (by simp[St.put])
   generalize a4.put (some 46) (.bool (c.Kind==1))=a5 at *
   exact Pw k1 hKi k2 k3 R4 H6 q3 (by omega) Tryz.underlying251 Tryz.underlying253 Q1 sz4 sz4 Y7 (i1:=3) (i2:=4) (i3:=10) (i4:=11) rfl rfl rfl rfl rfl rfl rfl rfl rfl rfl rfl rfl rfl rfl rfl rfl (by decide +kernel) (by decide +kernel) (by decide +kernel) (by decide +kernel) (by decide +kernel) e37 ei ej eb e5 (by decide) (by decide) (by decide) (by decide) (by decide) (by decide) (by decide) (by decide) (by simp[St.put]) (by simp[St.put]) (by simp[St.put]) (by simp[wkI,St.put])
  ·rw[if_neg (of_decide_eq_false hch)] at hd
   refine Ic (Cw ?_)
   refine H.regL (fun K' _=>ko [1,27,28,29] 2 (by simp;rfl) BA) (by simp) fun a w H=>?_
   exact⟨a0.Events.length - (j+1),by omega,j+1,gs,T,H.weak (by simp[wkI,hw]),hd,hl,by omega,rfl⟩
 have hje:j=a0.Events.length:=by have:=of_decide_eq_false hch;omega
 subst hje
 rw[List.drop_eq_nil_of_le (Nat.le_refl _)] at hd
 have hd:T=r:=by injection hd
 subst hd
 refine Fg (Fg (Ox (Cw ?_)))
 obtain⟨p',R'⟩:=H.show hcap hl
 refine ZQ (Q:=fun e s=>Wc Tryz.prog [ResultVar.tmp 4] (.d (.slice (AB (DJ B2) T))) [] e s) R' (kr [4] (by simp[St.put];rfl) (trr ⟨[],by simp,rfl,by simp⟩)) fun e s a' w' p' R' hq=>?_
 exact⟨s,p',R',hq⟩
end Go.Vl
namespace Go.Vl
open Go Go.Proofs
noncomputable def copies_state_happen_vec0 (a0:List Int) (a1:Ab):Option ((List Int)):=
 if(a1.Kind==5)=true then
  (ck (0≤a1.Place∧(Int.toNat a1.Place) < (a0).length)).bind fun _=>
  (idx a0 a1.Place).bind fun x1=>
  (copies_bit a1.Content).bind fun y2=>
  (ck (0≤a1.Place∧(Int.toNat a1.Place) < (a0).length)).bind fun _=>
  some (a0.set (Int.toNat a1.Place) (bOr .u64 x1 y2))
 else
 if(a1.Kind==6)=true then
  (ck (0≤a1.Place∧(Int.toNat a1.Place) < (a0).length)).bind fun _=>
  (idx a0 a1.Place).bind fun x3=>
  (copies_bit a1.Content).bind fun y4=>
  (ck (0≤a1.Place∧(Int.toNat a1.Place) < (a0).length)).bind fun _=>
  some (a0.set (Int.toNat a1.Place) (N6 .u64 x3 y4))
 else
 if(a1.Kind==7)=true then
  (ck (0≤a1.Place∧(Int.toNat a1.Place) < (a0).length)).bind fun _=>
  (idx a0 a1.Place).bind fun x5=>
  (ck (0≤a1.From∧(Int.toNat a1.From) < (a0).length)).bind fun _=>
  (idx a0 a1.From).bind fun x6=>
  (ck (0≤a1.Place∧(Int.toNat a1.Place) < (a0).length)).bind fun _=>
  some (a0.set (Int.toNat a1.Place) (bOr .u64 x5 x6))
 else
  some a0
theorem DT {a0:List Int} {a1:Ab} {r:(List Int)} (h0:copies_state_happen_vec0 a0 a1=some r):Ka Tryz.prog 150 [] [⟨193,1,AB (AH .u64) a0⟩] [.vec (InV 0),.agg (Fv a1)] (.tup []) [] [⟨193,1,AB (AH .u64) r⟩]:=by
 unfold copies_state_happen_vec0 at h0
 refine V7 0 (nt:=44) (rs:=[]) Tryz.func150 rfl Tryz.ntmps150 rfl (by simp) (by decide) rfl rfl fun K v hK=>?_
 refine Gs (ko [0,3] 1 (by simp[Ap,A5];rfl) BA) (by simp) ?_
 refine Gs (ko [0,3,5] 2 (by simp[Ap,A5];rfl) BA) (by simp) ?_
 refine Pu ?_
 refine Gs (ko [0,3,5,6] 2 (by simp[Ap,A5];rfl) BA) (by simp) ?_
 refine Jt (b:=(a1.Kind==5)) (by simp[St.look,get]) (fun c1=>?_) (fun c1=>?_)
 ·rw[if_pos c1] at h0
  refine Js [[],[],[1],[0,2],[3],[],[5],[6],[4,7],[0,2],[0,1,2,3,4,5,6,7,8,9]] [] [] none [] 10 fol (by decide +kernel) (by simp) (by simp) ?_
  replace h0:=bnd h0;obtain⟨_,p10,h0⟩:=h0
  replace p10:=AZ p10
  have p10':=p10;try simp at p10'
  have p10o:a1.Place < (((a0)).length:Int):=by omega
  replace h0:=bnd h0;obtain⟨x1,p11,h0⟩:=h0
  replace p11:=AT p11
  have p11':=p11;try simp at p11'
  refine AN 0 2 rfl (by simp (maxSteps:=1000000) [-getElem?_pos,List.getElem?_cons_zero,List.getElem?_cons_succ,p10,p10o,p11,p10',p11'];rfl) ?_
  refine AN 2 2 rfl (by simp (maxSteps:=1000000) [-getElem?_pos,List.getElem?_cons_zero,List.getElem?_cons_succ,p10,p10o,p11,p10',p11'];rfl) ?_
  refine AN 4 2 rfl (by simp (maxSteps:=1000000) [-getElem?_pos,List.getElem?_cons_zero,List.getElem?_cons_succ,p10,p10o,p11,p10',p11'];rfl) ?_
  refine AN 6 1 rfl (by simp (maxSteps:=1000000) [-getElem?_pos,List.getElem?_cons_zero,List.getElem?_cons_succ,p10,p10o,p11,p10',p11'];rfl) ?_
  replace h0:=bnd h0;obtain⟨y2,hy2,h0⟩:=h0
  refine BL 7 [] (D6 hy2) rfl rfl rfl rfl rfl Tryz.call119 (by simp) ?_
  replace h0:=bnd h0;obtain⟨_,p12,h0⟩:=h0
  replace p12:=AZ p12
  have p12':=p12;try simp at p12'
  have p12o:a1.Place < (((a0)).length:Int):=by omega
  refine AN 8 2 rfl (by simp (maxSteps:=1000000) [p12,p12o,p12'];rfl) ?_
  refine BC rfl ?_
  refine ko [0] 1 (by simp[-getElem?_pos,List.getElem?_cons_zero,List.getElem?_cons_succ,p11,(List.getElem?_eq_some_iff.1 p11.2).1,p11'];rfl) ?_
  refine tpN ?_
  cases h0
  exact⟨rfl,⟨by simp[C4],by simp,trivial,by simp,by simp⟩,rfl⟩
 ·rw[if_neg (by rw[c1];decide)] at h0
  refine Gs (ko [0,3,5,18] 2 (by simp[Ap,A5];rfl) BA) (by simp) ?_
  refine Jt (b:=(a1.Kind==6)) (by simp[St.look,get]) (fun c2=>?_) (fun c2=>?_)
  ·rw[if_pos c2] at h0
   refine Js [[],[],[1],[0,2],[3],[],[5],[6],[4,7],[0,2],[0,1,2,3,4,5,6,7,8,9]] [] [] none [] 10 fol (by decide +kernel) (by simp) (by simp) ?_
   replace h0:=bnd h0;obtain⟨_,p22,h0⟩:=h0
   replace p22:=AZ p22
   have p22':=p22;try simp at p22'
   have p22o:a1.Place < (((a0)).length:Int):=by omega
   replace h0:=bnd h0;obtain⟨x3,p23,h0⟩:=h0
   replace p23:=AT p23
   have p23':=p23;try simp at p23'
   refine AN 0 2 rfl (by simp (maxSteps:=1000000) [-getElem?_pos,List.getElem?_cons_zero,List.getElem?_cons_succ,p22,p22o,p23,p22',p23'];rfl) ?_
   refine AN 2 2 rfl (by simp (maxSteps:=1000000) [-getElem?_pos,List.getElem?_cons_zero,List.getElem?_cons_succ,p22,p22o,p23,p22',p23'];rfl) ?_
   refine AN 4 2 rfl (by simp (maxSteps:=1000000) [-getElem?_pos,List.getElem?_cons_zero,List.getElem?_cons_succ,p22,p22o,p23,p22',p23'];rfl) ?_
   refine AN 6 1 rfl (by simp (maxSteps:=1000000) [-getElem?_pos,List.getElem?_cons_zero,List.getElem?_cons_succ,p22,p22o,p23,p22',p23'];rfl) ?_
   replace h0:=bnd h0;obtain⟨y4,hy4,h0⟩:=h0
   refine BL 7 [] (D6 hy4) rfl rfl rfl rfl rfl Tryz.call119 (by simp) ?_
   replace h0:=bnd h0;obtain⟨_,p24,h0⟩:=h0
   replace p24:=AZ p24
   have p24':=p24;try simp at p24'
   have p24o:a1.Place < (((a0)).length:Int):=by omega
   refine AN 8 2 rfl (by simp (maxSteps:=1000000) [p24,p24o,p24'];rfl) ?_
   refine BC rfl ?_
   refine ko [0] 1 (by simp[-getElem?_pos,List.getElem?_cons_zero,List.getElem?_cons_succ,p23,(List.getElem?_eq_some_iff.1 p23.2).1,p23'];rfl) ?_
   refine tpN ?_
   cases h0
   exact⟨rfl,⟨by simp[C4],by simp,trivial,by simp,by simp⟩,rfl⟩
  ·rw[if_neg (by rw[c2];decide)] at h0
   refine Gs (ko [0,3,30] 2 (by simp[Ap,A5];rfl) BA) (by simp) ?_
   refine Jt (b:=(a1.Kind==7)) (by simp[St.look,get]) (fun c3=>?_) (fun c3=>?_)
   ·rw[if_pos c3] at h0
    refine Js [[],[],[1],[0,2],[3],[],[],[6],[5,7],[8],[4,9],[0,2],[0,1,2,3,4,5,6,7,8,9,10,11]] [] [] none [] 12 fol (by decide +kernel) (by simp) (by simp) ?_
    replace h0:=bnd h0;obtain⟨_,p40,h0⟩:=h0
    replace p40:=AZ p40
    have p40':=p40;try simp at p40'
    have p40o:a1.Place < (((a0)).length:Int):=by omega
    replace h0:=bnd h0;obtain⟨x5,p41,h0⟩:=h0
    replace p41:=AT p41
    have p41':=p41;try simp at p41'
    replace h0:=bnd h0;obtain⟨_,p42,h0⟩:=h0
    replace p42:=AZ p42
    have p42':=p42;try simp at p42'
    have p42o:a1.From < (((a0)).length:Int):=by omega
    replace h0:=bnd h0;obtain⟨x6,p43,h0⟩:=h0
    replace p43:=AT p43
    have p43':=p43;try simp at p43'
    replace h0:=bnd h0;obtain⟨_,p44,h0⟩:=h0
    replace p44:=AZ p44
    have p44':=p44;try simp at p44'
    have p44o:a1.Place < (((a0)).length:Int):=by omega
    refine AN 0 2 rfl (by simp (maxSteps:=1000000) [-getElem?_pos,List.getElem?_cons_zero,List.getElem?_cons_succ,p40,p40o,p41,p42,p42o,p43,p44,p44o,p40',p41',p42',p43',p44'];rfl) ?_
    refine AN 2 2 rfl (by simp (maxSteps:=1000000) [-getElem?_pos,List.getElem?_cons_zero,List.getElem?_cons_succ,p40,p40o,p41,p42,p42o,p43,p44,p44o,p40',p41',p42',p43',p44'];rfl) ?_
    refine AN 4 2 rfl (by simp (maxSteps:=1000000) [-getElem?_pos,List.getElem?_cons_zero,List.getElem?_cons_succ,p40,p40o,p41,p42,p42o,p43,p44,p44o,p40',p41',p42',p43',p44'];rfl) ?_
    refine AN 6 2 rfl (by simp (maxSteps:=1000000) [-getElem?_pos,List.getElem?_cons_zero,List.getElem?_cons_succ,p40,p40o,p41,p42,p42o,p43,p44,p44o,p40',p41',p42',p43',p44'];rfl) ?_
    refine AN 8 2 rfl (by simp (maxSteps:=1000000) [-getElem?_pos,List.getElem?_cons_zero,List.getElem?_cons_succ,p40,p40o,p41,p42,p42o,p43,p44,p44o,p40',p41',p42',p43',p44'];rfl) ?_
    refine AN 10 2 rfl (by simp (maxSteps:=1000000) [-getElem?_pos,List.getElem?_cons_zero,List.getElem?_cons_succ,p40,p40o,p41,p42,p42o,p43,p44,p44o,p40',p41',p42',p43',p44'];rfl) ?_
    refine BC rfl ?_
    refine ko [0] 1 (by simp[-getElem?_pos,List.getElem?_cons_zero,List.getElem?_cons_succ,p41,(List.getElem?_eq_some_iff.1 p41.2).1,p41'];rfl) ?_
    refine tpN ?_
    cases h0
    exact⟨rfl,⟨by simp[C4],by simp,trivial,by simp,by simp⟩,rfl⟩
   ·rw[if_neg (by rw[c3];decide)] at h0
    cases h0
    exact Sa ⟨⟨by simp[C4],by simp,trivial,by simp,by simp⟩,rfl⟩
end Go.Vl
namespace Go.Vl
open Go Go.Proofs
noncomputable def access_Linked (a0:AJ) (a1 a2:Int):Option (Int×Bool):=(access_known a0 a1).bind fun y=>access_LinkedK y a0 a1 a2
theorem EP {a0:AJ} {a1 a2:Int} {r:Int×Bool} (h0:access_Linked a0 a1 a2=some r):Ac Tryz.prog 67 [] [.agg (AX a0),.d (.int .i64 a1),.d (.int .i64 a2)] (.tup [.d (.int .i64 r.1),.d (.bool r.2)]) []:=by
 unfold access_Linked at h0
 obtain⟨y,hy,h0⟩:=bnd h0
 exact Pr (Er hy) h0
end Go.Vl
