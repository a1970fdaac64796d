/- Plain functions that mirror functions of the given program. Conditions: none. -/
import Derived.Test.YtjnflahicimmlaaGreatDoorJzB
set_option linter.unusedSimpArgs false
set_option linter.unusedVariables false
namespace Go.Vl
open Go
noncomputable def nG (a0:ab) (s2:Int×(List Int)):Option (Lp (Int×(List Int)) (List Int)):=
 if(decide (s2.1 < ((a0.bd).length:Int)))=true then
  (idx a0.bd s2.1).bind λx3=>
  (ck ((s2.2).length+([x3.ID]).length≤268435456)).bind λ_=>
  some (.go (IntKind.i64.wrap (s2.1+1),(s2.2++[x3.ID])))
 else
  some (.out s2.2)
noncomputable def rO (a0:ab):Option ((List Int)):=
 (iter (nG a0) (0,[])).bind λv1=>
 if(a0.Kind==3)=true then
  (ck ((v1).length+([a0.Tree]).length≤268435456)).bind λ_=>
  (ck (((v1++[a0.Tree])).length+(a0.bf).length≤268435456)).bind λ_=>
  some ((v1++[a0.Tree])++a0.bf)
 else
  some v1
noncomputable def jm (y6:(List Int)) (s4:Bool×Int×(List (Int×Bool))) (s8:Bool×Int):Option (Lp (Bool×Int) Bool):=
 (some ((decide (s8.2 < ((y6).length:Int)))&&s8.1)).bind λv9=>
 if v9=true then
  (idx y6 s8.2).bind λwo=>
  some (.go (((br cK s4.2.2 wo).getD false),IntKind.i64.wrap (s8.2+1)))
 else
  some (.out s8.1)
noncomputable def kG (a0:ao) (s4:Bool×Int×(List (Int×Bool))):Option (Lp (Bool×Int×(List (Int×Bool))) (Bool×(List (Int×Bool)))):=
 if(decide (s4.2.1 < ((a0.aq).length:Int)))=true then
  (idx a0.aq s4.2.1).bind λx5=>
  (rO x5).bind λy6=>
  (iter (jm y6 s4) ((!((br cK s4.2.2 x5.ID).getD false)),0)).bind λv7=>
  if v7=true then
   some (.go (true,IntKind.i64.wrap (s4.2.1+1),(eD cK s4.2.2 x5.ID true)))
  else
   some (.go (s4.1,IntKind.i64.wrap (s4.2.1+1),s4.2.2))
 else
  some (.out (s4.1,s4.2.2))
noncomputable def fG (a0:ao) (s2:Bool×(List (Int×Bool))):Option (Lp (Bool×(List (Int×Bool))) (List (Int×Bool))):=
 if s2.1=true then
  (iter (kG a0) (false,0,s2.2)).bind λv3=>
  some (.go (v3.1,v3.2))
 else
  some (.out s2.2)
noncomputable def qg (a0:ao):Option (Bool):=
 (iter (fG a0) (true,[])).bind λv1=>
 some (decide (((v1).length:Int) < ((a0.aq).length:Int)))
noncomputable def jl (s2:Int×(List aB)) (a0:List aB) (s5:Int):Option (Lp Int Int):=
 Option.bind (
  if(decide (0 < s5))=true then
   (ck (0≤IntKind.i64.wrap (s5 - 1)∧(Int.toNat (IntKind.i64.wrap (s5 - 1))) < (s2.2).length)).bind λ_=>
   (idx s2.2 (IntKind.i64.wrap (s5 - 1))).bind λx7=>
   (idx a0 s2.1).bind λx8=>
   some (!(Op.bytesLess (x7.Name).toList (x8.Name).toList||(x7.Name).toList==(x8.Name).toList))
  else
   some false) λv6=>
 if v6=true then
  some (.go (IntKind.i64.wrap (s5 - 1)))
 else
  some (.out s5)
noncomputable def kF (a0:List aB) (s2:Int×(List aB)):Option (Lp (Int×(List aB)) (List aB)):=
 if(decide (s2.1 < ((a0).length:Int)))=true then
  (iter (jl s2 a0) ((s2.2).length:Int)).bind λv3=>
  (idx a0 s2.1).bind λx4=>
  (ck (0≤v3∧v3≤(((s2.2).length:Nat):Int)∧(((s2.2).length:Nat):Int)≤(((s2.2).length:Nat):Int))).bind λ_=>
  (ck ((Int.toNat v3)+((s2.2).length - (Int.toNat v3))≤(s2.2).length)).bind λ_=>
  (ck (([x4]).length+(((((s2.2).drop (Int.toNat v3))).take ((s2.2).length - (Int.toNat v3)))).length≤268435456)).bind λ_=>
  (ck (0≤0∧0≤v3∧v3≤((s2.2).length:Int))).bind λ_=>
  (ck ((((s2.2).take (Int.toNat v3))).length+(([x4]++((((s2.2).drop (Int.toNat v3))).take ((s2.2).length - (Int.toNat v3))))).length≤268435456∧0 < (([x4]++((((s2.2).drop (Int.toNat v3))).take ((s2.2).length - (Int.toNat v3))))).length)).bind λ_=>
  some (.go (IntKind.i64.wrap (s2.1+1),(((s2.2).take (Int.toNat v3))++([x4]++((((s2.2).drop (Int.toNat v3))).take ((s2.2).length - (Int.toNat v3)))))))
 else
  some (.out s2.2)
noncomputable def oe (a0:List aB):Option ((List aB)):=
 (iter (kF a0) (0,[])).bind λv1=>
 some v1
end Go.Vl
namespace Go.Vl
open Go
def lu (n:ByteArray) (l:List aB):Nat:=(l.takeWhile λx=>Op.bytesLess x.Name.toList n.toList).length
def fL (e:az) (s:List aB×Bool×Bool):List aB×Bool×Bool:=
 let k:=lu e.Name s.1
 let r:List aB×Bool:=match s.1[k]? with
  |some x=>if(x.Name.toList==e.Name.toList)=true then(if e.Kind=1 then(s.1.set k ⟨x.Name,e.dI⟩,s.2.1) else(s.1.take k++s.1.drop (k+1),s.2.1))
   else if e.Kind=1 then(s.1.take k++([⟨e.Name,e.dI⟩]++s.1.drop k),s.2.1) else(s.1,false)
  |none=>if e.Kind=1 then(s.1.take k++([⟨e.Name,e.dI⟩]++s.1.drop k),s.2.1) else(s.1,false)
 (r.1,r.2,s.2.2&&decide (r.1.length≤32))
def nM (t:Int):List az→List aB×Bool×Bool→List aB×Bool×Bool
 |[],s=>s
 |e::l,s=>if t < e.Time then s else nM t l (fL e s)
noncomputable def ja (a0:ao) (a1:Int):Option (List aB×Bool×Bool):=
 (ck (a0.aC.length≤1000000)).bind λ_=>some (nM a1 a0.aC ([],true,true))
def fQ (o:ab):List Int:=o.bd.map (·.ID)++(if o.Kind=3 then o.Tree::o.bf else [])
def lV (l:List ab) (id:Int):ab:=(l.find? λo=>o.ID==id).getD ⟨0,0,[],[],0,[],ByteArray.empty,0⟩
def nJ (l:List ab):Nat→Int→List (Int×Bool)→Option (List (Int×Bool))
 |0,_,_=>none
 |n+1,id,M=>if(br cK M id).getD false=true then some M else(fQ (lV l id)).foldlM (λM j=>nJ l n j M) (eD cK M id true)
def ZY (l:List ab) (n:Nat) (r:List aB):Option (List (Int×Bool)):=r.foldlM (λM x=>nJ l n x.ID M) []
open Classical in
noncomputable def vE (a0:ao) (a1:Int):Option (List (Int×Bool)):=
 (ja a0 a1).bind λy=>(ck (a0.aq.length≤1000000∧∀o∈a0.aq,o.bd.length≤1000000∧o.bf.length≤1000000)).bind λ_=>
  if h:∃n r,ZY a0.aq n y.1=some r then some (Classical.choose (de h)) else none
end Go.Vl
namespace Go.Vl
open Go
noncomputable def ig (a0:ao) (s8:Int):Option (Lp Int (Unit ⊕ Int)):=
 if(decide (s8 < ((a0.aC).length:Int)))=true then
  (idx a0.aC s8).bind λx9=>
  (idx a0.aC (IntKind.i64.wrap (s8 - 1))).bind λwo=>
  if(decide (x9.Time < wo.Time))=true then
   some (.out (.inr 11))
  else
   some (.go (IntKind.i64.wrap (s8+1)))
 else
  some (.out (.inl ()))
noncomputable def qa (a0:ao) (WK:Int):Option (Lp Int (Unit ⊕ Int)):=
 if(decide (WK < ((a0.aC).length:Int)))=true then
  Option.bind (
   (idx a0.aC WK).bind λWD=>
   if(decide (WD.Time < 0))=true then
    some true
   else
    some (decide (1099511627776 < WD.Time))) λv14=>
  if v14=true then
   some (.out (.inr 2))
  else
   some (.go (IntKind.i64.wrap (WK+1)))
 else
  some (.out (.inl ()))
noncomputable def qb (a0:ao) (s18:Int):Option (Lp Int (Unit ⊕ Int)):=
 if(decide (s18 < ((a0.aC).length:Int)))=true then
  Option.bind (
   (idx a0.aC s18).bind λx20=>
   if(x20.Kind==1)=true then
    (nF a0 x20.dI).bind λUG=>
    some (UG != 3)
   else
    some false) λv19=>
  if v19=true then
   some (.out (.inr 6))
  else
   some (.go (IntKind.i64.wrap (s18+1)))
 else
  some (.out (.inl ()))
noncomputable def qc (a0:ao) (Yg:Int):Option (Lp Int (Unit ⊕ Int)):=
 if(decide (Yg < ((a0.aq).length:Int)))=true then
  (idx a0.aq Yg).bind λx25=>
  (rN a0 x25).bind λy26=>
  if(!y26)=true then
   some (.out (.inr 6))
  else
   some (.go (IntKind.i64.wrap (Yg+1)))
 else
  some (.out (.inl ()))
noncomputable def rM (a0:ao):Option (Int):=
 (iter (qc a0) 0).bind λq28=>
 match q28 with
 | .inl v1=>
  (iter (qb a0) 0).bind λq23=>
  match q23 with
  | .inl v2=>
   (oM a0.aC).bind λy3=>
   (ja (⟨[],y3⟩:ao) 0).bind λy4=>
   if(!y4.2.1)=true then
    some 6
   else
   (qg a0).bind λy5=>
   if y5=true then
    some 8
   else
   (iter (qa a0) 0).bind λq17=>
   match q17 with
   | .inl v6=>
    (iter (ig a0) 1).bind λq12=>
    match q12 with
    | .inl v7=>
     if(!y4.2.2)=true then
      some 3
     else
      some 0
    | .inr r11=>
     some r11
   | .inr r16=>
    some r16
  | .inr r22=>
   some r22
 | .inr r27=>
  some r27
noncomputable def lM (a0:ao) (s6:Int×(List (Int×Bool))):Option (Lp (Int×(List (Int×Bool))) (Unit ⊕ Int)):=
 if(decide (s6.1 < ((a0.aq).length:Int)))=true then
  (idx a0.aq s6.1).bind λx7=>
  if((br cK s6.2 x7.ID).getD false)=true then
   some (.out (.inr 7))
  else
   some (.go (IntKind.i64.wrap (s6.1+1),(eD cK s6.2 x7.ID true)))
 else
  some (.out (.inl ()))
noncomputable def qh (a0:ao) (LD:Int):Option (Lp Int (Unit ⊕ Int)):=
 if(decide (LD < ((a0.aq).length:Int)))=true then
  (idx a0.aq LD).bind λx11=>
  (rP x11).bind λWC=>
  if(WC != 0)=true then
   some (.out (.inr 1))
  else
   some (.go (IntKind.i64.wrap (LD+1)))
 else
  some (.out (.inl ()))
noncomputable def mh (a0:ao):Option (Int):=
 (some ((decide (400 < ((a0.aq).length:Int)))||(decide (300 < ((a0.aC).length:Int))))).bind λv1=>
 if v1=true then
  some 3
 else
 (iter (qh a0) 0).bind λq14=>
 match q14 with
 | .inl v2=>
  (qf a0).bind λy3=>
  if(y3 != 0)=true then
   some y3
  else
  (iter (lM a0) (0,[])).bind λq9=>
  match q9 with
  | .inl v4=>
   (rM a0).bind λy5=>
   some y5
  | .inr r8=>
   some r8
 | .inr r13=>
  some r13
noncomputable def lO (a0:ao) (y5:(List (Int×Bool))) (x3:az) (s7:Int×(List (Int×Int))):Option (Lp (Int×(List (Int×Int))) (List (Int×Int))):=
 if(decide (s7.1 < ((a0.aq).length:Int)))=true then
  (idx a0.aq s7.1).bind λx8=>
  (some ((!(br cK s7.2 x8.ID).isSome)&&((br cK y5 x8.ID).getD false))).bind λv9=>
  if v9=true then
   some (.go (IntKind.i64.wrap (s7.1+1),(eD cK s7.2 x8.ID x3.Time)))
  else
   some (.go (IntKind.i64.wrap (s7.1+1),s7.2))
 else
  some (.out s7.2)
noncomputable def jH (a0:ao) (s2:Int×(List (Int×Int))):Option (Lp (Int×(List (Int×Int))) (List (Int×Int))):=
 if(decide (s2.1 < ((a0.aC).length:Int)))=true then
  (idx a0.aC s2.1).bind λx3=>
  Option.bind (
   if(decide ((IntKind.i64.wrap (s2.1+1)) < ((a0.aC).length:Int)))=true then
    (idx a0.aC (IntKind.i64.wrap (s2.1+1))).bind λwo=>
    some (wo.Time==x3.Time)
   else
    some false) λv4=>
  if v4=true then
   some (.go (IntKind.i64.wrap (s2.1+1),s2.2))
  else
  (vE a0 x3.Time).bind λy5=>
  (iter (lO a0 y5 x3) (0,s2.2)).bind λv6=>
  some (.go (IntKind.i64.wrap (s2.1+1),v6))
 else
  some (.out s2.2)
noncomputable def pI (a0:ao):Option ((List (Int×Int))):=
 (iter (jH a0) (0,[])).bind λv1=>
 some v1
noncomputable def lN (a0:ao) (y1:(List (Int×Int))) (a1:Int) (s4:Int×(List (Int×Bool))):Option (Lp (Int×(List (Int×Bool))) (List (Int×Bool))):=
 if(decide (s4.1 < ((a0.aq).length:Int)))=true then
  (idx a0.aq s4.1).bind λx5=>
  (some ((br cK y1 x5.ID).isSome&&(decide (((br cK y1 x5.ID).getD 0)≤a1)))).bind λv6=>
  if v6=true then
   some (.go (IntKind.i64.wrap (s4.1+1),(eD cK s4.2 x5.ID true)))
  else
   some (.go (IntKind.i64.wrap (s4.1+1),s4.2))
 else
  some (.out s4.2)
noncomputable def nH (a0:ao) (a1:Int):Option ((List Int)):=
 (pI a0).bind λy1=>
 (iter (lN a0 y1 a1) (0,[])).bind λv2=>
 (kH a0 v2).bind λy3=>
 some y3
noncomputable def nE (a0:ao) (a1:Int):Option ((List Int)):=
 (mh a0).bind λy1=>
 if(y1 != 0)=true then
  some []
 else
 (nH a0 a1).bind λy2=>
 (rL a0 y2 1).bind λy3=>
 some y3
end Go.Vl
namespace Go.Vl
open Go
def P1 (n:Int):ByteArray:=Gz [IntKind.u8.wrap (48+IntKind.u8.wrap n)]
def ib (f0:Int→Option ByteArray) (a0:Int):Option ByteArray:=
 if(decide (a0 < 10))=true then some (P1 a0)
 else(f0 (IntKind.i64.wrap (a0.tdiv 10))).bind λy=>(ck (y.size+(P1 (a0.tmod 10)).size≤9223372036854775807)).bind λ_=>some (y++P1 (a0.tmod 10))
def fV:Nat→Int→Option ByteArray
 |0=>λ_=>none
 |n+1=>ib (fV n)
noncomputable def qk (a0:Int):Option ByteArray:=
 @dite _ (∃n r,fV n a0=some r) (Classical.propDecidable _) (λh=>fV (Classical.choose h) a0) (λ_=>none)
noncomputable def gA (f0:ao→Int→ByteArray→List aB→Option (List aB)) (a0:ao) (a2:ByteArray) (o:ab) (s:Int×List aB):Option (Lp (Int×List aB) (List aB)):=
 if(decide (s.1 < (o.bd.length:Int)))=true then
  if(decide ((s.2.length:Int)≤2000))=true then
   (idx o.bd s.1).bind λx=>
   (ij a0 x.ID).bind λy=>
   if(y.Kind==2)=true then
    (ck (a2.size+x.Name.size≤9223372036854775807)).bind λ_=>
    (ck ((a2++x.Name).size+(⟨#[47]⟩:ByteArray).size≤9223372036854775807)).bind λ_=>
    (f0 a0 x.ID ((a2++x.Name)++(⟨#[47]⟩:ByteArray)) s.2).bind λz=>
    some (.go (IntKind.i64.wrap (s.1+1),z))
   else
    (ck (a2.size+x.Name.size≤9223372036854775807)).bind λ_=>
    (ck (s.2.length+([(⟨a2++x.Name,x.ID⟩:aB)]).length≤268435456)).bind λ_=>
    some (.go (IntKind.i64.wrap (s.1+1),s.2++[(⟨a2++x.Name,x.ID⟩:aB)]))
  else some (.out s.2)
 else some (.out s.2)
noncomputable def kN (f0:ao→Int→ByteArray→List aB→Option (List aB)) (a0:ao) (a1:Int) (a2:ByteArray) (a3:List aB):Option (List aB):=
 (ij a0 a1).bind λo=>iter (gA f0 a0 a2 o) (0,a3)
noncomputable def eQ:Nat→ao→Int→ByteArray→List aB→Option (List aB)
 |0=>λ_ _ _ _=>none
 |n+1=>kN (eQ n)
noncomputable def rK (a0:ao) (a1:Int) (a2:ByteArray) (a3:List aB):Option (List aB):=
 @dite _ (∃n r,eQ n a0 a1 a2 a3=some r) (Classical.propDecidable _) (λh=>eQ (Classical.choose h) a0 a1 a2 a3) (λ_=>none)
noncomputable def kP (a0:ao) (a1:Int):Option (List aB×Bool):=
 (ij a0 a1).bind λo=>
 (qk a1).bind λy=>
 (ck (y.size+(⟨#[58]⟩:ByteArray).size≤9223372036854775807)).bind λ_=>
 (rK a0 o.Tree (y++(⟨#[58]⟩:ByteArray)) []).bind λl=>
 if(decide (2000 < (l.length:Int)))=true then some ([],false)
 else(oe l).bind λz=>some (z,true)
end Go.Vl
namespace Go.Vl
open Go
noncomputable def nC (a0:ao) (a1:Int):Option ((List aB)×Int):=
 (mh a0).bind λy1=>
 if(y1 != 0)=true then
  some ([],y1)
 else
 (ij a0 a1).bind λy2=>
 if(y2.Kind != 3)=true then
  some ([],6)
 else
 (kP a0 a1).bind λy3=>
 if(!y3.2)=true then
  some ([],3)
 else
  some (y3.1,0)
end Go.Vl
namespace Go.Vl
open Go
noncomputable def zO (num:List (Int×Int)) (t:Int):List aB→List bU→Option (List bU)
 |[],out=>some out
 |x::l,out=>(idx out ((br cK num x.ID).getD 0)).bind λq=>(ck (q.vu.length+1≤268435456)).bind λ_=>
  zO num t l (out.set ((br cK num x.ID).getD 0).toNat ⟨q.Data,q.vu++[⟨0,x.Name,t⟩]⟩)
noncomputable def C7 (a0:ao) (num:List (Int×Int)) (first:Int→Int):List Int→Nat→List bU→Option (Option (List bU))
 |[],_,out=>some (some out)
 |c::cs,uV,out=>(kP a0 c).bind λy=>(ck (uV+y.1.length≤200000000)).bind λ_=>
  if(!y.2||decide (2000 < ((uV+y.1.length:Nat):Int)))=true then some none
  else(zO num (first c) y.1 out).bind λkq=>C7 a0 num first cs (uV+y.1.length) kq
noncomputable def FC (a0:ao):List Int→Nat→List bU→List (Int×Int)→Option (List bU×List (Int×Int))
 |[],_,out,num=>some (out,num)
 |b::bs,i,out,num=>(ij a0 b).bind λo=>FC a0 bs (i+1) (out++[⟨o.Data,[]⟩]) (eD cK num b (i:Int))
noncomputable def jG (a0:ao) (a1:Int):Option (List bU×Int):=
 (mh a0).bind λe=>
 if(e != 0)=true then some ([],e) else
 (nH a0 a1).bind λids=>
 (rL a0 ids 1).bind λpP=>
 (rL a0 ids 3).bind λOE=>
 (pI a0).bind λfirst=>
 (ck (pP.length≤1000000∧OE.length≤1000000)).bind λ_=>
 (FC a0 pP 0 [] []).bind λz=>
 (C7 a0 z.2 (λc=>(br cK first c).getD 0) OE 0 z.1).bind λo=>
 match o with
 |none=>some ([],3)
 |some out=>some (out,0)
end Go.Vl
namespace Go.Vl
open Go
noncomputable def jO (a3:Int) (Az:Int×bQ) (W0:List Int) (x6:ao) (wD:Int):Option (Lp Int (Unit ⊕ Bool)):=
 if(decide (wD < (([a3,Az.1]).length:Int)))=true then
  (ck (0≤wD∧(Int.toNat wD) < (W0).length)).bind λ_=>
  (idx W0 wD).bind λWD=>
  (kZ x6 WD).bind λLA=>
  (nC x6 WD).bind λXU=>
  Option.bind (
   if(LA.2 != XU.2)=true then
    some true
   else
   (pH LA.1 XU.1).bind λy19=>
   some (!y19)) λv18=>
  if v18=true then
   some (.out (.inr false))
  else
   some (.go (IntKind.i64.wrap (wD+1)))
 else
  some (.out (.inl ()))
noncomputable def jP (a2:Int) (y8:Int×bQ) (l9:List Int) (x6:ao) (wC:Int):Option (Lp Int (Unit ⊕ Bool)):=
 if(decide (wC < (([a2,y8.1,1099511627776]).length:Int)))=true then
  (ck (0≤wC∧(Int.toNat wC) < (l9).length)).bind λ_=>
  (idx l9 wC).bind λQH=>
  (la x6 QH).bind λLz=>
  (jG x6 QH).bind λQr=>
  Option.bind (
   if(Lz.2 != Qr.2)=true then
    some true
   else
   (qV Lz.1 Qr.1).bind λQG=>
   if(!QG)=true then
    some true
   else
   (pq x6 QH).bind λy28=>
   (nE x6 QH).bind λy29=>
   (qW y28 y29).bind λZ7=>
   some (!Z7)) λv26=>
  if v26=true then
   some (.out (.inr false))
  else
   some (.go (IntKind.i64.wrap (wC+1)))
 else
  some (.out (.inl ()))
noncomputable def gN (a1:ao) (y1:ao×bQ) (l2:List ao) (a2:Int) (a3:Int) (s5:Int×(List Int)×Int):Option (Lp (Int×(List Int)×Int) (Unit ⊕ Bool)):=
 if(decide (s5.1 < (([a1,y1.1]).length:Int)))=true then
  (ck (0≤s5.1∧(Int.toNat s5.1) < (l2).length)).bind λ_=>
  (idx l2 s5.1).bind λx6=>
  (qZ x6).bind λy7=>
  if(!y7)=true then
   some (.go (IntKind.i64.wrap (s5.1+1),s5.2.1,s5.2.2))
  else
  (cJ (⟨s5.2.1,s5.2.2⟩:bQ) 20).bind λy8=>
  (some ([a2,y8.1,1099511627776]:List Int)).bind λl9=>
  (iter (jP a2 y8 l9 x6) 0).bind λq32=>
  match q32 with
  | .inl v10=>
   (cJ y8.2 14).bind λAz=>
   (some ([a3,Az.1]:List Int)).bind λW0=>
   (iter (jO a3 Az W0 x6) 0).bind λq21=>
   match q21 with
   | .inl UT=>
    some (.go (IntKind.i64.wrap (s5.1+1),Az.2.L,Az.2.at_))
   | .inr r20=>
    some (.out (.inr r20))
  | .inr r31=>
   some (.out (.inr r31))
 else
  some (.out (.inl ()))
noncomputable def pc (a0:List Int) (a1:ao) (a2:Int) (a3:Int):Option (Bool):=
 (mI (⟨a0,0⟩:bQ)).bind λy1=>
 (some ([a1,y1.1]:List ao)).bind λl2=>
 (iter (gN a1 y1 l2 a2 a3) (0,y1.2.L,y1.2.at_)).bind λq34=>
 match q34 with
 | .inl v3=>
  (rU).bind λy4=>
  some y4
 | .inr r33=>
  some r33
end Go.Vl
