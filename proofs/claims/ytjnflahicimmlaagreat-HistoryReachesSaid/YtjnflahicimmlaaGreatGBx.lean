/- Plain functions that mirror functions of the given program. Conditions: none. -/
import Derived.Test.YtjnflahicimmlaaGreatGAx
import Derived.Test.YtjnflahicimmlaaGreatGzz
set_option linter.unusedSimpArgs false
set_option linter.unusedVariables false
namespace Go.Vl
open Go
noncomputable def lYfew (a0:zR):Option (Bool):=
 (some ((decide (((a0.Objects).length:Int)≤20))&&(decide (((a0.Events).length:Int)≤40)))).bind fun v1=>
 some v1
noncomputable def qYID (a0:Int):Option (Bool):=
 (some ((decide (1≤a0))&&(decide (a0≤1073741824)))).bind fun v1=>
 some v1
noncomputable def qYblob (a0:zO):Option (Bool):=
 (some ((((a0.Items).length:Int)==0)&&((a0.Tree==0)&&((((a0.Parents).length:Int)==0)&&(((a0.Author).toList==((⟨#[]⟩:ByteArray)).toList)&&(a0.Time==0)))))).bind fun v1=>
 some v1
noncomputable def qYName_l0 (a0:ByteArray) (s3:Int):Option (Lp Int (Unit ⊕ Bool)):=
 if(decide (s3 < ((a0).size:Int)))=true then
  Option.bind (
   (sidx a0 s3).bind fun x5=>
   if(decide (x5 < 33))=true then
    some true
   else
   (sidx a0 s3).bind fun x6=>
   if(decide (126 < x6))=true then
    some true
   else
   (sidx a0 s3).bind fun x7=>
   some (x7==47)) fun v4=>
  if v4=true then
   some (.out (.inr false))
  else
   some (.go (IntKind.i64.wrap (s3+1)))
 else
  some (.out (.inl ()))
noncomputable def qYName (a0:ByteArray):Option (Bool):=
 (iter (qYName_l0 a0) 0).bind fun q9=>
 match q9 with
 | .inl v1=>
  (some ((decide (1≤((a0).size:Int)))&&(decide (((a0).size:Int)≤40)))).bind fun v2=>
  some v2
 | .inr r8=>
  some r8
noncomputable def qYtree_l0 (a0:zO) (s3:Int):Option (Lp Int (Unit ⊕ Bool)):=
 if(decide (s3 < ((a0.Items).length:Int)))=true then
  Option.bind (
   (idx a0.Items s3).bind fun x5=>
   (qYName x5.Name).bind fun y6=>
   if(!y6)=true then
    some true
   else
   (qYID x5.ID).bind fun y7=>
   if(!y7)=true then
    some true
   else
   if(decide (0 < s3))=true then
    (idx a0.Items (IntKind.i64.wrap (s3 - 1))).bind fun x8=>
    some (Op.bytesLess (x5.Name).toList (x8.Name).toList||(x5.Name).toList==(x8.Name).toList)
   else
    some false) fun v4=>
  if v4=true then
   some (.out (.inr false))
  else
   some (.go (IntKind.i64.wrap (s3+1)))
 else
  some (.out (.inl ()))
noncomputable def qYtree (a0:zO):Option (Bool):=
 (iter (qYtree_l0 a0) 0).bind fun q10=>
 match q10 with
 | .inl v1=>
  (some ((((a0.Data).length:Int)==0)&&((a0.Tree==0)&&((((a0.Parents).length:Int)==0)&&(((a0.Author).toList==((⟨#[]⟩:ByteArray)).toList)&&(a0.Time==0)))))).bind fun v2=>
  some v2
 | .inr r9=>
  some r9
noncomputable def qYcommit_l1 (s5:Int) (a0:zO) (x6:Int) (s9:Int):Option (Lp Int (Unit ⊕ Bool)):=
 if(decide (s9 < s5))=true then
  (idx a0.Parents s9).bind fun x10=>
  if(x10==x6)=true then
   some (.out (.inr false))
  else
   some (.go (IntKind.i64.wrap (s9+1)))
 else
  some (.out (.inl ()))
noncomputable def qYcommit_l0 (a0:zO) (s5:Int):Option (Lp Int (Unit ⊕ Bool)):=
 if(decide (s5 < ((a0.Parents).length:Int)))=true then
  (idx a0.Parents s5).bind fun x6=>
  (qYID x6).bind fun y7=>
  if(!y7)=true then
   some (.out (.inr false))
  else
  (iter (qYcommit_l1 s5 a0 x6) 0).bind fun q12=>
  match q12 with
  | .inl v8=>
   some (.go (IntKind.i64.wrap (s5+1)))
  | .inr r11=>
   some (.out (.inr r11))
 else
  some (.out (.inl ()))
noncomputable def qYcommit (a0:zO):Option (Bool):=
 (iter (qYcommit_l0 a0) 0).bind fun q14=>
 match q14 with
 | .inl v1=>
  Option.bind (
   if(((a0.Data).length:Int)==0)=true then
    if(((a0.Items).length:Int)==0)=true then
     (qYID a0.Tree).bind fun y3=>
     if y3=true then
      (qYName a0.Author).bind fun y4=>
      if y4=true then
       if(decide (0≤a0.Time))=true then
        some (decide (a0.Time≤1099511627776))
       else
        some false
      else
       some false
     else
      some false
    else
     some false
   else
    some false) fun v2=>
  some v2
 | .inr r13=>
  some r13
noncomputable def qYValid_j0 (v3:Bool):Option Int:=
 if v3=true then
  some 0
 else
  some 1
noncomputable def qYValid (a0:zO):Option (Int):=
 (qYID a0.ID).bind fun y1=>
 if(!y1)=true then
  some 2
 else
 (some ((decide (65536 < ((a0.Data).length:Int)))||((decide (64 < ((a0.Items).length:Int)))||(decide (8 < ((a0.Parents).length:Int)))))).bind fun v2=>
 if v2=true then
  some 3
 else
 Option.bind (
  if(a0.Kind==1)=true then
   (qYblob a0).bind fun y9=>
   some y9
  else
   some false) fun v4=>
 if v4=true then
  qYValid_j0 v4
 else
 Option.bind (
  if(a0.Kind==2)=true then
   (qYtree a0).bind fun y8=>
   some y8
  else
   some false) fun v5=>
 if v5=true then
  qYValid_j0 v5
 else
 Option.bind (
  if(a0.Kind==3)=true then
   (qYcommit a0).bind fun y7=>
   some y7
  else
   some false) fun v6=>
 qYValid_j0 v6
noncomputable def rYevents_l0 (a0:zR) (s2:Int):Option (Lp Int (Unit ⊕ Int)):=
 if(decide (s2 < ((a0.Events).length:Int)))=true then
  (idx a0.Events s2).bind fun x3=>
  Option.bind (
   if(x3.Kind != 1)=true then
    if(x3.Kind != 2)=true then
     some true
    else
    (qYName x3.Name).bind fun y5=>
    if(!y5)=true then
     some true
    else
    if(x3.Kind==2)=true then
     some (x3.Commit != 0)
    else
     some false
   else
   (qYName x3.Name).bind fun y6=>
   if(!y6)=true then
    some true
   else
   if(x3.Kind==2)=true then
    some (x3.Commit != 0)
   else
    some false) fun v4=>
  if v4=true then
   some (.out (.inr 1))
  else
   some (.go (IntKind.i64.wrap (s2+1)))
 else
  some (.out (.inl ()))
noncomputable def rYevents (a0:zR):Option (Int):=
 (iter (rYevents_l0 a0) 0).bind fun q8=>
 match q8 with
 | .inl v1=>
  some 0
 | .inr r7=>
  some r7
noncomputable def rYfind_l0 (a0:List zO) (a1:Int) (s2:Int):Option (Lp Int (Unit ⊕ (zO×Bool))):=
 if(decide (s2 < ((a0).length:Int)))=true then
  (idx a0 s2).bind fun x3=>
  if(x3.ID==a1)=true then
   some (.out (.inr (x3,true)))
  else
   some (.go (IntKind.i64.wrap (s2+1)))
 else
  some (.out (.inl ()))
noncomputable def rYfind (a0:List zO) (a1:Int):Option (zO×Bool):=
 (iter (rYfind_l0 a0 a1) 0).bind fun q5=>
 match q5 with
 | .inl v1=>
  some ((⟨0,0,[],[],0,[],ByteArray.empty,0⟩:zO),false)
 | .inr r4=>
  some r4
noncomputable def rYkind (a0:zR) (a1:Int):Option (Int):=
 (rYfind a0.Objects a1).bind fun y1=>
 some y1.1.Kind
noncomputable def rYnamed_l1 (a1:zO) (a0:zR) (s5:Int):Option (Lp Int (Unit ⊕ Bool)):=
 if(decide (s5 < ((a1.Parents).length:Int)))=true then
  (idx a1.Parents s5).bind fun x6=>
  (rYkind a0 x6).bind fun y7=>
  if(y7 != 3)=true then
   some (.out (.inr false))
  else
   some (.go (IntKind.i64.wrap (s5+1)))
 else
  some (.out (.inl ()))
noncomputable def rYnamed_l0 (a1:zO) (a0:zR) (s10:Int):Option (Lp Int (Unit ⊕ Bool)):=
 if(decide (s10 < ((a1.Items).length:Int)))=true then
  (idx a1.Items s10).bind fun x11=>
  (rYkind a0 x11.ID).bind fun y12=>
  (some ((y12 != 1)&&(y12 != 2))).bind fun v13=>
  if v13=true then
   some (.out (.inr false))
  else
   some (.go (IntKind.i64.wrap (s10+1)))
 else
  some (.out (.inl ()))
noncomputable def rYnamed (a0:zR) (a1:zO):Option (Bool):=
 (iter (rYnamed_l0 a1 a0) 0).bind fun q15=>
 match q15 with
 | .inl v1=>
  (iter (rYnamed_l1 a1 a0) 0).bind fun q9=>
  match q9 with
  | .inl v2=>
   Option.bind (
    if(a1.Kind != 3)=true then
     some true
    else
    (rYkind a0 a1.Tree).bind fun y4=>
    some (y4==2)) fun v3=>
   some v3
  | .inr r8=>
   some r8
 | .inr r14=>
  some r14
noncomputable def rYuntimed_l0 (a0:List zE) (s2:Int×(List zE)):Option (Lp (Int×(List zE)) (List zE)):=
 if(decide (s2.1 < ((a0).length:Int)))=true then
  (idx a0 s2.1).bind fun x3=>
  (ck ((s2.2).length+([(⟨x3.Kind,x3.Name,x3.Commit,0⟩:zE)]).length≤268435456)).bind fun _=>
  some (.go (IntKind.i64.wrap (s2.1+1),(s2.2++[(⟨x3.Kind,x3.Name,x3.Commit,0⟩:zE)])))
 else
  some (.out s2.2)
noncomputable def rYuntimed (a0:List zE):Option ((List zE)):=
 (iter (rYuntimed_l0 a0) (0,[])).bind fun v1=>
 some v1
noncomputable def rYbelow_l0 (a0:zO) (s2:Int×(List Int)):Option (Lp (Int×(List Int)) (List Int)):=
 if(decide (s2.1 < ((a0.Items).length:Int)))=true then
  (idx a0.Items s2.1).bind fun x3=>
  (ck ((s2.2).length+([x3.ID]).length≤268435456)).bind fun _=>
  some (.go (IntKind.i64.wrap (s2.1+1),(s2.2++[x3.ID])))
 else
  some (.out s2.2)
noncomputable def rYbelow (a0:zO):Option ((List Int)):=
 (iter (rYbelow_l0 a0) (0,[])).bind fun v1=>
 if(a0.Kind==3)=true then
  (ck ((v1).length+([a0.Tree]).length≤268435456)).bind fun _=>
  (ck (((v1++[a0.Tree])).length+(a0.Parents).length≤268435456)).bind fun _=>
  some ((v1++[a0.Tree])++a0.Parents)
 else
  some v1
noncomputable def rYcyclic_l2 (y6:(List Int)) (s4:Bool×Int×(List (Int×Bool))) (s8:Bool×Int):Option (Lp (Bool×Int) Bool):=
 (some ((decide (s8.2 < ((y6).length:Int)))&&s8.1)).bind fun v9=>
 if v9=true then
  (idx y6 s8.2).bind fun x10=>
  some (.go (((mget inE s4.2.2 x10).getD false),IntKind.i64.wrap (s8.2+1)))
 else
  some (.out s8.1)
noncomputable def rYcyclic_l1 (a0:zR) (s4:Bool×Int×(List (Int×Bool))):Option (Lp (Bool×Int×(List (Int×Bool))) (Bool×(List (Int×Bool)))):=
 if(decide (s4.2.1 < ((a0.Objects).length:Int)))=true then
  (idx a0.Objects s4.2.1).bind fun x5=>
  (rYbelow x5).bind fun y6=>
  (iter (rYcyclic_l2 y6 s4) ((!((mget inE s4.2.2 x5.ID).getD false)),0)).bind fun v7=>
  if v7=true then
   some (.go (true,IntKind.i64.wrap (s4.2.1+1),(mset inE s4.2.2 x5.ID true)))
  else
   some (.go (s4.1,IntKind.i64.wrap (s4.2.1+1),s4.2.2))
 else
  some (.out (s4.1,s4.2.2))
noncomputable def rYcyclic_l0 (a0:zR) (s2:Bool×(List (Int×Bool))):Option (Lp (Bool×(List (Int×Bool))) (List (Int×Bool))):=
 if s2.1=true then
  (iter (rYcyclic_l1 a0) (false,0,s2.2)).bind fun v3=>
  some (.go (v3.1,v3.2))
 else
  some (.out s2.2)
noncomputable def rYcyclic (a0:zR):Option (Bool):=
 (iter (rYcyclic_l0 a0) (true,[])).bind fun v1=>
 some (decide (((v1).length:Int) < ((a0.Objects).length:Int)))
noncomputable def sYClone_int (a0:List Int):Option (List Int):=
 (ck ((a0).length≤268435456)).bind fun _=>
 some a0
noncomputable def rYascending_l1 (s2:Int×(List Int)) (x3:zO) (s5:Int):Option (Lp Int Int):=
 Option.bind (
  if(decide (0 < s5))=true then
   (ck (0≤IntKind.i64.wrap (s5 - 1)∧(Int.toNat (IntKind.i64.wrap (s5 - 1))) < (s2.2).length)).bind fun _=>
   (idx s2.2 (IntKind.i64.wrap (s5 - 1))).bind fun x7=>
   some (decide (x3.ID < x7))
  else
   some false) fun v6=>
 if v6=true then
  some (.go (IntKind.i64.wrap (s5 - 1)))
 else
  some (.out s5)
noncomputable def rYascending_l0 (a0:zR) (a1:List (Int×Bool)) (s2:Int×(List Int)):Option (Lp (Int×(List Int)) (List Int)):=
 if(decide (s2.1 < ((a0.Objects).length:Int)))=true then
  (idx a0.Objects s2.1).bind fun x3=>
  if(!((mget inE a1 x3.ID).getD false))=true then
   some (.go (IntKind.i64.wrap (s2.1+1),s2.2))
  else
  (iter (rYascending_l1 s2 x3) ((s2.2).length:Int)).bind fun v4=>
  (ck (0≤v4∧v4≤(((s2.2).length:Nat):Int)∧(((s2.2).length:Nat):Int)≤(((s2.2).length:Nat):Int))).bind fun _=>
  (ck ((Int.toNat v4)+((s2.2).length - (Int.toNat v4))≤(s2.2).length)).bind fun _=>
  (ck (([x3.ID]).length+(((((s2.2).drop (Int.toNat v4))).take ((s2.2).length - (Int.toNat v4)))).length≤268435456)).bind fun _=>
  (ck (0≤0∧0≤v4∧v4≤((s2.2).length:Int))).bind fun _=>
  (ck ((((s2.2).take (Int.toNat v4))).length+(([x3.ID]++((((s2.2).drop (Int.toNat v4))).take ((s2.2).length - (Int.toNat v4))))).length≤268435456∧0 < (([x3.ID]++((((s2.2).drop (Int.toNat v4))).take ((s2.2).length - (Int.toNat v4))))).length)).bind fun _=>
  some (.go (IntKind.i64.wrap (s2.1+1),(((s2.2).take (Int.toNat v4))++([x3.ID]++((((s2.2).drop (Int.toNat v4))).take ((s2.2).length - (Int.toNat v4)))))))
 else
  some (.out s2.2)
noncomputable def rYascending (a0:zR) (a1:List (Int×Bool)):Option ((List Int)):=
 (iter (rYascending_l0 a0 a1) (0,[])).bind fun v1=>
 some v1
noncomputable def sYClone_byte (a0:List Int):Option (List Int):=
 (ck ((a0).length≤268435456)).bind fun _=>
 some a0
noncomputable def sYClone_api_Item (a0:List zI):Option (List zI):=
 (ck ((a0).length≤268435456)).bind fun _=>
 some a0
noncomputable def oYCopied (a0:zO):Option (zO):=
 (sYClone_byte a0.Data).bind fun y1=>
 (sYClone_api_Item a0.Items).bind fun y2=>
 (sYClone_int a0.Parents).bind fun y3=>
 some (⟨a0.ID,a0.Kind,y1,y2,a0.Tree,y3,a0.Author,a0.Time⟩:zO)
noncomputable def hYFind (a0:zR) (a1:Int):Option (zO×Bool):=
 (hYValid a0).bind fun y1=>
 if(y1 != 0)=true then
  some ((⟨0,0,[],[],0,[],ByteArray.empty,0⟩:zO),false)
 else
 (hYindex a0).bind fun y2=>
 (oYCopied ((mget inE y2.1 a1).getD (⟨0,0,[],[],0,[],ByteArray.empty,0⟩:zO))).bind fun y3=>
 some (y3,(mget inE y2.1 a1).isSome)
noncomputable def lYawake:Option (Bool):=
 Option.bind (
  (hYReachable (⟨[(⟨1,2,[],[],0,[],ByteArray.empty,0⟩:zO),(⟨2,3,[],[],1,[],(⟨#[97]⟩:ByteArray),0⟩:zO),(⟨3,3,[],[],1,[],(⟨#[98]⟩:ByteArray),0⟩:zO)],[(⟨1,(⟨#[109]⟩:ByteArray),2,5⟩:zE),(⟨1,(⟨#[109]⟩:ByteArray),3,9⟩:zE)]⟩:zR) 8).bind fun y2=>
  if(((y2).length:Int)==2)=true then
   (hYLost (⟨[(⟨1,2,[],[],0,[],ByteArray.empty,0⟩:zO),(⟨2,3,[],[],1,[],(⟨#[97]⟩:ByteArray),0⟩:zO),(⟨3,3,[],[],1,[],(⟨#[98]⟩:ByteArray),0⟩:zO)],[(⟨1,(⟨#[109]⟩:ByteArray),2,5⟩:zE),(⟨1,(⟨#[109]⟩:ByteArray),3,9⟩:zE)]⟩:zR) 9).bind fun y3=>
   if(((y3).length:Int)==1)=true then
    (hYLost (⟨[(⟨1,2,[],[],0,[],ByteArray.empty,0⟩:zO),(⟨2,3,[],[],1,[],(⟨#[97]⟩:ByteArray),0⟩:zO),(⟨3,3,[],[],1,[],(⟨#[98]⟩:ByteArray),0⟩:zO)],[(⟨1,(⟨#[109]⟩:ByteArray),2,5⟩:zE),(⟨1,(⟨#[109]⟩:ByteArray),3,9⟩:zE)]⟩:zR) 9).bind fun y4=>
    (idx y4 0).bind fun x5=>
    some (x5==2)
   else
    some false
  else
   some false) fun v1=>
 some v1
end Go.Vl
namespace Go.Vl
open Go
def refAt (n:ByteArray) (l:List zI):Nat:=(l.takeWhile fun x=>Op.bytesLess x.Name.toList n.toList).length
def namesStep (e:zE) (s:List zI×Bool×Bool):List zI×Bool×Bool:=
 let k:=refAt e.Name s.1
 let r:List zI×Bool:=match s.1[k]? with
  |some x=>if(x.Name.toList==e.Name.toList)=true then(if e.Kind=1 then(s.1.set k ⟨x.Name,e.Commit⟩,s.2.1) else(s.1.take k++s.1.drop (k+1),s.2.1))
   else if e.Kind=1 then(s.1.take k++([⟨e.Name,e.Commit⟩]++s.1.drop k),s.2.1) else(s.1,false)
  |none=>if e.Kind=1 then(s.1.take k++([⟨e.Name,e.Commit⟩]++s.1.drop k),s.2.1) else(s.1,false)
 (r.1,r.2,s.2.2&&decide (r.1.length≤32))
def namesW (t:Int):List zE→List zI×Bool×Bool→List zI×Bool×Bool
 |[],s=>s
 |e::l,s=>if t < e.Time then s else namesW t l (namesStep e s)
noncomputable def rYnames (a0:zR) (a1:Int):Option (List zI×Bool×Bool):=
 (ck (a0.Events.length≤1000000)).bind fun _=>some (namesW a1 a0.Events ([],true,true))
def belowO (o:zO):List Int:=o.Items.map (·.ID)++(if o.Kind=3 then o.Tree::o.Parents else [])
def findO (l:List zO) (id:Int):zO:=(l.find? fun o=>o.ID==id).getD ⟨0,0,[],[],0,[],ByteArray.empty,0⟩
def reachN (l:List zO):Nat→Int→List (Int×Bool)→Option (List (Int×Bool))
 |0,_,_=>none
 |n+1,id,M=>if(mget inE M id).getD false=true then some M else(belowO (findO l id)).foldlM (fun M j=>reachN l n j M) (mset inE M id true)
def atN (l:List zO) (n:Nat) (r:List zI):Option (List (Int×Bool)):=r.foldlM (fun M x=>reachN l n x.ID M) []
open Classical in
noncomputable def rYAt (a0:zR) (a1:Int):Option (List (Int×Bool)):=
 (rYnames a0 a1).bind fun y=>(ck (a0.Objects.length≤1000000∧∀o∈a0.Objects,o.Items.length≤1000000∧o.Parents.length≤1000000)).bind fun _=>
  if h:∃n r,atN a0.Objects n y.1=some r then some (Classical.choose (Classical.choose_spec h)) else none
noncomputable def bentItems:List zI→zT→Option (List zI×zT)
 |[],m=>some ([],m)
 |x::l,m=>(zT_Between m 1 9).bind fun y=>(bentItems l y.2).bind fun z=>some (⟨x.Name,y.1⟩::z.1,z.2)
noncomputable def bentSw (c:Int) (o:zO) (ev:List zE) (m:zT):Option (zO×List zE×zT):=
 if(c==0)=true then(zT_Between m 0 6).bind fun y=>some (⟨y.1,o.Kind,o.Data,o.Items,o.Tree,o.Parents,o.Author,o.Time⟩,ev,y.2)
 else if(c==1)=true then(zT_Between m 0 9).bind fun y=>some (⟨o.ID,o.Kind,o.Data,o.Items,y.1,o.Parents,o.Author,o.Time⟩,ev,y.2)
 else if(c==2)=true then(bentItems o.Items m).bind fun y=>some (⟨o.ID,o.Kind,o.Data,y.1,o.Tree,o.Parents,o.Author,o.Time⟩,ev,y.2)
 else if(c==3)=true then
  if(o.Kind==3)=true then(zT_Between m 1 14).bind fun y=>some (⟨o.ID,o.Kind,o.Data,o.Items,o.Tree,[y.1],o.Author,o.Time⟩,ev,y.2)
  else some (o,ev,m)
 else if(c==4)=true then
  (zT_Between m 1 3).bind fun y1=>(zT_Next y1.2 3).bind fun y2=>(idx [(⟨#[109,97,105,110]⟩:ByteArray),⟨#[110,111,110,101]⟩,⟨#[]⟩] y2.1).bind fun n=>
  (zT_Next y2.2 14).bind fun y3=>(zT_Next y3.2 30).bind fun y4=>some (o,ev++[⟨y1.1,n,y3.1,y4.1⟩],y4.2)
 else if(c==5)=true then
  (zT_Next m 2).bind fun y2=>(idx [(⟨#[109,97,105,110]⟩:ByteArray),⟨#[110,111,110,101]⟩] y2.1).bind fun n=>some (o,ev++[⟨2,n,0,40⟩],y2.2)
 else if(c==6)=true then
  if(decide (0 < (ev.length:Int)))=true then
   (zT_Next m (ev.length:Int)).bind fun y1=>(zT_Between y1.2 (-1) 9).bind fun y2=>(idx ev y1.1).bind fun e=>some (o,ev.set y1.1.toNat ⟨e.Kind,e.Name,e.Commit,y2.1⟩,y2.2)
  else some (o,ev,m)
 else some (o,ev,m)
noncomputable def lYbent (a0:zT) (a1:zR):Option (zR×zT):=
 (ck (a1.Objects.length≤1000000∧a1.Events.length≤1000000)).bind fun _=>
 (zT_Next a0 (a1.Objects.length:Int)).bind fun y1=>
 (idx a1.Objects y1.1).bind fun o=>
 (ck (o.Items.length≤1000000)).bind fun _=>
 (zT_Next y1.2 9).bind fun y2=>
 (bentSw y2.1 o a1.Events y2.2).bind fun z=>
 some (⟨a1.Objects.set y1.1.toNat z.1,z.2.1⟩,z.2.2)
end Go.Vl
namespace Go.Vl
open Go
noncomputable def rYwhole_l3 (a0:zR) (s8:Int):Option (Lp Int (Unit ⊕ Int)):=
 if(decide (s8 < ((a0.Events).length:Int)))=true then
  (idx a0.Events s8).bind fun x9=>
  (idx a0.Events (IntKind.i64.wrap (s8 - 1))).bind fun x10=>
  if(decide (x9.Time < x10.Time))=true then
   some (.out (.inr 11))
  else
   some (.go (IntKind.i64.wrap (s8+1)))
 else
  some (.out (.inl ()))
noncomputable def rYwhole_l2 (a0:zR) (s13:Int):Option (Lp Int (Unit ⊕ Int)):=
 if(decide (s13 < ((a0.Events).length:Int)))=true then
  Option.bind (
   (idx a0.Events s13).bind fun x15=>
   if(decide (x15.Time < 0))=true then
    some true
   else
    some (decide (1099511627776 < x15.Time))) fun v14=>
  if v14=true then
   some (.out (.inr 2))
  else
   some (.go (IntKind.i64.wrap (s13+1)))
 else
  some (.out (.inl ()))
noncomputable def rYwhole_l1 (a0:zR) (s18:Int):Option (Lp Int (Unit ⊕ Int)):=
 if(decide (s18 < ((a0.Events).length:Int)))=true then
  Option.bind (
   (idx a0.Events s18).bind fun x20=>
   if(x20.Kind==1)=true then
    (rYkind a0 x20.Commit).bind fun y21=>
    some (y21 != 3)
   else
    some false) fun v19=>
  if v19=true then
   some (.out (.inr 6))
  else
   some (.go (IntKind.i64.wrap (s18+1)))
 else
  some (.out (.inl ()))
noncomputable def rYwhole_l0 (a0:zR) (s24:Int):Option (Lp Int (Unit ⊕ Int)):=
 if(decide (s24 < ((a0.Objects).length:Int)))=true then
  (idx a0.Objects s24).bind fun x25=>
  (rYnamed a0 x25).bind fun y26=>
  if(!y26)=true then
   some (.out (.inr 6))
  else
   some (.go (IntKind.i64.wrap (s24+1)))
 else
  some (.out (.inl ()))
noncomputable def rYwhole (a0:zR):Option (Int):=
 (iter (rYwhole_l0 a0) 0).bind fun q28=>
 match q28 with
 | .inl v1=>
  (iter (rYwhole_l1 a0) 0).bind fun q23=>
  match q23 with
  | .inl v2=>
   (rYuntimed a0.Events).bind fun y3=>
   (rYnames (⟨[],y3⟩:zR) 0).bind fun y4=>
   if(!y4.2.1)=true then
    some 6
   else
   (rYcyclic a0).bind fun y5=>
   if y5=true then
    some 8
   else
   (iter (rYwhole_l2 a0) 0).bind fun q17=>
   match q17 with
   | .inl v6=>
    (iter (rYwhole_l3 a0) 1).bind fun q12=>
    match q12 with
    | .inl v7=>
     if(!y4.2.2)=true then
      some 3
     else
      some 0
    | .inr r11=>
     some r11
   | .inr r16=>
    some r16
  | .inr r22=>
   some r22
 | .inr r27=>
  some r27
noncomputable def rYValid_l1 (a0:zR) (s6:Int×(List (Int×Bool))):Option (Lp (Int×(List (Int×Bool))) (Unit ⊕ Int)):=
 if(decide (s6.1 < ((a0.Objects).length:Int)))=true then
  (idx a0.Objects s6.1).bind fun x7=>
  if((mget inE s6.2 x7.ID).getD false)=true then
   some (.out (.inr 7))
  else
   some (.go (IntKind.i64.wrap (s6.1+1),(mset inE s6.2 x7.ID true)))
 else
  some (.out (.inl ()))
noncomputable def rYValid_l0 (a0:zR) (s10:Int):Option (Lp Int (Unit ⊕ Int)):=
 if(decide (s10 < ((a0.Objects).length:Int)))=true then
  (idx a0.Objects s10).bind fun x11=>
  (qYValid x11).bind fun y12=>
  if(y12 != 0)=true then
   some (.out (.inr 1))
  else
   some (.go (IntKind.i64.wrap (s10+1)))
 else
  some (.out (.inl ()))
noncomputable def rYValid (a0:zR):Option (Int):=
 (some ((decide (400 < ((a0.Objects).length:Int)))||(decide (300 < ((a0.Events).length:Int))))).bind fun v1=>
 if v1=true then
  some 3
 else
 (iter (rYValid_l0 a0) 0).bind fun q14=>
 match q14 with
 | .inl v2=>
  (rYevents a0).bind fun y3=>
  if(y3 != 0)=true then
   some y3
  else
  (iter (rYValid_l1 a0) (0,[])).bind fun q9=>
  match q9 with
  | .inl v4=>
   (rYwhole a0).bind fun y5=>
   some y5
  | .inr r8=>
   some r8
 | .inr r13=>
  some r13
noncomputable def rYFirst_l1 (a0:zR) (y5:(List (Int×Bool))) (x3:zE) (s7:Int×(List (Int×Int))):Option (Lp (Int×(List (Int×Int))) (List (Int×Int))):=
 if(decide (s7.1 < ((a0.Objects).length:Int)))=true then
  (idx a0.Objects s7.1).bind fun x8=>
  (some ((!(mget inE s7.2 x8.ID).isSome)&&((mget inE y5 x8.ID).getD false))).bind fun v9=>
  if v9=true then
   some (.go (IntKind.i64.wrap (s7.1+1),(mset inE s7.2 x8.ID x3.Time)))
  else
   some (.go (IntKind.i64.wrap (s7.1+1),s7.2))
 else
  some (.out s7.2)
noncomputable def rYFirst_l0 (a0:zR) (s2:Int×(List (Int×Int))):Option (Lp (Int×(List (Int×Int))) (List (Int×Int))):=
 if(decide (s2.1 < ((a0.Events).length:Int)))=true then
  (idx a0.Events s2.1).bind fun x3=>
  Option.bind (
   if(decide ((IntKind.i64.wrap (s2.1+1)) < ((a0.Events).length:Int)))=true then
    (idx a0.Events (IntKind.i64.wrap (s2.1+1))).bind fun x10=>
    some (x10.Time==x3.Time)
   else
    some false) fun v4=>
  if v4=true then
   some (.go (IntKind.i64.wrap (s2.1+1),s2.2))
  else
  (rYAt a0 x3.Time).bind fun y5=>
  (iter (rYFirst_l1 a0 y5 x3) (0,s2.2)).bind fun v6=>
  some (.go (IntKind.i64.wrap (s2.1+1),v6))
 else
  some (.out s2.2)
noncomputable def rYFirst (a0:zR):Option ((List (Int×Int))):=
 (iter (rYFirst_l0 a0) (0,[])).bind fun v1=>
 some v1
noncomputable def rYUntil_l0 (a0:zR) (y1:(List (Int×Int))) (a1:Int) (s4:Int×(List (Int×Bool))):Option (Lp (Int×(List (Int×Bool))) (List (Int×Bool))):=
 if(decide (s4.1 < ((a0.Objects).length:Int)))=true then
  (idx a0.Objects s4.1).bind fun x5=>
  (some ((mget inE y1 x5.ID).isSome&&(decide (((mget inE y1 x5.ID).getD 0)≤a1)))).bind fun v6=>
  if v6=true then
   some (.go (IntKind.i64.wrap (s4.1+1),(mset inE s4.2 x5.ID true)))
  else
   some (.go (IntKind.i64.wrap (s4.1+1),s4.2))
 else
  some (.out s4.2)
noncomputable def rYUntil (a0:zR) (a1:Int):Option ((List Int)):=
 (rYFirst a0).bind fun y1=>
 (iter (rYUntil_l0 a0 y1 a1) (0,[])).bind fun v2=>
 (rYascending a0 v2).bind fun y3=>
 some y3
noncomputable def rYEver (a0:zR):Option ((List Int)):=
 (rYValid a0).bind fun y1=>
 if(y1 != 0)=true then
  some []
 else
 (rYUntil a0 1099511627776).bind fun y2=>
 some y2
noncomputable def rYRefs (a0:zR) (a1:Int):Option ((List zI)):=
 (rYValid a0).bind fun y1=>
 if(y1 != 0)=true then
  some []
 else
 (rYnames a0 a1).bind fun y2=>
 some y2.1
noncomputable def rYReachable (a0:zR) (a1:Int):Option ((List Int)):=
 (rYValid a0).bind fun y1=>
 if(y1 != 0)=true then
  some []
 else
 (rYAt a0 a1).bind fun y2=>
 (rYascending a0 y2).bind fun y3=>
 some y3
noncomputable def rYLost_l0 (y3:(List Int)) (y2:(List (Int×Bool))) (s5:Int×(List Int)):Option (Lp (Int×(List Int)) (List Int)):=
 if(decide (s5.1 < ((y3).length:Int)))=true then
  (idx y3 s5.1).bind fun x6=>
  if(!((mget inE y2 x6).getD false))=true then
   (ck ((s5.2).length+([x6]).length≤268435456)).bind fun _=>
   some (.go (IntKind.i64.wrap (s5.1+1),(s5.2++[x6])))
  else
   some (.go (IntKind.i64.wrap (s5.1+1),s5.2))
 else
  some (.out s5.2)
noncomputable def rYLost (a0:zR) (a1:Int):Option ((List Int)):=
 (rYValid a0).bind fun y1=>
 if(y1 != 0)=true then
  some []
 else
 (rYAt a0 a1).bind fun y2=>
 (rYUntil a0 a1).bind fun y3=>
 (iter (rYLost_l0 y3 y2) (0,[])).bind fun v4=>
 some v4
noncomputable def rYSince (a0:zR) (a1:Int):Option (Int×Bool):=
 (rYValid a0).bind fun y1=>
 if(y1 != 0)=true then
  some (0,false)
 else
 (rYFirst a0).bind fun y2=>
 some (((mget inE y2 a1).getD 0),(mget inE y2 a1).isSome)
noncomputable def rYFind (a0:zR) (a1:Int):Option (zO×Bool):=
 (rYValid a0).bind fun y1=>
 if(y1 != 0)=true then
  some ((⟨0,0,[],[],0,[],ByteArray.empty,0⟩:zO),false)
 else
 (rYfind a0.Objects a1).bind fun y2=>
 some (y2.1,y2.2)
noncomputable def lYHistoryReaches_l2 (a3:Int) (y14:Int×zT) (l15:List Int) (x8:zR) (s17:Int):Option (Lp Int (Unit ⊕ Bool)):=
 if(decide (s17 < (([a3,y14.1]).length:Int)))=true then
  (ck (0≤s17∧(Int.toNat s17) < (l15).length)).bind fun _=>
  (idx l15 s17).bind fun x18=>
  (hYSince x8 x18).bind fun y19=>
  (rYSince x8 x18).bind fun y20=>
  (hYFind x8 x18).bind fun y21=>
  (rYFind x8 x18).bind fun y22=>
  (some ((y19.1 != y20.1)||((y19.2 != y20.2)||((y21.2 != y22.2)||((y21.1.ID != y22.1.ID)||((y21.1.Kind != y22.1.Kind)||(!(((bstr y21.1.Data)).toList==((bstr y22.1.Data)).toList)))))))).bind fun v23=>
  if v23=true then
   some (.out (.inr false))
  else
   some (.go (IntKind.i64.wrap (s17+1)))
 else
  some (.out (.inl ()))
noncomputable def lYHistoryReaches_l1 (a2:Int) (y11:Int×zT) (l12:List Int) (x8:zR) (s26:Int):Option (Lp Int (Unit ⊕ Bool)):=
 if(decide (s26 < (([a2,y11.1,1099511627776]).length:Int)))=true then
  (ck (0≤s26∧(Int.toNat s26) < (l12).length)).bind fun _=>
  (idx l12 s26).bind fun x27=>
  Option.bind (
   (hYRefs x8 x27).bind fun y29=>
   (rYRefs x8 x27).bind fun y30=>
   (rYItems y29 y30).bind fun y31=>
   if(!y31)=true then
    some true
   else
   (hYReachable x8 x27).bind fun y32=>
   (rYReachable x8 x27).bind fun y33=>
   (rYInts y32 y33).bind fun y34=>
   if(!y34)=true then
    some true
   else
   (hYLost x8 x27).bind fun y35=>
   (rYLost x8 x27).bind fun y36=>
   (rYInts y35 y36).bind fun y37=>
   some (!y37)) fun v28=>
  if v28=true then
   some (.out (.inr false))
  else
   some (.go (IntKind.i64.wrap (s26+1)))
 else
  some (.out (.inl ()))
noncomputable def lYHistoryReaches_l0 (a1:zR) (y1:zR×zT) (y2:zR×zT) (y3:zR×zT) (l4:List zR) (a2:Int) (a3:Int) (s7:Int×(List Int)×Int):Option (Lp (Int×(List Int)×Int) (Unit ⊕ Bool)):=
 if(decide (s7.1 < (([a1,y1.1,y2.1,y3.1]).length:Int)))=true then
  (idx l4 s7.1).bind fun x8=>
  (lYfew x8).bind fun y9=>
  if(!y9)=true then
   some (.go (IntKind.i64.wrap (s7.1+1),s7.2.1,s7.2.2))
  else
  Option.bind (
   (hYValid x8).bind fun y40=>
   (rYValid x8).bind fun y41=>
   if(y40 != y41)=true then
    some true
   else
   (hYEver x8).bind fun y42=>
   (rYEver x8).bind fun y43=>
   (rYInts y42 y43).bind fun y44=>
   some (!y44)) fun v10=>
  if v10=true then
   some (.out (.inr false))
  else
  (zT_Next (⟨s7.2.1,s7.2.2⟩:zT) 20).bind fun y11=>
  (some ([a2,y11.1,1099511627776]:List Int)).bind fun l12=>
  (iter (lYHistoryReaches_l1 a2 y11 l12 x8) 0).bind fun q39=>
  match q39 with
  | .inl v13=>
   (zT_Next y11.2 14).bind fun y14=>
   (some ([a3,y14.1]:List Int)).bind fun l15=>
   (iter (lYHistoryReaches_l2 a3 y14 l15 x8) 0).bind fun q25=>
   match q25 with
   | .inl v16=>
    some (.go (IntKind.i64.wrap (s7.1+1),y14.2.L,y14.2.at_))
   | .inr r24=>
    some (.out (.inr r24))
  | .inr r38=>
   some (.out (.inr r38))
 else
  some (.out (.inl ()))
noncomputable def lYHistoryReaches (a0:List Int) (a1:zR) (a2:Int) (a3:Int):Option (Bool):=
 (mYRepository (⟨a0,0⟩:zT)).bind fun y1=>
 (lYbent y1.2 y1.1).bind fun y2=>
 (lYbent y2.2 y1.1).bind fun y3=>
 (some ([a1,y1.1,y2.1,y3.1]:List zR)).bind fun l4=>
 (iter (lYHistoryReaches_l0 a1 y1 y2 y3 l4 a2 a3) (0,y3.2.L,y3.2.at_)).bind fun q46=>
 match q46 with
 | .inl v5=>
  (lYawake).bind fun y6=>
  some y6
 | .inr r45=>
  some r45
end Go.Vl
