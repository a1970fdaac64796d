/- A run of given code on given data: values whose addresses are names, and the evaluator. Conditions: none. -/
import Derived.Test.YtbnfogbfphakmaaGreatDoorVmOa
set_option linter.unusedSimpArgs false
set_option linter.unusedVariables false
namespace Go.Ev
open Go Go.Vl
abbrev Nm:=Nat
inductive CV where
 |un
 |int (k:IntKind) (n:Int)
 |bool (b:Bool)
 |str (s:List Nat)
 |nilp
 |nils
 |nilf
 |nili
 |ptr (n:Nm) (o:Nat)
 |sl (n:Nm) (o l:Nat) (c:Option Nat)
 |fn (f:FuncId) (l:List CV)
 |agg (l:List CV)
 |tup (l:List CV)
 deriving Inhabited
inductive Ob where
 |cells (l:List CV) (z:Nat) (more:Option TypeId)
 |siter (s:List Nat) (pos:Nat)
 |rd (l:List CV)
 deriving Inhabited
abbrev Env:=List (Nat×CV)
inductive Hp where
 |leaf (l:List (Nm×Ob))
 |node (a b:Hp)
 deriving Inhabited
structure Cx where
 env:Env
 nt:Nat
 stk:List Env
 hp:Hp
def lk {α:Type}:List (Nat×α)→Nat→Option α
 |[],_=>none
 |(k,v)::l,x=>match Nat.beq k x with
  |true=>some v
  |false=>lk l x
def Q2 (n:Nm) (o:Ob):List (Nm×Ob)→List (Nm×Ob)
 |[]=>[(n,o)]
 |(m,q)::l=>match Nat.beq m n with |true=>(n,o)::l |false=>(m,q)::Q2 n o l
def Hp.get1:Hp→Nat→Nm→Option Ob
 | .leaf l,_,n=>lk l n
 | .node a b,h,n=>match Nat.beq (h % 2) 0 with |true=>a.get1 (h / 2) n |false=>b.get1 (h / 2) n
def Hp.set1 (o:Ob) (n:Nm):Hp→Nat→Hp
 | .leaf l,_=>.leaf (Q2 n o l)
 | .node a b,h=>match Nat.beq (h % 2) 0 with |true=>.node (a.set1 o n (h / 2)) b |false=>.node a (b.set1 o n (h / 2))
def Hp.get (x:Hp) (n:Nm):Option Ob:=x.get1 (n % 61) n
def Hp.set (x:Hp) (n:Nm) (o:Ob):Hp:=x.set1 o n (n % 61)
def hp0:Nat→Hp
 |0=>.leaf []
 |n+1=>.node (hp0 n) (hp0 n)
def Cx.look (s:Cx) (t:Nat):CV:=(lk s.env t).getD .un
def Cx.put (s:Cx) (d:Option Nat) (x:CV):Cx:=match d with |some d=>{ s with env:=(d,x)::s.env } |none=>s
def GB:Value→CV
 | .int k n=>.int k n
 | .bool b=>.bool b
 | .string s=>.str (s.data.toList.map (·.toNat))
 | .pointer none=>.nilp
 | .slice none 0 0=>.nils
 | .nilFunc=>.nilf
 | .nilIface=>.nili
 |_=>.un
def ofV:Value→CV
 | .agg cs=>if cs.all Value.oneCell' then .agg (cs.toList.map GB) else .un
 |v=>GB v
def opd (s:Cx):Operand→CV
 | .tmp t=>s.look t
 | .const v=>ofV v
 | .global _=>.un
 | .func f=>.fn f []
structure TI where
 desc:TypeDesc
 sz:Nat
 ag:Bool
 zero:List CV
inductive Tr (α:Type) where
 |leaf
 |node (l:Tr α) (k:Nat) (v:α) (r:Tr α)
def Tr.get {α:Type}:Tr α→Nat→Option α
 | .leaf,_=>none
 | .node l k v r,x=>match Nat.blt x k with
  |true=>l.get x
  |false=>match Nat.blt k x with
   |true=>r.get x
   |false=>some v
structure CI where
 pre:List Nat
 nodes:List (List Bool×List (Nat×Nat))
structure Tab where
 ty:Tr TI
 fn:Tr (Code×Nat×List ResultVar)
 eqs:List TypeId
 plan:Tr CI
 drop:List FuncId
def GC:CV→Option (List CV)
 | .agg l=>some l
 | .un | .tup _=>none
 |x=>some [x]
def Eo (T:Tab) (t:TypeId) (cs:List CV) (o:Nat):Option CV:=
 (T.ty.get t).bind fun i=>match i.ag with
  |true=>if o+i.sz≤cs.length then some (.agg ((cs.drop o).take i.sz)) else none
  |false=>cs[o]?
def II (T:Tab) (t:TypeId):Option (List CV):=(T.ty.get t).map (·.zero)
def szC (T:Tab) (t:TypeId):Option Nat:=(T.ty.get t).map (·.sz)
def dsC (T:Tab) (t:TypeId):Option TypeDesc:=(T.ty.get t).map (·.desc)
def Fw (place:Nat→Option (Nat×Nat)) (cells:List CV):List (Nat×CV)→Option (List CV)
 |[]=>some cells
 |(i,x)::rest=>match place i with
  |none=>none
  |some (off,size)=>(GC x).bind fun l=>if l.length=size∧off+size≤cells.length then Fw place (cells.take off++(l++cells.drop (off+size))) rest else none
def NK (T:Tab) (t:TypeId) (parts:List (Nat×CV)):Option (List CV):=
 (T.ty.get t).bind fun i=>match i.desc with
  | .array _ e=>(szC T e).bind fun k=>Fw (fun i=>some (i * k,k)) i.zero parts
  | .struct fs=>Fw (fun j=>(fs.toList[j]?).bind fun f=>(szC T f.type).map fun k=>(f.offset,k)) i.zero parts
  |_=>none
def Q3 (n:Nat) (z:List CV):List CV:=(List.replicate n z).flatten
def JH (T:Tab) (t:TypeId) (yc:Bool) (x y:CV):Option Bool:=
 match dsC T t,x,y with
 |some (.pointer _),.nilp,.nilp=>some true
 |some (.pointer _),.ptr _ _,.nilp=>some false
 |some (.pointer _),.nilp,.ptr _ _=>some false
 |some (.pointer e),.ptr n o,.ptr m o'=>match Nat.beq n m,szC T e with |true,some (_+1)=>if o=o' then some true else none |_,_=>none
 |some (.slice _),.nils,.nils=>some true
 |some (.slice _),.sl _ _ _ _,.nils=>some false
 |some (.func _ _ _),.nilf,.nilf=>some true
 |some (.func _ _ _),.fn _ _,.nilf=>some false
 |some (.interface _),.nili,.nili=>match yc with |true=>some true |false=>none
 |_,_,_=>none
def Wq (op:BinOp) (a b:List Nat):Option CV:=
 match op with
 | .add=>if a.length+b.length≤9223372036854775807 then some (.str (a++b)) else none
 | .eql=>some (.bool (a==b))
 | .neq=>some (.bool (!(a==b)))
 |_=>none
def Wr (op:BinOp) (k:IntKind) (a b:Int):Option CV:=
 match op with
 | .add=>some (.int k (k.wrap (a+b)))
 | .sub=>some (.int k (k.wrap (a - b)))
 | .mul=>some (.int k (k.wrap (a * b)))
 | .quo=>if b=0 then none else some (.int k (k.wrap (a.tdiv b)))
 | .eql=>some (.bool (a==b))
 | .neq=>some (.bool (a != b))
 | .lss=>some (.bool (decide (a < b)))
 | .leq=>some (.bool (decide (a≤b)))
 | .gtr=>some (.bool (decide (b < a)))
 | .geq=>some (.bool (decide (b≤a)))
 |_=>none
def IJ:List CV→List CV→Option Bool
 |[],[]=>some true
 | .int k a::l,.int k' b::l'=>if k=k' then(IJ l l').map fun r=>(a==b)&&r else none
 | .str a::l,.str b::l'=>(IJ l l').map fun r=>(a==b)&&r
 | .bool a::l,.bool b::l'=>(IJ l l').map fun r=>(a==b)&&r
 |_,_=>none
def CL:List CV→List CV→Bool
 |[],[]=>true
 | .int _ _::l,.int _ _::z=>CL l z
 | .str _::l,.str _::z=>CL l z
 | .bool _::l,.bool _::z=>CL l z
 |_,_=>false
def JI (T:Tab) (t:TypeId) (l:List CV):Bool:=match II T t with |some z=>CL l z |none=>false
def Ws (T:Tab) (op:BinOp) (t:TypeId) (yc:Bool) (x y:CV):Option CV:=
 match x,y with
 | .int k a,.int k' b=>if k=k' then Wr op k a b else none
 | .str a,.str b=>Wq op a b
 | .agg l,.agg l'=>if T.eqs.contains t=true∧JI T t l=true∧JI T t l'=true then(match op with
  | .eql=>(IJ l l').map .bool
  | .neq=>(IJ l l').map fun r=>.bool !r
  |_=>none) else none
 |x,y=>match op,JH T t yc x y with
  | .eql,some b=>some (.bool b)
  | .neq,some b=>some (.bool !b)
  |_,_=>none
def intOf:CV→Option Int
 | .int _ n=>some n
 |_=>none
mutual
def CV.has (k:Nm→Bool):CV→Bool
 | .ptr m _=>k m
 | .sl m _ _ _=>k m
 | .fn _ l=>CV.hasL k l
 | .agg l=>CV.hasL k l
 | .tup l=>CV.hasL k l
 |_=>false
def CV.hasL (k:Nm→Bool):List CV→Bool
 |[]=>false
 |x::l=>match CV.has k x with |true=>true |false=>CV.hasL k l
end
def scr (k:Nm→Bool) (x:CV):CV:=match x.has k with |true=>.un |false=>x
def Ew (k:Nm→Bool):Ob→Ob
 | .cells l z m=>.cells (l.map (scr k)) z m
 | .rd l=>.rd (l.map (scr k))
 | .siter s pos=>.siter s pos
def Gh (k:Nm→Bool) (e:Env):Env:=e.map fun q=>(q.1,scr k q.2)
def Ob.ro:Ob→Bool
 | .rd _=>true
 |_=>false
def Kd (k:Nm→Bool):List (Nm×Ob)→List (Nm×Ob)
 |[]=>[]
 |(n,o)::l=>match k n with |true=>Kd k l |false=>(n,Ew k o)::Kd k l
def By (k:Nm→Bool):Hp→Hp
 | .leaf l=>.leaf (Kd k l)
 | .node a b=>.node (By k a) (By k b)
def Cx.kill (s:Cx) (k:Nm→Bool):Cx:={ s with env:=Gh k s.env,stk:=s.stk.map (Gh k),hp:=By k s.hp }
def Cx.new (s:Cx) (n:Nm) (o:Ob):Option Cx:=match s.hp.get n with |some _=>none |none=>some { s with hp:=s.hp.set n o }
def Cx.set (s:Cx) (n:Nm) (o:Ob):Cx:={ s with hp:=s.hp.set n o }
def LM (s:Cx) (nm:Nm) (d:Nat) (t:TypeId) (l:List CV):Option Cx:=(s.new nm (.cells l l.length (some t))).map fun s=>s.put (some d) (.ptr nm 0)
def Ke (T:Tab) (s:Cx) (t:TypeId):CV→Option CV
 | .ptr n o=>match s.hp.get n with |some (.cells l _ _)=>Eo T t l o |some (.rd l)=>Eo T t l o |_=>none
 |_=>none
def ZA (T:Tab) (t:TypeId) (n:Nat):Bool:=match T.ty.get t with |some i=>(i.sz==n)&&(i.ag||n==1) |none=>false
def NL (T:Tab) (s:Cx) (t:TypeId) (x y:CV):Option Cx:=
 match x with
 | .ptr n o=>match s.hp.get n with
  |some (.cells l z m)=>(GC y).bind fun ys=>if o+ys.length≤l.length∧ZA T t ys.length=true then some (s.set n (.cells (l.take o++(ys++l.drop (o+ys.length))) z m)) else none
  |_=>none
 |_=>none
def OO (T:Tab) (t:TypeId) (f:Nat):CV→Option CV
 | .ptr n o=>match dsC T t with |some (.struct fs)=>(fs[f]?).bind fun fd=>(match szC T fd.type with |some (_+1)=>some (.ptr n (o+fd.offset)) |_=>none) |_=>none
 |_=>none
def OP (T:Tab) (t:TypeId) (f:Nat):CV→Option CV
 | .agg l=>match dsC T t with |some (.struct fs)=>(fs[f]?).bind fun fd=>Eo T fd.type l fd.offset |_=>none
 |_=>none
def OQ (T:Tab) (t:TypeId) (x:CV) (i:Int):Option CV:=
 match dsC T t,x with
 |some (.slice e),.sl n o l _=>if 0≤i∧i < l then(szC T e).map fun z=>.ptr n (o+i.toNat * z) else none
 |some (.array len e),.ptr n o=>if 0≤i∧i < len then(szC T e).map fun z=>.ptr n (o+i.toNat * z) else none
 |_,_=>none
def OR (T:Tab) (t:TypeId) (x:CV) (i:Int):Option CV:=
 match dsC T t,x with
 |some (.array len e),.agg l=>if 0≤i∧i < len then(szC T e).bind fun z=>Eo T e l (i.toNat * z) else none
 |some .string,.str s=>if 0≤i then(s[i.toNat]?).map fun (b:Nat)=>CV.int .u8 (b:Int) else none
 |_,_=>none
def bnd (d:Int):Option CV→Option Int
 |none=>some d
 |some x=>intOf x
def NM (T:Tab) (t:TypeId) (x:CV) (lo hi mx:Option CV):Option CV:=
 match dsC T t,x with
 |some .string,.str s=>(bnd 0 lo).bind fun a=>(bnd s.length hi).bind fun b=>if mx.isNone∧0≤a∧a≤b∧b≤s.length then some (.str ((s.take b.toNat).drop a.toNat)) else none
 |some (.slice e),.sl n o l c=>(szC T e).bind fun z=>(bnd 0 lo).bind fun a=>(bnd l hi).bind fun b=>
  if 0≤a∧a≤b∧b≤l∧(a < b∨a=0)∧0 < z then
   match mx with
   |none=>some (.sl n (o+a.toNat * z) (b - a).toNat (c.map fun c=>c - a.toNat))
   |some m=>(intOf m).bind fun m=>if b≤m∧m≤l∧hi.isSome=true then some (.sl n (o+a.toNat * z) (b - a).toNat (some (m - a).toNat)) else none
  else none
 |_,_=>none
def NN:CV→Option Int
 | .str s=>some s.length
 | .sl _ _ l _=>some l
 | .nils=>some 0
 |_=>none
def TM (T:Tab) (s:Cx) (e:TypeId):CV→Option (List CV×Nat)
 | .nils=>some ([],0)
 | .str b=>match szC T e with |some 1=>some (b.map fun (x:Nat)=>CV.int .u8 (x:Int),b.length) |_=>none
 | .sl n o l _=>match s.hp.get n with
  |some (.cells cs _ _)=>(szC T e).bind fun z=>if o+l * z≤cs.length then some ((cs.drop o).take (l * z),l) else none
  |_=>none
 |_=>none
def ZB (T:Tab) (s:Cx) (nm:Nm) (d:Nat) (t:TypeId) (x y:CV):Option Cx:=
 match dsC T t with
 |some (.slice e)=>(TM T s e y).bind fun ys=>(szC T e).bind fun z=>
  if 0 < z∧0 < ys.2 then
  match x with
  | .nils=>if ys.2≤268435456 then(s.new nm (.cells ys.1 z (some e))).map fun s=>s.put (some d) (.sl nm 0 ys.2 none) else none
  | .sl n o l c=>match s.hp.get n with
   |some (.cells cs z' m)=>if z'=z then
    match c with
    |none=>if m=some e∧o=0∧l * z≤cs.length∧l+ys.2≤268435456 then(((s.kill (Nat.beq n)).new nm (.cells ((cs.take (l * z)++ys.1).map (scr (Nat.beq n))) z (some e)))).map fun s=>s.put (some d) (.sl nm 0 (l+ys.2) none) else none
    |some c=>if c < l+ys.2∧o+l * z≤cs.length∧l+ys.2≤268435456 then(s.new nm (.cells ((cs.drop o).take (l * z)++ys.1) z (some e))).map fun s=>s.put (some d) (.sl nm 0 (l+ys.2) none) else none
    else none
   |_=>none
  |_=>none
  else if ys.2=0 then(match x with | .nils=>some (s.put (some d) x) | .sl _ _ _ _=>some (s.put (some d) x) |_=>none) else none
 |_=>none
def bytesOf:List CV→Option (List Nat)
 |[]=>some []
 | .int .u8 n::l=>if 0≤n∧n < 256 then(bytesOf l).map fun r=>n.toNat::r else none
 |_=>none
def WO (T:Tab) (s:Cx) (nm:Nm) (d:Nat) (src dst:TypeId) (x:CV):Option Cx:=
 match dsC T src,dsC T dst,x with
 |some .string,some (.slice e),.str b=>match dsC T e with
  |some (.int .u8)=>(s.new nm (.rd (b.map fun (x:Nat)=>CV.int .u8 (x:Int)))).map fun s=>s.put (some d) (.sl nm 0 b.length none)
  |_=>none
 |some (.pointer e),some .unsafePointer,.ptr n o=>match s.hp.get n,szC T e with
  |some (.cells l _ _),some (_+1)=>if o < l.length then some (s.put (some d) (.ptr n o)) else none
  |_,_=>none
 |some .unsafePointer,some (.pointer e),.ptr n 0=>match s.hp.get n,szC T e with
  |some (.cells l z (some e')),some (k+1)=>if e'=e∧z=k+1∧0 < l.length then some (s.put (some d) (.ptr n 0)) else none
  |_,_=>none
 |some _,some (.int k),.int _ n=>some (s.put (some d) (.int k (k.wrap n)))
 |_,_,_=>none
def okP:CV→Bool
 | .ptr _ _ | .fn _ _=>true
 |_=>false
def unC (op:UnOp) (x:CV):Option CV:=
 match op,x with
 | .not,.bool b=>some (.bool !b)
 | .neg,.int k n=>some (.int k (k.wrap (0 - n)))
 |_,_=>none
def WP (s:Cx) (d:Nat) (x:CV):Option Cx:=
 match x with
 | .ptr n 0=>match s.hp.get n with
  |some (.siter b pos)=>if pos < b.length then
    (let r:=Utf8.decode ⟨(b.map UInt8.ofNat).toArray⟩ pos
    some ((s.set n (.siter b (pos+r.2))).put (some d) (.tup [.bool true,.int .i64 pos,.int .i32 r.1])))
   else some (s.put (some d) (.tup [.bool false]))
  |_=>none
 |_=>none
def JJ (s:Cx) (d:Option Nat) (x:Option CV):Option Cx:=match x with |some x=>some (s.put d x) |none=>none
def Q4 (s:Cx) (d:Option Nat) (c a b:Operand):Option Cx:=match opd s c with | .bool true=>some (s.put d (opd s a)) | .bool false=>some (s.put d (opd s b)) |_=>none
def WQ (s:Cx) (d:Option Nat) (x:Operand):Option Cx:=match okP (opd s x) with |true=>some (s.put d (opd s x)) |false=>none
def LN (T:Tab) (s:Cx) (nm:Nm) (d:Option Nat) (t:TypeId):Option Cx:=match d,II T t with |some d,some z=>LM s nm d t z |_,_=>none
def Q5 (s:Cx) (nm:Nm) (d:Option Nat) (t:TypeId) (x:Operand):Option Cx:=match d,GC (opd s x) with |some d,some l=>LM s nm d t l |_,_=>none
def MM (T:Tab) (s:Cx) (d:Option Nat) (t:TypeId) (x i:Operand):Option Cx:=match intOf (opd s i) with |some i=>JJ s d (OQ T t (opd s x) i) |none=>none
def OS (T:Tab) (s:Cx) (d:Option Nat) (t:TypeId) (x i:Operand):Option Cx:=match intOf (opd s i) with |some i=>JJ s d (OR T t (opd s x) i) |none=>none
def Kf (s:Cx) (d:Option Nat) (x:Operand) (i:Nat):Option Cx:=match opd s x with | .tup l=>JJ s d l[i]? |_=>none
def HO (s:Cx):List (Nat×Operand)→List (Nat×CV)
 |[]=>[]
 |(i,x)::l=>(i,opd s x)::HO s l
def Pb (s:Cx):List Operand→List CV
 |[]=>[]
 |x::l=>opd s x::Pb s l
def OT (T:Tab) (s:Cx) (d:Option Nat) (t:TypeId) (parts:Array (Nat×Operand)):Option Cx:=match NK T t (HO s parts.toList) with |some l=>some (s.put d (.agg l)) |none=>none
def OU (s:Cx) (nm:Nm) (d:Nat) (l:List CV) (z n:Nat):Option Cx:=match s.new nm (.cells l z none) with |some s=>some (s.put (some d) (.sl nm 0 n (some n))) |none=>none
def JK (T:Tab) (s:Cx) (nm:Nm) (d:Option Nat) (t:TypeId) (n:Nat) (parts:Array (Nat×Operand)):Option Cx:=
 match d,dsC T t with
 |some d,some (.slice e)=>match II T e with
  |some z=>if n * z.length≤16777216 then match Fw (fun i=>some (i * z.length,z.length)) (Q3 n z) (HO s parts.toList) with
   |some l=>OU s nm d l z.length n
   |none=>none
   else none
  |none=>none
 |_,_=>none
def LO (T:Tab) (s:Cx) (nm:Nm) (d:Option Nat) (t:TypeId) (l c:Operand):Option Cx:=
 match d,dsC T t with
 |some d,some (.slice e)=>match II T e,intOf (opd s l),intOf (opd s c) with
  |some z,some l,some c=>if 0 < l∧l=c∧c≤65536 then OU s nm d (Q3 l.toNat z) z.length l.toNat else none
  |_,_,_=>none
 |_,_=>none
def NO (s:Cx) (d:Option Nat) (f:Fn) (first caps:Array Operand):Option Cx:=match f,first.toList with | .func f,[]=>some (s.put d (.fn f (Pb s caps.toList))) |_,_=>none
def Ez (s:Cx):Option Operand→Option CV
 |none=>none
 |some x=>some (opd s x)
def LP (s:Cx) (nm:Nm) (d:Option Nat) (x:Operand):Option Cx:=match d,opd s x with |some d,.str b=>(match s.new nm (.siter b 0) with |some s=>some (s.put (some d) (.ptr nm 0)) |none=>none) |_,_=>none
def NP (s:Cx) (d:Option Nat) (x:Operand) (b:Bool):Option Cx:=match d,b with |some d,true=>WP s d (opd s x) |_,_=>none
def NQ (T:Tab) (s:Cx) (nm:Nm) (d:Option Nat) (a b:TypeId) (x:Operand):Option Cx:=match d with |some d=>WO T s nm d a b (opd s x) |none=>none
def Kg (T:Tab) (t:TypeId):Bool:=match dsC T t with |some (.slice _)=>true |_=>false
def Ec (T:Tab) (t:TypeId):CV→Bool
 | .str _=>match dsC T t with |some .string=>true |_=>false
 |_=>Kg T t
def Q6 (T:Tab) (s:Cx) (d:Option Nat) (t:TypeId) (x:Operand):Option Cx:=match Ec T t (opd s x),NN (opd s x) with |true,some n=>some (s.put d (.int .i64 n)) |_,_=>none
def Kh (s:Cx) (d:Option Nat) (x y:Operand) (mx:Bool):Option Cx:=match opd s x,opd s y with | .int .i64 a,.int .i64 b=>some (s.put d (.int .i64 (match mx with |false=>if b < a then b else a |true=>if b > a then b else a))) |_,_=>none
def Q7 (T:Tab) (s:Cx) (d:Option Nat) (t:TypeId) (x:Operand):Option Cx:=match Kg T t,opd s x with |true,.sl _ _ _ (some c)=>some (s.put d (.int .i64 c)) |true,.nils=>some (s.put d (.int .i64 0)) |_,_=>none
def NR (T:Tab) (s:Cx) (d:Option Nat) (t:TypeId) (x y:Operand):Option Cx:=
 match dsC T t,opd s x,NN (opd s y) with
 |some (.slice e),.nils,some _=>match szC T e with |some _=>some (s.put d (.int .i64 0)) |none=>none
 |some (.slice e),.sl _ _ l _,some b=>match szC T e with |some _=>if l=0∨b=0 then some (s.put d (.int .i64 0)) else none |none=>none
 |_,_,_=>none
def NS (s:Cx) (d:Option Nat) (x:Operand):Option Cx:=match opd s x with | .sl n o l _=>if 0 < l then some (s.put d (.ptr n o)) else none |_=>none
def JL (T:Tab) (s:Cx) (d:Option Nat) (t:TypeId) (x y:Operand):Option Cx:=
 match dsC T t,opd s x,opd s y with
 |some (.pointer e),.ptr n 0,.int .i64 k=>match s.hp.get n with
  |some (.cells cs _ (some e'))=>if e'=e∧szC T e=some 1∧0 < k∧k.toNat≤cs.length∧k≤9223372036854775807 then(match bytesOf (cs.take k.toNat) with |some b=>some ((s.kill (Nat.beq n)).put d (.str b)) |none=>none) else none
  |_=>none
 |_,_,_=>none
def JM (T:Tab) (s:Cx) (nm:Nm) (d:Option Nat) (t t':TypeId) (x y:Operand):Option Cx:=match d,Ec T t' (opd s y) with |some d,true=>ZB T s nm d t (opd s x) (opd s y) |_,_=>none
def Cu (T:Tab) (s:Cx) (nm:Nm) (d:Option Nat) (b:Builtin) (args:List Operand) (ts:List TypeId):Option Cx:=
 match b,args,ts with
 | .len,[x],[t]=>Q6 T s d t x
 | .append,[x,y],[t,t']=>JM T s nm d t t' x y
 | .min,[x,y],_=>Kh s d x y false
 | .max,[x,y],_=>Kh s d x y true
 | .cap,[x],[t]=>Q7 T s d t x
 | .copy,[x,y],[t,_]=>NR T s d t x y
 | .unsafeSliceData,[x],_=>NS s d x
 | .unsafeString,[x,y],[t,_]=>JL T s d t x y
 |_,_,_=>none
def OV (T:Tab) (s:Cx) (d:Option Nat) (t:TypeId) (x y:Operand):Option Cx:=match d with |none=>NL T s t (opd s x) (opd s y) |some _=>none
def Gi (T:Tab) (s:Cx) (nm:Nm) (d:Option Nat) (o:Op):Option Cx:=
 match o with
 | .pick c a b=>Q4 s d c a b
 | .nilCheck x=>WQ s d x
 | .alloc t=>LN T s nm d t
 | .box t x=>Q5 s nm d t x
 | .field t x f=>JJ s d (OP T t f (opd s x))
 | .index t x i=>OS T s d t x i
 | .extract x i=>Kf s d x i
 | .unOp op _ x=>JJ s d (unC op (opd s x))
 | .convert a b x=>NQ T s nm d a b x
 | .build t parts=>OT T s d t parts
 | .buildSlice t n parts=>JK T s nm d t n parts
 | .makeSlice t l c=>LO T s nm d t l c
 | .makeFunc f first caps=>NO s d f first caps
 | .slice t x lo hi mx=>JJ s d (NM T t (opd s x) (Ez s lo) (Ez s hi) (Ez s mx))
 | .range t x=>match dsC T t with |some .string=>LP s nm d x |_=>none
 | .next x b=>NP s d x b
 |_=>none
def Dy (T:Tab) (s:Cx) (nm:Nm) (d:Option Nat) (o:Op):Option Cx:=
 match o with
 | .move x=>some (s.put d (opd s x))
 | .assign x=>some (s.put d (opd s x))
 | .load t x=>JJ s d (Ke T s t (opd s x))
 | .store t x y=>OV T s d t x y
 | .fieldAddr t x f=>JJ s d (OO T t f (opd s x))
 | .indexAddr t x i=>MM T s d t x i
 | .binOp op t x y _=>JJ s d (Ws T op t (match y with | .const _=>true |_=>false) (opd s x) (opd s y))
 |o=>Gi T s nm d o
end Go.Ev
namespace Go.Ev
open Go Go.Vl
structure Rt where
 v:CV
 stk:List Env
 hp:Hp
abbrev Ak:=FuncId→List CV→Nm→List Env→Hp→Option Rt
inductive Ex where
 |normal |ret
 |exit (id:Nat)
 deriving Inhabited
def gdC (ops:Array Oper) (s:Cx) (o:Oper):Option Bool:=
 match o.guard with
 |none=>some true
 |some (j,want)=>match (ops[j]?).bind (·.dst) with
  |some t=>match s.look t with
   | .bool b=>some (b==want)
   | .tup []=>some false
   |_=>none
  |none=>none
def ZC (base:Nm) (o:Oper):Nm:=base * 1024+(o.dst.getD 1023)
def Q8 (call:Ak) (nm:Nm) (s:Cx) (d:Option Nat) (y:Operand) (args:List Operand):Option Cx:=
 match opd s y with
 | .fn f caps=>match call f (Pb s args++caps) nm (s.env::s.stk) s.hp with
  |some r=>match r.stk with
   |e::stk=>some ({ s with env:=e,stk:=stk,hp:=r.hp }.put d r.v)
   |[]=>none
  |none=>none
 |_=>none
def Gj (call:Ak) (T:Tab) (nm:Nm) (s:Cx) (d:Option Nat) (c:Call):Option Cx:=
 match c.callee with
 | .value y=>Q8 call nm s d y c.args.toList
 | .builtin b=>Cu T s nm d b c.args.toList c.argTypes.toList
 | .invoke _ _=>none
def KG (call:Ak) (T:Tab) (base:Nm) (s:Cx) (o:Oper):Option Cx:=
 match o.op with
 | .call c=>Gj call T (ZC base o) s o.dst c
 |op=>Dy T s (ZC base o) o.dst op
def Co (nt:Nat):Option Nat→Bool
 |none=>true
 |some d=>Nat.blt d nt
def Ed (call:Ak) (T:Tab) (ops:Array Oper) (base:Nm) (s:Cx) (o:Oper):Option Cx:=
 match Co s.nt o.dst with
 |false=>none
 |true=>match o.guard with
 |none=>KG call T base s o
 |some _=>match gdC ops s o with
  |some false=>some (s.put o.dst (.tup []))
  |some true=>KG call T base s o
  |none=>none
def JN (call:Ak) (T:Tab) (ops:Array Oper) (base:Nm):List Oper→Cx→Option Cx
 |[],s=>some s
 |o::l,s=>(Ed call T ops base s o).bind (JN call T ops base l)
def Ch (o:Oper):Bool:=match o.op with
 | .move _=>true
 | .pick _ _ _=>true
 | .nilCheck _=>true
 | .indexAddr _ _ _=>true
 | .fieldAddr _ _ _=>true
 | .field _ _ _=>true
 | .index _ _ _=>true
 | .extract _ _=>true
 | .binOp _ _ _ _ _=>true
 | .unOp _ _ _=>true
 | .build _ _=>true
 | .call c=>match c.callee with | .builtin .len=>true |_=>false
 |_=>false
def ldC (o:Oper):Option Operand:=match o.op with | .load _ x=>some x |_=>none
def Q9 (n:Nm):List Nm→Bool
 |[]=>false
 |m::N=>Nat.beq m n||Q9 n N
def JO (call:Ak) (T:Tab) (ops:Array Oper) (base:Nm):List Nat→Cx→List Nm→Option (Cx×List Nm)
 |[],s,N=>some (s,N)
 |i::l,s,N=>match ops[i]? with
  |none=>none
  |some o=>match Ch o with
   |true=>(Ed call T ops base s o).bind fun s1=>JO call T ops base l s1 N
   |false=>match ldC o with
    |none=>none
    |some x=>match opd s x,gdC ops s o with
     | .ptr n _,some true=>(Ed call T ops base s o).bind fun s1=>JO call T ops base l s1 (match Q9 n N with |true=>N |false=>n::N)
     |_,some false=>(Ed call T ops base s o).bind fun s1=>JO call T ops base l s1 N
     |_,_=>none
mutual
def CV.beq:CV→CV→Bool
 | .un,.un=>true
 | .int k n,.int k' n'=>k==k'&&n==n'
 | .bool b,.bool b'=>b==b'
 | .str s,.str s'=>s==s'
 | .nilp,.nilp=>true
 | .nils,.nils=>true
 | .nilf,.nilf=>true
 | .nili,.nili=>true
 | .ptr n o,.ptr n' o'=>n==n'&&o==o'
 | .sl n o l c,.sl n' o' l' c'=>n==n'&&o==o'&&l==l'&&c==c'
 | .fn f l,.fn f' l'=>f==f'&&CV.beqL l l'
 | .agg l,.agg l'=>CV.beqL l l'
 | .tup l,.tup l'=>CV.beqL l l'
 |_,_=>false
def CV.beqL:List CV→List CV→Bool
 |[],[]=>true
 |x::l,y::l'=>CV.beq x y&&CV.beqL l l'
 |_,_=>false
end
def Ob.beq:Ob→Ob→Bool
 | .cells l z m,.cells l' z' m'=>CV.beqL l l'&&z==z'&&m==m'
 | .siter s p,.siter s' p'=>s==s'&&p==p'
 | .rd l,.rd l'=>CV.beqL l l'
 |_,_=>false
def OW (x:Env):Env→Bool
 |[]=>true
 |(t,b)::y=>(match lk x t with |some a=>CV.beq a b |none=>false)&&OW x y
def HP:List (Nm×Ob)→List (Nm×Ob)→Bool
 |[],[]=>true
 |(n,a)::x,(m,b)::y=>Nat.beq n m&&Ob.beq a b&&HP x y
 |_,_=>false
def MN (x:List (Nm×Ob)):List (Nm×Ob)→Bool
 |[]=>true
 |(n,b)::y=>(match lk x n with |some a=>Ob.beq a b |none=>false)&&MN x y
def MO:Hp→Hp→Bool
 | .leaf x,.leaf y=>HP x y||(MN x y&&MN y x)
 | .node a b,.node a' b'=>MO a a'&&MO b b'
 |_,_=>false
def Fa:Env→Env→Bool
 |[],[]=>true
 |(t,a)::x,(u,b)::y=>Nat.beq t u&&CV.beq a b&&Fa x y
 |_,_=>false
def Fb:List Env→List Env→Bool
 |[],[]=>true
 |x::l,y::l'=>Fa x y&&Fb l l'
 |_,_=>false
def thin:Env→Env→Env
 |[],acc=>acc
 |(t,a)::l,acc=>match lk acc t with |some _=>thin l acc |none=>thin l ((t,a)::acc)
def Cx.le (x y:Cx):Bool:=Nat.beq x.nt y.nt&&OW x.env (thin y.env [])&&Fb x.stk y.stk&&MO x.hp y.hp
def putAt (L:List (Option Cx)) (t:Nat) (s:Cx):Option (List (Option Cx)):=
 match L,t with
 |none::l,0=>some (some s::l)
 |some s0::l,0=>if s.le s0 then some (some s0::l) else none
 |x::l,t+1=>(putAt l t s).map fun l=>x::l
 |[],_=>none
def JP:List Nm→Hp→Option Hp
 |[],h=>some h
 |n::N,h=>match h.get n with
  |some (.cells l _ _)=>JP N (h.set n (.rd l))
  |some (.rd _)=>JP N h
  |_=>none
def JQ (h0:Hp):List Nm→Hp→Option Hp
 |[],h=>some h
 |n::N,h=>match h0.get n,h.get n with
  |some (.cells _ z m),some (.rd l)=>JQ h0 N (h.set n (.cells l z m))
  |some (.rd _),some (.rd _)=>JQ h0 N h
  |_,_=>none
def FJ (call:Ak) (T:Tab) (ops:Array Oper) (base:Nm) (s:Cx):List (Nat×Nat)→List (Option Cx)→Option (List (Option Cx))
 |[],L=>some L
 |(i,t)::es,L=>match ops[i]? with
  |none=>none
  |some o=>match Ed call T ops base s o with
   |none=>none
   |some s1=>(putAt L t s1).bind (FJ call T ops base s es)
def Ee (call:Ak) (T:Tab) (ops:Array Oper) (base:Nm):List (List Bool×List (Nat×Nat))→List (Option Cx)→Option Cx
 |[(_,[])],[some s]=>some s
 |(_,es)::ns,some s::L=>(FJ call T ops base s es L).bind (Ee call T ops base ns)
 |_,_=>none
def RE (call:Ak) (T:Tab) (ops:Array Oper) (base:Nm) (pl:CI) (s:Cx):Option Cx:=
 match JO call T ops base pl.pre s [] with
 |none=>none
 |some (s1,N)=>match JP N s1.hp with
  |none=>none
  |some h=>match Ee call T ops base pl.nodes (some { s1 with hp:=h }::(pl.nodes.drop 1).map fun _=>none) with
   |none=>none
   |some s2=>match JQ s1.hp N s2.hp with
    |none=>none
    |some h2=>some { s2 with hp:=h2 }
def OX (f:Cx→Nat→Option (Ex×Cx×Nat)):Nat→Cx→Nat→Option (Ex×Cx×Nat)
 |0,_,_=>none
 |n+1,s,c=>match f s c with
  |some (.normal,s',c')=>OX f n s' c'
  |r=>r
def BG (call:Ak) (T:Tab) (lf:Nat) (f:FuncId) (pth:Nm):Code→Cx→Nat→Option (Ex×Cx×Nat)
 | .skip,s,c=>some (.normal,s,c)
 | .region _ ops false,s,c=>(JN call T ops (pth * 1024+c) ops.toList s).map fun s=>(.normal,s,c+1)
 | .region id ops true,s,c=>(T.plan.get (f * 1024+id)).bind fun pl=>(RE call T ops (pth * 1024+c) pl s).map fun s=>(.normal,s,c+1)
 | .seq a b,s,c=>match BG call T lf f pth a s c with
  |some (.normal,s,c)=>BG call T lf f pth b s c
  |r=>r
 | .cond x a b,s,c=>match opd s x with
  | .bool true=>BG call T lf f pth a s c
  | .bool false=>BG call T lf f pth b s c
  |_=>none
 | .block id b,s,c=>match BG call T lf f pth b s c with
  |some (.exit i,s,c)=>if i=id then some (.normal,s,c) else some (.exit i,s,c)
  |r=>r
 | .loop b,s,c=>OX (BG call T lf f pth b) lf s c
 | .exit id,s,c=>some (.exit id,s,c)
 | .ret,s,c=>some (.ret,s,c)
 | .label _,s,c=>some (.normal,s,c)
 |_,_,_=>none
def RF (T:Tab) (s:Cx):ResultVar→Option CV
 | .tmp t=>some (s.look t)
 | .cell a t=>Ke T s t (s.look a)
def Gk (T:Tab) (s:Cx):List ResultVar→Option (List CV)
 |[]=>some []
 |r::l=>(RF T s r).bind fun x=>(Gk T s l).map fun xs=>x::xs
def Hy:List CV→CV
 |[x]=>x
 |l=>.tup l
def NT:Nat→List CV→Env
 |_,[]=>[]
 |i,x::l=>(i,x)::NT (i+1) l
def under (pth:Nm):Nat→Nm→Bool
 |0,_=>false
 |n+1,m=>match Nat.beq m pth with
  |true=>true
  |false=>match Nat.ble m pth with
   |true=>false
   |false=>under pth n (m / 1024)
def gone (pth:Nm) (h:Hp) (m:Nm):Bool:=match under pth 60 m with
 |true=>match h.get m with |some (.rd _)=>false |_=>true
 |false=>false
def RG (T:Tab) (f:FuncId) (pth:Nm) (v:CV) (s:Cx):Rt:=
 match T.drop.contains f with
 |true=>⟨scr (gone pth s.hp) v,s.stk.map (Gh (gone pth s.hp)),By (gone pth s.hp) s.hp⟩
 |false=>⟨v,s.stk,s.hp⟩
def MP (hook:Ak) (T:Tab) (lf:Nat):Nat→Ak
 |0,_,_,_,_,_=>none
 |n+1,f,args,pth,stk,hp=>match hook f args pth stk hp with
  |some r=>some r
  |none=>match T.fn.get f with
   |none=>none
   |some (c,nt,rs)=>if args.length≤nt then match BG (MP hook T lf n) T lf f pth c { env:=NT 0 args,nt:=nt,stk:=stk,hp:=hp } 0 with
    |some (e,s,_)=>(match e with | .exit _=>none |_=>(Gk T s rs).map fun l=>RG T f pth (Hy l) s)
    |none=>none
    else none
end Go.Ev
namespace Go.Ev
open Go Go.Vl
def fnE (f:Func):Code×Nat×List ResultVar:=(f.body.getD .skip,f.ntmps,f.results.toList)
def Tr.list {α:Type}:Tr α→List (Nat×α)
 | .leaf=>[]
 | .node l k v r=>l.list++((k,v)::r.list)
theorem Tr.mem {α:Type}:∀{t:Tr α} {k:Nat} {v:α},t.get k=some v→(k,v)∈t.list
 | .leaf,_,_,h=>by cases h
 | .node l k' v' r,k,v,h=>by
  simp only[Tr.get] at h
  simp only[Tr.list,List.mem_append,List.mem_cons]
  cases h1:Nat.blt k k' with
  |true=>rw[h1] at h;exact .inl (Tr.mem h)
  |false=>
   rw[h1] at h
   simp only at h
   cases h2:Nat.blt k' k with
   |true=>rw[h2] at h;exact .inr (.inr (Tr.mem h))
   |false=>
    rw[h2] at h
    cases h
    have a1:¬k < k':=fun hc=>by have:=Nat.ble_eq_true_of_le (show k+1≤k' from hc);unfold Nat.blt at h1;rw[this] at h1;cases h1
    have a2:¬k' < k:=fun hc=>by have:=Nat.ble_eq_true_of_le (show k'+1≤k from hc);unfold Nat.blt at h2;rw[this] at h2;cases h2
    have:k=k':=by omega
    exact .inr (.inl (by rw[this]))
def TN (P:Program) (t:TypeId):Option (List CV):=(P.info? t).bind fun i=>i.zero.bind fun z=>if z.cells.size=i.size∧z.cells.all Value.oneCell' then some (z.cells.toList.map GB) else none
def RI (P:Program):TypeDesc→Bool
 | .struct fs=>fs.toList.all fun f=>(Ad P f.type).isSome
 |_=>true
def BU (P:Program) (T:Tr TI):Prop:=∀t i,T.get t=some i→P.underlying t=some i.desc∧Ad P t=some i.sz∧Ao P t=i.ag∧TN P t=some i.zero∧EX P t=true∧RI P i.desc=true
def RJ (P:Program):List (Nat×TI)→Prop
 |[]=>True
 |(t,i)::l=>(P.underlying t=some i.desc∧Ad P t=some i.sz∧Ao P t=i.ag∧TN P t=some i.zero∧EX P t=true∧RI P i.desc=true)∧RJ P l
theorem Ki {P:Program}:∀{l:List (Nat×TI)},RJ P l→∀t i,(t,i)∈l→P.underlying t=some i.desc∧Ad P t=some i.sz∧Ao P t=i.ag∧TN P t=some i.zero∧EX P t=true∧RI P i.desc=true
 |[],_,_,_,h=>by cases h
 |(t',i')::l,h,t,i,hm=>by
  rcases List.mem_cons.1 hm with e |hm
  ·cases e;exact h.1
  ·exact Ki h.2 t i hm
theorem TO {P:Program} {T:Tr TI} (h:RJ P T.list):BU P T:=fun t i hg=>Ki h t i (Tr.mem hg)
def MQ (P:Program) (T:Tr (Code×Nat×List ResultVar)):Prop:=∀f c nt rs,T.get f=some (c,nt,rs)→∃fn,P.funcs[f]? =some fn∧fn.body=some c∧fn.ntmps=nt∧fn.results.toList=rs
def RL (P:Program):List (Nat×(Code×Nat×List ResultVar))→Prop
 |[]=>True
 |(f,e)::l=>(∃fn c,P.funcs[f]? =some fn∧fn.body=some c∧fnE fn=e)∧RL P l
theorem Kj {P:Program}:∀{l:List (Nat×(Code×Nat×List ResultVar))},RL P l→∀f e,(f,e)∈l→∃fn c,P.funcs[f]? =some fn∧fn.body=some c∧fnE fn=e
 |[],_,_,_,h=>by cases h
 |(f',e')::l,h,f,e,hm=>by
  rcases List.mem_cons.1 hm with q |hm
  ·cases q;exact h.1
  ·exact Kj h.2 f e hm
theorem RN {P:Program} {T:Tr (Code×Nat×List ResultVar)} (h:RL P T.list):MQ P T:=fun f c nt rs hg=>by
 obtain⟨fn,c',h1,h2,h3⟩:=Kj h f _ (Tr.mem hg)
 unfold fnE at h3
 rw[h2] at h3
 cases h3
 exact⟨fn,h1,h2,rfl,rfl⟩
def HQ (P:Program):Nat→List Field→List CV→Bool
 |_,[],[]=>true
 |j,f::fs,x::z=>(f.name != "_" &&Nat.beq f.offset j&&match P.underlying f.type,x with
  |some (.int _),.int _ _=>true
  |some .string,.str _=>true
  |some .bool,.bool _=>true
  |_,_=>false)&&HQ P (j+1) fs z
 |_,_,_=>false
def RO (P:Program) (t:TypeId) (z:List CV):Bool:=!P.eqGuardType P.depth t&&match P.underlying t with
 |some (.struct fs)=>!P.stoodInHeld t&&HQ P 0 fs.toList z
 |_=>false
def Di (P:Program) (T:Tab):Prop:=∀t∈T.eqs,∃z,II T t=some z∧RO P t z=true
end Go.Ev
