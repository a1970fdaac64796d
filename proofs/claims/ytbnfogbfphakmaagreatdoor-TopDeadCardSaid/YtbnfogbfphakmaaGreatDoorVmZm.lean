/- The value logic: maps as lists of pairs of a key and a value: what is found, set, taken out. Conditions: none. -/
import Derived.Test.YtbnfogbfphakmaaGreatDoorVmZb
import Derived.Test.YtbnfogbfphakmaaGreatDoorVmY
set_option linter.unusedSimpArgs false
set_option linter.unusedVariables false
namespace Go.Vl
open Go Go.RowKit
def C7 {κ ν:Type} (f:κ→List D) (g:ν→List D) (x:κ×ν):List D:=f x.1++g x.2
def Dx {κ ν:Type} (e:κ→κ→Bool) (x:κ):List (κ×ν)→Option (Nat×ν)
 |[]=>none
 |q::l=>if e x q.1=true then some (0,q.2) else(Dx e x l).map fun r=>(r.1+1,r.2)
def ZX {κ ν:Type} (e:κ→κ→Bool) (l:List (κ×ν)) (x:κ):Option ν:=(Dx e x l).map (·.2)
def Qm {κ ν:Type} (e:κ→κ→Bool) (l:List (κ×ν)) (x:κ) (v:ν):List (κ×ν):=match Dx e x l with |some q=>l.set q.1 (x,v) |none=>l++[(x,v)]
def Qn {κ ν:Type} (e:κ→κ→Bool) (l:List (κ×ν)) (x:κ):List (κ×ν):=match Dx e x l with |some q=>l.eraseIdx q.1 |none=>l
def inE (a b:Int):Bool:=a==b
def stE (a b:ByteArray):Bool:=a.toList==b.toList
section
variable {P:Program} {κ ν:Type}
theorem LL {kt:TypeId} {ka:Bool} {kz:Nat} {k:AV} {f:κ→List D} {g:ν→List D} {e:κ→κ→Bool} {x:κ} (hf:∀y,(f y).length=kz) (hk:∀y,IG P kt ka k (f y)=some (e x y)):∀l:List (κ×ν),B5 P kt ka kz k (AB (C7 f g) l)=some ((Dx e x l).map fun q=>(q.1,g q.2))
 |[]=>rfl
 |q::l=>by
  have h1:(C7 f g q).take kz=f q.1:=by unfold C7;rw[List.take_left' (hf _)]
  have h2:(C7 f g q).drop kz=g q.2:=by unfold C7;rw[List.drop_left' (hf _)]
  rw[F9]
  simp only[B5,Dx]
  rw[h1,h2,hk q.1,Option.bind_some,LL hf hk l]
  split
  ·simp
  ·simp only[Option.map_map,Option.some.injEq,Option.map_some];rfl
theorem PT {kt:TypeId} {k:IntKind} {g:ν→List D} (hu:P.underlying kt=some (.int k)) (x:Int) (l:List (Int×ν)):B5 P kt false 1 (.d (.int k x)) (AB (C7 (AH k) g) l)=some ((Dx inE x l).map fun q=>(q.1,g q.2)):=
 LL (f:=AH k) (g:=g) (e:=inE) (x:=x) (fun _=>rfl) (fun y=>by simp[IG,Ba,hu,AH,inE]) l
theorem PU {kt:TypeId} {g:ν→List D} (hu:P.underlying kt=some .string) (x:ByteArray) (l:List (ByteArray×ν)):B5 P kt false 1 (.d (.str x)) (AB (C7 Qc g) l)=some ((Dx stE x l).map fun q=>(q.1,g q.2)):=
 LL (f:=Qc) (g:=g) (e:=stE) (x:=x) (fun _=>rfl) (fun y=>by simp[IG,Ba,hu,Qc,stE]) l
theorem Qo {kt:TypeId} {k:IntKind} (hu:P.underlying kt=some (.int k)) (x:Int):Fj P kt false (.d (.int k x))=true:=by
 unfold Fj
 rw[if_neg (by decide),hu]
theorem Qp {kt:TypeId} (hu:P.underlying kt=some .string) (x:ByteArray):Fj P kt false (.d (.str x))=true:=by
 unfold Fj
 rw[if_neg (by decide),hu]
theorem Wo {f:κ→List D} {g:ν→List D} {e:κ→κ→Bool} {x:κ} {v:ν} {l:List (κ×ν)} {row:List D} (hr:row=f x++g v) {h:Nat×ν→Nat×List D} (hh:∀q,(h q).1=q.1):O6 (AB (C7 f g) l) row ((Dx e x l).map h)=AB (C7 f g) (Qm e l x v):=by
 subst hr
 unfold Qm
 cases Dx e x l with
 |none=>simp[O6,AB,C7]
 |some q=>simp[O6,hh,AB,C7,List.map_set]
theorem Wp {f:κ→List D} {g:ν→List D} {e:κ→κ→Bool} {x:κ} {l:List (κ×ν)} {h:Nat×ν→Nat×List D} (hh:∀q,(h q).1=q.1):QA (AB (C7 f g) l) ((Dx e x l).map h)=AB (C7 f g) (Qn e l x):=by
 unfold Qn
 cases Dx e x l with
 |none=>rfl
 |some q=>
  simp only[Option.map_some,QA,hh,AB]
  apply List.ext_getElem?
  intro i
  simp only[List.getElem?_eraseIdx,List.getElem?_map]
  split <;> rfl
end
theorem Y5 (t kz:Nat) (ka va:Bool) (z:Nat) (rows:List (List D)):VS.isM ⟨ES t kz ka va,z,rows⟩=true:=QL t kz ka va z rows
theorem NI (t:Nat) {kz:Nat} (h:kz < 64) (ka va:Bool) (z:Nat) (rows:List (List D)):VS.kz ⟨ES t kz ka va,z,rows⟩=kz:=by
 unfold VS.kz tkz ES
 simp only
 have h1:ka.toNat≤1:=by cases ka <;> decide
 have h2:va.toNat≤1:=by cases va <;> decide
 rw[Nat.add_sub_cancel_left]
 omega
theorem Qq (t kz:Nat) (ka va:Bool) (z:Nat) (rows:List (List D)):VS.ka ⟨ES t kz ka va,z,rows⟩=ka:=by
 unfold VS.ka tka ES
 simp only
 have h2:va.toNat≤1:=by cases va <;> decide
 rw[Nat.add_sub_cancel_left]
 cases ka
 ·have:(((t * 64+kz) * 2+false.toNat) * 2+va.toNat) / 2 % 2=0:=by simp only[Bool.toNat_false];omega
  rw[this];rfl
 ·have:(((t * 64+kz) * 2+true.toNat) * 2+va.toNat) / 2 % 2=1:=by simp only[Bool.toNat_true];omega
  rw[this];rfl
theorem Qr (t kz:Nat) (ka va:Bool) (z:Nat) (rows:List (List D)):VS.va ⟨ES t kz ka va,z,rows⟩=va:=by
 unfold VS.va tva ES
 simp only
 rw[Nat.add_sub_cancel_left]
 cases va
 ·have:(((t * 64+kz) * 2+ka.toNat) * 2+false.toNat) % 2=0:=by simp only[Bool.toNat_false];omega
  rw[this];rfl
 ·have:(((t * 64+kz) * 2+ka.toNat) * 2+true.toNat) % 2=1:=by simp only[Bool.toNat_true];omega
  rw[this];rfl
theorem TK (t kz:Nat) (ka va:Bool):(1000000≤ES t kz ka va)=True:=eq_true (Nat.le_add_right _ _)
theorem PV (rows:List (List D)) (row:List D):O6 rows row none=rows++[row]:=rfl
theorem PW (rows:List (List D)):QA rows none=rows:=rfl
theorem NJ (P:Program) (et:TypeId) (va ok:Bool):Ly P et va ok none=(zeroV P et).map fun v=>if ok=true then .tup [v,.d (.bool false)] else v:=rfl
theorem Qs {κ ν:Type} (e:κ→κ→Bool) (x:κ) (v:ν):Qm e [] x v=[(x,v)]:=rfl
theorem Qt {κ ν:Type} (e:κ→κ→Bool) (x:κ):ZX e ([]:List (κ×ν)) x=none:=rfl
theorem Qu {κ ν:Type} (e:κ→κ→Bool) (x:κ):Qn e ([]:List (κ×ν)) x=[]:=rfl
theorem TL {κ ν:Type} (f:κ→List D) (g:ν→List D) (x:κ) (v:ν):C7 f g (x,v)=f x++g v:=rfl
theorem Qv (d:D):C3 false (.d d)=some [d]:=rfl
theorem MJ (x:AV) (l:List AV):C3 true (.agg (x::l))=EC (x::l):=rfl
end Go.Vl
