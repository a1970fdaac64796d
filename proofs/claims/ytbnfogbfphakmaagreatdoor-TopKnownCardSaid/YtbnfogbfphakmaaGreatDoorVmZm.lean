/- The value logic: maps as lists of pairs of a key and a value: what is found, set, taken out. Conditions: none. -/
import Derived.Test.YtbnfogbfphakmaaGreatDoorVmZb
import Derived.Test.YtbnfogbfphakmaaGreatDoorVmY
set_option linter.unusedSimpArgs false
set_option linter.unusedVariables false
namespace Go.Vl
open Go Go.RowKit
def mRow {κ ν:Type} (f:κ→List D) (g:ν→List D) (x:κ×ν):List D:=f x.1++g x.2
def mfind {κ ν:Type} (e:κ→κ→Bool) (x:κ):List (κ×ν)→Option (Nat×ν)
 |[]=>none
 |q::l=>if e x q.1=true then some (0,q.2) else(mfind e x l).map fun r=>(r.1+1,r.2)
def mget {κ ν:Type} (e:κ→κ→Bool) (l:List (κ×ν)) (x:κ):Option ν:=(mfind e x l).map (·.2)
def mset {κ ν:Type} (e:κ→κ→Bool) (l:List (κ×ν)) (x:κ) (v:ν):List (κ×ν):=match mfind e x l with |some q=>l.set q.1 (x,v) |none=>l++[(x,v)]
def mdel {κ ν:Type} (e:κ→κ→Bool) (l:List (κ×ν)) (x:κ):List (κ×ν):=match mfind e x l with |some q=>l.eraseIdx q.1 |none=>l
def inE (a b:Int):Bool:=a==b
def stE (a b:ByteArray):Bool:=a.toList==b.toList
section
variable {P:Program} {κ ν:Type}
theorem findM_F {kt:TypeId} {ka:Bool} {kz:Nat} {k:AV} {f:κ→List D} {g:ν→List D} {e:κ→κ→Bool} {x:κ} (hf:∀y,(f y).length=kz) (hk:∀y,kEqA P kt ka k (f y)=some (e x y)):∀l:List (κ×ν),findM P kt ka kz k (rowsF (mRow f g) l)=some ((mfind e x l).map fun q=>(q.1,g q.2))
 |[]=>rfl
 |q::l=>by
  have h1:(mRow f g q).take kz=f q.1:=by unfold mRow;rw[List.take_left' (hf _)]
  have h2:(mRow f g q).drop kz=g q.2:=by unfold mRow;rw[List.drop_left' (hf _)]
  rw[rowsF_cons]
  simp only[findM,mfind]
  rw[h1,h2,hk q.1,Option.bind_some,findM_F hf hk l]
  split
  ·simp
  ·simp only[Option.map_map,Option.some.injEq,Option.map_some];rfl
theorem findM_int {kt:TypeId} {k:IntKind} {g:ν→List D} (hu:P.underlying kt=some (.int k)) (x:Int) (l:List (Int×ν)):findM P kt false 1 (.d (.int k x)) (rowsF (mRow (iRow k) g) l)=some ((mfind inE x l).map fun q=>(q.1,g q.2)):=
 findM_F (f:=iRow k) (g:=g) (e:=inE) (x:=x) (fun _=>rfl) (fun y=>by simp[kEqA,eqCell,hu,iRow,inE]) l
theorem findM_str {kt:TypeId} {g:ν→List D} (hu:P.underlying kt=some .string) (x:ByteArray) (l:List (ByteArray×ν)):findM P kt false 1 (.d (.str x)) (rowsF (mRow sRow g) l)=some ((mfind stE x l).map fun q=>(q.1,g q.2)):=
 findM_F (f:=sRow) (g:=g) (e:=stE) (x:=x) (fun _=>rfl) (fun y=>by simp[kEqA,eqCell,hu,sRow,stE]) l
theorem keyB_int {kt:TypeId} {k:IntKind} (hu:P.underlying kt=some (.int k)) (x:Int):keyB P kt false (.d (.int k x))=true:=by
 unfold keyB
 rw[if_neg (by decide),hu]
theorem keyB_str {kt:TypeId} (hu:P.underlying kt=some .string) (x:ByteArray):keyB P kt false (.d (.str x))=true:=by
 unfold keyB
 rw[if_neg (by decide),hu]
theorem setR_F {f:κ→List D} {g:ν→List D} {e:κ→κ→Bool} {x:κ} {v:ν} {l:List (κ×ν)} {row:List D} (hr:row=f x++g v) {h:Nat×ν→Nat×List D} (hh:∀q,(h q).1=q.1):setR (rowsF (mRow f g) l) row ((mfind e x l).map h)=rowsF (mRow f g) (mset e l x v):=by
 subst hr
 unfold mset
 cases mfind e x l with
 |none=>simp[setR,rowsF,mRow]
 |some q=>simp[setR,hh,rowsF,mRow,List.map_set]
theorem delR_F {f:κ→List D} {g:ν→List D} {e:κ→κ→Bool} {x:κ} {l:List (κ×ν)} {h:Nat×ν→Nat×List D} (hh:∀q,(h q).1=q.1):delR (rowsF (mRow f g) l) ((mfind e x l).map h)=rowsF (mRow f g) (mdel e l x):=by
 unfold mdel
 cases mfind e x l with
 |none=>rfl
 |some q=>
  simp only[Option.map_some,delR,hh,rowsF]
  apply List.ext_getElem?
  intro i
  simp only[List.getElem?_eraseIdx,List.getElem?_map]
  split <;> rfl
end
theorem tag_M (t kz:Nat) (ka va:Bool) (z:Nat) (rows:List (List D)):VS.isM ⟨mTag t kz ka va,z,rows⟩=true:=mTag_M t kz ka va z rows
theorem tag_kz (t:Nat) {kz:Nat} (h:kz < 64) (ka va:Bool) (z:Nat) (rows:List (List D)):VS.kz ⟨mTag t kz ka va,z,rows⟩=kz:=by
 unfold VS.kz tkz mTag
 simp only
 have h1:ka.toNat≤1:=by cases ka <;> decide
 have h2:va.toNat≤1:=by cases va <;> decide
 rw[Nat.add_sub_cancel_left]
 omega
theorem tag_ka (t kz:Nat) (ka va:Bool) (z:Nat) (rows:List (List D)):VS.ka ⟨mTag t kz ka va,z,rows⟩=ka:=by
 unfold VS.ka tka mTag
 simp only
 have h2:va.toNat≤1:=by cases va <;> decide
 rw[Nat.add_sub_cancel_left]
 cases ka
 ·have:(((t * 64+kz) * 2+false.toNat) * 2+va.toNat) / 2 % 2=0:=by simp only[Bool.toNat_false];omega
  rw[this];rfl
 ·have:(((t * 64+kz) * 2+true.toNat) * 2+va.toNat) / 2 % 2=1:=by simp only[Bool.toNat_true];omega
  rw[this];rfl
theorem tag_va (t kz:Nat) (ka va:Bool) (z:Nat) (rows:List (List D)):VS.va ⟨mTag t kz ka va,z,rows⟩=va:=by
 unfold VS.va tva mTag
 simp only
 rw[Nat.add_sub_cancel_left]
 cases va
 ·have:(((t * 64+kz) * 2+ka.toNat) * 2+false.toNat) % 2=0:=by simp only[Bool.toNat_false];omega
  rw[this];rfl
 ·have:(((t * 64+kz) * 2+ka.toNat) * 2+true.toNat) % 2=1:=by simp only[Bool.toNat_true];omega
  rw[this];rfl
theorem le_mTag (t kz:Nat) (ka va:Bool):(1000000≤mTag t kz ka va)=True:=eq_true (Nat.le_add_right _ _)
theorem setR_none (rows:List (List D)) (row:List D):setR rows row none=rows++[row]:=rfl
theorem delR_none (rows:List (List D)):delR rows none=rows:=rfl
theorem lookR_none (P:Program) (et:TypeId) (va ok:Bool):lookR P et va ok none=(zeroV P et).map fun v=>if ok=true then .tup [v,.d (.bool false)] else v:=rfl
theorem mset_nil {κ ν:Type} (e:κ→κ→Bool) (x:κ) (v:ν):mset e [] x v=[(x,v)]:=rfl
theorem mget_nil {κ ν:Type} (e:κ→κ→Bool) (x:κ):mget e ([]:List (κ×ν)) x=none:=rfl
theorem mdel_nil {κ ν:Type} (e:κ→κ→Bool) (x:κ):mdel e ([]:List (κ×ν)) x=[]:=rfl
theorem mRow_ap {κ ν:Type} (f:κ→List D) (g:ν→List D) (x:κ) (v:ν):mRow f g (x,v)=f x++g v:=rfl
theorem unpack_d (d:D):unpackMA false (.d d)=some [d]:=rfl
theorem unpack_cons (x:AV) (l:List AV):unpackMA true (.agg (x::l))=toDs (x::l):=rfl
end Go.Vl
