/- The value logic: maps as lists of pairs of a key and a value: what is found, set, taken out. Conditions: none. -/
import Derived.Test.YtjnflahicimmlaaGreatDoorVmXy
import Derived.Test.YtjnflahicimmlaaGreatDoorVmOa
set_option linter.unusedSimpArgs false
set_option linter.unusedVariables false
namespace Go.Vl
open Go Go.RowKit
def bB {κ ν:Type} (f:κ→List D) (g:ν→List D) (x:κ×ν):List D:=f x.1++g x.2
def eJ {κ ν:Type} (e:κ→κ→Bool) (x:κ):List (κ×ν)→Option (Nat×ν)
 |[]=>none
 |q::l=>if e x q.1=true then some (0,q.2) else(eJ e x l).map λr=>(r.1+1,r.2)
def br {κ ν:Type} (e:κ→κ→Bool) (l:List (κ×ν)) (x:κ):Option ν:=(eJ e x l).map (·.2)
def eD {κ ν:Type} (e:κ→κ→Bool) (l:List (κ×ν)) (x:κ) (v:ν):List (κ×ν):=match eJ e x l with |some q=>l.set q.1 (x,v) |none=>l++[(x,v)]
def wG {κ ν:Type} (e:κ→κ→Bool) (l:List (κ×ν)) (x:κ):List (κ×ν):=match eJ e x l with |some q=>l.eraseIdx q.1 |none=>l
def cK (a b:Int):Bool:=a==b
def pE (a b:ByteArray):Bool:=a.toList==b.toList
section
variable {P:Program} {κ ν:Type}
theorem IV {kt:TypeId} {ka:Bool} {kz:Nat} {k:AV} {f:κ→List D} {g:ν→List D} {e:κ→κ→Bool} {x:κ} (hf:∀y,(f y).length=kz) (hk:∀y,Dt P kt ka k (f y)=some (e x y)):∀l:List (κ×ν),lW P kt ka kz k (ak (bB f g) l)=some ((eJ e x l).map λq=>(q.1,g q.2))
 |[]=>rfl
 |q::l=>by
  have h1:(bB f g q).take kz=f q.1:=by unfold bB;rw[List.take_left' (hf _)]
  have h2:(bB f g q).drop kz=g q.2:=by unfold bB;rw[List.drop_left' (hf _)]
  rw[wE];simp only[lW,eJ];rw[h1,h2,hk q.1,aa,IV hf hk l];split
  ·simp
  ·simp only[Option.map_map,ba,cr];rfl
theorem yV {kt:TypeId} {k:IntKind} {g:ν→List D} (hu:P.underlying kt=some (.int k)) (x:Int) (l:List (Int×ν)):lW P kt false 1 (.d (.int k x)) (ak (bB (aH k) g) l)=some ((eJ cK x l).map λq=>(q.1,g q.2)):=
 IV (f:=aH k) (g:=g) (e:=cK) (x:=x) (λ_=>rfl) (λy=>by simp[Dt,nT,hu,aH,cK]) l
theorem PT {kt:TypeId} {g:ν→List D} (hu:P.underlying kt=some .string) (x:ByteArray) (l:List (ByteArray×ν)):lW P kt false 1 (.d (.str x)) (ak (bB mW g) l)=some ((eJ pE x l).map λq=>(q.1,g q.2)):=
 IV (f:=mW) (g:=g) (e:=pE) (x:=x) (λ_=>rfl) (λy=>by simp[Dt,nT,hu,mW,pE]) l
theorem A7 {kt:TypeId} {k:IntKind} (hu:P.underlying kt=some (.int k)) (x:Int):xl P kt false (.d (.int k x))=true:=by
 unfold xl;rw[ah (by decide),hu]
theorem Sq {kt:TypeId} (hu:P.underlying kt=some .string) (x:ByteArray):xl P kt false (.d (.str x))=true:=by
 unfold xl;rw[ah (by decide),hu]
theorem A5 {et:TypeId} {va ok:Bool} {g:ν→List D} {av:ν→AV} {z:ν} (hp:∀v,ml va (g v)=some (av v)) (hz:zeroV P et=some (av z)) {e:κ→κ→Bool} {x:κ} {l:List (κ×ν)}:
  vH P et va ok ((eJ e x l).map λq=>(q.1,g q.2))=some (if ok=true then .ia [av ((br e l x).getD z),.d (.bool (br e l x).isSome)] else av ((br e l x).getD z)):=by
 unfold vH br;cases eJ e x l with
 |none=>simp[hz]
 |some q=>simp[hp]
theorem D3 {f:κ→List D} {g:ν→List D} {e:κ→κ→Bool} {x:κ} {v:ν} {l:List (κ×ν)} {row:List D} (hr:row=f x++g v) {h:Nat×ν→Nat×List D} (hh:∀q,(h q).1=q.1):F8 (ak (bB f g) l) row ((eJ e x l).map h)=ak (bB f g) (eD e l x v):=by
 subst hr;unfold eD;cases eJ e x l with
 |none=>simp[F8,ak,bB]
 |some q=>simp[F8,hh,ak,bB,List.map_set]
theorem TD {f:κ→List D} {g:ν→List D} {e:κ→κ→Bool} {x:κ} {l:List (κ×ν)} {h:Nat×ν→Nat×List D} (hh:∀q,(h q).1=q.1):P5 (ak (bB f g) l) ((eJ e x l).map h)=ak (bB f g) (wG e l x):=by
 unfold wG;cases eJ e x l with
 |none=>rfl
 |some q=>
  simp only[cr,P5,hh,ak];apply eH;intro i;simp only[List.getElem?_eraseIdx,aA];split <;> rfl
end
theorem DZ (t kz:Nat) (ka va:Bool) (z:Nat) (rows:List (List D)):VS.rC ⟨bL t kz ka va,z,rows⟩=true:=Se t kz ka va z rows
theorem sy (t:Nat) {kz:Nat} (h:kz < 64) (ka va:Bool) (z:Nat) (rows:List (List D)):VS.kz ⟨bL t kz ka va,z,rows⟩=kz:=by
 unfold VS.kz LC bL;simp only;have h1:ka.toNat≤1:=by cases ka <;> decide
 have h2:va.toNat≤1:=by cases va <;> decide
 rw[sr];omega
theorem uX (t kz:Nat) (ka va:Bool) (z:Nat) (rows:List (List D)):VS.ka ⟨bL t kz ka va,z,rows⟩=ka:=by
 unfold VS.ka WH bL;simp only;have h2:va.toNat≤1:=by cases va <;> decide
 rw[sr];cases ka
 ·have:(((t * 64+kz) * 2+false.toNat) * 2+va.toNat) / 2 % 2=0:=by simp only[Bool.toNat_false];omega
  rw[this];rfl
 ·have:(((t * 64+kz) * 2+true.toNat) * 2+va.toNat) / 2 % 2=1:=by simp only[Bool.toNat_true];omega
  rw[this];rfl
theorem zG (t kz:Nat) (ka va:Bool) (z:Nat) (rows:List (List D)):VS.va ⟨bL t kz ka va,z,rows⟩=va:=by
 unfold VS.va WG bL;simp only;rw[sr];cases va
 ·have:(((t * 64+kz) * 2+ka.toNat) * 2+false.toNat) % 2=0:=by simp only[Bool.toNat_false];omega
  rw[this];rfl
 ·have:(((t * 64+kz) * 2+ka.toNat) * 2+true.toNat) % 2=1:=by simp only[Bool.toNat_true];omega
  rw[this];rfl
theorem VC (t kz:Nat) (ka va:Bool):(1000000≤bL t kz ka va)=True:=eq_true (Nat.le_add_right _ _)
theorem O0 (rows:List (List D)) (row:List D):F8 rows row none=rows++[row]:=rfl
theorem P4 (rows:List (List D)):P5 rows none=rows:=rfl
theorem ME (P:Program) (et:TypeId) (va ok:Bool):vH P et va ok none=(zeroV P et).map λv=>if ok=true then .ia [v,.d (.bool false)] else v:=rfl
theorem EP {κ ν:Type} (e:κ→κ→Bool) (x:κ) (v:ν):eD e [] x v=[(x,v)]:=rfl
theorem Kg {κ ν:Type} (e:κ→κ→Bool) (x:κ):br e ([]:List (κ×ν)) x=none:=rfl
theorem Kh {κ ν:Type} (e:κ→κ→Bool) (x:κ):wG e ([]:List (κ×ν)) x=[]:=rfl
theorem VA {κ ν:Type} (f:κ→List D) (g:ν→List D) (x:κ) (v:ν):bB f g (x,v)=f x++g v:=rfl
theorem QX (d:D):mG false (.d d)=some [d]:=rfl
theorem Jw (x:AV) (l:List AV):mG true (.agg (x::l))=uW (x::l):=rfl
end Go.Vl
namespace Go.Vl
@[simp] theorem Uf (l:List Int):sS (ak (aH .u8) l)=some l:=AE l
attribute [simp] Ie BS Ig O4 wE Me Mg Mf GS GR aH gm mW uE
attribute [simp] TS TT ado Ni CB TU Wu
attribute [simp 2000] Z2 Ww
attribute [simp] Wv Ws TV TX Wr Z1
attribute [simp] AV.BE AV.JR St.BE F0 Wt F1 TW Io Pk
attribute [simp] uZ ddp YE St.kp rk PX Ty lR wS vq QD GC Jp FE Fc FL Qi JM ta yv Qf Qu P3 iQ Yt mN.on iw lI
attribute [simp] rT QW TE VB Vx Es Xt sy uX zG QX Jw A7 Sq yV PT
attribute [simp] VC O0 P4 ME EP Kg Kh VA lW
attribute [simp 2000] DZ
end Go.Vl
