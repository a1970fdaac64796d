/- Plain laws: small numbers, indices, sorted lists. Conditions: none. -/
import Derived.Test.YtjnflahicimmlaaGreatDoorVmZv
set_option linter.unusedSimpArgs false
set_option linter.unusedVariables false
namespace Go.Vl
open Go
theorem iI {x:Int} (h1: -9223372036854775808≤x) (h2:x≤9223372036854775807):IntKind.i64.wrap x=x:=Np h1 h2
theorem dj {α:Type} {l:List α} {i:Nat} (h:i < l.length):idx l (i:Int)=some l[i]:=by rw[A8,ae h]
theorem pM {α:Type} {l:List α} {i:Int} (h0:0≤i) (h:i.toNat < l.length):idx l i=some l[i.toNat]:=by
 unfold idx;rw[ai h0,ae h]
end Go.Vl
namespace Go.Vl
open Go
theorem nR {α σ ε:Type} {body:Int×σ→Option (Lp (Int×σ) ε)} (l:List α) (f:σ→α→σ) (fin:σ→ε) (Inv:Nat→σ→Prop)
  (xr:∀(i:Nat) (h:i < l.length) (s:σ),Inv i s→body ((i:Int),s)=some (.go (((i+1:Nat):Int),f s l[i]))∧Inv (i+1) (f s l[i]))
  (Ac:∀s,Inv l.length s→body ((l.length:Int),s)=some (.out (fin s))) (s0:σ) (h0:Inv 0 s0):iter body (0,s0)=some (fin (l.foldl f s0)):=by
 have key:∀(m i:Nat) (s:σ),i+m=l.length→Inv i s→iter body ((i:Int),s)=some (fin ((l.drop i).foldl f s)):=λm=>by
  induction m with
  |zero=>
   intro i s h hi;have:i=l.length:=by omega
   subst this;rw[dP (Ac s hi)];simp
  |succ m ih=>
   intro i s h hi;obtain⟨h1,h2⟩:=xr i (by omega) s hi;rw[fT h1,ih (i+1) _ (by omega) h2,bN (show i < l.length by omega)]
   rfl
 have:=key l.length 0 s0 (by omega) h0;simpa using this
end Go.Vl
namespace Go.Vl
open Go
theorem vL {ε:Type} {body:Int→Option (Lp Int (Unit ⊕ ε))} (n:Nat) (p:Nat→Bool) (e:ε) (xr:∀i,i < n→body (i:Int)=some (if p i=true then .go ((i+1:Nat):Int) else .out (.inr e)))
  (Ac:body (n:Int)=some (.out (.inl ()))):iter body 0=some (if (∀i,i < n→p i=true) then .inl () else .inr e):=by
 have key:∀(m i:Nat),i+m=n→((∀j,i≤j→j < n→p j=true)→iter body (i:Int)=some (.inl ()))∧((∃j,i≤j∧j < n∧p j=false)→iter body (i:Int)=some (.inr e)):=λm=>by
  induction m with
  |zero=>
   intro i h;have:i=n:=by omega
   subst this;exact⟨λ_=>dP Ac,λ⟨j,h1,h2,_⟩=>by omega⟩
  |succ m ih=>
   intro i h;have h1:=xr i (by omega);obtain⟨i1,i2⟩:=ih (i+1) (by omega);by_cases hp:p i=true
   ·rw[ai hp] at h1
    rw[fT h1];refine⟨λh2=>i1 λj h3 h4=>h2 j (by omega) h4,λ⟨j,h3,h4,h5⟩=>i2 ⟨j,?_,h4,h5⟩⟩;rcases Nat.lt_or_eq_of_le h3 with h6 |h6
    ·exact h6
    ·subst h6;rw[hp] at h5;cases h5
   ·rw[ah hp] at h1
    rw[dP h1];exact⟨λh2=>absurd (h2 i (aM i) (by omega)) hp,λ_=>rfl⟩
 obtain⟨k1,k2⟩:=key n 0 (by omega);by_cases h:∀i,i < n→p i=true
 ·rw[ai h];exact k1 λj _=>h j
 ·rw[ah h]
  refine k2 ?_;refine ep λhn=>h λi hi=>?_
  cases hp:p i with
  |true=>rfl
  |false=>exact absurd ⟨i,cE i,hi,hp⟩ hn
theorem CU {α σ σ' ε:Type} {body:σ'→Option (Lp σ' ε)} (l:List α) (S:Nat→σ→σ') (f:σ→α→σ) (fin:σ→ε) (Inv:Nat→σ→Prop)
  (xr:∀(i:Nat) (h:i < l.length) (s:σ),Inv i s→body (S i s)=some (.go (S (i+1) (f s l[i])))∧Inv (i+1) (f s l[i]))
  (Ac:∀s,Inv l.length s→body (S l.length s)=some (.out (fin s))) (s0:σ) (h0:Inv 0 s0):iter body (S 0 s0)=some (fin (l.foldl f s0))∧Inv l.length (l.foldl f s0):=by
 have key:∀(m i:Nat) (s:σ),i+m=l.length→Inv i s→iter body (S i s)=some (fin ((l.drop i).foldl f s))∧Inv l.length ((l.drop i).foldl f s):=λm=>by
  induction m with
  |zero=>
   intro i s h hi;have:i=l.length:=by omega
   subst this;rw[uz];exact⟨dP (Ac s hi),hi⟩
  |succ m ih=>
   intro i s h hi;have hl:i < l.length:=by omega
   obtain⟨h1,h2⟩:=xr i hl s hi;rw[fT h1,bN hl,ea];exact ih (i+1) _ (by omega) h2
 simpa using key l.length 0 s0 (by omega) h0
theorem E0 {α ε:Type} {body:Int→Option (Lp Int ε)} (l:List α) (p:α→Bool) (A:Nat→α→ε) (B:ε)
  (xr:∀(i:Nat) (h:i < l.length),body (i:Int)=some (if p l[i]=true then .out (A i l[i]) else .go (((i+1:Nat):Int))))
  (Ac:body (l.length:Int)=some (.out B)):(l.any p=false→iter body 0=some B)∧(l.any p=true→∃(i:Nat) (h:i < l.length),p l[i]=true∧iter body 0=some (A i l[i])):=by
 have key:∀(m i:Nat),i+m=l.length→((l.drop i).any p=false→iter body (i:Int)=some B)∧((l.drop i).any p=true→∃(k:Nat) (h:k < l.length),p l[k]=true∧iter body (i:Int)=some (A k l[k])):=λm=>by
  induction m with
  |zero=>
   intro i h;have:i=l.length:=by omega
   subst this;rw[uz];exact⟨λ_=>dP Ac,λh=>by simp at h⟩
  |succ m ih=>
   intro i h;have hi:i < l.length:=by omega
   rw[bN hi,List.any_cons];have h1:=xr i hi;cases hp:p l[i] with
   |true=>
    rw[hp,ai rfl] at h1;exact⟨λh=>by simp at h,λ_=>⟨i,hi,hp,dP h1⟩⟩
   |false=>
    rw[hp,ah (by decide)] at h1;rw[fT h1];simpa using ih (i+1) (by omega)
 simpa using key l.length 0 (by omega)
end Go.Vl
namespace Go.Vl
open Go
section
variable {κ ν:Type} {e:κ→κ→Bool}
theorem iL (q:κ×ν) (l:List (κ×ν)) (x:κ):br e (q::l) x=if e x q.1=true then some q.2 else br e l x:=by
 unfold br;rw[eJ];split
 ·rfl
 ·cases eJ e x l <;> rfl
theorem yR (q:κ×ν) (l:List (κ×ν)) (x:κ) (v:ν):eD e (q::l) x v=if e x q.1=true then(x,v)::l else q::eD e l x v:=by
 unfold eD;rw[eJ];by_cases h:e x q.1=true
 ·rw[ai h,ai h];rfl
 ·rw[ah h,ah h]
  cases eJ e x l <;> rfl
theorem Hh (q:κ×ν) (l:List (κ×ν)) (x:κ):wG e (q::l) x=if e x q.1=true then l else q::wG e l x:=by
 unfold wG;rw[eJ];by_cases h:e x q.1=true
 ·rw[ai h,ai h];rfl
 ·rw[ah h,ah h]
  cases eJ e x l <;> rfl
variable (he:∀a b,e a b=true↔a=b)
include he
theorem iK:∀(l:List (κ×ν)) (x:κ) (v:ν) (c:κ),(c=x→br e (eD e l x v) c=some v)∧(c≠x→br e (eD e l x v) c=br e l c)
 |[],x,v,c=>by
  rw[EP,iL];refine⟨λh=>by rw[ai ((he c x).2 h)],λh=>by rw[ah λh2=>h ((he c x).1 h2)]⟩
 |q::l,x,v,c=>by
  rw[yR];obtain⟨i1,i2⟩:=iK l x v c;by_cases h:e x q.1=true
  ·rw[ai h]
   have:=(he x q.1).1 h;refine⟨λh2=>?_,λh2=>?_⟩
   ·rw[iL,ai ((he c x).2 h2)]
   ·rw[iL,iL,ah λh3=>h2 ((he c x).1 h3),ah λh3=>h2 (((he c q.1).1 h3).trans this.symm)]
  ·rw[ah h]
   refine⟨λh2=>?_,λh2=>?_⟩
   ·subst h2
    rw[iL,ah h];exact i1 rfl
   ·rw[iL,iL,i2 h2]
theorem mH:∀{l:List (κ×ν)} {x:κ},(br e l x).isSome=true↔x∈l.map (·.1)
 |[],x=>by simp[Kg]
 |q::l,x=>by
  rw[iL,aW,aZ,←mH];by_cases h:e x q.1=true
  ·rw[ai h];simp[(he x q.1).1 h]
  ·rw[ah h]
   have:x≠q.1:=λh2=>h ((he x q.1).2 h2)
   simp[this]
theorem lQ {l:List (κ×ν)} {x:κ} {v:ν} (h:br e l x=some v):(x,v)∈l:=by
 induction l with
 |nil=>cases h
 |cons q l ih=>
  rw[iL] at h;split at h
  ·rename_i h2
   have:=(he x q.1).1 h2;cases h;subst this;exact iC ..
  ·exact cW _ (ih h)
theorem qs {l:List (κ×ν)} (hn:(l.map (·.1)).Nodup) {x:κ} {v:ν} (h:(x,v)∈l):br e l x=some v:=by
 induction l with
 |nil=>cases h
 |cons q l ih=>
  rw[aW,dZ] at hn;rw[iL];rcases aZ.1 h with rfl |h
  ·rw[ai ((he x x).2 rfl)]
  ·rw[ah λh2=>hn.1 ((he x q.1).1 h2▸aG.2 ⟨_,h,rfl⟩)]
   exact ih hn.2 h
theorem fp:∀(l:List (κ×ν)) (x:κ) (v:ν),(x∈l.map (·.1)→(eD e l x v).map (·.1)=l.map (·.1))∧(x∉l.map (·.1)→eD e l x v=l++[(x,v)])
 |[],x,v=>⟨λh=>by simp at h,λ_=>rfl⟩
 |q::l,x,v=>by
  rw[yR];obtain⟨i1,i2⟩:=fp l x v;by_cases h:e x q.1=true
  ·rw[ai h]
   have:=(he x q.1).1 h;exact⟨λ_=>by simp[this],λh2=>absurd (by simp[this]) h2⟩
  ·rw[ah h]
   have iA:x≠q.1:=λh2=>h ((he x q.1).2 h2)
   refine⟨λh2=>?_,λh2=>?_⟩
   ·rw[aW,aW,i1 (by simpa[iA] using h2)]
   ·rw[cv,i2 (by simpa[iA] using h2)]
theorem vG {l:List (κ×ν)} {x:κ} {v:ν} {c:κ}:c∈(eD e l x v).map (·.1)↔c=x∨c∈l.map (·.1):=by
 rw[← mH he,←mH he];obtain⟨h1,h2⟩:=iK he l x v c;by_cases h:c=x
 ·rw[h1 h];simp[h]
 ·rw[h2 h];simp[h]
theorem zQ {l:List (κ×ν)} (hn:(l.map (·.1)).Nodup) (x:κ) (v:ν):((eD e l x v).map (·.1)).Nodup:=by
 obtain⟨h1,h2⟩:=fp he l x v;by_cases h:x∈l.map (·.1)
 ·rw[h1 h];exact hn
 ·rw[h2 h,bV,dh]
  exact⟨hn,by simp,λa ha b hb=>by simp at hb;subst hb;exact λe=>h (e▸ha)⟩
omit he in
theorem ye:∀(l:List (κ×ν)) (x:κ),(wG e l x).Sublist l
 |[],x=>iX _
 |q::l,x=>by
  rw[Hh];split
  ·exact List.sublist_cons_self _ _
  ·exact(ye l x).cons_cons _
omit he in
theorem tP {l:List (κ×ν)} (hn:(l.map (·.1)).Nodup) (x:κ):((wG e l x).map (·.1)).Nodup:=hn.sublist ((ye l x).map _)
theorem B8:∀{l:List (κ×ν)},(l.map (·.1)).Nodup→∀(x c:κ),(c=x→br e (wG e l x) c=none)∧(c≠x→br e (wG e l x) c=br e l c)
 |[],_,x,c=>by rw[Kh];exact⟨λ_=>rfl,λ_=>rfl⟩
 |q::l,hn,x,c=>by
  rw[aW,dZ] at hn;rw[Hh];obtain⟨i1,i2⟩:=B8 hn.2 x c;by_cases h:e x q.1=true
  ·rw[ai h]
   have hx:=(he x q.1).1 h;refine⟨λh2=>?_,λh2=>?_⟩
   ·subst h2
    cases hg:br e l c with
    |none=>rfl
    |some v=>exact absurd ((mH he).1 (by rw[hg];rfl)) (hx▸hn.1)
   ·rw[iL,ah λh3=>h2 (((he c q.1).1 h3).trans hx.symm)]
  ·rw[ah h]
   refine⟨λh2=>?_,λh2=>?_⟩
   ·subst h2
    rw[iL,ah h];exact i1 rfl
   ·rw[iL,iL,i2 h2]
theorem AZ {l:List (κ×ν)} (hn:(l.map (·.1)).Nodup) {x c:κ}:c∈(wG e l x).map (·.1)↔c≠x∧c∈l.map (·.1):=by
 rw[← mH he,←mH he];obtain⟨h1,h2⟩:=B8 he hn x c;by_cases h:c=x
 ·rw[h1 h];simp[h]
 ·rw[h2 h];simp[h]
end
theorem eB (a b:Int):cK a b=true↔a=b:=by unfold cK;exact ew
end Go.Vl
