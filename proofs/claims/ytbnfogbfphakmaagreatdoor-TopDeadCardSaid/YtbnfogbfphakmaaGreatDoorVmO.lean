/- The value logic, part 15: drawn regions whose first operations are pure (they touch no memory), the others in a forced order. Conditions: none. -/
import Derived.Test.YtbnfogbfphakmaaGreatDoorVmMb
set_option linter.unusedSimpArgs false
set_option linter.unusedVariables false
namespace Go.Vl
open Go Go.RowKit
section
variable {P:Program} {K:Ctx P} {st:St} {a:Act} {w:World} {p:Pl} {ops:Array Oper} {Q:Exit→St→Prop}
def Bv (o:Oper):Bool:=
 match o.op with
 | .move _ | .assign _ | .nilCheck _ | .slice _ _ _ _ _=>true
 | .makeFunc _ _ _=>true
 | .call c=>match c.callee with | .builtin .len=>true |_=>false
 |_=>false
theorem Dd (R:Rel K st a w p) {o:Oper} {x:AV} (hp:Bv o=true) (h:vstep P st o=some x):∃v,(∀w':World,(execOp a.eval o).run P w'=.ok (.value v) w')∧RA w (okc K w p) p x v:=by
 unfold Bv at hp
 split at hp
 ·rename_i y ho
  simp only[vstep,ho] at h;cases h
  exact⟨_,fun w'=>by simp[execOp,ho],R.opd y⟩
 ·rename_i y ho
  simp only[vstep,ho] at h;cases h
  exact⟨_,fun w'=>by simp[execOp,ho],R.opd y⟩
 ·rename_i y ho
  simp only[vstep,ho] at h
  split at h
  case isFalse=>cases h
  rename_i hk
  cases h
  have hy:=R.opd y
  generalize opd st y=yy at *
  generalize hv:a.eval y=v at *
  cases hy with
  |ptr hn=>exact⟨_,fun w'=>(by simp[execOp,ho,hv] <;> rfl),.ptr hn⟩
  |cptr vs h1 h2 h3=>exact⟨_,fun w'=>(by simp[execOp,ho,hv] <;> rfl),.cptr vs h1 h2 h3⟩
  |vptr h1 h2=>exact⟨_,fun w'=>(by simp[execOp,ho,hv] <;> rfl),.vptr h1 h2⟩
  |fn q1 q2=>exact⟨_,fun w'=>(by simp[execOp,ho,hv] <;> rfl),.fn q1 q2⟩
  |_=>simp[N7] at hk
 ·rename_i t y lo hi mx ho
  simp only[vstep,ho] at h
  cases h1:Fh (lo.map (opd st)) with
  |none=>simp[h1] at h
  |some lo'=>
   cases h2:Fh (hi.map (opd st)) with
   |none=>simp[h1,h2] at h
   |some hi'=>
    cases h3:Fh (mx.map (opd st)) with
    |none=>simp[h1,h2,h3] at h
    |some mx'=>
     simp only[h1,h2,h3,Option.bind_some] at h
     obtain⟨r,g1,g2⟩:=Ip R (DV R h1) (DV R h2) (DV R h3) h (R.opd _)
     exact⟨r,fun w'=>by simp[execOp,ho,g1 w'],g2⟩
 ·rename_i fn first caps ho
  have h':=h
  simp only[vstep,ho] at h'
  split at h'
  ·rename_i f hf
   obtain⟨v,h1,h2⟩:=Dr R h
   have e:first= #[]:=by cases first;simpa using hf
   subst e
   refine⟨v,fun w'=>?_,h2⟩
   simp[execOp,ho,Instr.makeFunc] at h1 ⊢
   exact h1
  ·cases h'
 ·rename_i c ho
  obtain⟨callee,⟨args⟩,⟨tys⟩⟩:=c
  simp only[vstep,ho] at h
  unfold Lr at h
  dsimp only at h hp
  split at h
  ·rename_i y t
   cases hn:KC P st t (opd st y) with
   |none=>simp[hn] at h
   |some n=>
    simp[hn] at h;subst h
    exact⟨.int .i64 n,fun w'=>by simp[execOp,ho,resolve,invoke,builtin,Io R hn (R.opd y) w'],.d .int⟩
  ·simp at hp
  ·simp at hp
  ·cases h
 ·cases hp
def S5 (md:Region.Mode) (ops:Array Oper) (g:Nat):Nat→Nat→Array Bool→Bool
 |0,k,listed=>Region.seqB md ops g k listed
 |n+1,k,listed=>(Region.ready md ops listed).contains k&&Region.free md ops listed k&&S5 md ops g n (k+1) (listed.setIfInBounds k true)
def QR (ops:Array Oper) (n:Nat):Bool:=Region.noSelect ops&&decide (n≤ops.size)&&(ops.toList.take n).all Bv&&S5 .any ops (ops.size - n) n 0 (Array.replicate ops.size false)
theorem OF (hs:Region.noSelect ops=true) (g:Nat):∀(n k:Nat) (listed:Array Bool) (l:List Oper) (st st1:St) (a:Act) (p:Pl),(∀j,l[j]? =ops[k+j]?)→l.length=n+g→(l.take n).all Bv=true→S5 .any ops g n k listed=true→
  Rel K st a w p→Cp P ops (l.take n) st=some st1→Az P K ops (l.drop n) st1 Q→(∀c s,¬Q (.panic c) s)→wpAny P .any ops (Pst K Q) (n+g) listed a w
 |0,k,listed,l,st,st1,a,p,hl,hlen,_,hB,R,h,H,_=>by
  simp[Cp] at h;subst h
  have:=wpAny_of_seq (md:=.any) (Q':=Pst K Q) l k listed a w hl (by rw[hlen,Nat.zero_add];exact hB) (by simpa using H a w p R)
  rw[hlen] at this
  exact this
 |n+1,k,listed,l,st,st1,a,p,hl,hlen,hpu,hB,R,h,H,hQ=>by
  cases l with
  |nil=>simp at hlen;omega
  |cons o l=>
   simp only[S5,Bool.and_eq_true] at hB
   obtain⟨⟨hr,hf⟩,hB'⟩:=hB
   have h0:ops[k]? =some o:=by simpa using (hl 0).symm
   simp only[List.take_succ_cons,List.all_cons,Bool.and_eq_true] at hpu
   simp only[List.take_succ_cons,Cp,List.drop_succ_cons] at h H
   have hQ':∀(d:Option Tmp) (v:Value) c a w,Pst K Q (.panic c) (a.put d v) w→Pst K Q (.panic c) a w:=fun _ _ c a w ⟨s,_,_,q⟩=>absurd q (hQ c s)
   have go:∀{st2:St} {v:Value},Yields P ops o v a→Rel K st2 (a.put o.dst v) w p→Cp P ops (l.take n) st2=some st1→wpAny P .any ops (Pst K Q) (n+1+g) listed a w:=fun {st2 v} hy R2 h2=>by
    rw[show n+1+g=(n+g)+1 by omega]
    exact wpAny_take h0 hs hf (by simpa using hr) (fun c a w=>hQ' o.dst v c a w) hy
     (OF hs g n (k+1) _ l st2 st1 _ p (fun j=>by have:=hl (j+1);simpa[Nat.add_assoc,Nat.add_comm 1 j] using this) (by simp at hlen;omega) hpu.2 hB' R2 h2 H hQ)
   cases hg:gdA ops st o with
   |none=>simp[hg] at h
   |some b=>
    simp only[hg] at h
    have hwt:=A9 R hg
    cases b with
    |true=>
     simp only at h
     cases hv:EY P st o with
     |none=>simp[hv] at h
     |some st2=>
      simp only[hv,Option.bind_some] at h
      unfold EY at hv
      cases hx:vstep P st o with
      |none=>simp[hx] at hv
      |some x=>
       simp only[hx,Option.bind_some] at hv
       obtain⟨v,g1,g2⟩:=Dd R hpu.1 hx
       exact go (.inl ⟨hwt,g1⟩) (R.puto g2 hv) h
    |false=>
     simp only at h
     obtain⟨st2,R2,h2⟩:=It (f:=fun l'=>Cp P ops (l'.take n)) (l:=l) R h
     exact go (.inr ⟨hwt,rfl⟩) R2 h2
theorem Wd {id:Nat} {l:List Oper} {st1:St} (n:Nat) (hm:P.follows .mixedOrders=true) (hB:QR l.toArray n=true) (hQ:∀c s,¬Q (.panic c) s) (h:Cp P l.toArray (l.take n) st=some st1) (H:Az P K l.toArray (l.drop n) st1 Q):
  Tr P K (.region id l.toArray true) st Q:=by
 intro a w p R
 simp only[QR,Bool.and_eq_true,decide_eq_true_eq] at hB
 obtain⟨⟨⟨hs,hn⟩,hp⟩,hB⟩:=hB
 refine wp_region_any hm ?_
 have:=OF (w:={ w with drawn:=w.drawn+1 }) hs (l.toArray.size - n) n 0 (Array.replicate l.toArray.size false) l st st1 a p (by simp) (by simp at hn ⊢;omega) (by simpa using hp) hB R.drew h H hQ
 rwa [show n+(l.toArray.size - n)=l.toArray.size by omega] at this
def NoPanic (Q:Exit→St→Prop):Prop:=∀c s,¬Q (.panic c) s
theorem S6 {H:St→Prop} (h:NoPanic Q):NoPanic (Cq H Q):=fun c s q=>h c s q
theorem sm {id:Nat} {l:List Oper} {y:Code} {st1:St} (n:Nat) (hm:P.follows .mixedOrders=true) (hB:QR l.toArray n=true) (hQ:NoPanic Q) (h:Cp P l.toArray (l.take n) st=some st1)
  (H:Az P K l.toArray (l.drop n) st1 (Cq (fun s=>Tr P K y s Q) Q)):Tr P K (.seq (.region id l.toArray true) y) st Q:=trq (Wd n hm hB (S6 hQ) h H)
end
end Go.Vl
