/- The call leakresponselaw16.WalkLists returns true for all arguments, and these read afterwards as they did. Conditions: none. -/
import Derived.Test.YtjnflahicimmlaaGreatDoorTie
import Derived.Test.YtjnflahicimmlaaGreatDoorCards
import Derived.Handed
import Derived.Test.YtjnflahicimmlaaGreatDoorRows
import Derived.Test.YtjnflahicimmlaaGreatDoorJUx
import Derived.Test.YtjnflahicimmlaaGreatDoorJx2
import Derived.Test.YtjnflahicimmlaaGreatDoorVmW
set_option linter.unusedSimpArgs false
set_option linter.unusedVariables false
namespace Go.Vl
open Go Go.Proofs
theorem lH {ds:List D} {n:Nat} (h:ds.length=n+1):∃d es,ds=d::es∧es.length=n:=by
 cases ds with
 |nil=>cases h
 |cons d es=>exact⟨d,es,rfl,Nat.succ.inj h⟩
theorem Yb {m:Nat} {ds:List D} (h:BB Tryz.prog m 62 ds):∃x:aB,ds=aw x∧((x.Name.size≤9223372036854775807)):=by
 obtain⟨m',hl,hf⟩:=wz Tryz.underlying62 h;have hl:ds.length=2:=hl.trans (by kernel_rfl);have c3:Tryz.prog.cellsOf 3=1:=by kernel_rfl
 have c9:Tryz.prog.cellsOf 9=1:=by kernel_rfl
 obtain⟨d0,KY,e,KK⟩:=lH hl;obtain⟨d1,es1,rfl,PM⟩:=lH KK;obtain rfl:=aI PM;subst e;simp[c3,c9] at hf;obtain⟨g0,g1⟩:=hf;obtain⟨n0,e0,q0⟩:=D2 Tryz.underlying9 g0;obtain⟨n1,e1⟩:=oc Tryz.underlying3 g1;refine⟨⟨n0,n1⟩,?_,q0⟩;simp[aH,gm,mW,uE] at e0 e1 ⊢;simp[e0,e1]
theorem Yc {m:Nat} {ds:List D} (h:BB Tryz.prog m 49 ds):∃x:ab,ds=au x∧((∀y7∈x.bd,(y7.Name.size≤9223372036854775807))∧(x.fJ.size≤9223372036854775807)):=by
 obtain⟨m',hl,hf⟩:=wz Tryz.underlying49 h;have hl:ds.length=8:=hl.trans (by kernel_rfl);have c3:Tryz.prog.cellsOf 3=1:=by kernel_rfl
 have c9:Tryz.prog.cellsOf 9=1:=by kernel_rfl
 have Gx:Tryz.prog.cellsOf 22=1:=by kernel_rfl
 have c41:Tryz.prog.cellsOf 41=1:=by kernel_rfl
 have Wi:Tryz.prog.cellsOf 47=1:=by kernel_rfl
 obtain⟨d0,KY,e,KK⟩:=lH hl;obtain⟨d1,es1,rfl,PM⟩:=lH KK;obtain⟨d2,XK,rfl,PK⟩:=lH PM;obtain⟨d3,es3,rfl,hl3⟩:=lH PK;obtain⟨d4,es4,rfl,hl4⟩:=lH hl3;obtain⟨d5,es5,rfl,hl5⟩:=lH hl4;obtain⟨d6,es6,rfl,hl6⟩:=lH hl5;obtain⟨d7,es7,rfl,hl7⟩:=lH hl6;obtain rfl:=aI hl7;subst e;simp[c3,c9,Gx,c41,Wi] at hf;obtain⟨g0,g1,g2,g3,g4,g5,g6,g7⟩:=hf;obtain⟨n0,e0⟩:=oc Tryz.underlying3 g0;obtain⟨n1,e1⟩:=oc Tryz.underlying3 g1;obtain⟨n2,e2⟩:=BO Tryz.underlying47 (f:=(aH .u8)) (λ_ _ h=>oc Tryz.underlying5 h) g2;obtain⟨n3,e3,q3⟩:=zJ Tryz.underlying41 (f:=aw) (q:=λy=>(y.Name.size≤9223372036854775807)) (λ_ _ h=>Yb h) g3;obtain⟨n4,e4⟩:=oc Tryz.underlying3 g4;obtain⟨n5,e5⟩:=BO Tryz.underlying22 (f:=(aH .i64)) (λ_ _ h=>oc Tryz.underlying3 h) g5;obtain⟨n6,e6,q6⟩:=D2 Tryz.underlying9 g6;obtain⟨n7,e7⟩:=oc Tryz.underlying3 g7;refine⟨⟨n0,n1,n2,n3,n4,n5,n6,n7⟩,?_,⟨q3,q6⟩⟩;simp[aH,gm,mW,uE] at e0 e1 e2 e3 e4 e5 e6 e7 ⊢;simp[e0,e1,e2,e3,e4,e5,e6,e7]
theorem Ya {m:Nat} {ds:List D} (h:BB Tryz.prog m 89 ds):∃x:az,ds=aT x∧((x.Name.size≤9223372036854775807)):=by
 obtain⟨m',hl,hf⟩:=wz Tryz.underlying89 h;have hl:ds.length=4:=hl.trans (by kernel_rfl);have c3:Tryz.prog.cellsOf 3=1:=by kernel_rfl
 have c9:Tryz.prog.cellsOf 9=1:=by kernel_rfl
 obtain⟨d0,KY,e,KK⟩:=lH hl;obtain⟨d1,es1,rfl,PM⟩:=lH KK;obtain⟨d2,XK,rfl,PK⟩:=lH PM;obtain⟨d3,es3,rfl,hl3⟩:=lH PK;obtain rfl:=aI hl3;subst e;simp[c3,c9] at hf;obtain⟨g0,g1,g2,g3⟩:=hf;obtain⟨n0,e0⟩:=oc Tryz.underlying3 g0;obtain⟨n1,e1,q1⟩:=D2 Tryz.underlying9 g1;obtain⟨n2,e2⟩:=oc Tryz.underlying3 g2;obtain⟨n3,e3⟩:=oc Tryz.underlying3 g3;refine⟨⟨n0,n1,n2,n3⟩,?_,q1⟩;simp[aH,gm,mW,uE] at e0 e1 e2 e3 ⊢;simp[e0,e1,e2,e3]
theorem Yd {m:Nat} {ds:List D} (h:BB Tryz.prog m 26 ds):∃x:ao,ds=aK x∧((∀y9∈x.aq,(∀y8∈y9.bd,(y8.Name.size≤9223372036854775807))∧(y9.fJ.size≤9223372036854775807))∧(∀y8∈x.aC,(y8.Name.size≤9223372036854775807))):=by
 obtain⟨m',hl,hf⟩:=wz Tryz.underlying26 h;have hl:ds.length=2:=hl.trans (by kernel_rfl);have DE:Tryz.prog.cellsOf 23=1:=by kernel_rfl
 have DD:Tryz.prog.cellsOf 24=1:=by kernel_rfl
 obtain⟨d0,KY,e,KK⟩:=lH hl;obtain⟨d1,es1,rfl,PM⟩:=lH KK;obtain rfl:=aI PM;subst e;simp[DE,DD] at hf;obtain⟨g0,g1⟩:=hf;obtain⟨n0,e0,q0⟩:=zJ Tryz.underlying23 (f:=au) (q:=λy=>(∀y7∈y.bd,(y7.Name.size≤9223372036854775807))∧(y.fJ.size≤9223372036854775807)) (λ_ _ h=>Yc h) g0;obtain⟨n1,e1,q1⟩:=zJ Tryz.underlying24 (f:=aT) (q:=λy=>(y.Name.size≤9223372036854775807)) (λ_ _ h=>Ya h) g1;refine⟨⟨n0,n1⟩,?_,⟨q0,q1⟩⟩;simp[aH,gm,mW,uE] at e0 e1 ⊢;simp[e0,e1]
end Go.Vl
namespace Go.Proofs.YtjnflahicimmlaaGreatDoor.walkLists
open Go.ChangeShapes Go.WideShapes Go.ChangeAt Go.RowKit
set_option linter.unusedVariables false
theorem own:ownKnob Tryz.prog.godebug=none:=by kernel_rfl
theorem laidOut:laidOutB Tryz.prog=true:=by kernel_rfl
theorem To:Tryz.prog.globalNamed "internal/strconv.uint64pow10" =some 0:=by kernel_rfl
theorem ac4:(Tryz.prog.globals[0]?).map (·.type)=some 182:=by kernel_rfl
theorem gOf:Vl.wQ Tryz.prog 0=[1,10,100,1000,10000,100000,1000000,10000000,100000000,1000000000,10000000000,100000000000,1000000000000,10000000000000,100000000000000,1000000000000000,10000000000000000,100000000000000000,1000000000000000000,10000000000000000000]:=by kernel_rfl
theorem gK:Vl.KP Tryz.prog 0=.u64:=by kernel_rfl
theorem X4 {P:Program} {W:World} {nm:String} {k:IntKind} {zs:List Int} {g:Nat} (h:Lib.TabIs P W nm k zs) (hg:P.globalNamed nm=some g) (i:Nat) (x:Int) (hx:zs[i]? =some x):W.cell? ⟨g,i,none⟩=some (.int k x):=by
 rw[World.var?_cell hg h i];simp[hx]
theorem UZ {P:Program} {W:World} {nm:String} {k:IntKind} {zs:List Int} {g:Nat} (h:Lib.TabIs P W nm k zs) (hg:P.globalNamed nm=some g):W.cell? ⟨g,zs.length,none⟩=none:=by
 rw[World.var?_cell hg h];simp
theorem Hk {P:Program} {x:String×DataW Unit} {r:List (String×DataW Unit)} {w:World} (h:laidMet P (x::r) w):laidMet P r w:=by
 obtain⟨ps,hv,sI,yn⟩:=h;obtain⟨n,d⟩:=x;obtain⟨g,t,cs,fuel,p,q,_,_,_,_,hq,rfl⟩:=hv;exact⟨q,hq,List.Nodup.sublist (List.sublist_append_right _ _) sI,λb off hm=>yn b off (List.mem_append_right _ hm)⟩
noncomputable def JA (os:Os):World:=
 let w0:=World.holding Tryz.prog os ⟨#[],#[],[]⟩
 {w0 with heap:=(((w0.heap.modify 1 fun
   | .cells _ t frozen=>.cells #[.int .u8 0,.int .u8 1,.int .u8 28,.int .u8 2,.int .u8 29,.int .u8 14,.int .u8 24,.int .u8 3,.int .u8 30,.int .u8 22,.int .u8 20,.int .u8 15,.int .u8 25,.int .u8 17,.int .u8 4,.int .u8 8,.int .u8 31,.int .u8 27,.int .u8 13,.int .u8 23,.int .u8 21,.int .u8 19,.int .u8 16,.int .u8 7,.int .u8 26,.int .u8 12,.int .u8 18,.int .u8 6,.int .u8 11,.int .u8 5,.int .u8 10,.int .u8 9] t frozen
   |o=>o).modify 2 fun
   | .cells _ t frozen=>.cells #[.int .u8 0,.int .u8 1,.int .u8 56,.int .u8 2,.int .u8 57,.int .u8 49,.int .u8 28,.int .u8 3,.int .u8 61,.int .u8 58,.int .u8 42,.int .u8 50,.int .u8 38,.int .u8 29,.int .u8 17,.int .u8 4,.int .u8 62,.int .u8 47,.int .u8 59,.int .u8 36,.int .u8 45,.int .u8 43,.int .u8 51,.int .u8 22,.int .u8 53,.int .u8 39,.int .u8 33,.int .u8 30,.int .u8 24,.int .u8 18,.int .u8 12,.int .u8 5,.int .u8 63,.int .u8 55,.int .u8 48,.int .u8 27,.int .u8 60,.int .u8 41,.int .u8 37,.int .u8 16,.int .u8 46,.int .u8 35,.int .u8 44,.int .u8 21,.int .u8 52,.int .u8 32,.int .u8 23,.int .u8 11,.int .u8 54,.int .u8 26,.int .u8 40,.int .u8 15,.int .u8 34,.int .u8 20,.int .u8 31,.int .u8 10,.int .u8 25,.int .u8 14,.int .u8 19,.int .u8 9,.int .u8 13,.int .u8 8,.int .u8 7,.int .u8 6] t frozen
   |o=>o).modify 0 fun
   | .cells _ t frozen=>.cells #[.int .u64 1,.int .u64 10,.int .u64 100,.int .u64 1000,.int .u64 10000,.int .u64 100000,.int .u64 1000000,.int .u64 10000000,.int .u64 100000000,.int .u64 1000000000,.int .u64 10000000000,.int .u64 100000000000,.int .u64 1000000000000,.int .u64 10000000000000,.int .u64 100000000000000,.int .u64 1000000000000000,.int .u64 10000000000000000,.int .u64 100000000000000000,.int .u64 1000000000000000000,.int .u64 10000000000000000000] t frozen
   |o=>o)}
set_option maxRecDepth 100000 in
theorem Sm (os:Os) (args:Array Value):laidMet Tryz.prog Rows.walkListsRow.laid ((JA os).forCall (λ_ _=>0) ⟨#[],args,[]⟩).memory:=
 laidMet_of_run (ps:=[.cell 1 0,.cell 1 1,.cell 1 2,.cell 1 3,.cell 1 4,.cell 1 5,.cell 1 6,.cell 1 7,.cell 1 8,.cell 1 9,.cell 1 10,.cell 1 11,.cell 1 12,.cell 1 13,.cell 1 14,.cell 1 15,.cell 1 16,.cell 1 17,.cell 1 18,.cell 1 19,.cell 1 20,.cell 1 21,.cell 1 22,.cell 1 23,.cell 1 24,.cell 1 25,.cell 1 26,.cell 1 27,.cell 1 28,.cell 1 29,.cell 1 30,.cell 1 31,.cell 2 0,.cell 2 1,.cell 2 2,.cell 2 3,.cell 2 4,.cell 2 5,.cell 2 6,.cell 2 7,.cell 2 8,.cell 2 9,.cell 2 10,.cell 2 11,.cell 2 12,.cell 2 13,.cell 2 14,.cell 2 15,.cell 2 16,.cell 2 17,.cell 2 18,.cell 2 19,.cell 2 20,.cell 2 21,.cell 2 22,.cell 2 23,.cell 2 24,.cell 2 25,.cell 2 26,.cell 2 27,.cell 2 28,.cell 2 29,.cell 2 30,.cell 2 31,.cell 2 32,.cell 2 33,.cell 2 34,.cell 2 35,.cell 2 36,.cell 2 37,.cell 2 38,.cell 2 39,.cell 2 40,.cell 2 41,.cell 2 42,.cell 2 43,.cell 2 44,.cell 2 45,.cell 2 46,.cell 2 47,.cell 2 48,.cell 2 49,.cell 2 50,.cell 2 51,.cell 2 52,.cell 2 53,.cell 2 54,.cell 2 55,.cell 2 56,.cell 2 57,.cell 2 58,.cell 2 59,.cell 2 60,.cell 2 61,.cell 2 62,.cell 2 63,.cell 0 0,.cell 0 1,.cell 0 2,.cell 0 3,.cell 0 4,.cell 0 5,.cell 0 6,.cell 0 7,.cell 0 8,.cell 0 9,.cell 0 10,.cell 0 11,.cell 0 12,.cell 0 13,.cell 0 14,.cell 0 15,.cell 0 16,.cell 0 17,.cell 0 18,.cell 0 19]) 8 (by kernel_rfl) (by kernel_rfl) (by kernel_rfl)
set_option maxRecDepth 100000 in
theorem KR {W:World} (h:laidMet Tryz.prog Rows.walkListsRow.laid W):Vl.mB Tryz.prog W (· < W.heap.size):=by
 have hT:Lib.TabIs Tryz.prog W "internal/strconv.uint64pow10" .u64 [1,10,100,1000,10000,100000,1000000,10000000,100000000,1000000000,10000000000,100000000000,1000000000000,10000000000000,100000000000000,1000000000000000,10000000000000000,100000000000000000,1000000000000000000,10000000000000000000]:=Lib.tabIs_of_head To ac4 Tryz.underlying182 Tryz.underlying161 (by kernel_rfl) (by kernel_rfl) (Hk (Hk h))
 exact Vl.MW (g:=0) (by kernel_rfl) gOf (λi x hx=>by rw[gK];exact X4 hT To i x hx) λ_=>UZ hT To
set_option maxRecDepth 100000 in
theorem lifted (os:Os) (started:os.Started) (H:Type) (enc:TypeId×Value→H):
  ReturnsInHanded {} Tryz.checked os 3 .any (λw args=>(Rows.walkListsSpec.pre enc Tryz.prog Tryz.f3 Rows.walkListsRow.domain false w args∧laidMet Tryz.prog Rows.walkListsRow.laid w)∧sizedMet enc Tryz.prog Tryz.f3 (OpenSpec.ofChange Rows.walkListsSpec) false w args) (Rows.walkListsSpec.post enc Tryz.prog Tryz.f3 false true false false):=by
 refine returnsInHanded_of_change_and (C:=Tryz.checked) (X:=λw _=>laidMet Tryz.prog Rows.walkListsRow.laid w) (λ_ _ _ hh h=>h.of_heap hh) own started (by kernel_rfl) Tryz.func3
  (ChangeSpec.witness_at (enc:=enc) (C:=Tryz.checked) (os:=os) (X:=λw _=>laidMet Tryz.prog Rows.walkListsRow.laid w) false (JA os) #[.slice none 0 0,.agg #[.slice none 0 0,.slice none 0 0],.int .i64 0,.int .i64 0] 8 rfl (by kernel_rfl) (by kernel_rfl) (by kernel_rfl) (by kernel_rfl) (by kernel_rfl) (Sm os _)) ?_
 intro W base args ds gs before abV hW ak4 _ hL _;have xh:Vl.mB Tryz.prog W (· < W.heap.size):=KR hL;have sA:∀(j:Nat) t v,Tryz.f3.params[j]? =some t→args[j]? =some v→Value.okWide Tryz.prog W .any base t v:=abV;have hW':=hW;obtain⟨p,q,hA0,hV,rfl,Uu,sI⟩:=hW;have hA:DataW.TrodAll enc Tryz.prog W 0 (λ_=>true) true Tryz.f3.params.toList args.toList ds p:=hA0;rw[Tryz.params3] at hA sA;obtain⟨v0,vs0,d0,ds0,p0,q0,eZ,rfl,rfl,h0,r0⟩:=trodAll_cons hA;obtain⟨v1,vs1,d1,ds1,p1,q1,rfl,rfl,rfl,h1,r1⟩:=trodAll_cons r0;obtain⟨v2,vs2,d2,ds2,p2,q2,rfl,rfl,rfl,h2,r2⟩:=trodAll_cons r1;obtain⟨v3,vs3,d3,ds3,p3,q3,rfl,rfl,rfl,h3,r3⟩:=trodAll_cons r2;obtain⟨rfl,rfl,rfl⟩:=trodAll_nil r3;obtain rfl:args= #[v0,v1,v2,v3]:=by cases args;simp_all
 obtain⟨rfl,rfl⟩:=trodVars_none hV;obtain⟨z0,s0,A0,B0⟩:=Vl.IA (P:=Tryz.prog) (pl:=Vl.dM [] []) 2 (by simp[Vl.kn,Vl.kn.go,Tryz.underlying3,Tryz.underlying22,show Tryz.prog.cellsOf 3=1 from by kernel_rfl,show Tryz.prog.cellsOf 22=1 from by kernel_rfl]) (sA 0 22 v0 rfl rfl) h0;obtain⟨a0,rfl⟩:=Vl.BO Tryz.underlying22 (f:=(Vl.aH .i64)) (λ_ _ h=>Vl.oc Tryz.underlying3 h) s0;obtain⟨x0,e0,R0⟩:=B0 (λfs h=>by rw[Tryz.underlying22] at h;cases h);simp only[Vl.aH,Vl.gm,Vl.mW,Vl.uE,List.cons.injEq,and_true] at e0;subst e0;obtain⟨z1,s1,A1,B1⟩:=Vl.IA (P:=Tryz.prog) (pl:=Vl.dM [] []) 6 (by simp[Vl.kn,Vl.kn.go,Tryz.underlying3,Tryz.underlying5,Tryz.underlying9,Tryz.underlying22,Tryz.underlying23,Tryz.underlying24,Tryz.underlying26,Tryz.underlying41,Tryz.underlying47,Tryz.underlying49,Tryz.underlying62,Tryz.underlying89,show Tryz.prog.cellsOf 3=1 from by kernel_rfl,show Tryz.prog.cellsOf 5=1 from by kernel_rfl,show Tryz.prog.cellsOf 9=1 from by kernel_rfl,show Tryz.prog.cellsOf 22=1 from by kernel_rfl,show Tryz.prog.cellsOf 23=1 from by kernel_rfl,show Tryz.prog.cellsOf 24=1 from by kernel_rfl,show Tryz.prog.cellsOf 26=2 from by kernel_rfl,show Tryz.prog.cellsOf 41=1 from by kernel_rfl,show Tryz.prog.cellsOf 47=1 from by kernel_rfl,show Tryz.prog.cellsOf 49=8 from by kernel_rfl,show Tryz.prog.cellsOf 62=2 from by kernel_rfl,show Tryz.prog.cellsOf 89=4 from by kernel_rfl]) (sA 1 26 v1 rfl rfl) h1;obtain⟨a1,rfl,w1⟩:=Vl.Yd s1;have R1:=A1 ⟨_,Tryz.underlying26⟩;obtain⟨z2,s2,A2,B2⟩:=Vl.IA (P:=Tryz.prog) (pl:=Vl.dM [] []) 1 (by simp[Vl.kn,Vl.kn.go,Tryz.underlying3,show Tryz.prog.cellsOf 3=1 from by kernel_rfl]) (sA 2 3 v2 rfl rfl) h2;obtain⟨a2,rfl⟩:=Vl.oc Tryz.underlying3 s2;obtain⟨x2,e2,R2⟩:=B2 (λfs h=>by rw[Tryz.underlying3] at h;cases h);simp only[Vl.aH,Vl.gm,Vl.mW,Vl.uE,List.cons.injEq,and_true] at e2;subst e2;obtain⟨z3,s3,A3,B3⟩:=Vl.IA (P:=Tryz.prog) (pl:=Vl.dM [] []) 1 (by simp[Vl.kn,Vl.kn.go,Tryz.underlying3,show Tryz.prog.cellsOf 3=1 from by kernel_rfl]) (sA 3 3 v3 rfl rfl) h3;obtain⟨a3,rfl⟩:=Vl.oc Tryz.underlying3 s3;obtain⟨x3,e3,R3⟩:=B3 (λfs h=>by rw[Tryz.underlying3] at h;cases h);simp only[Vl.aH,Vl.gm,Vl.mW,Vl.uE,List.cons.injEq,and_true] at e3;subst e3;refine((Vl.zT (Vl.GD a0 a1 w1 a2 a3)).run W #[v0,v1,v2,v3] rfl (λi x v hx hv=>?_) xh).mono λe W' ⟨v,he,hr,hb⟩=>?_
 ·match i,hx,hv with
  |0,hx,hv=>simp at hx hv;subst hx hv;exact R0
  |1,hx,hv=>simp at hx hv;subst hx hv;exact by simpa using R1
  |2,hx,hv=>simp at hx hv;subst hx hv;exact R2
  |3,hx,hv=>simp at hx hv;subst hx hv;exact R3
 ·obtain rfl:=hr.TP
  exact⟨_,he,Vl.Pd laidOut (by kernel_rfl) rfl Tryz.underlying4 rfl hW' rfl rfl rfl hb⟩
theorem closed:joinedFacts Tryz.pinned.checked.prog 3 Tryz.f3 Rows.walkListsSpec Rows.walkListsRow=true:=by kernel_rfl
theorem inst:Tryz.f3.isInstance Tryz.pinned.checked.prog Rows.walkListsRow.origin Rows.walkListsRow.targs:=of_decide_eq_true (by kernel_rfl)
theorem aaF:Tryz.f3.isWrapper Tryz.pinned.checked.prog Rows.walkListsRow.wrapper Rows.walkListsRow.mainSum:=by
 unfold Func.isWrapper;first |(rw [if_pos (by decide +kernel)];kernel_rfl) |(rw [if_neg (by decide +kernel)];exact⟨rfl,rfl⟩)
theorem named:Tryz.pinned.checked.prog.funcNamed Rows.walkListsRow.func=some 3:=by kernel_rfl
theorem over:Rows.walkListsRow.holds Tryz.pinned (OpenSpec.ofChange Rows.walkListsSpec):=
 OpenClaim.holds_of_wide 3 Tryz.f3 rfl rfl rfl rfl rfl rfl rfl ⟨rfl,rfl,rfl,rfl,rfl⟩ rfl rfl rfl rfl rfl named Tryz.func3 closed inst aaF
  (λos started H enc _=>lifted os started H enc)
theorem aaJ:∀(j:Nat) (t:TypeId),Tryz.f3.params[j]? =some t→Tryz.pinned.checked.prog.wantsStandIn t=false:=λj t ht=>by
 have h:(Tryz.f3.params.all λt=>!Tryz.pinned.checked.prog.wantsStandIn t)=true:=by kernel_rfl
 have:=(Array.all_eq_true.1 h) j (Array.getElem?_eq_some_iff.1 ht).1;rw[(Array.getElem?_eq_some_iff.1 ht).2] at this;simpa using this
theorem proved:Rows.WalkListsCardSaid:=
 Claim7.holds_tied_plain_at .later [] [.data,.data,.data] true Rows.walkListsCard.stood.harness Rows.walkListsCard.stood.looks over (λ_ h=>by cases h) (by kernel_rfl) (λ_ h=>by cases h) walkLists_row_tie rfl ⟨rfl,rfl⟩ (by kernel_rfl) rfl
  (λf fn hf Uv=>by
   obtain rfl:f=3:=(Option.some.inj (named.symm.trans hf)).symm;obtain rfl:fn=Tryz.f3:=(Option.some.inj (Tryz.func3.symm.trans Uv)).symm;exact⟨by kernel_rfl,aaJ⟩)
  (by kernel_rfl)
#print axioms proved
end Go.Proofs.YtjnflahicimmlaaGreatDoor.walkLists
