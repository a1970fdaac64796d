/- ref07.Number, ref16.under, ref16.paths: their contracts. Conditions: none. -/
import Derived.Test.YtjnflahicimmlaaGreatDoorJRw
set_option maxHeartbeats 1000000
set_option linter.unusedSimpArgs false
set_option linter.unusedVariables false
namespace Go.Vl
open Go Go.Proofs
theorem SR {P:Program} {K:Ctx P} {S:World→Prop} {F:Exit→Act→World→Prop} {ops:Array Oper} {n:Nat} {listed:Array Bool} {st:St} (k:Nat) (h:sD P K S F ops n listed (st.sY k)):sD P K S F ops n listed st:=λa w _ R=>by
 obtain⟨p',R',_⟩:=R.sY k;exact h a w p' R'
def G9 (st:St) (o:Oper):Bool:=match o.op with
 | .binOp op _ y z _=>(match op with | .quo | .rem=>true |_=>false)&&(match ca st y with | .d (.int _ _)=>(match ca st z with | .d (.int _ _)=>true |_=>false) |_=>false)
 | .convert _ _ y=>match ca st y with | .d (.int _ _)=>true |_=>false
 |_=>false
theorem JU {P:Program} {K:Ctx P} {st:St} {a:Act} {w:World} {p:Pl} (R:Rel K st a w p) {o:Oper} {x:AV} (hp:G9 st o=true) (h:gI P st o=some x):∃v,(∀w':World,(execOp a.eval o).run P w'=.ok (.value v) w')∧RA w (dx K w p) p x v:=by
 have close:∀{s:Sem Value} {v:Value} {w:World},s.run P w=.ok v w→(do pure (Next.value (← s)):Sem Next).run P w=.ok (.value v) w:=λh1=>by simp[h1]
 unfold G9 at hp;split at hp
 ·rename_i op t y z rt ho
  simp only[aR] at hp;obtain⟨sB,hp⟩:=hp;simp only[gI,ho] at h;have hy:=R.ca y;have hz:=R.ca z;split at hp
  case h_2=>cases hp
  rename_i k1 n1 e1;split at hp
  case h_2=>cases hp
  rename_i k2 n2 e2;rw[e1,e2] at h;rw[e1] at hy;rw[e2] at hz;obtain⟨kc,c,rfl⟩:∃kc c,x=.d (.int kc c):=by
   cases op <;> simp at sB <;> (simp only[FJ] at h;split at h <;> simp[tT] at h;obtain⟨d,⟨_,hd⟩,hx⟩:=h;exact⟨_,_,by rw[← hx,←hd]⟩)
  refine⟨.int kc c,λw'=>?_,.d .int⟩;generalize hu:a.eval y=u at hy;generalize hv:a.eval z=v at hz;cases hy with |d hy=>cases hy with |int=>
  cases hz with |d hz=>cases hz with |int=>
  obtain⟨r,h1,h2⟩:=rh (w:=w') (ok:=λ_=>False) (p:=p) h (.d .int) (.d .int) y z;cases h2 with |d h2=>cases h2 with |int=>
  unfold execOp;simp only[ho,hu,hv];exact close h1
 ·rename_i s d y ho
  simp only[gI,ho] at h;have hy:=R.ca y;split at hp
  case h_2=>cases hp
  rename_i k1 n1 e1;rw[e1] at h hy;unfold OC at h;split at h
  ·rename_i hs IN hl
   cases h;cases hl;generalize hu:a.eval y=u at hy;cases hy with |d hd=>cases hd with |int=>
   refine⟨_,λw'=>?_,.d .int⟩;unfold execOp;simp only[ho,hu];exact close (by simp[convert,aJ hs,aJ IN,Conv.intToInt] <;> rfl)
  ·rename_i hl;cases hl
  ·rename_i hl;cases hl
  ·cases h
 ·cases hp
theorem Fa {P:Program} {K:Ctx P} {S:World→Prop} {F:Exit→Act→World→Prop} {Q:Exit→St→Prop} {ops:Array Oper} {n:Nat} {listed:Array Bool} {st st1:St} (C:BC K S F Q) (k:Nat) {o:Oper} (ho:ops[k]? =some o) (hs:Region.noSelect ops=true) (hf:((Region.ready .any ops listed).contains k&&Region.free .any ops listed k&&true)=true) (hp:G9 st o=true) (hg:pW ops st o=some true∧sP P st o=some st1)
  (H:sD P K S F ops n (listed.setIfInBounds k true) st1):sD P K S F ops (n+1) listed st:=by
 intro a w p R;simp only[aR] at hf;obtain⟨⟨hr,LL⟩,_⟩:=hf;obtain⟨hg,hv⟩:=hg;unfold sP at hv;cases hx:gI P st o with
 |none=>rw[hx] at hv;cases hv
 |some x=>
  rw[hx,aa] at hv;obtain⟨v,g1,g2⟩:=JU R hp hx;exact ly ho hs LL hr (λc a w q=>absurd q (C.np c _ w)) (.inl ⟨fH R hg,λw' _=>g1 w'⟩) (C.s _ _ _ _ R) (H _ w p (R.BX g2 hv))
theorem UW (x:Int):sS [[.int .u8 x]]=some [x]:=by simp[sS]
theorem BU {f0:Int→Option ByteArray} (Fv:∀{a0:Int} {r:ByteArray},f0 a0=some r→dY Tryz.prog 73 [] [.d (.int .i64 a0)] (.d (.str r)) []) {a0:Int} {r:ByteArray} (h0:ib f0 a0=some r):dY Tryz.prog 73 [] [.d (.int .i64 a0)] (.d (.str r)) []:=by
 unfold ib at h0;refine tY (nt:=20) (rs:=[.tmp 2]) Tryz.func73 rfl Tryz.ntmps73 rfl (by simp) (by decide) rfl λK hK=>?_
 refine kR [0] ?_;refine aF ?_;refine kR [0,4] ?_;refine gJ (decide (a0 < 10)) (λc=>?_) (λc=>?_)
 ·rw[ai c] at h0
  refine kc ?_;refine kO [8] 4 ?_;refine tD 8 ?_;refine ko [2] 2 (by simp[UW];rfl) ?_;refine ar ?_;cases h0;exact fo ⟨[],by simp[P1],rfl,by simp⟩
 ·rw[ah (by rw[c];decide)] at h0
  refine aN ?_;obtain⟨y,hy,h0⟩:=bI h0;obtain⟨_,gS,h0⟩:=bI h0;replace gS:=bT gS;have vi:y.size+(Gz [IntKind.u8.wrap (48+IntKind.u8.wrap (a0.tmod 10))]).size≤9223372036854775807:=gS;refine N2 (S0:=(⟨20,[(2,.d (.str (y++Gz [IntKind.u8.wrap (48+IntKind.u8.wrap (a0.tmod 10))])))],[],[]⟩:St)) [0,3] 9 (by simpa using hK) sZ (by decide +kernel) rfl rfl rfl (by simp[gX,iZ,gB,gZ];rfl) (λK' S F C=>?_) ?_
  ·refine Fa C 1 rfl (by decide +kernel) (by decide +kernel) (by simp[G9]) (by simp;rfl) ?_
   refine Fa C 4 rfl (by decide +kernel) (by decide +kernel) (by simp[G9]) (by simp;rfl) ?_;refine Fa C 5 rfl (by decide +kernel) (by decide +kernel) (by simp[G9]) (by simp;rfl) ?_;refine uM C 6 rfl (by decide +kernel) (by decide +kernel) (by simp[gB,gZ]) (by simp;rfl) ?_;refine vk C [2,7] ?_;refine bW rfl (ku [12,16] (Fv hy) Tryz.call73 (ar ?_)) (bW rfl (sL ?_) trivial)
   ·refine vk C [7] ?_
    refine bW rfl (sL (SR 17 ?_)) trivial;refine vk C [8] ?_;refine bW rfl (sl (by simp[UW];rfl) ?_) trivial;refine vk C [9] ?_;refine bW rfl (sl (by simp[vi];rfl) ?_) trivial;refine vk C [10] ?_;refine bW rfl (sL ?_) trivial;exact kx C (by decide +kernel) ⟨rfl,bw.2 (by simp)⟩
   ·refine SR 17 ?_
    refine vk C [2,8] ?_;refine bW rfl (ku [12,16,17] (Fv hy) Tryz.call73 (ar ?_)) (bW rfl (sl (by simp[UW];rfl) ?_) trivial)
    ·refine vk C [8] ?_
     refine bW rfl (sl (by simp[UW];rfl) ?_) trivial;refine vk C [9] ?_;refine bW rfl (sl (by simp[vi];rfl) ?_) trivial;refine vk C [10] ?_;refine bW rfl (sL ?_) trivial;exact kx C (by decide +kernel) ⟨rfl,bw.2 (by simp)⟩
    ·refine vk C [2] ?_
     refine bW rfl (ku [12,16,17,18] (Fv hy) Tryz.call73 (ar ?_)) trivial;refine vk C [9] ?_;refine bW rfl (sl (by simp[vi];rfl) ?_) trivial;refine vk C [10] ?_;refine bW rfl (sL ?_) trivial;exact kx C (by decide +kernel) ⟨rfl,bw.2 (by simp)⟩
  ·cases h0
   exact fo ⟨[],by simp[P1],rfl,by simp⟩
theorem BV (n:Nat):∀{a0:Int} {r:ByteArray},fV n a0=some r→dY Tryz.prog 73 [] [.d (.int .i64 a0)] (.d (.str r)) []:=by
 induction n with
 |zero=>intro _ _ h;cases h
 |succ n ih=>intro _ _ h;exact BU ih h
theorem xd {a0:Int} {r:ByteArray} (h0:qk a0=some r):dY Tryz.prog 73 [] [.d (.int .i64 a0)] (.d (.str r)) []:=by
 unfold qk at h0;split at h0
 ·exact BV _ h0
 ·cases h0
theorem Di {f0:ao→Int→ByteArray→List aB→Option (List aB)} (Fv:∀{a0:ao} {a1:Int} {a2:ByteArray} {a3 r:List aB},f0 a0 a1 a2 a3=some r→nV Tryz.prog 72 [] [⟨62,2,ak aw a3⟩] [.agg (ay a0),.d (.int .i64 a1),.d (.str a2),.vec (wa 0)] (.vec (wa 0)) [] [⟨62,2,ak aw r⟩])
  {a0:ao} {a1:Int} {a2:ByteArray} {a3 r:List aB} (h0:kN f0 a0 a1 a2 a3=some r):nV Tryz.prog 72 [] [⟨62,2,ak aw a3⟩] [.agg (ay a0),.d (.int .i64 a1),.d (.str a2),.vec (wa 0)] (.vec (wa 0)) [] [⟨62,2,ak aw r⟩]:=by
 unfold kN at h0;refine yr (nt:=59) (rs:=[.tmp 8]) Tryz.func72 rfl Tryz.ntmps72 rfl (by simp) (by decide) rfl λK=>?_
 refine kR [1,2,3,4] ?_;refine kc ?_;refine kO [2,3,4,12,13] 2 ?_;obtain⟨o,ho,h0⟩:=bI h0;refine ku [2,3,4,14] (kI ho) Tryz.call35 ?_;refine kO [2,3,4,9] 2 ?_;refine ar ?_;refine aF ?_;refine kR [2,3,4,9,10] ?_;refine oa (λv:List aB=>(⟨59,[(3,.vec 2000000)],[],[(2000000,⟨62,2,ak aw v⟩)]⟩:St)) (λv=>v=r) (λv hv _ W1=>?_) ?_
 ·subst hv
  refine dp W1 ?_;refine kR [8] ?_;exact fo ⟨[],[2000000],by simp,by simp,by simp,by simp,by simp⟩
 ·refine aO (cA (λs:Int×List aB=>(⟨59,[(2,.d (.str a2)),(3,.vec 2000000),(4,.ptr 4 0),(9,.ptr 9 0),(10,.d (.int .i64 s.1))],[(4,(ay a0)),(9,bc o)],[(2000000,⟨62,2,ak aw s.2⟩)]⟩:St)) h0 cq λG1 s2 o1 h1 gY iq=>?_)
  unfold gA at h1;by_cases iN:s2.1 < (o.bd.length:Int)
  ·rw[ai (fD iN)] at h1
   by_cases hle:(s2.2.length:Int)≤2000
   ·rw[ai (fD hle)] at h1
    have Y9:s2.2.length≤2000:=by omega
    refine aF ?_;refine kr [2,3,4,9,10,24] (by simp[iN,hle,Y9];rfl) ?_;refine gJ (true) (λ_=>?_) (λh=>by cases h);refine aN ?_;refine aF ?_;refine aO ?_;obtain⟨x,p1,h1⟩:=bI h1;replace p1:=bD p1;have p1':=p1;try simp at p1'
    refine kr [2,3,4,9,10,11] (by simp[p1,p1'];rfl) ?_;refine aF ?_;refine kc ?_;refine kO [2,3,4,9,10,11,32,34] 3 ?_;obtain⟨y,hy,h1⟩:=bI h1;refine ku [2,3,4,9,10,11,35] (kI hy) Tryz.call35 ?_;refine kO [2,3,4,9,10,11,37] 2 ?_;refine ar ?_;refine gJ ((y.Kind==2)) (λc=>?_) (λc=>?_)
    ·rw[ai c] at h1
     obtain⟨_,p2,h1⟩:=bI h1;replace p2:=bT p2;have WW:=p2;try simp at WW
     obtain⟨_,p3,h1⟩:=bI h1;replace p3:=bT p3;have og:=p3;try simp at og
     obtain⟨z,hz,h1⟩:=bI h1;refine kc ?_;refine ko [2,4,9,10,38,40,45,46] 9 (by simp[p2,p3,WW,og];rfl) ?_;refine jQ [2,4,9,10,47] [] [2000000] [2000000] (Fv hz) rfl rfl rfl Tryz.call72 (by simp) (by simp;rfl) ?_;refine kO [2,3,4,9,10] 1 ?_;refine ar ?_;refine bZ ?_;refine lr (by simp;rfl) ?_;exact⟨_,gY _ (af h1),cq⟩
    ·rw[ah (by rw[c];decide)] at h1
     refine aN ?_;obtain⟨_,p2,h1⟩:=bI h1;replace p2:=bT p2;have WW:=p2;try simp at WW
     obtain⟨_,p3,h1⟩:=bI h1;replace p3:=bT p3;have og:=p3;try simp at og
     refine qH ?_;refine ko [2,3,4,9,10] 11 (by simp[p2,p3,WW,og];rfl) ?_;refine ar ?_;refine lr (by simp;rfl) ?_;exact⟨_,gY _ (af h1),Wk.trans (sx 57 2000000) cq⟩
   ·rw[ah (by simpa using hle)] at h1
    have Y9:¬s2.2.length≤2000:=by omega
    refine aF ?_;refine kr [2,3,4,9,10,24] (by simp[iN,hle,Y9];rfl) ?_;refine gJ (false) (λh=>by cases h) (λ_=>?_);refine bZ ?_;exact⟨_,iq _ (af h1),cq⟩
  ·rw[ah (by simpa using iN)] at h1
   refine aF ?_;refine kr [2,3,4,9,10,24] (by simp[iN];rfl) ?_;refine gJ (false) (λh=>by cases h) (λ_=>?_);refine bZ ?_;exact⟨_,iq _ (af h1),cq⟩
theorem Dj (n:Nat):∀{a0:ao} {a1:Int} {a2:ByteArray} {a3 r:List aB},eQ n a0 a1 a2 a3=some r→nV Tryz.prog 72 [] [⟨62,2,ak aw a3⟩] [.agg (ay a0),.d (.int .i64 a1),.d (.str a2),.vec (wa 0)] (.vec (wa 0)) [] [⟨62,2,ak aw r⟩]:=by
 induction n with
 |zero=>intro _ _ _ _ _ h;cases h
 |succ n ih=>intro _ _ _ _ _ h;exact Di ih h
theorem xQ {a0:ao} {a1:Int} {a2:ByteArray} {a3 r:List aB} (h0:rK a0 a1 a2 a3=some r):nV Tryz.prog 72 [] [⟨62,2,ak aw a3⟩] [.agg (ay a0),.d (.int .i64 a1),.d (.str a2),.vec (wa 0)] (.vec (wa 0)) [] [⟨62,2,ak aw r⟩]:=by
 unfold rK at h0;split at h0
 ·exact Dj _ h0
 ·cases h0
theorem GK {P:Program} {K:Ctx P} {ops:Array Oper} {st:St} {l:List Oper} {Q:Exit→St→Prop} {o:Oper} (op':Op) (h:∀a w p,Rel K st a w p→execOp a.eval { o with op:=op' }=execOp a.eval o) (H:fc P K ops ({ o with op:=op' }::l) st Q):fc P K ops (o::l) st Q:=λa w p R=>by
 have:=H a w p R;have he:=h a w p R;unfold wpList at this ⊢;have hw:Region.wanted o (yielded ops a.tmps)=Region.wanted { o with op:=op' } (yielded ops a.tmps):=rfl;rw[hw];have hup:∀(nx:Act→World→Prop) (q:Exit→Act→World→Prop) (x:Result Next),Oper.upon P { o with op:=op' } a nx q x=Oper.upon P o a nx q x:=λnx q x=>by unfold Oper.upon;rfl
 have hwp:∀(nx:Act→World→Prop) (q:Exit→Act→World→Prop),Oper.wp P { o with op:=op' } a w nx q=Oper.wp P o a w nx q:=λnx q=>by unfold Oper.wp;rw[hup,he]
 have has:Oper.asks P { o with op:=op' } a w=Oper.asks P o a w:=by unfold Oper.asks;rw[he]
 rw[hwp,has] at this;exact this
theorem Xl {P:Program} {K:Ctx P} {S:World→Prop} {F:Exit→Act→World→Prop} {ops:Array Oper} {n:Nat} {listed:Array Bool} {st st1:St} (W:Wk st st1) (h:sD P K S F ops n listed st1):sD P K S F ops n listed st:=λa w p R=>by
 obtain⟨p',R'⟩:=W K a w p R;exact h a w p' R'
theorem Kd {P:Program} {K:Ctx P} {st:St} {a:Act} {w:World} {p:Pl} (R:Rel K st a w p) {t:Nat} (h:st.look t=.dK):a.eval (.tmp t)=.slice none 0 0:=by
 have:=R.ca (.tmp t);have ho:ca st (.tmp t)=.dK:=h;rw[ho] at this;generalize a.eval (.tmp t)=v at this;cases this;rfl
theorem xR {a0:ao} {a1:Int} {r:List aB×Bool} (h0:kP a0 a1=some r):dY Tryz.prog 36 [] [.agg (ay a0),.d (.int .i64 a1)] (.ia [.d (.slice (ak aw r.1)),.d (.bool r.2)]) []:=by
 unfold kP at h0;refine tY (nt:=21) (rs:=[.tmp 4,.tmp 5]) Tryz.func36 rfl Tryz.ntmps36 rfl (by simp) (by decide) rfl λK hK=>?_
 refine kR [1,2,4] ?_;obtain⟨o,ho,h0⟩:=bI h0;obtain⟨y,hy,h0⟩:=bI h0;obtain⟨_,gS,h0⟩:=bI h0;replace gS:=bT gS;have vi:=gS;try simp at vi
 obtain⟨l,hl,h0⟩:=bI h0;refine rp 2 (ay a0) (aK a0) (by simp) (by simp) hK (by decide) (λi hi=>absurd hi (fR i)) ?_;refine N2 (S0:=(⟨21,[(6,.vec 900)],[],[(900,⟨62,2,ak aw l⟩)]⟩:St)) [0,1,2,5] 6 (by simpa using hK) sZ (by decide +kernel) rfl rfl rfl (by simp[gX,iZ,gB,gZ];rfl) (λK' S F C=>?_) ?_
 ·refine vk C [3] ?_
  refine bW rfl (ku [4,7,10,12] (kI ho) Tryz.call35 (ar ?_)) trivial
  ·refine vk C [4,6] ?_
   refine bW rfl (sL ?_) (bW rfl (ku [4,7,10,13] (xd hy) Tryz.call73 (ar ?_)) trivial)
   ·refine vk C [6] ?_
    refine bW rfl (ku [4,7,11,13] (xd hy) Tryz.call73 (ar ?_)) trivial;refine uM C 7 rfl (by decide +kernel) (by decide +kernel) (by simp[gB,gZ]) (by simp[gS,vi];rfl) ?_;refine Xl (st1:=(⟨21,[(4,.dK),(7,.agg (ay a0)),(11,.d (.int .i64 o.Tree)),(14,.d (.str (y++(⟨#[58]⟩:ByteArray))))],[],[]⟩:St)) cq ?_;refine vk C [8] ?_;refine bW rfl (GK (.call { callee:=.value (.func 72),args:=#[.tmp 7,.tmp 11,.tmp 14,.tmp 4],argTypes:=#[26,3,9,41]}) (λa w p R=>by have:=Kd R (t:=4) rfl;simp[execOp,resolve,this];rfl) ?_) trivial;refine lA (pX 4 900 62 2 (by simp) (by simp)) ?_;refine jQ [15] [] [900] [900] (xQ hl) rfl rfl rfl Tryz.call72 (by simp) (by simp;rfl) (ar ?_);refine vk C [9] ?_;refine bW rfl (sL ?_) trivial;exact kx C (by decide +kernel) ⟨rfl,bw.2 (by simp)⟩
   ·refine uM C 7 rfl (by decide +kernel) (by decide +kernel) (by simp[gB,gZ]) (by simp[gS,vi];rfl) ?_
    refine vk C [4] ?_;refine bW rfl (sL ?_) trivial;refine Xl (st1:=(⟨21,[(4,.dK),(7,.agg (ay a0)),(11,.d (.int .i64 o.Tree)),(14,.d (.str (y++(⟨#[58]⟩:ByteArray))))],[],[]⟩:St)) cq ?_;refine vk C [8] ?_;refine bW rfl (GK (.call { callee:=.value (.func 72),args:=#[.tmp 7,.tmp 11,.tmp 14,.tmp 4],argTypes:=#[26,3,9,41]}) (λa w p R=>by have:=Kd R (t:=4) rfl;simp[execOp,resolve,this];rfl) ?_) trivial;refine lA (pX 4 900 62 2 (by simp) (by simp)) ?_;refine jQ [15] [] [900] [900] (xQ hl) rfl rfl rfl Tryz.call72 (by simp) (by simp;rfl) (ar ?_);refine vk C [9] ?_;refine bW rfl (sL ?_) trivial;exact kx C (by decide +kernel) ⟨rfl,bw.2 (by simp)⟩
 ·refine aF ?_
  refine kR [6,18] ?_;refine gJ (decide (2000 < (l.length:Int))) (λc=>?_) (λc=>?_)
  ·rw[ai c] at h0
   refine kR [4,5] ?_;cases h0;exact fM
  ·rw[ah (by rw[c];decide)] at h0
   refine aN ?_;obtain⟨z,hz,h0⟩:=bI h0;refine kc ?_;refine kO [19] 1 ?_;refine tD 900 ?_;refine ku [20] (Dk hz) Tryz.call74 ?_;refine kO [4,5] 2 ?_;refine ar ?_;cases h0;exact fM
end Go.Vl
