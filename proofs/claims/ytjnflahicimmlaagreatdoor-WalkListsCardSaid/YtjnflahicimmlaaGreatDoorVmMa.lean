/- The value logic, part 1: pure data, what a slot holds, and how both lie in the model's memory. Conditions: none. -/
import Derived.Test.YtjnflahicimmlaaGreatDoorA0
import Derived.WalkKit
import Derived.Still
import Derived.StillTail
import Derived.Below
import Derived.Maps.AppendAt
import Derived.Laws.OwnMore
import Derived.ChangeKeysEq
import Derived.Laws.BytesString
import Derived.Calls
set_option linter.unusedSimpArgs false
set_option linter.unusedVariables false
namespace Go.Vl
open Go
def _root_.Go.Value.fN:Value→Option Nat
 | .map b=>b
 |v=>v.ownBlock
theorem AS {w:World} {base:Nat} {e:TypeId} {z n:Nat} {v:Value} {xs:List Value} (h:w.ownsRow base e z v n xs):v.fN=v.ownBlock:=by
 rcases h.2 with ⟨rfl,_⟩ |⟨g,cap,cur,rfl,_⟩ <;> rfl
def Kk (w:World) (b:Nat):Option (Array MapEntry×Nat):=match w.heap[b]? with
 |some (.map es c)=>some (es,c)
 |_=>none
def si (w:World) (q:Addr):Option Value×Option (Array MapEntry×Nat):=(w.cell? q,Kk w q.block)
theorem cT {w w':World} {q:Addr} (h:w'.heap[q.block]? =w.heap[q.block]?):si w' q=si w q:=by
 unfold si Kk;rw[gF h,h]
theorem D6 (w:World) (g:Nat) (cs:Array Value) (q:Addr) (h:q.block≠g):si (w.setRow g cs) q=si w q:=
 cT (by unfold World.setRow;simp[dJ,eN h])
theorem AH {w w':World} {q:Addr} (h:si w' q=si w q):w'.cell? q=w.cell? q:=bR Prod.fst h
theorem U4 {w w':World} {b:Nat} (h:si w' ⟨b,0,none⟩=si w ⟨b,0,none⟩):Kk w' b=Kk w b:=bR Prod.snd h
@[simp] def vV (_:World):Nat:=0
inductive D where
 |int (k:IntKind) (n:Int)
 |bool (b:Bool)
 |str (s:ByteArray)
 |slice (rows:List (List D))
 |ve
 |mp (e z:Nat) (rows:List (List D))
 deriving Inhabited
def LC (e:Nat):Nat:=(e - 1000000) / 4 % 64
def WH (e:Nat):Bool:=(e - 1000000) / 2 % 2==1
def WG (e:Nat):Bool:=(e - 1000000) % 2==1
def zr (ag:Bool) (n:Nat) (f:Nat→Value) (v:Value):Prop:=
 if ag=true then ∃cs:Array Value,v=.agg cs∧cs.size=n∧∀i,i < n→cs[i]? =some (f i) else n=1∧v=f 0
inductive RD (w:World) (ok:Nat→Prop):D→Value→Prop
 |int {k:IntKind} {n:Int}:RD w ok (.int k n) (.int k n)
 |bool {b:Bool}:RD w ok (.bool b) (.bool b)
 |str {s:ByteArray}:RD w ok (.str s) (.string s)
 |ve:RD w ok .ve (.pointer none)
 |pQ {a:Option Addr} {c:Nat}:RD w ok (.slice []) (.slice a 0 c)
 |slice {rows:List (List D)} {a:Addr} {c:Nat} (z:Nat) (vs:Nat→Value) (hz:∀r∈rows,r.length=z) (gD:ok a.block) (hc:rows.length≤c)
   (eY:∀j,j < rows.flatten.length→w.cell? (a.add j)=some (vs j))
   (h:∀j d,rows.flatten[j]? =some d→RD w ok d (vs j)):RD w ok (.slice rows) (.slice (some a) rows.length c)
 |mp {e z:Nat} {rows:List (List D)} {b clock:Nat} {es:Array MapEntry} (vs:Nat→Nat→Value) (hM:1000000≤e) (gD:ok b) (hb:Kk w b=some (es,clock)) (hs:es.size=rows.length) (hz:∀r∈rows,r.length=z)
   (qw:∀(j:Nat) (r:List D) (en:MapEntry),rows[j]? =some r→es[j]? =some en→zr (WH e) (r.take (LC e)).length (vs j) en.key∧zr (WG e) (r.drop (LC e)).length (λi=>vs j (LC e+i)) en.val)
   (hbn:∀en∈es.toList,en.born < clock) (sI:(es.toList.map (·.born)).Nodup)
   (h:∀(j i:Nat) (r:List D) (d:D),rows[j]? =some r→r[i]? =some d→RD w ok d (vs j i)):RD w ok (.mp e z rows) (.map (some b))
theorem block_add (a:Addr) (n:Nat):(a.add n).block=a.block:=by unfold Addr.add;split <;> rfl
theorem add_add (a:Addr) (i j:Nat):(a.add i).add j=a.add (i+j):=by
 unfold Addr.add;by_cases hi:i=0 <;> by_cases hj:j=0 <;> simp[hi,hj,Nat.add_assoc]
theorem add_zero (a:Addr):a.add 0=a:=rfl
theorem ix (b o n:Nat):(⟨b,o,none⟩:Addr).add n=⟨b,o+n,none⟩:=by
 unfold Addr.add;split
 ·subst_vars;rfl
 ·rfl
theorem RD.mono {w w':World} {ok nf:Nat→Prop} (hw:∀p:Addr,ok p.block→si w' p=si w p) (ho:∀b,ok b→nf b) {x:D} {v:Value}
  (h:RD w ok x v):RD w' nf x v:=by
 induction h with
 |int=>exact .int
 |bool=>exact .bool
 |str=>exact .str
 |ve=>exact .ve
 |pQ=>exact .pQ
 |slice z vs hz gD hc eY _ ih=>
  exact .slice z vs hz (ho _ gD) hc (λj hj=>(AH (hw _ (by rw[block_add];exact gD))).trans (eY j hj)) ih
 |mp vs hM gD hb hs hz qw hbn sI _ ih=>exact .mp vs hM (ho _ gD) ((U4 (hw _ gD)).trans hb) hs hz qw hbn sI ih
theorem RD.one {w:World} {ok:Nat→Prop} {x:D} {v:Value} (h:RD w ok x v):v.oneCell'=true:=by cases h <;> rfl
inductive AV where
 |undef
 |d (x:D)
 |dK
 |full (rows:List (List D))
 |agg (l:List AV)
 |ia (l:List AV)
 |ptr (n o:Nat)
 |cN (row:List D) (o:Nat)
 |vec (n:Nat)
 |iR (n z i o:Nat)
 |cut (n z lo k:Nat)
 |pR (k:Nat)
 |iter (r:Nat)
 |fn (f:FuncId) (l:List AV)
 deriving Inhabited
structure Pl where
 bx:Nat→Nat
 rw:Nat→Value
 lb:Nat→Prop
 lv:Nat→Prop
inductive RA (w:World) (ok:Nat→Prop) (p:Pl):AV→Value→Prop
 |undef {v:Value}:RA w ok p .undef v
 |d {x:D} {v:Value} (h:RD w ok x v):RA w ok p (.d x) v
 |dK:RA w ok p .dK (.slice none 0 0)
 |full {rows:List (List D)} {a:Option Addr} (h:RD w ok (.slice rows) (.slice a rows.length rows.length)):RA w ok p (.full rows) (.slice a rows.length rows.length)
 |agg {l:List AV} {cs:Array Value} (hl:cs.size=l.length) (h:∀(i:Nat) (a:AV) (v:Value),l[i]? =some a→cs[i]? =some v→RA w ok p a v)
   (h1:∀(i:Nat) (v:Value),cs[i]? =some v→v.oneCell'=true):RA w ok p (.agg l) (.agg cs)
 |ia {l:List AV} {cs:Array Value} (hl:cs.size=l.length) (h:∀(i:Nat) (a:AV) (v:Value),l[i]? =some a→cs[i]? =some v→RA w ok p a v):RA w ok p (.ia l) (.tuple cs)
 |ptr {n o:Nat} (hn:p.lb n):RA w ok p (.ptr n o) (.pointer (some ⟨p.bx n,o,none⟩))
 |cN {row:List D} {o:Nat} {a:Addr} (vs:Nat→Value) (gD:ok a.block) (eY:∀j,j < row.length→w.cell? (a.add j)=some (vs j))
   (h:∀j x,row[j]? =some x→RD w ok x (vs j)):RA w ok p (.cN row o) (.pointer (some (a.add o)))
 |vec {n:Nat} (hn:p.lv n):RA w ok p (.vec n) (p.rw n)
 |iR {n z i o g c len:Nat} (hn:p.lv n) (hv:p.rw n=.slice (some ⟨g,0,none⟩) len c):RA w ok p (.iR n z i o) (.pointer (some ⟨g,i * z+o,none⟩))
 |cut {n z lo k o g c len:Nat} (hn:p.lv n) (hv:p.rw n=.slice (some ⟨g,0,none⟩) len c) (ho:(k=0∨o=lo * z)∧(lo=0→o=0)) (hle:lo+k≤len):RA w ok p (.cut n z lo k) (.slice (some ⟨g,o,none⟩) k (c - lo))
 |oG {n z:Nat} (hn:p.lv n) (hv:p.rw n=.slice none 0 0):RA w ok p (.cut n z 0 0) (.slice none 0 0)
 |pR {k c:Nat} {a:Option Addr}:RA w ok p (.pR k) (.slice a k c)
 |iter {r:Nat}:RA w ok p (.iter r) (.pointer (some ⟨r,0,none⟩))
 |fn {f:FuncId} {l:List AV} {cs:Array Value} (hl:cs.size=l.length) (h:∀(i:Nat) (a:AV) (v:Value),l[i]? =some a→cs[i]? =some v→RA w ok p a v):RA w ok p (.fn f l) (.func (.func f) #[] cs)
theorem RA.Rw {w:World} {ok:Nat→Prop} {p:Pl} {n o b:Nat} (hn:p.lb n) (hb:p.bx n=b):RA w ok p (.ptr n o) (.pointer (some ⟨b,o,none⟩)):=by subst hb;exact .ptr hn
theorem RA.qS {w:World} {ok:Nat→Prop} {p:Pl} {n:Nat} {v:Value} (hn:p.lv n) (hb:p.rw n=v):RA w ok p (.vec n) v:=by subst hb;exact .vec hn
theorem RA.mono {w w':World} {ok nf:Nat→Prop} {p p':Pl} (hw:∀q:Addr,ok q.block→si w' q=si w q) (ho:∀b,ok b→nf b)
  (hb:∀n,p.lb n→p'.lb n∧p'.bx n=p.bx n) (hv:∀n,p.lv n→p'.lv n∧p'.rw n=p.rw n) {x:AV} {v:Value} (h:RA w ok p x v):RA w' nf p' x v:=by
 induction h with
 |undef=>exact .undef
 |d h=>exact .d (h.mono hw ho)
 |dK=>exact .dK
 |full h=>exact .full (h.mono hw ho)
 |agg hl _ h1 ih=>exact .agg hl ih h1
 |ia hl _ ih=>exact .ia hl ih
 |ptr hn=>obtain⟨h1,h2⟩:=hb _ hn;rw[← h2];exact .ptr h1
 |cN vs gD eY h=>exact .cN vs (ho _ gD) (λj hj=>(AH (hw _ (by rw[block_add];exact gD))).trans (eY j hj)) (λj x hx=>(h j x hx).mono hw ho)
 |vec hn=>obtain⟨h1,h2⟩:=hv _ hn;rw[← h2];exact .vec h1
 |iR hn he=>obtain⟨h1,h2⟩:=hv _ hn;exact .iR h1 (h2.trans he)
 |cut hn he ho hle=>obtain⟨h1,h2⟩:=hv _ hn;exact .cut h1 (h2.trans he) ho hle
 |oG hn he=>obtain⟨h1,h2⟩:=hv _ hn;exact .oG h1 (h2.trans he)
 |pR=>exact .pR
 |iter=>exact .iter
 |fn hl _ ih=>exact .fn hl ih
mutual
def AV.wf (lb lv:Nat→Bool):AV→Bool
 | .ptr n _=>lb n
 | .vec n=>lv n
 | .iR n _ _ _=>lv n
 | .cut n _ _ _=>lv n
 | .agg l=>AV.we lb lv l
 | .ia l=>AV.we lb lv l
 | .fn _ l=>AV.we lb lv l
 |_=>true
def AV.we (lb lv:Nat→Bool):List AV→Bool
 |[]=>true
 |x::l=>AV.wf lb lv x&&AV.we lb lv l
end
theorem AV.pY {lb lv:Nat→Bool}:∀{l:List AV},AV.we lb lv l=true→∀{i:Nat} {x:AV},l[i]? =some x→AV.wf lb lv x=true
 |[],_,i,x,h=>by simp at h
 |y::l,hl,i,x,h=>by
  simp only[AV.we,aR] at hl;cases i with
  |zero=>simp at h;subst h;exact hl.1
  |succ i=>exact AV.pY hl.2 (by simpa using h)
theorem RA.less {w w':World} {ok nf:Nat→Prop} {p p':Pl} {lb lv:Nat→Bool} (hw:∀q:Addr,ok q.block→si w' q=si w q) (ho:∀b,ok b→nf b)
  (hb:∀n,lb n=true→p.lb n→p'.lb n∧p'.bx n=p.bx n) (hv:∀n,lv n=true→p.lv n→p'.lv n∧p'.rw n=p.rw n) {x:AV} {v:Value} (h:RA w ok p x v) (hx:x.wf lb lv=true):RA w' nf p' x v:=by
 induction h with
 |undef=>exact .undef
 |d h=>exact .d (h.mono hw ho)
 |dK=>exact .dK
 |full h=>exact .full (h.mono hw ho)
 |agg hl _ h1 ih=>exact .agg hl (λi a v ha lE=>ih i a v ha lE (AV.pY (by simpa[AV.wf] using hx) ha)) h1
 |ia hl _ ih=>exact .ia hl (λi a v ha lE=>ih i a v ha lE (AV.pY (by simpa[AV.wf] using hx) ha))
 |ptr hn=>obtain⟨h1,h2⟩:=hb _ (by simpa[AV.wf] using hx) hn;rw[← h2];exact .ptr h1
 |cN vs gD eY h=>exact .cN vs (ho _ gD) (λj hj=>(AH (hw _ (by rw[block_add];exact gD))).trans (eY j hj)) (λj x hx=>(h j x hx).mono hw ho)
 |vec hn=>obtain⟨h1,h2⟩:=hv _ (by simpa[AV.wf] using hx) hn;rw[← h2];exact .vec h1
 |iR hn he=>obtain⟨h1,h2⟩:=hv _ (by simpa[AV.wf] using hx) hn;exact .iR h1 (h2.trans he)
 |cut hn he ho hle=>obtain⟨h1,h2⟩:=hv _ (by simpa[AV.wf] using hx) hn;exact .cut h1 (h2.trans he) ho hle
 |oG hn he=>obtain⟨h1,h2⟩:=hv _ (by simpa[AV.wf] using hx) hn;exact .oG h1 (h2.trans he)
 |pR=>exact .pR
 |iter=>exact .iter
 |fn hl _ ih=>exact .fn hl (λi a v ha lE=>ih i a v ha lE (AV.pY (by simpa[AV.wf] using hx) ha))
def get {α:Type}:List (Nat×α)→Nat→Option α
 |[],_=>none
 |(k,v)::l,t=>if k=t then some v else get l t
def del {α:Type}:List (Nat×α)→Nat→List (Nat×α)
 |[],_=>[]
 |(k,v)::l,t=>if k=t then del l t else(k,v)::del l t
def me {α β:Type} (f:α→β):List (Nat×α)→List (Nat×β)
 |[]=>[]
 |(k,v)::l=>(k,f v)::me f l
theorem iG {α:Type} (l:List (Nat×α)) (t s:Nat):get (del l t) s=if t=s then none else get l s:=by
 induction l with
 |nil=>simp[get,del]
 |cons x l ih=>
  obtain⟨k,v⟩:=x;simp only[del];split
  ·subst_vars;rw[ih];simp only[get];split <;> rfl
  ·simp only[get];split
   ·subst_vars;rw[ah (by omega)]
   ·exact ih
theorem jS {α β:Type} (f:α→β) (l:List (Nat×α)) (t:Nat):get (me f l) t=(get l t).map f:=by
 induction l with
 |nil=>rfl
 |cons x l ih=>
  obtain⟨k,v⟩:=x;simp only[me,get];split
  ·rfl
  ·exact ih
structure VS where
 e:TypeId
 z:Nat
 rows:List (List D)
def bL (t kz:Nat) (ka va:Bool):Nat:=1000000+(((t * 64+kz) * 2+ka.toNat) * 2+va.toNat)
def VS.rC (s:VS):Bool:=decide (1000000≤s.e)
def VS.kz (s:VS):Nat:=LC s.e
def VS.ka (s:VS):Bool:=WH s.e
def VS.va (s:VS):Bool:=WG s.e
def fg (w:World) (ok:Nat→Prop) (ag:Bool) (ds:List D) (v:Value):Prop:=
 if ag=true then ∃cs:Array Value,v=.agg cs∧cs.size=ds.length∧∀(i:Nat) (d:D) (u:Value),ds[i]? =some d→cs[i]? =some u→RD w ok d u else ∃d,ds=[d]∧RD w ok d v
structure jd (w:World) (ok:Nat→Prop) (s:VS) (es:Array MapEntry) (clock:Nat):Prop where
 size:es.size=s.rows.length
 row:∀(j:Nat) (row:List D) (e:MapEntry),s.rows[j]? =some row→es[j]? =some e→fg w ok s.ka (row.take s.kz) e.key∧fg w ok s.va (row.drop s.kz) e.val
 born:∀e∈es.toList,e.born < clock
 nodup:(es.toList.map (·.born)).Nodup
def qK (w:World) (ok:Nat→Prop) (s:VS) (v:Value):Prop:=
 if s.rC=true then ∃(b:Nat) (es:Array MapEntry) (clock:Nat),v=.map (some b)∧w.heap[b]? =some (.map es clock)∧jd w ok s es clock
 else ∃xs:List Value,w.ownsRow 0 s.e s.z v s.rows.length xs∧∀(j:Nat) (d:D) (u:Value),s.rows.flatten[j]? =some d→xs[j]? =some u→RD w ok d u
theorem qK.row {w:World} {ok:Nat→Prop} {s:VS} {v:Value} (h:qK w ok s v) (hs:s.rC=false):∃xs:List Value,w.ownsRow 0 s.e s.z v s.rows.length xs∧∀(j:Nat) (d:D) (u:Value),s.rows.flatten[j]? =some d→xs[j]? =some u→RD w ok d u:=by
 unfold qK at h;rwa [ah (by rw[hs];decide)] at h
theorem qK.of {w:World} {ok:Nat→Prop} {s:VS} {v:Value} (hs:s.rC=false) (h:∃xs:List Value,w.ownsRow 0 s.e s.z v s.rows.length xs∧∀(j:Nat) (d:D) (u:Value),s.rows.flatten[j]? =some d→xs[j]? =some u→RD w ok d u):qK w ok s v:=by
 unfold qK;rwa [ah (by rw[hs];decide)]
theorem qK.map {w:World} {ok:Nat→Prop} {s:VS} {v:Value} (h:qK w ok s v) (hs:s.rC=true):∃(b:Nat) (es:Array MapEntry) (clock:Nat),v=.map (some b)∧w.heap[b]? =some (.map es clock)∧jd w ok s es clock:=by
 unfold qK at h;rwa [ai hs] at h
theorem qK.ofM {w:World} {ok:Nat→Prop} {s:VS} {v:Value} (hs:s.rC=true) (h:∃(b:Nat) (es:Array MapEntry) (clock:Nat),v=.map (some b)∧w.heap[b]? =some (.map es clock)∧jd w ok s es clock):qK w ok s v:=by
 unfold qK;rwa [ai hs]
theorem fg.mono {w w':World} {ok nf:Nat→Prop} (hw:∀q:Addr,ok q.block→si w' q=si w q) (ho:∀b,ok b→nf b) {ag:Bool} {ds:List D} {v:Value} (h:fg w ok ag ds v):fg w' nf ag ds v:=by
 unfold fg at h ⊢;split at h
 ·rename_i ha
  rw[ai ha];obtain⟨cs,h1,h2,h3⟩:=h;exact⟨cs,h1,h2,λi d u hd hu=>(h3 i d u hd hu).mono hw ho⟩
 ·rename_i ha
  rw[ah ha];obtain⟨d,h1,h2⟩:=h;exact⟨d,h1,h2.mono hw ho⟩
theorem Pe {w w':World} {ok nf:Nat→Prop} (hw:∀q:Addr,ok q.block→si w' q=si w q) (ho:∀b,ok b→nf b) (f g:VS→Bool) (k:VS→Nat) (s:VS) {r:List D} {u v:Value} (h:fg w ok (f s) (r.take (k s)) u∧fg w ok (g s) (r.drop (k s)) v):fg w' nf (f s) (r.take (k s)) u∧fg w' nf (g s) (r.drop (k s)) v:=
 ⟨fg.mono hw ho h.1,fg.mono hw ho h.2⟩
theorem jd.mono {w w':World} {ok nf:Nat→Prop} (hw:∀q:Addr,ok q.block→si w' q=si w q) (ho:∀b,ok b→nf b) {s:VS} {es:Array MapEntry} {clock:Nat} (h:jd w ok s es clock):jd w' nf s es clock:=
 {size:=h.size
  row:=λj r e hr he=>by
   exact Pe hw ho VS.ka VS.va VS.kz s (h.row j r e hr he)
  born:=h.born
  nodup:=h.nodup }
theorem lg {w w':World} {base:Nat} {e:TypeId} {z n:Nat} {v:Value} {xs:List Value} (h:w.ownsRow base e z v n xs) (hg:∀g,v.fN=some g→w'.heap[g]? =w.heap[g]?):w'.ownsRow base e z v n xs:=by
 refine⟨h.1,?_⟩;rcases h.2 with h0 |⟨g,cap,cur,rfl,hb,hh,rest⟩
 ·exact .inl h0
 ·exact .inr ⟨g,cap,cur,rfl,hb,(hg g rfl).trans hh,rest⟩
theorem qK.mono {w w':World} {ok nf:Nat→Prop} (hw:∀q:Addr,ok q.block→si w' q=si w q) (ho:∀b,ok b→nf b) {s:VS} {v:Value} (hb:∀g,v.fN=some g→w'.heap[g]? =w.heap[g]?) (h:qK w ok s v):qK w' nf s v:=by
 cases hs:s.rC with
 |true=>
  obtain⟨b,es,clock,rfl,h1,h2⟩:=h.map hs;exact .ofM hs ⟨b,es,clock,rfl,(hb b rfl).trans h1,h2.mono hw ho⟩
 |false=>
  obtain⟨xs,h1,h2⟩:=h.row hs;exact .of hs ⟨xs,lg h1 hb,λj d u hd hu=>(h2 j d u hd hu).mono hw ho⟩
theorem qK.lt {w:World} {ok:Nat→Prop} {s:VS} {v:Value} (h:qK w ok s v) {g:Nat} (hg:v.fN=some g):g < w.heap.size:=by
 cases hs:s.rC with
 |true=>
  obtain⟨b,es,clock,rfl,h1,_⟩:=h.map hs;cases hg;exact(aL.1 h1).1
 |false=>
  obtain⟨xs,h1,_⟩:=h.row hs;rw[AS h1] at hg;exact(h1.lt g hg).2
theorem qK.sl {w:World} {ok:Nat→Prop} {s:VS} {v:Value} (h:qK w ok s v) {a:Option Addr} {l c:Nat} (hv:v=.slice a l c):s.rC=false:=by
 cases hs:s.rC with
 |false=>rfl
 |true=>obtain⟨b,es,clock,e,_⟩:=h.map hs;rw[hv] at e;cases e
theorem qK.one {w:World} {ok:Nat→Prop} {s:VS} {v:Value} (h:qK w ok s v):v.oneCell'=true:=by
 cases hs:s.rC with
 |true=>obtain⟨b,es,clock,rfl,h1,_⟩:=h.map hs;rfl
 |false=>
  obtain⟨xs,h1,_⟩:=h.row hs;rcases h1.2 with ⟨rfl,_⟩ |⟨g,cap,cur,rfl,_⟩ <;> rfl
attribute [local irreducible] LC WH WG
def cellAt (ag:Bool) (v:Value) (i:Nat):Value:=if ag=true then(match v with | .agg cs=>(cs[i]?).getD undef |_=>undef) else v
theorem AQ {w:World} {ok:Nat→Prop} {ag:Bool} {ds:List D} {v:Value} (h:fg w ok ag ds v):zr ag ds.length (cellAt ag v) v∧∀(i:Nat) (d:D),ds[i]? =some d→RD w ok d (cellAt ag v i):=by
 unfold fg at h;cases ag with
 |true=>
  rw[ai rfl] at h;obtain⟨cs,rfl,h2,h3⟩:=h;unfold zr cellAt;simp only[eM];have key:∀i,i < ds.length→cs[i]? =some ((cs[i]?).getD undef):=λi hi=>by rw[bp (by omega)];rfl
  exact⟨⟨cs,rfl,h2,key⟩,λi d hd=>h3 i d _ hd (key i (aj.1 hd).1)⟩
 |false=>
  rw[ah (by decide)] at h;obtain⟨d,rfl,h2⟩:=h;unfold zr cellAt;simp only[bz,cS];refine⟨⟨rfl,trivial⟩,λi d' hd=>?_⟩
  match i with
  |0=>simp at hd;subst hd;exact h2
  |i+1=>simp at hd
theorem JW {w:World} {ok:Nat→Prop} {ag:Bool} {ds:List D} {v:Value} {f:Nat→Value} (h:zr ag ds.length f v) (hf:∀(i:Nat) (d:D),ds[i]? =some d→RD w ok d (f i)):fg w ok ag ds v:=by
 unfold zr at h;unfold fg;split at h
 ·rename_i ha
  obtain⟨cs,rfl,h2,h3⟩:=h;rw[ai ha];refine⟨cs,rfl,h2,λi d u hd hu=>?_⟩;have:=h3 i (aj.1 hd).1;rw[hu] at this;cases this;exact hf i d hd
 ·rename_i ha
  obtain⟨h2,rfl⟩:=h;rw[ah ha];obtain⟨d,rfl⟩:=List.length_eq_one_iff.1 h2;exact⟨d,rfl,hf 0 d rfl⟩
theorem Hi {w:World} {b:Nat} {es:Array MapEntry} {clock:Nat}:Kk w b=some (es,clock)↔w.heap[b]? =some (.map es clock):=by
 unfold Kk
 constructor
 ·intro h
  split at h
  ·rename_i h2;cases h;exact h2
  ·cases h
 ·intro h;rw[h]
theorem RD.zR {w:World} {ok:Nat→Prop} {e z:Nat} {rows:List (List D)} {v:Value} (h:RD w ok (.mp e z rows) v):∃(b:Nat) (es:Array MapEntry) (clock:Nat),v=.map (some b)∧w.heap[b]? =some (.map es clock)∧ok b∧1000000≤e∧jd w ok ⟨e,z,rows⟩ es clock:=by
 cases h with
 |mp vs hM gD hb hs hz qw hbn sI h=>
  refine⟨_,_,_,rfl,Hi.1 hb,gD,hM,⟨hs,λj r en hr he=>?_,hbn,sI⟩⟩;obtain⟨h1,h2⟩:=qw j r en hr he;refine⟨JW h1 λi d hd=>h j i r d hr ?_,JW h2 λi d hd=>h j (LC e+i) r d hr (by rwa [dc] at hd)⟩;rw[bS] at hd;split at hd
  ·exact hd
  ·cases hd
theorem RD.ofMap {w:World} {ok:Nat→Prop} {s:VS} {b:Nat} {es:Array MapEntry} {clock:Nat} (hM:s.rC=true) (hz:∀r∈s.rows,r.length=s.z) (hb:w.heap[b]? =some (.map es clock)) (gD:ok b) (hm:jd w ok s es clock):RD w ok (.mp s.e s.z s.rows) (.map (some b)):=by
 have hr:∀(j:Nat) (r:List D) (en:MapEntry),s.rows[j]? =some r→es[j]? =some en→fg w ok (WH s.e) (r.take (LC s.e)) en.key∧fg w ok (WG s.e) (r.drop (LC s.e)) en.val:=λj r en h1 h2=>hm.row j r en h1 h2
 refine .mp (λj i=>match es[j]? with |some en=>if i < LC s.e then cellAt (WH s.e) en.key i else cellAt (WG s.e) en.val (i - LC s.e) |none=>undef) (by simpa[VS.rC] using hM) gD (Hi.2 hb) hm.size hz (λj r en h1 h2=>?_) hm.born hm.nodup (λj i r d h1 h2=>?_)
 ·obtain⟨k1,k2⟩:=hr j r en h1 h2
  have p1:=(AQ k1).1;have p2:=(AQ k2).1;simp only[h2];have adi:∀{ag:Bool} {n:Nat} {f g:Nat→Value} {v:Value},(∀i,i < n→f i=g i)→zr ag n f v→zr ag n g v:=λ{ag n f g v} hfg hp=>by
   unfold zr at hp ⊢;split at hp
   ·rename_i ha
    rw[ai ha];obtain⟨cs,a1,a2,a3⟩:=hp;exact⟨cs,a1,a2,λi hi=>by rw[a3 i hi,hfg i hi]⟩
   ·rename_i ha
    rw[ah ha];exact⟨hp.1,by rw[← hfg 0 (by omega)];exact hp.2⟩
  refine⟨adi (λi hi=>?_) p1,adi (λi hi=>?_) p2⟩
  ·rw[ai]
   rw[dV] at hi;omega
  ·rw[ah (by omega),sr]
 ·have hj:j < es.size:=by rw[hm.size];exact(aj.1 h1).1
  have he:es[j]? =some es[j]:=bp hj;obtain⟨k1,k2⟩:=hr j r _ h1 he;simp only[he];split
  ·rename_i hi
   exact(AQ k1).2 i d (by rw[bS,ai hi];exact h2)
  ·rename_i hi
   exact(AQ k2).2 (i - LC s.e) d (by rw[dc];rw[show LC s.e+(i - LC s.e)=i by omega];exact h2)
structure St where
 nt:Nat
 env:List (Nat×AV)
 box:List (Nat×List AV)
 vec:List (Nat×VS)
def St.lb (st:St) (n:Nat):Bool:=(get st.box n).isSome
def St.lv (st:St) (n:Nat):Bool:=(get st.vec n).isSome
def St.put (st:St) (t:Nat) (x:AV):St:={ st with env:=(t,x)::st.env }
def St.look (st:St) (t:Nat):AV:=(get st.env t).getD .undef
def Tn (P:Program) (b:Nat):IntKind×List Int:=
 match P.globals[b]? with
 |some g=>if g.name= "leakresponse/notice.deadlines" then(.i64,[40,16,4,1]) else if g.name= "leakresponse/severity.levels" then(.i64,[1,100,1000,10000]) else if g.name= "internal/strconv.uint64pow10" then(.u64,[1,10,100,1000,10000,100000,1000000,10000000,100000000,1000000000,10000000000,100000000000,1000000000000,10000000000000,100000000000000,1000000000000000,10000000000000000,100000000000000000,1000000000000000000,10000000000000000000]) else(.i64,[])
 |none=>(.i64,[])
def wQ (P:Program) (b:Nat):List Int:=(Tn P b).2
def KP (P:Program) (b:Nat):IntKind:=(Tn P b).1
def mB (P:Program) (w:World) (ok:Nat→Prop):Prop:=∀(b i:Nat) (x:Int),(wQ P b)[i]? =some x→ok b∧(w.cell? ⟨b,i,none⟩=some (.int (KP P b) x)∧w.cell? ⟨b,(wQ P b).length,none⟩=none)
structure Ctx (P:Program) where
 w0:World
 ok0:Nat→Prop
 lx:List Nat
 qO:List Nat
 gl:∀(b i:Nat) (x:Int),(wQ P b)[i]? =some x→(b < w0.heap.size∧ok0 b∧b∉lx∧b∉qO)∧(w0.cell? ⟨b,i,none⟩=some (.int (KP P b) x)∧w0.cell? ⟨b,(wQ P b).length,none⟩=none)
def Ctx.io {P:Program} (K:Ctx P) (b:Nat):Prop:=b∈K.lx∨b∈K.qO
def Ctx.base {P:Program} (_:Ctx P):Nat:=0
def sq (i:Nat):Nat:=1000000+i
def wa (i:Nat):Nat:=2000000+i
def St.pl (st:St) (bx:Nat→Nat) (rw:Nat→Value):Pl:=⟨bx,rw,λn=>st.lb n=true,λn=>st.lv n=true⟩
def dx {P:Program} (K:Ctx P) (w:World) (p:Pl) (b:Nat):Prop:=
 b < w.heap.size∧(K.ok0 b∨K.w0.heap.size≤b∨b∈K.qO)∧(∀n,p.lb n→b≠p.bx n)∧∀n,p.lv n→(p.rw n).fN≠some b
structure Uc {P:Program} (K:Ctx P) (w:World) (p:Pl) (n:Nat) (cs:List AV):Prop where
 at_:∃(vs:Array Value) (ty:TypeId),w.heap[p.bx n]? =some (.cells vs ty (0,0))∧vs.size=cs.length∧
  (∀(i:Nat) (c:AV) (v:Value),cs[i]? =some c→vs[i]? =some v→RA w (dx K w p) p c v)∧∀(i:Nat) (v:Value),vs[i]? =some v→v.oneCell'=true
 yc:K.w0.heap.size≤p.bx n∨K.io (p.bx n)
structure T3 {P:Program} (K:Ctx P) (w:World) (p:Pl) (n:Nat) (s:VS):Prop where
 at_:qK w (dx K w p) s (p.rw n)
 hz:∀r∈s.rows,r.length=s.z
 yc:∀g,(p.rw n).fN=some g→K.w0.heap.size≤g∨g∈K.qO
structure Rel {P:Program} (K:Ctx P) (st:St) (a:Act) (w:World) (p:Pl):Prop where
 lb:p.lb=λn=>st.lb n=true
 lv:p.lv=λn=>st.lv n=true
 pj:a.defers=[]
 nt:a.tmps.size=st.nt
 pK:st.nt≤1000000
 oB:∀i:Nat,p.lb (sq i)→K.lx[i]? =some (p.bx (sq i))
 size:K.w0.heap.size≤w.heap.size
 os:w.os=K.w0.os
 tape:w.tape=K.w0.tape
 dr:vV K.w0≤vV w
 output:w.output=K.w0.output
 old:∀b,b < K.w0.heap.size→¬K.io b→w.heap[b]? =K.w0.heap[b]?
 env:∀t x,get st.env t=some x→RA w (dx K w p) p x (a.tmps.getD t undef)
 box:∀n cs,get st.box n=some cs→Uc K w p n cs
 vec:∀n s,get st.vec n=some s→T3 K w p n s
 oF:∀n m,p.lb n→p.lb m→n≠m→p.bx n≠p.bx m
 my:∀n m,p.lb n→p.lv m→(p.rw m).fN≠some (p.bx n)
 mX:∀n m,p.lv n→p.lv m→n≠m→(p.rw n).fN=none∨(p.rw n).fN≠(p.rw m).fN
theorem Rel.KR {P:Program} {K:Ctx P} {st:St} {a:Act} {w:World} {p:Pl} (R:Rel K st a w p):mB P w (dx K w p):=λb i x h=>by
 obtain⟨⟨h1,h2,h3,h4⟩,h5⟩:=K.gl b i x h;have xg:¬K.io b:=λh=>h.elim h3 h4
 have e:=R.old b h1 xg;refine⟨⟨bu h1 R.size,.inl h2,λn hn he=>?_,λn hn he=>?_⟩,?_⟩
 ·rw[R.lb] at hn
  obtain⟨cs,je⟩:=aY.1 hn;rcases(R.box n cs je).yc with h |h
  ·omega
  ·exact xg (he▸h)
 ·rw[R.lv] at hn
  obtain⟨s,hs⟩:=aY.1 hn;rcases(R.vec n s hs).yc b he with h |h
  ·omega
  ·exact h4 h
 ·unfold World.cell? at h5 ⊢
  simp only at h5 ⊢;rw[e];exact h5
end Go.Vl
namespace Go.Vl
open Go
theorem ir {rows:List (List D)} {z:Nat} (hz:∀r∈rows,r.length=z):rows.flatten.length=rows.length * z:=by
 induction rows with
 |nil=>simp
 |cons r rs ih=>
  simp only[eG,bF,cQ,hz r (by simp),ih λr hr=>hz r (by simp[hr]),dQ];omega
theorem flat_get {rows:List (List D)} {z:Nat} (hz:∀r∈rows,r.length=z):∀{i:Nat} {r:List D},rows[i]? =some r→∀{j:Nat},j < z→rows.flatten[i * z+j]? =r[j]? :=by
 induction rows with
 |nil=>intro i r h;simp at h
 |cons r0 rs ih=>
  intro i r h j hj;have h0:r0.length=z:=hz r0 (by simp);rw[eG];cases i with
  |zero=>simp at h;subst h;rw[ek (by omega)];simp
  |succ i=>
   rw[fF (by rw[h0,dQ];omega),h0,show(i+1) * z+j - z=i * z+j by rw[dQ];omega];exact ih (λr hr=>hz r (by simp[hr])) (by simpa using h) hj
theorem Co {rows:List (List D)} {z:Nat} (hz:∀r∈rows,r.length=z):∀l:Nat,(rows.drop l).flatten=rows.flatten.drop (l * z):=by
 induction rows with
 |nil=>simp
 |cons r0 rs ih=>
  intro l;have h0:r0.length=z:=hz r0 (by simp);cases l with
  |zero=>simp
  |succ l=>
   have e:r0.drop ((l+1) * z)=[]:=cx (by rw[h0,dQ];omega);rw[List.drop_succ_cons,ih λr hr=>hz r (by simp[hr]),eG,List.drop_append,e,h0,
    show(l+1) * z - z=l * z by rw[dQ];omega]
   rfl
theorem vT {rows:List (List D)} {z:Nat} (hz:∀r∈rows,r.length=z) (l:Nat):(rows.take l).flatten=rows.flatten.take (l * z):=by
 induction rows generalizing l with
 |nil=>simp
 |cons r0 rs ih=>
  have h0:r0.length=z:=hz r0 (by simp);cases l with
  |zero=>simp
  |succ l=>
   have e:r0.take ((l+1) * z)=r0:=fP (by rw[h0,dQ];omega);rw[List.take_succ_cons,eG,eG,ih λr hr=>hz r (by simp[hr]),List.take_append,e,h0,
    show(l+1) * z - z=l * z by rw[dQ];omega]
def AV.x':Value→AV
 | .int k n=>.d (.int k n)
 | .bool b=>.d (.bool b)
 | .string s=>.d (.str s)
 | .pointer none=>.d .ve
 | .slice none 0 0=>.dK
 |_=>.undef
def AV.ofConst:Value→AV
 | .agg cs=>if cs.all Value.oneCell' then .agg (cs.toList.map AV.x') else .undef
 |v=>AV.x' v
theorem B4 (w:World) (ok:Nat→Prop) (p:Pl) (v:Value):RA w ok p (AV.x' v) v:=by
 unfold AV.x';split
 ·exact .d .int
 ·exact .d .bool
 ·exact .d .str
 ·exact .d .ve
 ·exact .dK
 ·exact .undef
theorem EG (w:World) (ok:Nat→Prop) (p:Pl) (v:Value):RA w ok p (AV.ofConst v) v:=by
 unfold AV.ofConst;split
 ·rename_i cs
  split
  ·rename_i h
   refine .agg (by simp) (λi a v ha hv=>?_) (λi v hv=>?_)
   ·rw[aA,bo,hv] at ha
    simp at ha;subst ha;exact B4 w ok p v
   ·have:=tl.1 h v (Array.mem_of_getElem? hv)
    exact this
  ·exact .undef
 ·exact B4 w ok p v
def ca (st:St):Operand→AV
 | .tmp t=>st.look t
 | .const v=>AV.ofConst v
 | .global _=>.undef
 | .func f=>.fn f []
theorem Rel.ca {P:Program} {K:Ctx P} {st:St} {a:Act} {w:World} {p:Pl} (R:Rel K st a w p) (x:Operand):RA w (dx K w p) p (ca st x) (a.eval x):=by
 cases x with
 |tmp t=>
  simp only[Vl.ca,St.look,Act.eval];cases h:get st.env t with
  |none=>exact .undef
  |some x=>exact R.env t x h
 |const v=>exact EG _ _ _ v
 |global g=>exact .undef
 |func f=>exact .fn (l:=[]) rfl (λi a v h=>by simp at h)
def fh (P:Program) (t:TypeId):Option Nat:=(P.info? t).map (·.size)
def gO (P:Program) (t:TypeId):Bool:=match P.underlying t with |some (.struct _) |some (.array _ _)=>true |_=>false
def fZ (P:Program) (t:TypeId):Option (List AV):=(P.info? t).bind λi=>i.zero.bind λz=>if z.cells.size=i.size∧z.cells.all Value.oneCell' then some (z.cells.toList.map AV.x') else none
theorem eO {P:Program} {t:TypeId} {k:Nat} (h:fh P t=some k) (w:World):(sizeOf t).run P w=.ok k w:=by
 unfold fh at h;cases hi:P.info? t with
 |none=>simp[hi] at h
 |some i=>simp[hi] at h;subst h;simp[sizeOf,typeInfo,hi]
theorem pr {P:Program} {t:TypeId} (hu:(P.underlying t).isSome=true) (w:World):(isAgg t).run P w=.ok (gO P t) w:=by
 obtain⟨d,hd⟩:=aY.1 hu;unfold gO;rw[hd];simp only[isAgg,bk,aJ hd,Result.andThen];cases d <;> rfl
def xe (P:Program) (t:TypeId) (cs:List AV) (o:Nat):Option AV:=
 if(P.underlying t).isSome then
  if gO P t then(fh P t).bind λk=>if o+k≤cs.length then some (.agg ((cs.drop o).take k)) else none
  else cs[o]?
 else none
theorem zP {P:Program} {t:TypeId} {cs:List AV} {o:Nat} {x:AV} (h:xe P t cs o=some x) {w:World} {ok:Nat→Prop} {p:Pl} {a:Addr} (vs:Nat→Value)
  (eY:∀j,j < cs.length→w.cell? (a.add j)=some (vs j)) (hr:∀j c,cs[j]? =some c→RA w ok p c (vs j)) (h1:∀j,j < cs.length→(vs j).oneCell'=true):
  ∃v,(loadVar t (a.add o)).run P w=.ok v w∧RA w ok p x v:=by
 unfold xe at h;split at h
 case isFalse=>cases h
 rename_i hu;simp only[loadVar,bk,pr hu,Result.andThen];split at h
 ·rename_i hg
  cases hk:fh P t with
  |none=>simp[hk] at h
  |some k=>
   simp only[hk,aa] at h;split at h
   case isFalse=>cases h
   rename_i hle;cases h;simp only[hg,eM,bk,eO hk,Result.andThen];rw[run_loadCells (P:=P) w (a.add o) k (λj=>vs (o+j)) (λj hj=>by rw[add_add];exact eY _ (by omega))];refine⟨_,rfl,.agg (by simp;omega) (λi y v hy hv=>?_) (λi v hv=>?_)⟩
   ·simp only[hD,aA] at hv
    by_cases hi:i < k
    ·rw[qN hi] at hv
     simp at hv;subst hv;rw[dR hi,dc] at hy;exact hr _ _ hy
    ·rw[fy (by simpa using hi)] at hv;simp at hv
   ·simp only[hD,aA] at hv
    by_cases hi:i < k
    ·rw[qN hi] at hv
     simp at hv;subst hv;exact h1 _ (by omega)
    ·rw[fy (by simpa using hi)] at hv;simp at hv
 ·rename_i hg
  have iN:o < cs.length:=(aj.1 h).1;simp only[hg,bz,cS];exact⟨vs o,by simp[eY o iN],hr _ _ h⟩
theorem Ez {P:Program} {t:TypeId} {cs:List AV} {o:Nat} {x:AV} (h:xe P t cs o=some x) {w:World} {ok:Nat→Prop} {p:Pl} {vs:Array Value}
  (hl:vs.size=cs.length) (hr:∀(i:Nat) (a:AV) (v:Value),cs[i]? =some a→vs[i]? =some v→RA w ok p a v) (h1:∀(i:Nat) (v:Value),vs[i]? =some v→v.oneCell'=true):
  ∃v,(part t vs o).run P w=.ok v w∧RA w ok p x v:=by
 unfold xe at h;split at h
 case isFalse=>cases h
 rename_i hu;simp only[part,bk,pr hu,Result.andThen];split at h
 ·rename_i hg
  cases hk:fh P t with
  |none=>simp[hk] at h
  |some k=>
   simp only[hk,aa] at h;split at h
   case isFalse=>cases h
   rename_i hle;cases h;simp only[hg,eM,bk,eO hk,Result.andThen];refine⟨_,rfl,.agg (by simp;omega) (λi y v hy hv=>?_) (λi v hv=>?_)⟩
   ·rw[Array.getElem?_extract] at hv
    split at hv
    case isFalse=>cases hv
    rename_i hi;have Fe:i < k:=by omega
    rw[dR Fe,dc] at hy;exact hr _ _ _ hy hv
   ·rw[Array.getElem?_extract] at hv
    split at hv
    case isFalse=>cases hv
    exact h1 _ _ hv
 ·rename_i hg
  have iN:o < cs.length:=(aj.1 h).1;simp only[hg,bz,cS];have hv:vs[o]? =some (vs[o]'(by omega)):=bp (by omega);exact⟨vs[o]'(by omega),by simp[hv],hr _ _ _ h hv⟩
def sH (P:Program) (st:St) (t:TypeId):AV→Option AV
 | .ptr n o=>(get st.box n).bind λcs=>xe P t cs o
 | .cN row o=>xe P t (row.map .d) o
 | .iR n z i o=>(get st.vec n).bind λs=>if z=s.z then s.rows[i]?.bind λrow=>xe P t (row.map .d) o else none
 |_=>none
theorem yP {w:World} {base:Nat} {e:TypeId} {z n:Nat} {g c len:Nat} {xs:List Value} (h:w.ownsRow base e z (.slice (some ⟨g,0,none⟩) len c) n xs):
  len=n∧∀j,j < n * z→w.cell? ⟨g,j,none⟩=xs[j]?∧w.frozen? ⟨g,j,none⟩=false:=by
 obtain⟨hl,hh⟩:=h;rcases hh with ⟨h0,_⟩ |⟨g',cap,cur,h0,_,hg,hn,hm,hs,hx⟩
 ·cases h0
 ·injection h0 with h1 h2 h3
  injection h1 with h1
  injection h1 with h1
  subst h1;subst h2;subst h3;refine⟨rfl,λj hj=>⟨?_,frozen_of_row w g j cur e hg⟩⟩;rw[cell_of_row w g j cur e (0,0) hg,←hx,dR hj];simp
section
variable {P:Program} {K:Ctx P} {st:St} {a:Act} {w:World} {p:Pl}
theorem yg (R:Rel K st a w p) {P:Program} {t:TypeId} {y x:AV} (h:sH P st t y=some x) {u:Value} (hu:RA w (dx K w p) p y u):
  ∃v,(Instr.loadAt t u).run P w=.ok v w∧RA w (dx K w p) p x v:=by
 cases hu with
 |ptr hn=>
  rename_i n o;simp only[sH] at h;cases hb:get st.box n with
  |none=>simp[hb] at h
  |some cs=>
   simp only[hb,aa] at h;obtain⟨⟨vs,ty,hg,hl,hr,h1⟩,_⟩:=R.box n cs hb;simp only[Instr.loadAt,Instr.sureAddr,bk,cV,Result.andThen];have:=zP (a:=⟨p.bx n,0,none⟩) h (w:=w) (ok:=dx K w p) (p:=p) (λj=>vs.getD j undef) (λj hj=>by
    rw[ix,gg,cell_of_row w _ j vs ty _ hg];simp[show j < vs.size by omega]) (λj c hc=>by
    have hj:j < vs.size:=by have:=(aj.1 hc).1;omega
    exact hr j c _ hc (by simp[hj])) (λj hj=>h1 j _ (by simp[show j < vs.size by omega]))
   rw[ix,gg] at this;exact this
 |cN vs gD eY hd=>
  rename_i row o b;simp only[sH] at h;simp only[Instr.loadAt,Instr.sureAddr,bk,cV,Result.andThen];refine zP h vs (λj hj=>eY j (by simpa using hj)) (λj c hc=>?_) (λj hj=>?_)
  ·rw[aA] at hc
   cases hx:row[j]? with
   |none=>simp[hx] at hc
   |some x=>simp[hx] at hc;subst hc;exact .d (hd j x hx)
  ·have wm:j < row.length:=by simpa using hj
   exact(hd j row[j] (ae wm)).one
 |iR hn hv=>
  rename_i n z i o g c len;simp only[sH] at h;cases hb:get st.vec n with
  |none=>simp[hb] at h
  |some s=>
   simp only[hb,aa] at h;split at h
   case isFalse=>cases h
   rename_i hz;cases iE:s.rows[i]? with
   |none=>simp[iE] at h
   |some row=>
    simp only[iE,aa] at h;obtain⟨sJ,Aw,_⟩:=R.vec n s hb;obtain⟨xs,eC,hd⟩:=sJ.row (sJ.sl hv);rw[hv] at eC;obtain⟨hlen,V0⟩:=yP eC;have zB:row.length=s.z:=Aw row (bm iE);have hi:i < s.rows.length:=(aj.1 iE).1;have XE:∀j,j < s.z→i * s.z+j < s.rows.length * s.z:=λj hj=>by
     have:(i+1) * s.z≤s.rows.length * s.z:=dy _ hi;rw[dQ] at this;omega
    simp only[Instr.loadAt,Instr.sureAddr,bk,cV,Result.andThen];have:=zP (a:=⟨g,i * z,none⟩) h (w:=w) (ok:=dx K w p) (p:=p) (λj=>xs.getD (i * s.z+j) undef) (λj hj=>by
     have wm:j < s.z:=by simpa[zB] using hj
     have pS:=XE j wm;rw[ix,hz,(V0 _ pS).1];simp[List.getD,ae (show i * s.z+j < xs.length by rw[eC.1];exact pS)]) (λj c hc=>by
     rw[aA] at hc;cases hx:row[j]? with
     |none=>simp[hx] at hc
     |some x=>
      simp[hx] at hc;subst hc;have wm:j < s.z:=by have:=(aj.1 hx).1;omega
      have N6:i * s.z+j < xs.length:=by rw[eC.1];exact XE j wm
      exact .d (hd (i * s.z+j) x _ (by rw[flat_get Aw iE wm];exact hx) (by simp[List.getD,ae N6]))) (λj hj=>by
     have wm:j < s.z:=by simpa[zB] using hj
     have N6:i * s.z+j < xs.length:=by rw[eC.1];exact XE j wm
     have hf:i * s.z+j < s.rows.flatten.length:=by rw[ir Aw];exact XE j wm
     exact(hd (i * s.z+j) _ _ (ae hf) (by simp[List.getD,ae N6])).one)
    rw[ix] at this;exact this
 |_=>simp[sH] at h
end
end Go.Vl
namespace Go.Vl
open Go
def J9 (P:Program) (k:Nat):AV→Option AV
 | .ptr n o=>some (.ptr n (o+k))
 | .cN row o=>some (.cN row (o+k))
 | .iR n z i o=>some (.iR n z i (o+k))
 |_=>none
theorem wF {w:World} {ok:Nat→Prop} {p:Pl} {P:Program} {k:Nat} {y x:AV} (h:J9 P k y=some x) {u:Value} (hu:RA w ok p y u):
  ∃b:Addr,u=.pointer (some b)∧RA w ok p x (.pointer (some (b.add k))):=by
 cases hu with
 |ptr hn=>simp[J9] at h;subst h;exact⟨_,rfl,by rw[ix];exact .ptr hn⟩
 |cN vs gD hc hd=>simp[J9] at h;subst h;exact⟨_,rfl,by rw[add_add];exact .cN vs gD hc hd⟩
 |iR hn hv=>simp[J9] at h;subst h;exact⟨_,rfl,by rw[ix,Nat.add_assoc];exact .iR hn hv⟩
 |_=>simp[J9] at h
def Fu (P:Program) (s:TypeId) (f:Nat) (y:AV):Option AV:=
 match P.underlying s with
 |some (.struct fs)=>(fs[f]?).bind λfd=>match fh P fd.type with
  |some (_+1)=>J9 P fd.offset y
  |_=>none
 |_=>none
theorem IY {w:World} {ok:Nat→Prop} {p:Pl} {P:Program} {s:TypeId} {f:Nat} {y x:AV} (h:Fu P s f y=some x) {u:Value} (hu:RA w ok p y u):
  ∃v,(Instr.fieldAt s u f).run P w=.ok v w∧RA w ok p x v:=by
 unfold Fu at h;split at h
 case h_2=>cases h
 rename_i fs hs;cases hf:fs[f]? with
 |none=>simp[hf] at h
 |some fd=>
  simp only[hf,aa] at h;split at h
  case h_2=>cases h
  rename_i k hk;obtain⟨b,rfl,hb⟩:=wF h hu;exact⟨_,by simp[Instr.fieldAt,Instr.sureAddr,aJ hs,hf,fieldPlace,eO hk],hb⟩
def uL (P:Program) (t:TypeId) (y:AV) (i:Int) (st:St):Option AV:=
 match P.underlying t with
 |some (.slice e)=>if 0≤i then(match y with
  | .d (.slice rows)=>rows[i.toNat]?.bind λrow=>if fh P e=some row.length then some (.cN row 0) else none
  | .full rows=>rows[i.toNat]?.bind λrow=>if fh P e=some row.length then some (.cN row 0) else none
  | .vec n=>(get st.vec n).bind λs=>if i.toNat < s.rows.length∧fh P e=some s.z∧s.rC=false then some (.iR n s.z i.toNat 0) else none
  | .cut n z lo k=>if i.toNat < k∧fh P e=some z then some (.iR n z (lo+i.toNat) 0) else none
  |_=>none) else none
 |some (.array len e)=>if 0≤i∧i < len then(fh P e).bind λz=>J9 P (i.toNat * z) y else none
 |_=>none
theorem Ih {w:World} {ok:Nat→Prop} {p:Pl} {P:Program} {t e:TypeId} (hs:P.underlying t=some (.slice e)) {rows:List (List D)} {row:List D} {k:IntKind} {i:Int} (h0:0≤i) (iE:rows[i.toNat]? =some row)
  (hz:fh P e=some row.length) {u:Value} (h:RD w ok (.slice rows) u):∃v,(Instr.indexAt t u (.int k i)).run P w=.ok v w∧RA w ok p (.cN row 0) v:=by
 have hi:i.toNat < rows.length:=(aj.1 iE).1;cases h with
 |pQ=>simp at hi
 |slice z vs Aw gD hc eY hd=>
  rename_i b c;have zB:row.length=z:=Aw row (bm iE);refine⟨.pointer (some (b.add (i.toNat * row.length))),?_,?_⟩
  ·have h1:i < (rows.length:Int):=by omega
   simp[Instr.indexAt,aJ hs,asIntOf,h0,h1,eO hz]
  ·rw[← add_zero (b.add _)]
   refine .cN (λj=>vs (i.toNat * row.length+j)) (by rw[block_add];exact gD) (λj hj=>?_) (λj x hx=>?_)
   ·rw[add_add]
    refine eY _ ?_;rw[ir Aw];have:(i.toNat+1) * z≤rows.length * z:=dy _ hi;rw[dQ] at this;rw[zB] at hj ⊢;omega
   ·have hj:j < z:=by have:=(aj.1 hx).1;omega
    refine hd _ _ ?_;rw[zB,flat_get Aw iE hj];exact hx
section
variable {P:Program} {K:Ctx P} {st:St} {a:Act} {w:World} {p:Pl}
theorem Gl (R:Rel K st a w p) {P:Program} {t:TypeId} {k:IntKind} {i:Int} {y x:AV} (h:uL P t y i st=some x) {u:Value} (hu:RA w (dx K w p) p y u):
  ∃v,(Instr.indexAt t u (.int k i)).run P w=.ok v w∧RA w (dx K w p) p x v:=by
 unfold uL at h;split at h
 ·rename_i e hs
  split at h
  case isFalse=>cases h
  rename_i h0;split at h
  ·rename_i rows
   cases iE:rows[i.toNat]? with
   |none=>simp[iE] at h
   |some row=>
    simp only[iE,aa] at h;split at h
    case isFalse=>cases h
    rename_i hz;cases h;cases hu with
    |d hd=>exact Ih hs h0 iE hz hd
  ·rename_i rows
   cases iE:rows[i.toNat]? with
   |none=>simp[iE] at h
   |some row=>
    simp only[iE,aa] at h;split at h
    case isFalse=>cases h
    rename_i hz;cases h;cases hu with
    |full hd=>exact Ih hs h0 iE hz hd
  ·rename_i n
   cases hb:get st.vec n with
   |none=>simp[hb] at h
   |some s=>
    simp only[hb,aa] at h;split at h
    case isFalse=>cases h
    rename_i hh;obtain⟨hi,hz,hM⟩:=hh;cases h;cases hu with
    |vec hn=>
     obtain⟨sJ,Aw,_⟩:=R.vec n s hb;obtain⟨xs,eC,hd⟩:=sJ.row hM;rcases eC.2 with ⟨_,h1⟩ |⟨g,cap,cur,hv,_,_,_,_,_,_⟩
     ·omega
     ·rw[hv]
      have h1:i < (s.rows.length:Int):=by omega
      refine⟨.pointer (some ⟨g,i.toNat * s.z+0,none⟩),?_,.iR hn hv⟩;simp[Instr.indexAt,aJ hs,asIntOf,h0,h1,eO hz,ix]
  ·rename_i n z lo k'
   split at h
   case isFalse=>cases h
   rename_i hh;obtain⟨hi,hz⟩:=hh;cases h;cases hu with
   |cut hn hv ho hle=>
    rename_i o g c len;have h1:i < (k':Int):=by omega
    have h2:o=lo * z:=ho.1.resolve_left (by omega);refine⟨.pointer (some ⟨g,(lo+i.toNat) * z+0,none⟩),?_,.iR hn hv⟩;simp[Instr.indexAt,aJ hs,asIntOf,h0,h1,eO hz,ix,h2,dQ]
   |oG hn hv=>omega
  ·cases h
 ·rename_i len e hs
  split at h
  case isFalse=>cases h
  rename_i hh;cases hz:fh P e with
  |none=>simp[hz] at h
  |some z=>
   simp only[hz,aa] at h;obtain⟨b,rfl,hb⟩:=wF h hu;exact⟨_,by simp[Instr.indexAt,Instr.sureAddr,aJ hs,asIntOf,hh,eO hz],hb⟩
 ·cases h
end
def ZX (k:IntKind) (a b:Int):Int:=k.wrap ((BitVec.ofInt k.bits a &&& BitVec.ofInt k.bits b).toNat)
def bOr (k:IntKind) (a b:Int):Int:=k.wrap ((BitVec.ofInt k.bits a ||| BitVec.ofInt k.bits b).toNat)
def ahs (k:IntKind) (a b:Int):Int:=k.wrap ((BitVec.ofInt k.bits a ^^^ BitVec.ofInt k.bits b).toNat)
def Wo (k:IntKind) (a b:Int):Int:=k.wrap ((BitVec.ofInt k.bits a &&& ~~~ BitVec.ofInt k.bits b).toNat)
def tT (op:BinOp) (k:IntKind) (a b:Int):Option D:=
 match op with
 | .add=>some (.int k (k.wrap (a+b)))
 | .sub=>some (.int k (k.wrap (a - b)))
 | .mul=>some (.int k (k.wrap (a * b)))
 | .quo=>if b=0 then none else some (.int k (k.wrap (a.tdiv b)))
 | .rem=>if b=0 then none else some (.int k (a.tmod b))
 | .and=>some (.int k (ZX k a b))
 | .or=>some (.int k (bOr k a b))
 | .xor=>some (.int k (ahs k a b))
 | .andNot=>some (.int k (Wo k a b))
 | .eql=>some (.bool (a==b))
 | .neq=>some (.bool (a != b))
 | .lss=>some (.bool (decide (a < b)))
 | .leq=>some (.bool (decide (a≤b)))
 | .gtr=>some (.bool (decide (b < a)))
 | .geq=>some (.bool (decide (b≤a)))
 | .shl | .shr=>none
def GN (op:BinOp) (k:IntKind) (a b:Int):Option D:=
 if b < 0 then none else
 match op with
 | .shl=>some (.int k (k.wrap (a * 2 ^ (min b.toNat k.bits))))
 | .shr=>some (.int k (a.fdiv (2 ^ (min b.toNat k.bits))))
 |_=>none
theorem JJ {P:Program} {w:World} {op:BinOp} {k yk:IntKind} {t:TypeId} {a b:Int} {x:D} (h:GN op k a b=some x) {ok:Nat→Prop}:
  ∃v,(binOp op t (.int k a) (.int yk b)).run P w=.ok v w∧RD w ok x v:=by
 unfold GN at h;split at h
 ·cases h
 ·rename_i hb
  cases op <;> simp at h <;> subst h
  ·exact⟨_,by simp[binOp,Op.shift,hb],.int⟩
  ·exact⟨_,by simp[binOp,Op.shift,hb],.int⟩
theorem Iz {P:Program} {w:World} {op:BinOp} {k:IntKind} {t:TypeId} {a b:Int} {x:D} (h:tT op k a b=some x) {ok:Nat→Prop}:
  ∃v,(binOp op t (.int k a) (.int k b)).run P w=.ok v w∧RD w ok x v:=by
 cases op <;> simp only[tT] at h
 case quo |rem=>
  split at h
  ·cases h
  ·rename_i hb;cases h;exact⟨_,(by simp[binOp,Op.intDiv,hb] <;> rfl),.int⟩
 case shl |shr=>cases h
 case add |sub |mul=>cases h;exact⟨_,(by simp[binOp,Op.intArith] <;> rfl),.int⟩
 case and |or |xor |andNot=>cases h;exact⟨_,(by simp only[binOp,Op.intBits,ne_eq,mC,cS];rfl),.int⟩
 all_goals cases h;exact⟨_,(by simp[binOp,Op.intCmp] <;> rfl),.bool⟩
def zH (op:BinOp) (a b:ByteArray):Option D:=
 match op with
 | .add=>if a.size+b.size≤9223372036854775807 then some (.str (a++b)) else none
 | .eql=>some (.bool (a.toList==b.toList))
 | .neq=>some (.bool (!(a.toList==b.toList)))
 | .lss=>some (.bool (Op.bytesLess a.toList b.toList))
 | .leq=>some (.bool (Op.bytesLess a.toList b.toList||a.toList==b.toList))
 | .gtr=>some (.bool (!(Op.bytesLess a.toList b.toList||a.toList==b.toList)))
 | .geq=>some (.bool (!(Op.bytesLess a.toList b.toList)))
 |_=>none
theorem H5 {P:Program} {w:World} {op:BinOp} {t:TypeId} {a b:ByteArray} {x:D} (h:zH op a b=some x) {ok:Nat→Prop}:
  ∃v,(binOp op t (.string a) (.string b)).run P w=.ok v w∧RD w ok x v:=by
 cases op <;> simp only[zH] at h
 case add=>
  split at h
  ·rename_i hle
   cases h;refine⟨.string (a++b),?_,.str⟩;have:¬(((a.size+b.size:Nat):Int) > IntKind.i64.max):=by
    have:IntKind.i64.max=9223372036854775807:=by decide
    rw[this];omega
   simp only[binOp,Op.stringOp,ah this];rfl
  ·cases h
 case eql |neq |lss |leq |gtr |geq=>cases h;exact⟨_,(by simp[binOp,Op.stringOp] <;> rfl),.bool⟩
 all_goals cases h
def za (P:Program) (op:BinOp) (t:TypeId) (a b:Bool):Option D:=
 match op,P.underlying t with
 | .eql,some .bool=>some (.bool (a==b))
 | .neq,some .bool=>some (.bool (a != b))
 |_,_=>none
theorem GA {P:Program} {w:World} {op:BinOp} {t:TypeId} {a b:Bool} {x:D} (h:za P op t a b=some x) {ok:Nat→Prop}:
  ∃v,(binOp op t (.bool a) (.bool b)).run P w=.ok v w∧RD w ok x v:=by
 unfold za at h;split at h
 ·rename_i hu;cases h
  exact⟨_,by simp only[binOp,bk,run_equal_bool w t a b hu,aU,cV],.bool⟩
 ·rename_i hu;cases h
  exact⟨.bool (!(a==b)),by simp only[binOp,bk,run_equal_bool w t a b hu,aU,cV],.bool⟩
 ·cases h
def nT (P:Program) (t:TypeId) (x y:AV):Option Bool:=
 match P.underlying t,x,y with
 |some (.int _),.d (.int k a),.d (.int k' b)=>if k=k' then some (a==b) else none
 |some .bool,.d (.bool a),.d (.bool b)=>some (a==b)
 |some .string,.d (.str a),.d (.str b)=>some (a.toList==b.toList)
 |_,_,_=>none
def Gv (P:Program):Nat→List Field→List AV→List AV→Option Bool
 |_,[],[],[]=>some true
 |j,f::fs,x::l,y::l'=>if f.name≠ "_" ∧f.offset=j then(nT P f.type x y).bind λb=>(Gv P (j+1) fs l l').map λr=>b&&r else none
 |_,_,_,_=>none
def Cq (P:Program) (e:TypeId):List AV→List AV→Option Bool
 |[],[]=>some true
 |x::l,y::l'=>(nT P e x y).bind λb=>(Cq P e l l').map λr=>b&&r
 |_,_=>none
def yu (P:Program):Nat→List Field→List AV→List AV→Option Bool
 |_,[],[],[]=>some true
 |j,f::fs,x::l,y::l'=>if f.name≠ "_" ∧f.offset=j then
   (match P.underlying f.type with
    |some (.struct gs)=>if P.stoodInHeld f.type then none else(fh P f.type).bind λz=>if z≤l.length+1∧z≤l'.length+1 then
      (Gv P 0 gs.toList ((x::l).take z) ((y::l').take z)).bind λb=>(yu P (j+z) fs ((x::l).drop z) ((y::l').drop z)).map λr=>b&&r else none
    |_=>(nT P f.type x y).bind λb=>(yu P (j+1) fs l l').map λr=>b&&r) else none
 |_,_,_,_=>none
def Tu (P:Program) (t:TypeId) (l l':List AV):Option Bool:=
 if P.eqGuardType P.depth t then none else
 match P.underlying t with
 |some (.struct fs)=>if P.stoodInHeld t then none else yu P 0 fs.toList l l'
 |some (.array n e)=>if fh P e=some 1∧l.length=n then Cq P e l l' else none
 |_=>none
section
variable {P:Program} {w:World} {ok:Nat→Prop} {p:Pl}
theorem wR {t:TypeId} {x y:AV} {r:Bool} (h:nT P t x y=some r) {u v:Value} (hu:RA w ok p x u) (hv:RA w ok p y v) (d:Nat):
  (Op.equalIn (d+1) t u v).run P w=.ok r w∧(∀(cs:Array Value) (o:Nat) (z:Value),cs[o]? =some z→(part t cs o).run P w=.ok z w):=by
 unfold nT at h;split at h
 ·rename_i k0 k a k' b ML
  split at h
  case isFalse=>cases h
  cases h;rename_i hk;subst hk;cases hu with |d hu=>cases hu with |int=>cases hv with |d hv=>cases hv with |int=>
  exact⟨run_equalIn_int w d t k k0 a b ML,λcs o z hz=>by simp[part,isAgg,aJ ML,hz]⟩
 ·rename_i a b ML
  cases h;cases hu with |d hu=>cases hu with |bool=>cases hv with |d hv=>cases hv with |bool=>
  exact⟨run_equalIn_bool w d t a b ML,λcs o z hz=>by simp[part,isAgg,aJ ML,hz]⟩
 ·rename_i a b ML
  cases h;cases hu with |d hu=>cases hu with |str=>cases hv with |d hv=>cases hv with |str=>
  exact⟨run_equalIn_string w d t a b ML,λcs o z hz=>by simp[part,isAgg,aJ ML,hz]⟩
 ·cases h
theorem MZ {xs ys:Array Value} (d:Nat):∀(fs:List Field) (j:Nat) (l l':List AV) (r:Bool),Gv P j fs l l'=some r→
  (∀(i:Nat) (a:AV),l[i]? =some a→∃v,xs[j+i]? =some v∧RA w ok p a v)→(∀(i:Nat) (a:AV),l'[i]? =some a→∃v,ys[j+i]? =some v∧RA w ok p a v)→
  (Op.eqFields (d+1) xs ys fs).run P w=.ok r w:=by
 intro fs
 induction fs with
 |nil=>
  intro j l l' r h _ _;cases l <;> cases l' <;> simp[Gv] at h
  subst h;simp[Op.eqFields]
 |cons f fs ih=>
  intro j l l' r h hx hy;cases l with
  |nil=>simp[Gv] at h
  |cons x l=>
   cases l' with
   |nil=>simp[Gv] at h
   |cons y l'=>
    simp only[Gv] at h;split at h
    case isFalse=>cases h
    rename_i hf;obtain⟨hn,ho⟩:=hf;cases hb:nT P f.type x y with
    |none=>simp[hb] at h
    |some b=>
     cases hr:Gv P (j+1) fs l l' with
     |none=>simp[hb,hr] at h
     |some r'=>
      simp[hb,hr] at h;obtain⟨u,Uo,Un⟩:=hx 0 x rfl;obtain⟨v,zy,Gq⟩:=hy 0 y rfl;obtain⟨he,hp⟩:=wR hb Un Gq d;have:=ih (j+1) l l' r' hr (λi a ha=>by have:=hx (i+1) a (by simpa using ha);rwa [show j+(i+1)=j+1+i by omega] at this)
       (λi a ha=>by have:=hy (i+1) a (by simpa using ha);rwa [show j+(i+1)=j+1+i by omega] at this)
      have p1:=hp xs f.offset u (by rw[ho];exact Uo);have p2:=hp ys f.offset v (by rw[ho];exact zy);simp only[Op.eqFields,ai hn,bk,p1,p2,he,aU,mU,this];cases b <;> simp_all
theorem C3 {xs ys:Array Value} (d:Nat):∀(fs:List Field) (j:Nat) (l l':List AV) (r:Bool),yu P j fs l l'=some r→
  (∀(i:Nat) (a:AV),l[i]? =some a→∃v,xs[j+i]? =some v∧RA w ok p a v)→(∀(i:Nat) (a:AV),l'[i]? =some a→∃v,ys[j+i]? =some v∧RA w ok p a v)→
  (Op.eqFields (d+2) xs ys fs).run P w=.ok r w:=by
 intro fs
 induction fs with
 |nil=>
  intro j l l' r h _ _;cases l <;> cases l' <;> simp[yu] at h
  subst h;simp[Op.eqFields]
 |cons f fs ih=>
  intro j l l' r h hx hy;cases l with
  |nil=>simp[yu] at h
  |cons x l=>
   cases l' with
   |nil=>simp[yu] at h
   |cons y l'=>
    simp only[yu] at h;split at h
    case isFalse=>cases h
    rename_i hf;obtain⟨hn,ho⟩:=hf;split at h
    ·rename_i gs hgs
     split at h
     ·cases h
     rename_i sV;cases hz:fh P f.type with
     |none=>simp[hz] at h
     |some z=>
      simp only[hz,aa] at h;split at h
      case isFalse=>cases h
      rename_i hle;cases hb:Gv P 0 gs.toList ((x::l).take z) ((y::l').take z) with
      |none=>simp[hb] at h
      |some b=>
       cases hr:yu P (j+z) fs ((x::l).drop z) ((y::l').drop z) with
       |none=>simp[hb,hr] at h
       |some r'=>
        simp[hb,hr] at h;have XF:gO P f.type=true:=by unfold gO;rw[hgs]
        have hu:(P.underlying f.type).isSome=true:=by rw[hgs];rfl
        have p1:(part f.type xs f.offset).run P w=.ok (.agg (xs.extract f.offset (f.offset+z))) w:=by
         simp only[part,bk,pr hu,XF,Result.andThen,eM,eO hz];rfl
        have p2:(part f.type ys f.offset).run P w=.ok (.agg (ys.extract f.offset (f.offset+z))) w:=by
         simp only[part,bk,pr hu,XF,Result.andThen,eM,eO hz];rfl
        have ac3:∀{us:Array Value} {m:List AV},(∀(i:Nat) (a:AV),m[i]? =some a→∃v,us[j+i]? =some v∧RA w ok p a v)→∀(i:Nat) (a:AV),(m.take z)[i]? =some a→∃v,(us.extract f.offset (f.offset+z))[0+i]? =some v∧RA w ok p a v:=λ{us m} hm i a ha=>by
         rw[bS] at ha;split at ha
         case isFalse=>cases ha
         rename_i hiz;obtain⟨v,h1,h2⟩:=hm i a ha;refine⟨v,?_,h2⟩;have iN:=(aL.1 h1).1;rw[gg,Array.getElem?_extract,ai (by omega),ho];exact h1
        have he:(Op.equalIn (d+2) f.type (.agg (xs.extract f.offset (f.offset+z))) (.agg (ys.extract f.offset (f.offset+z)))).run P w=.ok b w:=by
         have Xx:P.fieldsOf f.type=gs:=by simp[Program.fieldsOf,hgs]
         have:=run_equalIn_struct (P:=P) w (d+1) f.type (xs.extract f.offset (f.offset+z)) (ys.extract f.offset (f.offset+z)) (by rw[Xx];exact hgs) (by simpa using sV);rw[Xx] at this;exact this.trans (MZ d gs.toList 0 _ _ b hb (ac3 hx) (ac3 hy))
        have XL:∀{us:Array Value} {m:List AV},(∀(i:Nat) (a:AV),m[i]? =some a→∃v,us[j+i]? =some v∧RA w ok p a v)→∀(i:Nat) (a:AV),(m.drop z)[i]? =some a→∃v,us[j+z+i]? =some v∧RA w ok p a v:=λ{us m} hm i a ha=>by
         rw[dc] at ha;have:=hm (z+i) a ha
         rwa [← Nat.add_assoc] at this
        have:=ih (j+z) _ _ r' hr (XL hx) (XL hy);simp only[Op.eqFields,ai hn,bk,p1,p2,he,aU,mU,this];cases b <;> simp_all
    ·cases hb:nT P f.type x y with
     |none=>simp[hb] at h
     |some b=>
      cases hr:yu P (j+1) fs l l' with
      |none=>simp[hb,hr] at h
      |some r'=>
       simp[hb,hr] at h;obtain⟨u,Uo,Un⟩:=hx 0 x rfl;obtain⟨v,zy,Gq⟩:=hy 0 y rfl;obtain⟨he,hp⟩:=wR hb Un Gq (d+1);have:=ih (j+1) l l' r' hr (λi a ha=>by have:=hx (i+1) a (by simpa using ha);rwa [show j+(i+1)=j+1+i by omega] at this)
        (λi a ha=>by have:=hy (i+1) a (by simpa using ha);rwa [show j+(i+1)=j+1+i by omega] at this)
       have p1:=hp xs f.offset u (by rw[ho];exact Uo);have p2:=hp ys f.offset v (by rw[ho];exact zy);simp only[Op.eqFields,ai hn,bk,p1,p2,he,aU,mU,this];cases b <;> simp_all
theorem Fx {e:TypeId} {xs ys:Array Value} (d:Nat):∀(l l':List AV) (j:Nat) (r:Bool),Cq P e l l'=some r→
  (∀(i:Nat) (a:AV),l[i]? =some a→∃v,xs[j+i]? =some v∧RA w ok p a v)→(∀(i:Nat) (a:AV),l'[i]? =some a→∃v,ys[j+i]? =some v∧RA w ok p a v)→
  (Op.eqItems (d+1) e 1 xs ys (List.range' j l.length)).run P w=.ok r w:=by
 intro l
 induction l with
 |nil=>
  intro l' j r h _ _;cases l' <;> simp[Cq] at h
  subst h;simp[Op.eqItems]
 |cons x l ih=>
  intro l' j r h hx hy;cases l' with
  |nil=>simp[Cq] at h
  |cons y l'=>
   simp only[Cq] at h;cases hb:nT P e x y with
   |none=>simp[hb] at h
   |some b=>
    cases hr:Cq P e l l' with
    |none=>simp[hb,hr] at h
    |some r'=>
     simp[hb,hr] at h;obtain⟨u,Uo,Un⟩:=hx 0 x rfl;obtain⟨v,zy,Gq⟩:=hy 0 y rfl;obtain⟨he,hp⟩:=wR hb Un Gq d;have:=ih l' (j+1) r' hr (λi a ha=>by have:=hx (i+1) a (by simpa using ha);rwa [show j+(i+1)=j+1+i by omega] at this)
      (λi a ha=>by have:=hy (i+1) a (by simpa using ha);rwa [show j+(i+1)=j+1+i by omega] at this)
     have p1:=hp xs (j * 1) u (by simpa using Uo);have p2:=hp ys (j * 1) v (by simpa using zy);simp only[cQ,List.range'_succ,Op.eqItems,bk,p1,p2,he,aU,mU,this];cases b <;> simp_all
theorem HB {t:TypeId} {l l':List AV} {r:Bool} (h:Tu P t l l'=some r) {u v:Value} (hu:RA w ok p (.agg l) u) (hv:RA w ok p (.agg l') v):
  ∃xs ys,u=.agg xs∧v=.agg ys∧(∀op x y,(eqGuard op t x y u v).run P w=.ok () w)∧(binOp .eql t u v).run P w=.ok (.bool r) w∧(binOp .neq t u v).run P w=.ok (.bool (!r)) w:=by
 cases hu with
 |agg hl hx hx1=>
  rename_i xs;cases hv with
  |agg hl' hy oC=>
   rename_i ys;have CV:∀(i:Nat) (a:AV),l[i]? =some a→∃v,xs[0+i]? =some v∧RA w ok p a v:=λi a ha=>by
    have hi:i < xs.size:=by have:=(aj.1 ha).1;omega
    exact⟨xs[i],by simp[hi],hx i a _ ha (by simp[hi])⟩
   have YT:∀(i:Nat) (a:AV),l'[i]? =some a→∃v,ys[0+i]? =some v∧RA w ok p a v:=λi a ha=>by
    have hi:i < ys.size:=by have:=(aj.1 ha).1;omega
    exact⟨ys[i],by simp[hi],hy i a _ ha (by simp[hi])⟩
   unfold Tu at h;split at h
   ·cases h
   rename_i hg;have LK:P.eqGuardType P.depth t=false:=by simpa using hg
   have key:(Op.equalIn 10000 t (.agg xs) (.agg ys)).run P w=.ok r w:=by
    split at h
    ·rename_i fs hs
     split at h
     ·cases h
     rename_i hp;have Xx:P.fieldsOf t=fs:=by simp[Program.fieldsOf,hs]
     have:=run_equalIn_struct (P:=P) w 9999 t xs ys (by rw[Xx];exact hs) (by simpa using hp);rw[Xx] at this;exact this.trans (C3 9997 fs.toList 0 l l' r h CV YT)
    ·rename_i n e hs
     split at h
     case isFalse=>cases h
     rename_i hh;obtain⟨hz,hn⟩:=hh;have hi:∃i,P.info? e=some i:=by
      unfold fh at hz;cases hi:P.info? e with
      |none=>simp[hi] at hz
      |some i=>exact⟨i,rfl⟩
     obtain⟨i,hi⟩:=hi;have hc:P.cellsOf e=1:=by simp[fh,hi] at hz;simp[Program.cellsOf,hi,hz]
     have:=run_equalIn_array (P:=P) w 9999 xs ys hs hi;rw[hc,List.range_eq_range',←hn] at this;exact this.trans (Fx 9998 l l' 0 r h CV YT)
    ·cases h
   exact⟨xs,ys,rfl,rfl,λop x y=>run_eqGuard_agg w op t x y xs ys LK,by rw[run_eql_struct,key];rfl,by rw[run_neq_struct,key];rfl⟩
end
def FJ (P:Program) (op:BinOp) (t:TypeId) (x y:AV):Option AV:=
 match x,y with
 | .d (.int k a),.d (.int k' b)=>(match op with
  | .shl | .shr=>GN op k a b
  |_=>if k=k' then tT op k a b else none).map .d
 | .d (.str a),.d (.str b)=>(zH op a b).map .d
 | .d (.bool a),.d (.bool b)=>(za P op t a b).map .d
 | .agg l,.agg l'=>match op with
  | .eql=>(Tu P t l l').map λr=>.d (.bool r)
  | .neq=>(Tu P t l l').map λr=>.d (.bool !r)
  |_=>none
 | .d (.slice (_::_)),.dK=>match op,P.underlying t with
  | .eql,some (.slice _)=>some (.d (.bool false))
  | .neq,some (.slice _)=>some (.d (.bool true))
  |_,_=>none
 | .dK,.dK=>match op,P.underlying t with
  | .eql,some (.slice _)=>some (.d (.bool true))
  | .neq,some (.slice _)=>some (.d (.bool false))
  |_,_=>none
 | .d .ve,.d .ve=>match op,P.underlying t with
  | .eql,some (.pointer _)=>some (.d (.bool true))
  | .neq,some (.pointer _)=>some (.d (.bool false))
  |_,_=>none
 | .cN _ _,.d .ve=>match op,P.underlying t with
  | .eql,some (.pointer _)=>some (.d (.bool false))
  | .neq,some (.pointer _)=>some (.d (.bool true))
  |_,_=>none
 | .ptr _ _,.d .ve=>match op,P.underlying t with
  | .eql,some (.pointer _)=>some (.d (.bool false))
  | .neq,some (.pointer _)=>some (.d (.bool true))
  |_,_=>none
 |_,_=>none
theorem jC {P:Program} {w:World} {t e:TypeId} (h:P.underlying t=some (.slice e)) (a:Option Addr) (n c:Nat):
  (binOp .eql t (.slice a n c) (.slice none 0 0)).run P w=.ok (.bool a.isNone) w∧(binOp .neq t (.slice a n c) (.slice none 0 0)).run P w=.ok (.bool (!a.isNone)) w:=by
 have h9:(Op.equalIn 10000 t (.slice a n c) (.slice none 0 0)).run P w=.ok a.isNone w:=by
  have:∀d,(Op.equalIn (d+1) t (.slice a n c) (.slice none 0 0)).run P w=.ok a.isNone w:=λd=>by
   cases a <;> simp[Op.equalIn,aJ h]
  exact this 9999
 constructor
 ·simp only[binOp,bk,Op.equal,Op.maxDepth,h9,aU,cV]
 ·simp only[binOp,bk,Op.equal,Op.maxDepth,h9,aU,cV]
theorem od {P:Program} {w:World} {t e:TypeId} (h:P.underlying t=some (.pointer e)) (a:Option Addr):
  (binOp .eql t (.pointer a) (.pointer none)).run P w=.ok (.bool a.isNone) w∧(binOp .neq t (.pointer a) (.pointer none)).run P w=.ok (.bool (!a.isNone)) w:=by
 have h9:(Op.equalIn 10000 t (.pointer a) (.pointer none)).run P w=.ok a.isNone w:=by
  have:∀d,(Op.equalIn (d+1) t (.pointer a) (.pointer none)).run P w=.ok a.isNone w:=λd=>by
   cases a <;> simp[Op.equalIn,aJ h]
  exact this 9999
 constructor
 ·simp only[binOp,bk,Op.equal,Op.maxDepth,h9,aU,cV]
 ·simp only[binOp,bk,Op.equal,Op.maxDepth,h9,aU,cV]
theorem rh {P:Program} {w:World} {ok:Nat→Prop} {p:Pl} {op:BinOp} {t:TypeId} {x y z:AV} (h:FJ P op t x y=some z) {u v:Value} (hu:RA w ok p x u) (hv:RA w ok p y v) (ox oy:Operand):
  ∃r,(do eqGuard op t ox oy u v;binOp op t u v:Sem Value).run P w=.ok r w∧RA w ok p z r:=by
 unfold FJ at h;split at h
 ·rename_i k a k' b
  cases hu with |d hu=>cases hu with |int=>cases hv with |d hv=>cases hv with |int=>
  have hg:(eqGuard op t ox oy (.int k a) (.int k' b)).run P w=.ok () w:=by cases op <;> simp[eqGuard]
  simp only[bk,hg,aU];cases hd:(match op with | .shl | .shr=>GN op k a b |_=>if k=k' then tT op k a b else none) with
  |none=>rw[hd] at h;cases h
  |some d=>
   rw[hd] at h;cases h;have hs:∀(hq:GN op k a b=some d),∃r,(binOp op t (.int k a) (.int k' b)).run P w=.ok r w∧RA w ok p (.d d) r:=λhq=>by
    obtain⟨r,h1,h2⟩:=JJ (P:=P) (w:=w) (yk:=k') (t:=t) hq (ok:=ok);exact⟨r,h1,.d h2⟩
   have hi:∀(hq:(if k=k' then tT op k a b else none)=some d),∃r,(binOp op t (.int k a) (.int k' b)).run P w=.ok r w∧RA w ok p (.d d) r:=λhq=>by
    by_cases hk:k=k'
    ·rw[ai hk] at hq
     obtain⟨r,h1,h2⟩:=Iz (P:=P) (w:=w) (t:=t) hq (ok:=ok);rw[← hk];exact⟨r,h1,.d h2⟩
    ·rw[ah hk] at hq;cases hq
   cases op <;> first |exact hs hd |exact hi hd
 ·rename_i a b
  cases hu with |d hu=>cases hu with |str=>cases hv with |d hv=>cases hv with |str=>
  have hg:(eqGuard op t ox oy (.string a) (.string b)).run P w=.ok () w:=by cases op <;> simp[eqGuard]
  simp only[bk,hg,aU];cases hd:zH op a b with
  |none=>rw[hd] at h;cases h
  |some d=>
   rw[hd] at h;cases h;obtain⟨r,h1,h2⟩:=H5 (P:=P) (w:=w) (t:=t) hd (ok:=ok);exact⟨r,h1,.d h2⟩
 ·rename_i a b
  cases hu with |d hu=>cases hu with |bool=>cases hv with |d hv=>cases hv with |bool=>
  have hg:(eqGuard op t ox oy (.bool a) (.bool b)).run P w=.ok () w:=by cases op <;> simp[eqGuard]
  simp only[bk,hg,aU];cases hd:za P op t a b with
  |none=>rw[hd] at h;cases h
  |some d=>
   rw[hd] at h;cases h;obtain⟨r,h1,h2⟩:=GA (P:=P) (w:=w) (t:=t) hd (ok:=ok);exact⟨r,h1,.d h2⟩
 ·rename_i l l'
  split at h
  ·cases hd:Tu P t l l' with
   |none=>rw[hd] at h;cases h
   |some r=>
    rw[hd] at h;cases h;obtain⟨xs,ys,_,_,hg,h1,_⟩:=HB hd hu hv;simp only[bk,hg,aU];exact⟨_,h1,.d .bool⟩
  ·cases hd:Tu P t l l' with
   |none=>rw[hd] at h;cases h
   |some r=>
    rw[hd] at h;cases h;obtain⟨xs,ys,_,_,hg,_,h1⟩:=HB hd hu hv;simp only[bk,hg,aU];exact⟨_,h1,.d .bool⟩
  ·cases h
 ·cases hu with |d hu=>cases hu with |slice z vs hz gD hc eY hd=>cases hv with |dK=>
  rename_i b c;have hg:∀op n c,(eqGuard op t ox oy (.slice (some b) n c) (.slice none 0 0)).run P w=.ok () w:=λop n c=>by cases op <;> simp[eqGuard]
  simp only[bk,hg,aU];split at h
  ·rename_i e hs;cases h;exact⟨_,(jC hs _ _ _).1,.d .bool⟩
  ·rename_i e hs;cases h;exact⟨_,(jC hs _ _ _).2,.d .bool⟩
  ·cases h
 ·cases hu with |dK=>cases hv with |dK=>
  have hg:∀op,(eqGuard op t ox oy (.slice none 0 0) (.slice none 0 0)).run P w=.ok () w:=λop=>by cases op <;> simp[eqGuard]
  simp only[bk,hg,aU];split at h
  ·rename_i e hs;cases h;exact⟨_,(jC hs _ _ _).1,.d .bool⟩
  ·rename_i e hs;cases h;exact⟨_,(jC hs _ _ _).2,.d .bool⟩
  ·cases h
 ·cases hu with |d hu=>cases hu with |ve=>cases hv with |d hv=>cases hv with |ve=>
  have hg:∀op a,(eqGuard op t ox oy (.pointer a) (.pointer none)).run P w=.ok () w:=λop a=>by cases op <;> simp[eqGuard]
  simp only[bk,hg,aU];split at h
  ·rename_i e hs;cases h;exact⟨_,(od hs _).1,.d .bool⟩
  ·rename_i e hs;cases h;exact⟨_,(od hs _).2,.d .bool⟩
  ·cases h
 ·cases hu with |cN vs h1 h2 h3=>cases hv with |d hv=>cases hv with |ve=>
  have hg:∀op a,(eqGuard op t ox oy (.pointer a) (.pointer none)).run P w=.ok () w:=λop a=>by cases op <;> simp[eqGuard]
  simp only[bk,hg,aU];split at h
  ·rename_i e hs;cases h;exact⟨_,(od hs _).1,.d .bool⟩
  ·rename_i e hs;cases h;exact⟨_,(od hs _).2,.d .bool⟩
  ·cases h
 ·cases hu with |ptr hn=>cases hv with |d hv=>cases hv with |ve=>
  have hg:∀op a,(eqGuard op t ox oy (.pointer a) (.pointer none)).run P w=.ok () w:=λop a=>by cases op <;> simp[eqGuard]
  simp only[bk,hg,aU];split at h
  ·rename_i e hs;cases h;exact⟨_,(od hs _).1,.d .bool⟩
  ·rename_i e hs;cases h;exact⟨_,(od hs _).2,.d .bool⟩
  ·cases h
 ·cases h
end Go.Vl
namespace Go.Vl
open Go
def gq:AV→Option (List AV)
 | .agg l=>some l
 | .undef | .ia _=>none
 |x=>some [x]
def tZ (place:Nat→Option (Nat×Nat)) (cells:List AV):List (Nat×AV)→Option (List AV)
 |[]=>some cells
 |(i,x)::rest=>match place i with
  |none=>none
  |some (off,size)=>(gq x).bind λl=>if l.length=size∧off+size≤cells.length then tZ place (cells.take off++(l++cells.drop (off+size))) rest else none
theorem RA.one {w:World} {ok:Nat→Prop} {p:Pl} {x:AV} {l:List AV} {v:Value} (h:RA w ok p x v) (hx:gq x=some l) (hp:∀n,p.lv n→(p.rw n).oneCell'=true):
  v.cells.size=l.length∧(∀(i:Nat) (a:AV) (u:Value),l[i]? =some a→v.cells[i]? =some u→RA w ok p a u)∧∀(i:Nat) (u:Value),v.cells[i]? =some u→u.oneCell'=true:=by
 cases h with
 |agg hl h h1=>simp[gq] at hx;subst hx;exact⟨hl,h,h1⟩
 |undef=>simp[gq] at hx
 |ia=>simp[gq] at hx
 |d h=>
  rename_i x;simp[gq] at hx;subst hx;have h1:=h.one;have hc:v.cells= #[v]:=by cases v <;> simp_all [Value.cells,Value.oneCell']
  rw[hc];exact⟨rfl,λi a u ha hu=>by cases i <;> simp at ha hu;subst ha;subst hu;exact .d h,λi u hu=>by cases i <;> simp at hu;subst hu;exact h1⟩
 |vec hn=>
  rename_i n;simp[gq] at hx;subst hx;have h1:=hp n hn;have hc:(p.rw n).cells= #[p.rw n]:=by cases hh:p.rw n <;> simp_all [Value.cells,Value.oneCell']
  rw[hc];exact⟨rfl,λi a u ha hu=>by cases i <;> simp at ha hu;subst ha;subst hu;exact .vec hn,λi u hu=>by cases i <;> simp at hu;subst hu;exact h1⟩
 |dK=>simp[gq] at hx;subst hx;exact⟨rfl,λi a u ha hu=>by cases i <;> simp[Value.cells] at ha hu;subst ha;subst hu;exact .dK,λi u hu=>by cases i <;> simp[Value.cells] at hu;subst hu;rfl⟩
 |full h=>simp[gq] at hx;subst hx;exact⟨rfl,λi a u ha hu=>by cases i <;> simp[Value.cells] at ha hu;subst ha;subst hu;exact .full h,λi u hu=>by cases i <;> simp[Value.cells] at hu;subst hu;rfl⟩
 |ptr h=>simp[gq] at hx;subst hx;exact⟨rfl,λi a u ha hu=>by cases i <;> simp[Value.cells] at ha hu;subst ha;subst hu;exact .ptr h,λi u hu=>by cases i <;> simp[Value.cells] at hu;subst hu;rfl⟩
 |cN vs h1 h2 h3=>simp[gq] at hx;subst hx;exact⟨rfl,λi a u ha hu=>by cases i <;> simp[Value.cells] at ha hu;subst ha;subst hu;exact .cN vs h1 h2 h3,λi u hu=>by cases i <;> simp[Value.cells] at hu;subst hu;rfl⟩
 |iR h1 h2=>simp[gq] at hx;subst hx;exact⟨rfl,λi a u ha hu=>by cases i <;> simp[Value.cells] at ha hu;subst ha;subst hu;exact .iR h1 h2,λi u hu=>by cases i <;> simp[Value.cells] at hu;subst hu;rfl⟩
 |cut h1 h2 h3 h4=>simp[gq] at hx;subst hx;exact⟨rfl,λi a u ha hu=>by cases i <;> simp[Value.cells] at ha hu;subst ha;subst hu;exact .cut h1 h2 h3 h4,λi u hu=>by cases i <;> simp[Value.cells] at hu;subst hu;rfl⟩
 |oG h1 h2=>simp[gq] at hx;subst hx;exact⟨rfl,λi a u ha hu=>by cases i <;> simp[Value.cells] at ha hu;subst ha;subst hu;exact .oG h1 h2,λi u hu=>by cases i <;> simp[Value.cells] at hu;subst hu;rfl⟩
 |pR=>simp[gq] at hx;subst hx;exact⟨rfl,λi a u ha hu=>by cases i <;> simp[Value.cells] at ha hu;subst ha;subst hu;exact .pR,λi u hu=>by cases i <;> simp[Value.cells] at hu;subst hu;rfl⟩
 |iter=>simp[gq] at hx;subst hx;exact⟨rfl,λi a u ha hu=>by cases i <;> simp[Value.cells] at ha hu;subst ha;subst hu;exact .iter,λi u hu=>by cases i <;> simp[Value.cells] at hu;subst hu;rfl⟩
 |fn q1 q2=>simp[gq] at hx;subst hx;exact⟨rfl,λi a u ha hu=>by cases i <;> simp[Value.cells] at ha hu;subst ha;subst hu;exact .fn q1 q2,λi u hu=>by cases i <;> simp[Value.cells] at hu;subst hu;rfl⟩
theorem foldl_set (off:Nat):∀(l:List Value) (k:Nat) (cs:Array Value),off+k+l.length≤cs.size→
  ((l.zipIdx k).foldl (λcs (x:Value×Nat)=>cs.setIfInBounds (off+x.2) x.1) cs).toList=cs.toList.take (off+k)++(l++cs.toList.drop (off+k+l.length))
 |[],k,cs,_=>by simp
 |v::l,k,cs,h=>by
  simp only[List.zipIdx_cons,ea];simp only[cQ] at h;rw[foldl_set off l (k+1) _ (by simp;omega)];have iN:off+k < cs.size:=by omega
  apply eH;intro i;simp only[pV,cX,bS,dc,dV,jf,iV,kE,
   cQ]
  by_cases h1:i < off+k
  ·have:i < min (off+(k+1)) cs.size:=by omega
   have h3:i < off+(k+1):=by omega
   have h4:i < min (off+k) cs.size:=by omega
   simp only[this,h3,h4,h1,eM,show ¬(off+k=i) by omega,cS]
  ·by_cases h2:i=off+k
   ·subst h2
    have:off+k < min (off+(k+1)) cs.size:=by omega
    have h4:¬(off+k < min (off+k) cs.size):=by omega
    simp only[this,eM,h4,cS];have h5:off+k - min (off+k) cs.size=0:=by omega
    simp[h5,iN,show off+k < off+(k+1) by omega]
   ·have h3:¬(i < min (off+(k+1)) cs.size):=by omega
    have h4:¬(i < min (off+k) cs.size):=by omega
    simp only[h3,h4,cS];have e1:i - min (off+(k+1)) cs.size=i - (off+k+1):=by omega
    have e2:i - min (off+k) cs.size=(i - (off+k+1))+1:=by omega
    rw[e1,e2,aV];by_cases h5:i - (off+k+1) < l.length
    ·simp only[h5,show i - (off+k+1)+1 < l.length+1 by omega,eM]
    ·simp only[h5,show ¬(i - (off+k+1)+1 < l.length+1) by omega,cS,show ¬(off+k=off+(k+1)+l.length+(i - (off+k+1) - l.length)) by omega]
     congr 1;omega
theorem rZ {w:World} {ok:Nat→Prop} {p:Pl} (hp:∀n,p.lv n→(p.rw n).oneCell'=true) {place:Nat→Option (Nat×Nat)}:∀{parts:List (Nat×AV)} {vals:List (Nat×Value)} {cells r:List AV} {cs:Array Value},
  tZ place cells parts=some r→vals.length=parts.length→(∀(j:Nat) (i k:Nat) (x:AV) (v:Value),parts[j]? =some (i,x)→vals[j]? =some (k,v)→i=k∧RA w ok p x v)→cs.size=cells.length→
  (∀(i:Nat) (a:AV) (v:Value),cells[i]? =some a→cs[i]? =some v→RA w ok p a v)→(∀(i:Nat) (v:Value),cs[i]? =some v→v.oneCell'=true)→
  ∃cs',Instr.fill place cs vals=some cs'∧cs'.size=r.length∧(∀(i:Nat) (a:AV) (v:Value),r[i]? =some a→cs'[i]? =some v→RA w ok p a v)∧∀(i:Nat) (v:Value),cs'[i]? =some v→v.oneCell'=true:=by
 intro parts
 induction parts with
 |nil=>
  intro vals cells r cs h hl _ hs hr h1;cases vals with
  |nil=>simp[tZ] at h;subst h;exact⟨cs,rfl,hs,hr,h1⟩
  |cons=>simp at hl
 |cons part parts ih=>
  intro vals cells r cs h hl hv hs hr h1;cases vals with
  |nil=>simp at hl
  |cons val vals=>
   obtain⟨i,x⟩:=part;obtain⟨k,v⟩:=val;obtain⟨hik,xn⟩:=hv 0 i k x v rfl rfl;subst hik;simp only[tZ] at h;cases hpl:place i with
   |none=>simp[hpl] at h
   |some os=>
    obtain⟨off,size⟩:=os;simp only[hpl] at h;cases hc:gq x with
    |none=>simp[hc] at h
    |some l=>
     simp only[hc,aa] at h;split at h
     case isFalse=>cases h
     rename_i hle;obtain⟨PM,PK⟩:=hle;obtain⟨g1,g2,g3⟩:=xn.one hc hp;have gS:¬(v.cells.size≠size||decide (off+v.cells.size > cs.size))=true:=by simp;omega
     simp only[Instr.fill,hpl];rw[ah gS];have lU:=foldl_set off v.cells.toList 0 cs (by simp;omega);rw[← Array.foldl_toList,Array.toList_zipIdx];generalize hW:(List.foldl (λcs (x:Value×Nat)=>cs.setIfInBounds (off+x.2) x.1) cs (v.cells.toList.zipIdx 0))=TF at lU ⊢;have agr:TF.size=cells.length:=by rw[← kE,lU];simp;omega
     have uq:∀i,TF[i]? =if i < off then cs[i]? else if i < off+size then v.cells[i - off]? else cs[i]? :=λi=>by
      rw[← bo,lU];simp only[cX,dV,kE,bS,bo,dc,ov];by_cases h1:i < off
      ·rw[ai (by omega),ai h1,ai h1]
      ·rw[ah (by omega),ah h1]
       have e1:i - min off cs.size=i - off:=by omega
       rw[e1];by_cases h2:i < off+size
       ·rw[ai (by omega),ai h2]
       ·rw[ah (by omega),ah h2];congr 1;omega
     have acC:∀i,(cells.take off++(l++cells.drop (off+size)))[i]? =if i < off then cells[i]? else if i < off+size then l[i - off]? else cells[i]? :=λi=>by
      simp only[cX,dV,bS,dc];by_cases h1:i < off
      ·rw[ai (by omega),ai h1,ai h1]
      ·rw[ah (by omega),ah h1]
       have e1:i - min off cells.length=i - off:=by omega
       rw[e1];by_cases h2:i < off+size
       ·rw[ai (by omega),ai h2]
       ·rw[ah (by omega),ah h2];congr 1;omega
     have hlen:TF.size=(cells.take off++(l++cells.drop (off+size))).length:=by rw[agr];simp;omega
     refine ih h (by simpa using hl) (λj i k x v hj hk=>hv (j+1) i k x v (by simpa using hj) (by simpa using hk)) hlen (λi a u ha hu=>?_) (λi u hu=>?_)
     ·rw[acC] at ha;rw[uq] at hu
      split at ha
      ·rename_i h1;rw[ai h1] at hu;exact hr i a u ha hu
      ·rename_i h1;rw[ah h1] at hu
       split at ha
       ·rename_i h2;rw[ai h2] at hu;exact g2 _ a u ha hu
       ·rename_i h2;rw[ah h2] at hu;exact hr i a u ha hu
     ·rw[uq] at hu
      split at hu
      ·exact h1 i u hu
      ·split at hu
       ·exact g3 _ u hu
       ·exact h1 i u hu
def vt (P:Program) (t:TypeId) (parts:List (Nat×AV)):Option (List AV):=
 (fZ P t).bind λz=>match P.underlying t with
  |some (.array _ e)=>(fh P e).bind λk=>tZ (λi=>some (i * k,k)) z parts
  |some (.struct fs)=>(fs.toList.mapM λf=>(fh P f.type).map λk=>(f.offset,k)).bind λplaces=>tZ (λi=>places[i]?) z parts
  |_=>none
theorem nk {P:Program} {t:TypeId} {z:List AV} (h:fZ P t=some z):∃i v,P.info? t=some i∧i.zero=some v∧v.cells.size=i.size∧z=v.cells.toList.map AV.x'∧∀(j:Nat) (u:Value),v.cells[j]? =some u→u.oneCell'=true:=by
 unfold fZ at h;cases hi:P.info? t with
 |none=>simp[hi] at h
 |some i=>
  cases hz:i.zero with
  |none=>simp[hi,hz] at h
  |some v=>
   simp only[hi,hz,aa] at h;split at h
   case isFalse=>cases h
   rename_i hh;cases h;exact⟨i,v,rfl,hz,hh.1,rfl,λj u hu=>tl.1 hh.2 u (Array.mem_of_getElem? hu)⟩
theorem BH {w:World} {ok:Nat→Prop} {p:Pl} (v:Array Value) (i:Nat) (a:AV) (u:Value) (ha:(v.toList.map AV.x')[i]? =some a) (hu:v[i]? =some u):RA w ok p a u:=by
 rw[aA,bo,hu] at ha;simp at ha;subst ha;exact B4 w ok p u
theorem Ja {P:Program} {w:World} {ok:Nat→Prop} {p:Pl} (hp:∀n,p.lv n→(p.rw n).oneCell'=true) {t:TypeId} {parts:Array (Nat×Operand)} {f:Operand→AV} {g:Operand→Value} (hfg:∀x,RA w ok p (f x) (g x)) {r:List AV}
  (h:vt P t (parts.toList.map λ(i,x)=>(i,f x))=some r):∃v,(Instr.build t (parts.map λ(i,x)=>(i,g x))).run P w=.ok v w∧RA w ok p (.agg r) v:=by
 unfold vt at h;cases hz:fZ P t with
 |none=>simp[hz] at h
 |some z=>
  simp only[hz,aa] at h;obtain⟨i,v,hi,hv,gS,rfl,h1⟩:=nk hz;have zW:∀(j:Nat) (i k:Nat) (x:AV) (v:Value),(parts.toList.map λ(i,x)=>(i,f x))[j]? =some (i,x)→(parts.map λ(i,x)=>(i,g x)).toList[j]? =some (k,v)→i=k∧RA w ok p x v:=by
   intro j i k x v hj hk;rw[Array.toList_map,aA] at hk;rw[aA] at hj;cases hq:parts.toList[j]? with
   |none=>simp[hq] at hj
   |some q=>
    obtain⟨q1,q2⟩:=q;simp[hq] at hj hk;obtain⟨rfl,rfl⟩:=hj;obtain⟨rfl,rfl⟩:=hk;exact⟨rfl,hfg _⟩
  split at h
  ·rename_i n e hu
   cases hk:fh P e with
   |none=>simp[hk] at h
   |some k=>
    simp only[hk,aa] at h;obtain⟨cs',c1,c2,c3,c4⟩:=rZ hp h (by simp) zW (by simp) (λi a u ha hu=>BH v.cells i a u ha hu) h1;have he:∃ie,P.info? e=some ie∧ie.size=k:=by
     unfold fh at hk;cases xC:P.info? e with
     |none=>simp[xC] at hk
     |some ie=>simp[xC] at hk;exact⟨ie,rfl,hk⟩
    obtain⟨ie,xC,rfl⟩:=he;exact⟨_,run_build w t _ cs' (by simp only[Program.built,hi,hu,hv,xC];exact c1),.agg c2 c3 c4⟩
  ·rename_i fs hu
   cases hk:(fs.toList.mapM λf=>(fh P f.type).map λk=>(f.offset,k)) with
   |none=>rw[hk] at h;simp at h
   |some places=>
    rw[hk] at h;simp only[aa] at h;obtain⟨cs',c1,c2,c3,c4⟩:=rZ hp h (by simp) zW (by simp) (λi a u ha hu=>BH v.cells i a u ha hu) h1;have hk':(fs.toList.mapM λf=>(P.info? f.type).map λi=>(f.offset,i.size))=some places:=by
     rw[← hk];congr 1;funext f;unfold fh;cases P.info? f.type <;> rfl
    refine⟨_,run_build w t _ cs' ?_,.agg c2 c3 c4⟩;simp only[Program.built,hi,hu,hv,hk'];have:(λi:Nat=>places[i]?)=(λi:Nat=>places.toArray[i]?):=by funext i;simp
    rw[this] at c1;exact c1
  ·cases h
end Go.Vl
namespace Go.Vl
open Go Go.RowKit
def Gz (l:List Int):ByteArray:=l.foldl (λr n=>r.push (UInt8.ofNat n.toNat)) ByteArray.empty
def yC (l:List Int):List (List D):=l.map λn=>[.int .u8 n]
def sS:List (List D)→Option (List Int)
 |[]=>some []
 |[.int .u8 n]::r=>(sS r).map (n::·)
 |_=>none
theorem AE:∀l:List Int,sS (yC l)=some l
 |[]=>rfl
 |n::l=>by
  show(sS (yC l)).map (n::·)=_;rw[AE l];rfl
theorem DT:∀{rows:List (List D)} {l:List Int},sS rows=some l→rows=yC l
 |[],l,h=>by cases h;rfl
 |r::rows,l,h=>by
  unfold sS at h;split at h
  ·rename_i e;cases e
  ·rename_i n r' e
   cases e;obtain⟨l',hl,rfl⟩:=aP.1 h;rw[DT hl];rfl
  ·cases h
theorem FM:∀l:List Int,(yC l).flatten=l.map λc=>D.int .u8 c
 |[]=>rfl
 |y::l=>by
  have ih:=FM l;unfold yC at ih ⊢;rw[aW,eG,ih];rfl
theorem TM {P:Program} {w:World} {ok:Nat→Prop} {s t e:TypeId} {l:List Int} {v:Value} (hs:P.underlying s=some (.slice e)) (he:P.underlying e=some (.int .u8)) (hu:P.underlying t=some .string) (h:RD w ok (.slice (yC l)) v):(convert s t v).run P w=.ok (.string (Gz l)) w:=by
 generalize hx:D.slice (yC l)=x at h;cases h with
 |@pQ b c=>
  have hl:l=[]:=by
   cases l with
   |nil=>rfl
   |cons y l=>simp[yC] at hx
  subst hl;rw[run_convert_bytes_string w s t e b 0 c hs he hu];cases b with
  |none=>simp[Conv.bytesToString,Gz]
  |some b=>exact run_bytesToString w b 0 c [] (run_loadCells_list (P:=P) w b [] (λj v hj=>by simp at hj))
 |@slice rows b c z vs hz gD hc eY h=>
  cases hx;have tW:=FM l;have S4:(yC l).length=l.length:=by simp[yC]
  rw[S4,run_convert_bytes_string w s t e (some b) l.length c hs he hu];have hl:=run_loadCells_list (P:=P) w b (l.map (Value.int .u8)) (λj v hj=>by
   rw[aA] at hj;cases hlj:l[j]? with
   |none=>rw[hlj] at hj;cases hj
   |some n=>
    rw[hlj] at hj;cases hj;have IL:j < (yC l).flatten.length:=by rw[tW,bq];exact(aj.1 hlj).1
    have h2:=h j (.int .u8 n) (by rw[tW,aA,hlj];rfl);rw[eY j IL];generalize vs j=u at h2;cases h2;rfl)
  rw[bq] at hl;exact run_bytesToString w b l.length c l hl
 |_=>cases hx
end Go.Vl
namespace Go.Vl
open Go
def rowsOf (st:St):AV→Option (List (List D))
 | .d (.slice rows)=>some rows
 | .full rows=>some rows
 | .dK=>some []
 | .vec n=>(get st.vec n).bind λs=>if s.rC=true then none else some s.rows
 | .cut n z lo k=>(get st.vec n).bind λs=>if s.rC=true then none else if lo+k≤s.rows.length∧z=s.z then some ((s.rows.drop lo).take k) else none
 |_=>none
theorem Eb {P:Program} {K:Ctx P} {st:St} {a:Act} {w:World} {p:Pl} (R:Rel K st a w p) {x:AV} {rows:List (List D)} (h:rowsOf st x=some rows) {v:Value} (hv:RA w (dx K w p) p x v):
  ∃b c,v=.slice b rows.length c:=by
 cases hv with
 |d hd=>
  cases hd with
  |pQ=>simp[rowsOf] at h;subst h;exact⟨_,_,rfl⟩
  |slice=>simp[rowsOf] at h;subst h;exact⟨_,_,rfl⟩
  |_=>simp[rowsOf] at h
 |dK=>simp[rowsOf] at h;subst h;exact⟨_,_,rfl⟩
 |full hd=>simp[rowsOf] at h;subst h;exact⟨_,_,rfl⟩
 |vec hn=>
  rename_i n;simp only[rowsOf] at h;cases hs:get st.vec n with
  |none=>simp[hs] at h
  |some s=>
   simp only[hs,aa] at h;split at h
   ·cases h
   rename_i hM;cases h;obtain⟨xs,eC,_⟩:=(R.vec n s hs).at_.row (by simpa using hM);rcases eC.2 with ⟨h0,h1⟩ |⟨g,cap,cur,h0,_⟩
   ·exact⟨none,0,by rw[h0,h1]⟩
   ·exact⟨_,_,h0⟩
 |cut hn hv ho hle=>
  rename_i n z lo k o g c len;simp only[rowsOf] at h;cases hs:get st.vec n with
  |none=>simp[hs] at h
  |some s=>
   simp only[hs,aa] at h;split at h
   ·cases h
   split at h
   case isFalse=>cases h
   rename_i hh;cases h;have e:((s.rows.drop lo).take k).length=k:=by rw[dV,uw,oI (by omega)]
   rw[e];exact⟨_,_,rfl⟩
 |oG hn hv=>
  rename_i n z;simp only[rowsOf] at h;cases hs:get st.vec n with
  |none=>simp[hs] at h
  |some s=>
   simp only[hs,aa] at h;split at h
   ·cases h
   split at h
   case isFalse=>cases h
   cases h;exact⟨none,0,by simp⟩
 |_=>simp[rowsOf] at h
def Gj (P:Program) (st:St) (t:TypeId) (x:AV):Option Int:=
 match P.underlying t with
 |some (.slice _)=>match x with | .cut _ _ _ k=>some (k:Int) | .pR k=>some (k:Int) |x=>(rowsOf st x).map λr=>(r.length:Int)
 |some .string=>match x with | .d (.str s)=>some (s.size:Int) |_=>none
 |some (.array n _)=>some (n:Int)
 |some (.pointer e)=>match P.underlying e with |some (.array n _)=>some (n:Int) |_=>none
 |_=>none
theorem EV {P:Program} {K:Ctx P} {st:St} {a:Act} {w:World} {p:Pl} (R:Rel K st a w p) {t ty:TypeId} {x:AV} {n:Int} (h:Gj P st t x=some n) {v:Value} (hv:RA w (dx K w p) p x v):
  ∀w':World,(Builtin.len_ #[t] ty #[v]).run P w'=.ok (.int .i64 n) w':=by
 intro w';unfold Gj at h;split at h
 ·rename_i e hu
  split at h
  ·cases h
   cases hv with
   |cut hn hv ho hle=>simp[Builtin.len_,aJ hu,goInt]
   |oG hn hv=>simp[Builtin.len_,aJ hu,goInt]
  ·cases h
   cases hv with
   |pR=>simp[Builtin.len_,aJ hu,goInt]
  cases hr:rowsOf st x with
  |none=>simp[hr] at h
  |some rows=>
   simp[hr] at h;subst h;obtain⟨b,c,rfl⟩:=Eb R hr hv;simp[Builtin.len_,aJ hu,goInt]
 ·rename_i hu
  split at h
  ·cases hv with |d hd=>cases hd with |str=>cases h;simp[Builtin.len_,aJ hu,goInt]
  ·cases h
 ·rename_i m e hu
  cases h;simp[Builtin.len_,aJ hu,goInt]
 ·rename_i e hu
  split at h
  ·rename_i m e' E8
   cases h;simp[Builtin.len_,aJ hu,aJ E8,goInt]
  ·cases h
 ·cases h
def zk:Option AV→Option (Option Int)
 |none=>some none
 |some (.d (.int _ n))=>some (some n)
 |_=>none
def DC (P:Program) (st:St) (e:TypeId) (n DK k0:Nat) (lo hi mx:Option Int):Option AV:=
 (get st.vec n).bind λs=>if s.rC=true then none else if fh P e=some s.z∧mx=none then
  let l:=lo.getD 0
  let h:=hi.getD k0
  if 0≤l∧l≤h∧h≤k0∧DK+k0≤s.rows.length then some (.cut n s.z (DK+l.toNat) (h.toNat - l.toNat)) else none else none
def M5 (P:Program) (st:St) (t:TypeId) (x:AV) (lo hi mx:Option Int):Option AV:=
 match P.underlying t with
 |some (.slice e)=>match x with
  | .vec n=>(get st.vec n).bind λs=>DC P st e n 0 s.rows.length lo hi mx
  | .cut n z DK k0=>(get st.vec n).bind λs=>if z=s.z then DC P st e n DK k0 lo hi mx else none
  |x=>(rowsOf st x).bind λrows=>(fh P e).bind λz=>if ∀r∈rows,r.length=z then
   let l:=lo.getD 0
   let h:=hi.getD rows.length
   if 0≤l∧l≤h∧h≤rows.length then match mx with
    |none=>some (.d (.slice ((rows.take h.toNat).drop l.toNat)))
    |some m=>if hi.isSome∧m=h then some (.full ((rows.take h.toNat).drop l.toNat)) else none
   else none else none
 |some .string=>match x,mx with
  | .d (.str s),none=>
   let l:=lo.getD 0
   let h:=hi.getD s.size
   if 0≤l∧l≤h∧h≤s.size then some (.d (.str (s.extract l.toNat h.toNat))) else none
  |_,_=>none
 |_=>none
theorem wW {P:Program} {w:World} {wi:Bool} {len cap:Nat} {lo hi:Option Int} {vl vh:Option Value} (hl:(vl=none∧lo=none)∨∃k n,vl=some (.int k n)∧lo=some n) (hh:(vh=none∧hi=none)∨∃k n,vh=some (.int k n)∧hi=some n)
  (h0:0≤lo.getD 0) (h1:lo.getD 0≤hi.getD len) (h2:hi.getD len≤len) (h3:len≤cap):
  (Instr.sliceBounds wi len cap vl vh none).run P w=.ok ((lo.getD 0).toNat,(hi.getD len).toNat,cap) w:=by
 have e:((len:Int)).toNat=len:=eu len;rcases hl with ⟨rfl,rfl⟩ |⟨k,n,rfl,rfl⟩ <;> rcases hh with ⟨rfl,rfl⟩ |⟨k',n',rfl,rfl⟩
 ·simp[Instr.sliceBounds]
 ·simp only[cg,ni] at *
  simp only[Instr.sliceBounds,bk,cV,aU];rw[ma (h0:=by omega) (h1:=by omega)];simp
 ·simp only[cg,ni] at *
  simp only[Instr.sliceBounds,bk,cV,aU];rw[ma (h0:=by omega) (h1:=by omega)];simp
 ·simp only[cg] at *
  simp only[Instr.sliceBounds,bk,cV,aU];rw[ma (h0:=by omega) (h1:=by omega)];simp only[aU];rw[ma (h0:=by omega) (h1:=by omega)];simp
theorem C9 {P:Program} {w:World} {len cap:Nat} {lo:Option Int} {vl:Option Value} {k k':IntKind} {h m:Int} (hl:(vl=none∧lo=none)∨∃k n,vl=some (.int k n)∧lo=some n)
  (h0:0≤lo.getD 0) (h1:lo.getD 0≤h) (h2:h≤m) (h3:m≤cap):
  (Instr.sliceBounds true len cap vl (some (.int k h)) (some (.int k' m))).run P w=.ok ((lo.getD 0).toNat,h.toNat,m.toNat) w:=by
 rcases hl with ⟨rfl,rfl⟩ |⟨k,n,rfl,rfl⟩
 ·simp only[ni] at *
  simp only[Instr.sliceBounds,bk,cV,aU];rw[ma (h0:=by omega) (h1:=by omega)];simp only[aU];rw[ma (h0:=by omega) (h1:=by omega)];simp
 ·simp only[cg] at *
  simp only[Instr.sliceBounds,bk,cV,aU];rw[ma (h0:=by omega) (h1:=by omega)];simp only[aU];rw[ma (h0:=by omega) (h1:=by omega)];simp only[aU];rw[ma (h0:=by omega) (h1:=by omega)];simp
theorem RD.cut {w:World} {ok:Nat→Prop} {rows:List (List D)} {a:Option Addr} {c z l h m:Nat} (hd:RD w ok (.slice rows) (.slice a rows.length c)) (hz:∀r∈rows,r.length=z)
  (h1:l≤h) (h2:h≤rows.length) (h3:h≤m) (h4:m≤c):RD w ok (.slice ((rows.take h).drop l)) (.slice (if m=l then a else a.map (·.add (l * z))) (h - l) (m - l)):=by
 by_cases hlh:l=h
 ·subst hlh
  have:(rows.take l).drop l=[]:=cx (by simp;omega);rw[this,Nat.sub_self];exact .pQ
 ·rw[ah (by omega)]
  cases hd with
  |pQ=>simp at h2;omega
  |slice z' vs Jf gD hc eY Jk=>
   rename_i b;have iA:rows≠[]:=λe=>by subst e;simp at h2;omega
   obtain⟨r,hr⟩:=gP _ iA;have Uk:z'=z:=(Jf r hr).symm.trans (hz r hr);subst Uk;have hlen:((rows.take h).drop l).length=h - l:=by simp;omega
   have tW:((rows.take h).drop l).flatten=(rows.flatten.take (h * z')).drop (l * z'):=by
    rw[Co (z:=z') (λr hr=>hz r (eT hr)),vT hz]
   have:=RD.slice (w:=w) (ok:=ok) (rows:=(rows.take h).drop l) (a:=b.add (l * z')) (c:=m - l) z' (λj=>vs (l * z'+j)) (λr hr=>hz r (eT (mE hr)))
    (by rw[block_add];exact gD) (by rw[hlen];omega) (λj hj=>by
     rw[add_add];refine eY _ ?_;rw[tW] at hj;simp only[uw,dV] at hj;omega) (λj d hj=>by
     rw[tW,dc,bS] at hj;split at hj
     ·exact Jk _ _ hj
     ·cases hj)
   rw[hlen] at this;exact this
theorem RA.adg {w:World} {ok:Nat→Prop} {p:Pl} {n z DK k0 o g c len l h:Nat} (hn:p.lv n) (hv:p.rw n=.slice (some ⟨g,0,none⟩) len c) (ho:(k0=0∨o=DK * z)∧(DK=0→o=0)) (hle:DK+k0≤len) (hlc:len≤c) (h1:l≤h) (h2:h≤k0):
  RA w ok p (.cut n z (DK+l) (h - l)) (.slice (if c - DK=l then some ⟨g,o,none⟩ else some ((⟨g,o,none⟩:Addr).add (l * z))) (h - l) (c - DK - l)):=by
 rw[ix,Nat.sub_sub];split
 ·rename_i e
  refine .cut hn hv ⟨.inl (by omega),λe0=>ho.2 (by omega)⟩ (by omega)
 ·rename_i e
  refine .cut hn hv ⟨?_,λe0=>?_⟩ (by omega)
  ·rcases ho.1 with h0 |h0
   ·left;omega
   ·right;rw[h0,dQ]
  ·have:l=0:=by omega
   rw[ho.2 (by omega),this];simp
theorem Aj {P:Program} {K:Ctx P} {st:St} {a:Act} {w:World} {p:Pl} (R:Rel K st a w p) {t e:TypeId} (hu:P.underlying t=some (.slice e)) {n DK k0:Nat} {y:AV} {lo hi mx:Option Int} {vl vh vm:Option Value}
  (hl:(vl=none∧lo=none)∨∃k n,vl=some (.int k n)∧lo=some n) (hh:(vh=none∧hi=none)∨∃k n,vh=some (.int k n)∧hi=some n) (hm:(vm=none∧mx=none)∨∃k n,vm=some (.int k n)∧mx=some n)
  (h:DC P st e n DK k0 lo hi mx=some y) {s:VS} (hs:get st.vec n=some s) {v:Value}
  (hv:(∃g len c o,p.rw n=.slice (some ⟨g,0,none⟩) len c∧v=.slice (some ⟨g,o,none⟩) k0 (c - DK)∧((k0=0∨o=DK * s.z)∧(DK=0→o=0))∧DK+k0≤len)∨(p.rw n=.slice none 0 0∧v=.slice none 0 0∧DK=0∧k0=0)) (hn:p.lv n):
  ∃r,(∀w':World,(Instr.sliceAt t v vl vh vm).run P w'=.ok r w')∧RA w (dx K w p) p y r:=by
 unfold DC at h;simp only[hs,aa] at h;split at h
 ·cases h
 rename_i hM;split at h
 case isFalse=>cases h
 rename_i hz;obtain⟨hz,rfl⟩:=hz;split at h
 case isFalse=>cases h
 rename_i hb;obtain⟨Jl,uP,pO,FX⟩:=hb;cases h;rcases hm with ⟨rfl,_⟩ |⟨_,_,_,hm⟩
 case inr=>cases hm
 rcases hv with ⟨g,len,c,o,A',rfl,ho,hle⟩ |⟨A',rfl,rfl,rfl⟩
 ·have hlc:len≤c:=by
   obtain⟨xs,eC,_⟩:=(R.vec n s hs).at_.row (by simpa using hM);rw[A'] at eC;rcases eC.2 with ⟨h0,_⟩ |⟨g',cap,cur,h0,_,_,h2,_⟩
   ·cases h0
   ·injection h0 with e1 e2 e3;omega
  refine⟨_,?_,RA.adg hn A' ho hle hlc (l:=(lo.getD 0).toNat) (h:=(hi.getD k0).toNat) (by omega) (by omega)⟩;intro w';simp only[Instr.sliceAt,Instr.slice,bk,aJ hu,aU,wW (P:=P) (w:=w') (wi:=true) (len:=k0) (cap:=c - DK) hl hh Jl uP pO (by omega),eO hz,cV];split <;> rfl
 ·have e1:(lo.getD 0).toNat=0:=by omega
  have e2:(hi.getD ((0:Nat):Int)).toNat=0:=by omega
  rw[e1,e2];refine⟨.slice none 0 0,?_,.oG hn A'⟩;intro w';have hb:=wW (P:=P) (w:=w') (wi:=true) (len:=0) (cap:=0) hl hh Jl uP pO (aM _);rw[e1,e2] at hb;simp only[Instr.sliceAt,Instr.slice,bk,aJ hu,aU,hb,eO hz,cV]
  rfl
theorem FA {P:Program} {K:Ctx P} {st:St} {a:Act} {w:World} {p:Pl} (R:Rel K st a w p) {t:TypeId} {x y:AV} {lo hi mx:Option Int} {v:Value} {vl vh vm:Option Value}
  (hl:(vl=none∧lo=none)∨∃k n,vl=some (.int k n)∧lo=some n) (hh:(vh=none∧hi=none)∨∃k n,vh=some (.int k n)∧hi=some n) (hm:(vm=none∧mx=none)∨∃k n,vm=some (.int k n)∧mx=some n)
  (h:M5 P st t x lo hi mx=some y) (hv:RA w (dx K w p) p x v):
  ∃r,(∀w':World,(Instr.sliceAt t v vl vh vm).run P w'=.ok r w')∧RA w (dx K w p) p y r:=by
 unfold M5 at h;split at h
 ·rename_i e hu
  split at h
  ·rename_i n
   cases hs:get st.vec n with
   |none=>simp[hs] at h
   |some s=>
    simp only[hs,aa] at h;have hM:s.rC=false:=by
     unfold DC at h;simp only[hs,aa] at h;split at h
     ·cases h
     ·simpa using ‹¬s.rC=true›
    cases hv with
    |vec hn=>
     obtain⟨xs,eC,_⟩:=(R.vec n s hs).at_.row hM;refine Aj R hu hl hh hm h hs ?_ hn;rcases eC.2 with ⟨h0,h1⟩ |⟨g,cap,cur,h0,_⟩
     ·exact .inr ⟨h0,h0,rfl,h1⟩
     ·exact .inl ⟨g,_,cap,0,h0,by simpa using h0,⟨.inr (by simp),λ_=>rfl⟩,by omega⟩
  ·rename_i n z DK k0
   cases hs:get st.vec n with
   |none=>simp[hs] at h
   |some s=>
    simp only[hs,aa] at h;split at h
    case isFalse=>cases h
    rename_i hz;subst hz;cases hv with
    |cut hn hv ho hle=>exact Aj R hu hl hh hm h hs (.inl ⟨_,_,_,_,hv,rfl,ho,hle⟩) hn
    |oG hn hv=>exact Aj R hu hl hh hm h hs (.inr ⟨hv,rfl,rfl,rfl⟩) hn
  rename_i hnv hnw;cases LH:rowsOf st x with
  |none=>rw[LH] at h;cases h
  |some rows=>
   rw[LH] at h;simp only[aa] at h;cases hz:fh P e with
   |none=>simp[hz] at h
   |some z=>
    simp only[hz,aa] at h;split at h
    case isFalse=>cases h
    rename_i Aw;split at h
    case isFalse=>cases h
    rename_i hb;obtain⟨Jl,uP,pO⟩:=hb;obtain⟨b,c,rfl⟩:=Eb R LH hv;have hd:RD w (dx K w p) (.slice rows) (.slice b rows.length c):=by
     cases x with
     |d x=>cases hv with |d hv=>simp only[rowsOf] at LH;cases x <;> simp at LH;subst LH;exact hv
     |dK=>simp[rowsOf] at LH;subst LH;exact .pQ
     |full rows'=>simp[rowsOf] at LH;subst LH;cases hv with |full hv=>exact hv
     |vec n=>exact absurd rfl (hnv n)
     |cut n z lo k=>exact absurd rfl (hnw n z lo k)
     |_=>simp[rowsOf] at LH
    have hc:rows.length≤c:=by cases hd with |pQ=>simp |slice _ _ _ _ hc=>exact hc
    split at h
    ·cases h
     rcases hm with ⟨rfl,_⟩ |⟨_,_,_,hm⟩
     case inr=>cases hm
     refine⟨.slice (if c=(lo.getD 0).toNat then b else b.map (·.add ((lo.getD 0).toNat * z))) ((hi.getD rows.length).toNat - (lo.getD 0).toNat) (c - (lo.getD 0).toNat),?_,.d (hd.cut Aw (by omega) (by omega) (by omega) (aM _))⟩;intro w';simp only[Instr.sliceAt,Instr.slice,bk,aJ hu,aU,wW (P:=P) (w:=w') (wi:=true) hl hh Jl uP pO hc,eO hz,cV]
    ·rename_i m
     split at h
     case isFalse=>cases h
     rename_i hmm;obtain⟨PN,rfl⟩:=hmm;cases h;rcases hm with ⟨_,hm⟩ |⟨k,n,rfl,hm⟩
     case inl=>cases hm
     injection hm with hm
     subst hm;rcases hh with ⟨rfl,rfl⟩ |⟨k',n',rfl,rfl⟩
     case inl=>cases PN
     simp only[cg] at *;have hcut:=hd.cut (l:=(lo.getD 0).toNat) (h:=n'.toNat) (m:=n'.toNat) Aw (by omega) (by omega) (aM _) (by omega);have S4:((rows.take n'.toNat).drop (lo.getD 0).toNat).length=n'.toNat - (lo.getD 0).toNat:=by simp;omega
     refine⟨.slice (if n'.toNat=(lo.getD 0).toNat then b else b.map (·.add ((lo.getD 0).toNat * z))) (n'.toNat - (lo.getD 0).toNat) (n'.toNat - (lo.getD 0).toNat),?_,?_⟩
     ·intro w'
      simp only[Instr.sliceAt,Instr.slice,bk,aJ hu,aU,C9 (P:=P) (w:=w') (len:=rows.length) (cap:=c) hl Jl uP (su _) (by omega),eO hz,cV]
     ·rw[← S4] at hcut ⊢
      exact .full hcut
 ·rename_i hu
  split at h
  ·rename_i s
   dsimp only at h;split at h
   case isFalse=>cases h
   rename_i hb;obtain⟨Jl,uP,pO⟩:=hb;cases h;rcases hm with ⟨rfl,_⟩ |⟨_,_,_,hm⟩
   case inr=>cases hm
   cases hv with |d hd=>cases hd with |str=>
   refine⟨.string (s.extract (lo.getD 0).toNat (hi.getD s.size).toNat),?_,.d .str⟩;intro w';simp[Instr.sliceAt,Instr.slice,aJ hu,wW (P:=P) (w:=w') (wi:=false) hl hh Jl uP pO (aM _)]
  ·cases h
 ·cases h
def IX (P:Program) (s:TypeId) (f:Nat) (y:AV):Option AV:=
 match P.underlying s,y with
 |some (.struct fs),.agg l=>(fs[f]?).bind λfd=>xe P fd.type l fd.offset
 |_,_=>none
def mm (P:Program) (t:TypeId) (y:AV) (i:Int):Option AV:=
 match P.underlying t,y with
 |some (.array len e),.agg l=>if 0≤i∧i < len then(fh P e).bind λz=>xe P e l (i.toNat * z) else none
 |some .string,.d (.str s)=>if 0≤i then s[i.toNat]?.map λb=>.d (.int .u8 b.toNat) else none
 |_,_=>none
def unA (op:UnOp) (x:AV):Option AV:=
 match op,x with
 | .not,.d (.bool b)=>some (.d (.bool !b))
 | .neg,.d (.int k n)=>some (.d (.int k (k.wrap (0 - n))))
 | .xor,.d (.int k n)=>(tT .xor k (if k.signed then -1 else k.max) n).map .d
 |_,_=>none
def OC (P:Program) (src dst:TypeId) (x:AV):Option AV:=
 match P.underlying src,P.underlying dst,x with
 |some _,some (.int k),.d (.int _ n)=>some (.d (.int k (k.wrap n)))
 |some .string,some .string,.d (.str s)=>some (.d (.str s))
 |some (.slice e),some .string,.d (.slice rows)=>match P.underlying e with |some (.int .u8)=>(sS rows).map λl=>.d (.str (Gz l)) |_=>none
 |_,_,_=>none
def NH (c x y:AV):Option AV:=
 match c with
 | .d (.bool b)=>match x,y with
  | .d (.bool p),.d (.bool q)=>some (.d (.bool (bif b then p else q)))
  |x,y=>some (if b then x else y)
 |_=>none
def NQ:AV→Bool
 | .ptr _ _ | .cN _ _ | .iR _ _ _ _ | .fn _ _=>true
 |_=>false
def Yy:List AV→Option Int
 |[.d (.int .i64 a),.d (.int .i64 b)]=>some (if b < a then b else a)
 |_=>none
def Yz:List AV→Option Int
 |[.d (.int .i64 a),.d (.int .i64 b)]=>some (if b > a then b else a)
 |_=>none
def pA:AV→Option Int
 | .d (.int _ n)=>some n
 |_=>none
def Ls (P:Program) (st:St) (c:Call):Option AV:=
 match c.callee,c.args.toList,c.argTypes.toList with
 | .builtin .len,[x],[t]=>(Gj P st t (ca st x)).map λn=>.d (.int .i64 n)
 | .builtin .min,l,_=>(Yy (l.map (ca st))).map λn=>.d (.int .i64 n)
 | .builtin .max,l,_=>(Yz (l.map (ca st))).map λn=>.d (.int .i64 n)
 |_,_,_=>none
def gI (P:Program) (st:St) (o:Oper):Option AV:=
 match o.op with
 | .move x=>some (ca st x)
 | .assign x=>some (ca st x)
 | .pick c a b=>NH (ca st c) (ca st a) (ca st b)
 | .nilCheck x=>if NQ (ca st x) then some (ca st x) else none
 | .load t x=>sH P st t (ca st x)
 | .fieldAddr s x f=>Fu P s f (ca st x)
 | .field s x f=>IX P s f (ca st x)
 | .indexAddr t x i=>(pA (ca st i)).bind λi=>uL P t (ca st x) i st
 | .index t x i=>(pA (ca st i)).bind λi=>mm P t (ca st x) i
 | .extract x i=>match ca st x with | .ia l=>l[i]? |_=>none
 | .binOp op t x y _=>FJ P op t (ca st x) (ca st y)
 | .unOp op _ x=>unA op (ca st x)
 | .convert s d x=>OC P s d (ca st x)
 | .build t parts=>(vt P t (parts.toList.map λ(i,x)=>(i,ca st x))).map .agg
 | .slice t x lo hi mx=>(zk (lo.map (ca st))).bind λlo=>(zk (hi.map (ca st))).bind λhi=>(zk (mx.map (ca st))).bind λmx=>M5 P st t (ca st x) lo hi mx
 | .call c=>Ls P st c
 | .makeFunc fn first caps=>match fn,first.toList with
  | .func f,[]=>some (.fn f (caps.toList.map (ca st)))
  |_,_=>none
 |_=>none
theorem Rel.JN {P:Program} {K:Ctx P} {st:St} {a:Act} {w:World} {p:Pl} (R:Rel K st a w p):∀n,p.lv n→(p.rw n).oneCell'=true:=by
 intro n hn;rw[R.lv] at hn;obtain⟨s,hs⟩:=aY.1 hn;exact(R.vec n s hs).at_.one
theorem pL {w:World} {ok:Nat→Prop} {p:Pl} {x:AV} {n:Int} (h:pA x=some n) {v:Value} (hv:RA w ok p x v):∃k,v=.int k n:=by
 unfold pA at h;split at h
 ·cases h;cases hv with |d hd=>cases hd with |int=>exact⟨_,rfl⟩
 ·cases h
theorem tz {P:Program} {K:Ctx P} {st:St} {a:Act} {w:World} {p:Pl} (R:Rel K st a w p) {o:Option Operand} {r:Option Int} (h:zk (o.map (ca st))=some r):
  (o.map a.eval=none∧r=none)∨∃k n,o.map a.eval=some (.int k n)∧r=some n:=by
 cases o with
 |none=>simp[zk] at h;subst h;exact .inl ⟨rfl,rfl⟩
 |some x=>
  simp only[cr] at h ⊢;have:=R.ca x;unfold zk at h;split at h
  ·rename_i hh;cases hh
  ·rename_i k n hh
   cases h;injection hh with hh
   rw[hh] at this;generalize a.eval x=v at this ⊢;cases this with |d hd=>cases hd with |int=>exact .inr ⟨_,_,rfl,rfl⟩
  ·cases h
theorem rI {P:Program} {K:Ctx P} {st:St} {a:Act} {w:World} {p:Pl} (R:Rel K st a w p) {o:Oper} {x:AV} (h:gI P st o=some x):
  ∃v,(execOp a.eval o).run P w=.ok (.value v) w∧RA w (dx K w p) p x v:=by
 have close:∀{s:Sem Value} {x:AV},(∃v,s.run P w=.ok v w∧RA w (dx K w p) p x v)→∃v,(do pure (Next.value (← s)):Sem Next).run P w=.ok (.value v) w∧RA w (dx K w p) p x v:=λ⟨v,h1,h2⟩=>⟨v,by simp[h1],h2⟩
 unfold gI at h;unfold execOp;split at h <;> rename_i ho <;> simp only[ho]
 ·cases h;exact⟨_,rfl,R.ca _⟩
 ·cases h;exact⟨_,rfl,R.ca _⟩
 ·rename_i c b1 b2
  have hc:=R.ca c;have h1:=R.ca b1;have h2:=R.ca b2;generalize ca st c=cc at *;generalize ca st b1=c1 at *;generalize ca st b2=c2 at *;unfold NH at h;split at h
  ·rename_i b
   generalize a.eval c=v at *;cases hc with |d hd=>cases hd with |bool=>
   refine⟨if b then a.eval b1 else a.eval b2,by simp[asBool],?_⟩;split at h
   ·cases h
    cases b
    ·simpa using h2
    ·simpa using h1
   ·cases h
    cases b
    ·simpa using h2
    ·simpa using h1
  ·cases h
 ·rename_i y
  split at h
  case isFalse=>cases h
  rename_i hp;cases h;have hy:=R.ca y;generalize ca st y=yy at *;generalize a.eval y=v at *;cases hy with
  |ptr hn=>exact⟨_,rfl,.ptr hn⟩
  |cN vs h1 h2 h3=>exact⟨_,rfl,.cN vs h1 h2 h3⟩
  |iR h1 h2=>exact⟨_,rfl,.iR h1 h2⟩
  |fn q1 q2=>exact⟨_,rfl,.fn q1 q2⟩
  |_=>simp[NQ] at hp
 ·exact close (yg R h (R.ca _))
 ·exact close (IY h (R.ca _))
 ·rename_i s y f
  unfold IX at h;split at h
  case h_2=>cases h
  rename_i fs l hu hl;have hy:=R.ca y;rw[hl] at hy;generalize a.eval y=v at *;cases hf:fs[f]? with
  |none=>simp[hf] at h
  |some fd=>
   simp only[hf,aa] at h;cases hy with |agg gS hr h1=>
   rename_i cs;obtain⟨v,h3,h4⟩:=Ez h gS hr h1 (w:=w);exact⟨v,by simp[Instr.field,aJ hu,hf,asAgg,h3],h4⟩
 ·rename_i t y i
  cases hi:pA (ca st i) with
  |none=>simp[hi] at h
  |some n=>
   simp only[hi,aa] at h;obtain⟨k,hk⟩:=pL hi (R.ca i);rw[hk];exact close (Gl R h (R.ca _))
 ·rename_i t y i
  cases hi:pA (ca st i) with
  |none=>simp[hi] at h
  |some n=>
   simp only[hi,aa] at h;obtain⟨k,hk⟩:=pL hi (R.ca i);rw[hk];have hy:=R.ca y;unfold mm at h;split at h
   ·rename_i len e l hu hl
    rw[hl] at hy;generalize a.eval y=v at *;split at h
    case isFalse=>cases h
    rename_i hb;cases hz:fh P e with
    |none=>simp[hz] at h
    |some z=>
     simp only[hz,aa] at h;cases hy with |agg gS hr h1=>
     obtain⟨v,h3,h4⟩:=Ez h gS hr h1 (w:=w);exact⟨v,by simp[Instr.index,asIntOf,aJ hu,hb,eO hz,h3],h4⟩
   ·rename_i s hu hl
    rw[hl] at hy;generalize a.eval y=v at *;split at h
    case isFalse=>cases h
    rename_i hb;cases hs:s[n.toNat]? with
    |none=>simp[hs] at h
    |some b=>
     simp[hs] at h;subst h;cases hy with |d hd=>cases hd with |str=>
     exact⟨_,(by simp[Instr.index,asIntOf,aJ hu,hb,hs] <;> rfl),.d .int⟩
   ·cases h
 ·rename_i y i
  have hy:=R.ca y;split at h
  case h_2=>cases h
  rename_i l hl;rw[hl] at hy;generalize a.eval y=v at *;cases hy with |ia gS hr=>
  rename_i cs;have hi:i < cs.size:=by have:=(aj.1 h).1;omega
  exact⟨cs[i],by simp[Instr.extract,hi],hr i _ _ h (by simp[hi])⟩
 ·exact close (rh h (R.ca _) (R.ca _) _ _)
 ·rename_i op t y
  have hy:=R.ca y;generalize a.eval y=v at *;unfold unA at h;split at h
  ·rename_i hl;rw[hl] at hy;cases h;cases hy with |d hd=>cases hd with |bool=>exact⟨_,(by simp[Op.unary] <;> rfl),.d .bool⟩
  ·rename_i hl;rw[hl] at hy;cases h;cases hy with |d hd=>cases hd with |int=>exact⟨_,(by simp[Op.unary,Op.intArith] <;> rfl),.d .int⟩
  ·rename_i hl;rw[hl] at hy;simp[tT] at h;subst h;cases hy with |d hd=>cases hd with |int=>exact⟨_,(by simp[Op.unary,Op.intBits] <;> rfl),.d .int⟩
  ·cases h
 ·rename_i s d y
  have hy:=R.ca y;generalize a.eval y=v at *;unfold OC at h;split at h
  ·rename_i hs IN hl;rw[hl] at hy;cases h;cases hy with |d hd=>cases hd with |int=>exact⟨_,(by simp[convert,aJ hs,aJ IN,Conv.intToInt] <;> rfl),.d .int⟩
  ·rename_i hs IN hl;rw[hl] at hy;cases h;cases hy with |d hd=>cases hd with |str=>exact⟨_,(by simp[convert,aJ hs,aJ IN] <;> rfl),.d .str⟩
  ·rename_i e rows hs IN hl
   rw[hl] at hy;split at h
   case h_2=>cases h
   rename_i he;obtain⟨l,hu,rfl⟩:=aP.1 h;rw[DT hu] at hy;cases hy with |d hd=>exact⟨_,(by simp[TM hs he IN hd] <;> rfl),.d .str⟩
  ·cases h
 ·rename_i t parts
  cases hb:vt P t (parts.toList.map λ(i,x)=>(i,ca st x)) with
  |none=>rw[hb] at h;cases h
  |some r=>
   rw[hb] at h;cases h;exact close (Ja (f:=ca st) (g:=a.eval) R.JN (λx=>R.ca x) hb)
 ·rename_i t y lo hi mx
  cases h1:zk (lo.map (ca st)) with
  |none=>simp[h1] at h
  |some lo'=>
   cases h2:zk (hi.map (ca st)) with
   |none=>simp[h1,h2] at h
   |some Fe=>
    cases h3:zk (mx.map (ca st)) with
    |none=>simp[h1,h2,h3] at h
    |some mx'=>
     simp only[h1,h2,h3,aa] at h;obtain⟨r,g1,g2⟩:=FA R (tz R h1) (tz R h2) (tz R h3) h (R.ca _);exact close ⟨r,g1 w,g2⟩
 ·rename_i c
  obtain⟨callee,⟨args⟩,⟨tys⟩⟩:=c;unfold Ls at h;dsimp only at h;split at h
  ·rename_i y t
   cases hn:Gj P st t (ca st y) with
   |none=>simp[hn] at h
   |some n=>
    simp[hn] at h;subst h;exact⟨_,(by simp[resolve,invoke,builtin,EV R hn (R.ca y) w] <;> rfl),.d .int⟩
  ·unfold Yy at h
   cases hl:args.map (ca st) with
   |nil=>simp[hl] at h
   |cons x l=>
    rw[hl] at h;split at h
    case h_2=>cases h
    rename_i u v hx;cases h;cases hx;have hlen:args.length=2:=by have:=bR List.length hl;simpa using this
    match args,hlen,hl with
    |[a1,a2],_,hl=>
     simp only[aW,cO,iy,kB] at hl;have g1:=R.ca a1;have g2:=R.ca a2;rw[hl.1] at g1;rw[hl.2] at g2;refine⟨.int .i64 (if v < u then v else u),?_,.d .int⟩;simp only[resolve,invoke,builtin,List.map_toArray,aW,cO];generalize a.eval a1=v1 at *;generalize a.eval a2=v2 at *;cases g1 with |d g1=>cases g1 with |int=>cases g2 with |d g2=>cases g2 with |int=>
     simp[Builtin.min_,Builtin.min2]
  ·unfold Yz at h
   cases hl:args.map (ca st) with
   |nil=>simp[hl] at h
   |cons x l=>
    rw[hl] at h;split at h
    case h_2=>cases h
    rename_i u v hx;cases h;cases hx;have hlen:args.length=2:=by have:=bR List.length hl;simpa using this
    match args,hlen,hl with
    |[a1,a2],_,hl=>
     simp only[aW,cO,iy,kB] at hl;have g1:=R.ca a1;have g2:=R.ca a2;rw[hl.1] at g1;rw[hl.2] at g2;refine⟨.int .i64 (if v > u then v else u),?_,.d .int⟩;simp only[resolve,invoke,builtin,List.map_toArray,aW,cO];generalize a.eval a1=v1 at *;generalize a.eval a2=v2 at *;cases g1 with |d g1=>cases g1 with |int=>cases g2 with |d g2=>cases g2 with |int=>
     simp[Builtin.max_,Builtin.max2]
  ·cases h
 ·rename_i fn first caps
  split at h
  ·rename_i f hf
   cases h;have e:first= #[]:=by cases first;simpa using hf
   subst e;refine⟨.func (.func f) #[] (caps.map a.eval),by simp[Instr.makeFunc],.fn (by simp) (λi x v hx hv=>?_)⟩;simp only[aA,bo,aP] at hx;simp only[Array.getElem?_map,aP] at hv;obtain⟨q,hq,rfl⟩:=hx;obtain⟨q',VK,rfl⟩:=hv;rw[hq] at VK;cases VK;exact R.ca q
  ·cases h
 ·cases h
end Go.Vl
namespace Go.Vl
open Go Go.RowKit
structure LR {P:Program} (K:Ctx P) (w w':World) (p p':Pl) (kb kv:Nat→Bool):Prop where
 size:w.heap.size≤w'.heap.size
 os:w'.os=w.os
 tape:w'.tape=w.tape
 output:w'.output=w.output
 old:∀b,b < K.w0.heap.size→¬K.io b→w'.heap[b]? =w.heap[b]?
 cell:∀q:Addr,dx K w p q.block→si w' q=si w q
 ok:∀b,dx K w p b→dx K w' p' b
 kb:∀n,kb n=true→p.lb n→p'.lb n∧p'.bx n=p.bx n
 kv:∀n,kv n=true→p.lv n→p'.lv n∧p'.rw n=p.rw n
 dr:vV w≤vV w'
section
variable {P:Program} {K:Ctx P} {w w':World} {p p':Pl} {kb kv:Nat→Bool}
theorem LR.ra (E:LR K w w' p p' kb kv) {x:AV} {v:Value} (h:RA w (dx K w p) p x v) (hx:x.wf kb kv=true):RA w' (dx K w' p') p' x v:=
 h.less E.cell E.ok E.kb E.kv hx
theorem LR.rd (E:LR K w w' p p' kb kv) {x:D} {v:Value} (h:RD w (dx K w p) x v):RD w' (dx K w' p') x v:=h.mono E.cell E.ok
theorem LR.box (E:LR K w w' p p' kb kv) {n:Nat} {cs cs':List AV} (h:Uc K w p n cs) (hn:p'.bx n=p.bx n) (hh:w'.heap[p.bx n]? =w.heap[p.bx n]?) (hl:cs'.length=cs.length)
  (je:∀(i:Nat) (c:AV),cs'[i]? =some c→c=.undef∨(cs[i]? =some c∧c.wf kb kv=true)):Uc K w' p' n cs':=by
 obtain⟨⟨vs,ty,h1,h2,h3,h4⟩,h5⟩:=h;refine⟨⟨vs,ty,by rw[hn,hh,h1],by rw[h2,hl],λi c v hc hv=>?_,h4⟩,by rw[hn];exact h5⟩;rcases je i c hc with rfl |⟨wP,hw⟩
 ·exact .undef
 ·exact E.ra (h3 i c v wP hv) hw
theorem LR.vec (E:LR K w w' p p' kb kv) {n:Nat} {s:VS} (h:T3 K w p n s) (hn:p'.rw n=p.rw n) (hh:∀g,(p.rw n).fN=some g→w'.heap[g]? =w.heap[g]?):T3 K w' p' n s:=by
 obtain⟨h1,h3,h4⟩:=h;exact⟨by rw[hn];exact h1.mono E.cell E.ok hh,h3,λg hg=>h4 g (by rw[← hn];exact hg)⟩
end
theorem nZ (x:AV):x.wf (λ_=>true) (λ_=>true)=true:=by
 have key:∀x:AV,x.wf (λ_=>true) (λ_=>true)=true:=by
  intro x;refine AV.rec (motive_1:=λx=>x.wf (λ_=>true) (λ_=>true)=true) (motive_2:=λl=>AV.we (λ_=>true) (λ_=>true) l=true) ?_ ?_ ?_ ?_ ?_ ?_ ?_ ?_ ?_ ?_ ?_ ?_ ?_ ?_ ?_ ?_ x <;> intros <;> simp_all [AV.wf,AV.we]
 exact key x
section
variable {P:Program} {K:Ctx P} {st:St} {a:Act} {w:World} {p:Pl}
theorem Rel.vg (R:Rel K st a w p) (n:Nat):p.lb n↔st.lb n=true:=by rw[R.lb]
theorem Rel.sT (R:Rel K st a w p) (n:Nat):p.lv n↔st.lv n=true:=by rw[R.lv]
theorem Rel.blt (R:Rel K st a w p) {n:Nat} (hn:p.lb n):p.bx n < w.heap.size:=by
 obtain⟨cs,je⟩:=aY.1 ((R.vg n).1 hn);obtain⟨⟨vs,ty,h1,_⟩,_⟩:=R.box n cs je;exact(aL.1 h1).1
theorem Rel.yI (R:Rel K st a w p) {n g:Nat} (hn:p.lv n) (hg:(p.rw n).fN=some g):(K.w0.heap.size≤g∨g∈K.qO)∧g < w.heap.size:=by
 obtain⟨s,hs⟩:=aY.1 ((R.sT n).1 hn);obtain⟨h1,_,h4⟩:=R.vec n s hs;exact⟨h4 g hg,h1.lt hg⟩
theorem Rel.put (R:Rel K st a w p) {d:Nat} {x:AV} {v:Value} (hx:RA w (dx K w p) p x v) (hd:d < st.nt):Rel K (st.put d x) (a.put (some d) v) w p where
 lb:=R.lb
 lv:=R.lv
 pj:=R.pj
 nt:=by simpa[Act.put,St.put] using R.nt
 pK:=R.pK
 oB:=R.oB
 size:=R.size
 os:=R.os
 tape:=R.tape
 dr:=R.dr
 output:=R.output
 old:=R.old
 env:=by
  intro t y h;simp only[St.put,get] at h;have gS:d < a.tmps.size:=by rw[R.nt];exact hd
  split at h
  ·rename_i e;subst e;cases h
   simp[Act.put,gS];exact hx
  ·rename_i e
   have:=R.env t y h;simpa[Act.put,gu e] using this
 box:=R.box
 vec:=R.vec
 oF:=R.oF
 my:=R.my
 mX:=R.mX
theorem Rel.BX (R:Rel K st a w p) {o:Oper} {x:AV} {v:Value} (hx:RA w (dx K w p) p x v) {cM:St} (h:(match o.dst with |some d=>if d < st.nt then some (st.put d x) else none |none=>some st)=some cM):Rel K cM (a.put o.dst v) w p:=by
 cases hd:o.dst with
 |none=>simp[hd] at h;subst h;exact R
 |some d=>
  simp only[hd] at h;split at h
  ·cases h;exact R.put hx ‹_›
  ·cases h
theorem Rel.evo (R:Rel K st a w p) {w':World} (E:LR K w w' p p (λ_=>true) (λ_=>true)) (hb:∀n,p.lb n→w'.heap[p.bx n]? =w.heap[p.bx n]?) (hv:∀n g,p.lv n→(p.rw n).fN=some g→w'.heap[g]? =w.heap[g]?):
  Rel K st a w' p where
 lb:=R.lb
 lv:=R.lv
 pj:=R.pj
 nt:=R.nt
 pK:=R.pK
 oB:=R.oB
 size:=bO R.size E.size
 os:=E.os.trans R.os
 tape:=E.tape.trans R.tape
 dr:=bO R.dr E.dr
 output:=E.output.trans R.output
 old:=λb h1 h2=>(E.old b h1 h2).trans (R.old b h1 h2)
 env:=λt x h=>E.ra (R.env t x h) (nZ x)
 box:=λn cs h=>E.box (R.box n cs h) rfl (hb n ((R.vg n).2 (by simp[St.lb,h]))) rfl (λi c hc=>.inr ⟨hc,nZ c⟩)
 vec:=λn s h=>E.vec (R.vec n s h) rfl (λg hg=>hv n g ((R.sT n).2 (by simp[St.lv,h])) hg)
 oF:=R.oF
 my:=R.my
 mX:=R.mX
theorem xZ {w':World} (hs:w.heap.size≤w'.heap.size) {b:Nat} (h:dx K w p b):dx K w' p b:=⟨bu h.1 hs,h.2⟩
theorem Rel.drew (R:Rel K st a w p):Rel K st a w.drew p:=
 R.evo ⟨aM _,rfl,rfl,rfl,λ_ _ _=>rfl,λ_ _=>rfl,λ_ h=>h,λ_ _ h=>⟨h,rfl⟩,λ_ _ h=>⟨h,rfl⟩,aM _⟩ (λ_ _=>rfl) (λ_ _ _ _=>rfl)
def AV.le (x y:AV):Prop:=y=.undef∨x=y∨(x=.dK∧y=.d (.slice []))∨∃r,x=.full r∧y=.d (.slice r)
def Kr (st cM:St):List (Nat×AV)→Prop
 |[]=>True
 |(t,y)::l=>(y=.undef∨((st.look t).le y∧y.wf cM.lb cM.lv=true))∧Kr st cM l
def wI (cM:St):List AV→List AV→Prop
 |[],[]=>True
 |x::l,y::l'=>(y=.undef∨(x=y∧y.wf cM.lb cM.lv=true))∧wI cM l l'
 |_,_=>False
def Ks (st cM:St):List (Nat×List AV)→Prop
 |[]=>True
 |(n,cs')::l=>(∃cs,get st.box n=some cs∧wI cM cs cs')∧Ks st cM l
def Kq (st:St):List (Nat×VS)→Prop
 |[]=>True
 |(n,s)::l=>get st.vec n=some s∧Kq st l
structure lZ (st cM:St):Prop where
 nt:cM.nt=st.nt
 env:Kr st cM cM.env
 box:Ks st cM cM.box
 vec:Kq st cM.vec
theorem Cc {st cM:St}:∀{l:List (Nat×AV)},Kr st cM l→∀{t:Nat} {y:AV},get l t=some y→y=.undef∨((st.look t).le y∧y.wf cM.lb cM.lv=true)
 |[],_,t,y,h=>by simp[get] at h
 |(k,x)::l,hl,t,y,h=>by
  simp only[get] at h;split at h
  ·rename_i e;subst e;cases h;exact hl.1
  ·exact Cc hl.2 h
theorem mQ {st cM:St}:∀{l:List (Nat×List AV)},Ks st cM l→∀{n:Nat} {cs':List AV},get l n=some cs'→∃cs,get st.box n=some cs∧wI cM cs cs'
 |[],_,t,y,h=>by simp[get] at h
 |(k,x)::l,hl,t,y,h=>by
  simp only[get] at h;split at h
  ·rename_i e;subst e;cases h;exact hl.1
  ·exact mQ hl.2 h
theorem mP {st:St}:∀{l:List (Nat×VS)},Kq st l→∀{n:Nat} {s:VS},get l n=some s→get st.vec n=some s
 |[],_,t,y,h=>by simp[get] at h
 |(k,x)::l,hl,t,y,h=>by
  simp only[get] at h;split at h
  ·rename_i e;subst e;cases h;exact hl.1
  ·exact mP hl.2 h
theorem yh {cM:St}:∀{l l':List AV},wI cM l l'→l'.length=l.length∧∀(i:Nat) (c:AV),l'[i]? =some c→c=.undef∨(l[i]? =some c∧c.wf cM.lb cM.lv=true)
 |[],[],_=>⟨rfl,λi c h=>by simp at h⟩
 |x::l,y::l',h=>by
  obtain⟨h1,h2⟩:=yh h.2;refine⟨by simp[h1],λi c hc=>?_⟩;cases i with
  |zero=>
   simp at hc;subst hc;rcases h.1 with h0 |⟨h0,hw⟩
   ·exact .inl h0
   ·exact .inr ⟨by simp[h0],hw⟩
  |succ i=>simpa using h2 i c (by simpa using hc)
 |[],_::_,h=>h.elim
 |_::_,[],h=>h.elim
theorem Rel.qR (R:Rel K st a w p) {cM:St} (W:lZ st cM):Rel K cM a w ⟨p.bx,p.rw,λn=>cM.lb n=true,λn=>cM.lv n=true⟩:=by
 have hb:∀n,cM.lb n=true→p.lb n:=λn hn=>by
  obtain⟨cs',Cl⟩:=aY.1 hn;obtain⟨cs,je,_⟩:=mQ W.box Cl;exact(R.vg n).2 (by simp[St.lb,je])
 have hv:∀n,cM.lv n=true→p.lv n:=λn hn=>by
  obtain⟨s,hs⟩:=aY.1 hn;exact(R.sT n).2 (by simp[St.lv,mP W.vec hs])
 have E:LR K w w p ⟨p.bx,p.rw,λn=>cM.lb n=true,λn=>cM.lv n=true⟩ cM.lb cM.lv:=
  ⟨aM _,rfl,rfl,rfl,λ_ _ _=>rfl,λ_ _=>rfl,λb h=>⟨h.1,h.2.1,λn hn=>h.2.2.1 n (hb n hn),λn hn=>h.2.2.2 n (hv n hn)⟩,λn hn _=>⟨hn,rfl⟩,λn hn _=>⟨hn,rfl⟩,aM _⟩
 exact {
  lb:=rfl
  lv:=rfl
  pj:=R.pj
  nt:=R.nt.trans W.nt.symm
  pK:=by rw[W.nt];exact R.pK
  oB:=λi hi=>R.oB i (hb _ hi)
  size:=R.size
  os:=R.os
  tape:=R.tape
  dr:=R.dr
  output:=R.output
  old:=R.old
  env:=λt y h=>by
   rcases Cc W.env h with rfl |⟨h1,hw⟩
   ·exact .undef
   have hx:RA w (dx K w p) p (st.look t) (a.tmps.getD t undef):=R.ca (.tmp t);rcases h1 with rfl |h1 |⟨h1,rfl⟩ |⟨r,h1,rfl⟩
   ·exact .undef
   ·subst h1;exact E.ra hx hw
   ·rw[h1] at hx
    generalize a.tmps.getD t undef=v at hx ⊢;cases hx with |dK=>exact .d .pQ
   ·rw[h1] at hx
    generalize a.tmps.getD t undef=v at hx ⊢;cases hx with |full h=>exact .d (E.rd h)
  box:=λn cs' h=>by
   obtain⟨cs,je,hle⟩:=mQ W.box h;obtain⟨h1,h2⟩:=yh hle;exact E.box (R.box n cs je) rfl rfl h1 h2
  vec:=λn s h=>E.vec (R.vec n s (mP W.vec h)) rfl (λ_ _=>rfl)
  oF:=λn m hn hm=>R.oF n m (hb n hn) (hb m hm)
  my:=λn m hn hm=>R.my n m (hb n hn) (hv m hm)
  mX:=λn m hn hm=>R.mX n m (hv n hn) (hv m hm)}
def Ue {α:Type} (f:Nat→α) (n:Nat) (x:α):Nat→α:=λm=>if m=n then x else f m
theorem fO {α:Type} (f:Nat→α) (n:Nat) (x:α):Ue f n x n=x:=ai rfl
theorem nr {α:Type} (f:Nat→α) {n m:Nat} (x:α) (h:m≠n):Ue f n x m=f m:=ah h
theorem ud (w:World) (o:Obj) (q:Addr) (h:q.block < w.heap.size):si (w.alloc o) q=si w q:=cT (by unfold World.alloc;simp[Array.getElem?_push,Nat.ne_of_lt h])
theorem Rel.Yw (R:Rel K st a w p) {n:Nat} {cs:List AV} {vs:Array Value} {ty:TypeId} (iN:n < 1000000) (hn:get st.box n=none) (hl:vs.size=cs.length) (hr:∀(i:Nat) (c:AV) (v:Value),cs[i]? =some c→vs[i]? =some v→RA w (dx K w p) p c v)
  (h1:∀(i:Nat) (v:Value),vs[i]? =some v→v.oneCell'=true):
  Rel K { st with box:=(n,cs)::st.box } a (w.alloc (.cells vs ty)) ⟨Ue p.bx n w.heap.size,p.rw,λm=>m=n∨p.lb m,p.lv⟩:=by
 have sj:¬p.lb n:=λh=>by have:=(R.vg n).1 h;simp[St.lb,hn] at this
 have iA:∀m,p.lb m→m≠n:=λm hm e=>sj (e▸hm)
 have E:LR K w (w.alloc (.cells vs ty)) p ⟨Ue p.bx n w.heap.size,p.rw,λm=>m=n∨p.lb m,p.lv⟩ (λ_=>true) (λ_=>true):=
  ⟨by simp,rfl,rfl,rfl,λb hb _=>Below.heap_alloc w _ b (bu hb R.size),λq hq=>ud w _ q hq.1,λb h=>⟨by have:=h.1;simp;omega,h.2.1,λm hm=>by
   dsimp only at hm ⊢;by_cases e:m=n
   ·subst e;rw[fO];have:=h.1;omega
   ·rw[nr _ _ e];exact h.2.2.1 m (hm.resolve_left e),h.2.2.2⟩,λm _ hm=>⟨.inr hm,nr _ _ (iA m hm)⟩,λm _ hm=>⟨hm,rfl⟩,aM _⟩
 exact {
  lb:=by
   funext m
   simp only[St.lb,get,gV];have:=R.vg m;by_cases e:n=m
   ·simp[e]
   ·simp only[ah e,this,St.lb];constructor
    ·rintro(h |h)
     ·exact absurd h.symm e
     ·exact h
    ·exact .inr
  lv:=R.lv
  pj:=R.pj
  nt:=R.nt
  pK:=R.pK
  oB:=λi hi=>by
   have e:sq i≠n:=by unfold sq;omega
   dsimp only at hi ⊢;rw[nr _ _ e];exact R.oB i (hi.resolve_left e)
  size:=bO R.size E.size
  os:=R.os
  tape:=R.tape
  dr:=R.dr
  output:=R.output
  old:=λb hb hi=>(E.old b hb hi).trans (R.old b hb hi)
  env:=λt x h=>E.ra (R.env t x h) (nZ x)
  box:=λm cs' h=>by
   simp only[get] at h;split at h
   ·rename_i e;subst e;cases h
    exact⟨⟨vs,ty,by simp only[fO];exact gE w _,hl,λi c v hc hv=>E.ra (hr i c v hc hv) (nZ c),h1⟩,.inl (by simp only[fO];exact R.size)⟩
   ·rename_i e
    have hm:p.lb m:=(R.vg m).2 (by simp[St.lb,h]);exact E.box (R.box m cs' h) (nr _ _ (eN e)) (Below.heap_alloc w _ _ (R.blt hm)) rfl (λi c hc=>.inr ⟨hc,nZ c⟩)
  vec:=λm s h=>E.vec (R.vec m s h) rfl (λg hg=>Below.heap_alloc w _ _ (R.yI ((R.sT m).2 (by simp[St.lv,h])) hg).2)
  oF:=λm k hm hk Qx=>by
   simp only at hm hk ⊢;by_cases e:m=n
   ·subst e;rw[fO,nr _ _ (eN Qx)]
    have:=R.blt (hk.resolve_left (eN Qx));omega
   ·rw[nr _ _ e]
    by_cases e':k=n
    ·subst e';rw[fO];have:=R.blt (hm.resolve_left e);omega
    ·rw[nr _ _ e'];exact R.oF m k (hm.resolve_left e) (hk.resolve_left e') Qx
  my:=λm k hm hk=>by
   simp only at hm ⊢;by_cases e:m=n
   ·subst e;rw[fO];intro hg;have:=(R.yI hk hg).2;omega
   ·rw[nr _ _ e];exact R.my m k (hm.resolve_left e) hk
  mX:=R.mX }
end
end Go.Vl
namespace Go.Vl
open Go Go.RowKit
def AV.gi (n:Nat) (x:AV):AV:=if x.wf (λ_=>true) (λm=>m != n) then x else .undef
section
variable {P:Program} {K:Ctx P} {st:St} {a:Act} {w:World} {p:Pl}
theorem iT {α β:Type} {f:α→β} {l:List (Nat×α)} {t:Nat} {y:β} (h:get (me f l) t=some y):∃x,get l t=some x∧y=f x:=by
 rw[jS] at h;cases hx:get l t with
 |none=>simp[hx] at h
 |some x=>simp[hx] at h;exact⟨x,rfl,h.symm⟩
theorem Rel.NC (R:Rel K st a w p) {n d:Nat} {w':World} {v':Value} {s:VS} {row:Option Nat} (hd:get (del st.vec n) d=none) (hg:w.grownBy w' row) (Ay:vV w≤vV w') (iE:row=none∨(p.lv n∧row=(p.rw n).fN))
  (sJ:∀nf:Nat→Prop,(∀q:Addr,dx K w p q.block→si w' q=si w q)→(∀b,dx K w p b→nf b)→qK w' nf s v') (hz:∀r∈s.rows,r.length=s.z)
  (hblk:v'.fN=none∨(p.lv n∧v'.fN=(p.rw n).fN)∨v'.fN=some w.heap.size):
  Rel K { nt:=st.nt,env:=me (AV.gi n) st.env,box:=me (List.map (AV.gi n)) st.box,vec:=(d,s)::del st.vec n } a w' ⟨p.bx,Ue p.rw d v',p.lb,λm=>m=d∨(m≠n∧p.lv m)⟩:=by
 have vO:∀m,m≠n→p.lv m→m≠d:=λm hm hl e=>by
  subst e;rw[iG,ah (eN hm)] at hd;have:=(R.sT m).1 hl;simp[St.lv,hd] at this
 have hgr:∀b,b < w.heap.size→(∀m,p.lv m→(p.rw m).fN≠some b)→w'.heap[b]? =w.heap[b]? :=λb hb hv=>hg.block b hb (λe=>by
  rcases iE with h0 |⟨h1,h2⟩
  ·rw[h0] at e;cases e
  ·exact hv n h1 (by rw[← h2];exact e.symm))
 have Cf:∀m g,m≠n→p.lv m→(p.rw m).fN=some g→w'.heap[g]? =w.heap[g]? :=λm g hm hl hgm=>hg.block g (R.yI hl hgm).2 (λe=>by
  rcases iE with h0 |⟨h1,h2⟩
  ·rw[h0] at e;cases e
  ·rcases R.mX m n hl h1 hm with h3 |h3
   ·rw[h3] at hgm;cases hgm
   ·exact h3 (by rw[hgm,←h2];exact e))
 have E:LR K w w' p ⟨p.bx,Ue p.rw d v',p.lb,λm=>m=d∨(m≠n∧p.lv m)⟩ (λ_=>true) (λm=>m != n):=
  ⟨hg.size,hg.os,hg.tape,hg.output,λb hb xg=>hg.block b (bu hb R.size) (λe=>by
    rcases iE with h0 |⟨h1,h2⟩
    ·rw[h0] at e;cases e
    ·rcases(R.yI h1 (h2.symm.trans e.symm)).1 with h3 |h3
     ·omega
     ·exact xg (.inr h3)),
   λq hq=>cT (hgr q.block hq.1 hq.2.2.2),
   λb h=>⟨bu h.1 hg.size,h.2.1,h.2.2.1,λm hm=>by
    dsimp only at hm ⊢;by_cases e:m=d
    ·subst e;rw[fO]
     rcases hblk with h0 |⟨h1,h2⟩ |h0
     ·rw[h0];simp
     ·rw[h2];exact h.2.2.2 n h1
     ·rw[h0];intro e;cases e;exact Nat.lt_irrefl _ h.1
    ·rw[nr _ _ e];exact h.2.2.2 m (hm.resolve_left e).2⟩,
   λm _ hm=>⟨hm,rfl⟩,λm hm hl=>⟨.inr ⟨by simpa using hm,hl⟩,nr _ _ (vO m (by simpa using hm) hl)⟩,Ay⟩
 have agp:∀m g,p.lb m→v'.fN=some g→g≠p.bx m:=λm g hm Gs=>by
  rcases hblk with h0 |⟨h1,h2⟩ |h0
  ·rw[h0] at Gs;cases Gs
  ·intro e;exact R.my m n hm h1 (by rw[← h2,Gs,e])
  ·rw[h0] at Gs;cases Gs;have:=R.blt hm;omega
 have hdv:∀m,m≠n→p.lv m→v'.fN=none∨v'.fN≠(p.rw m).fN:=λm hm hl=>by
  rcases hblk with h0 |⟨h1,h2⟩ |h0
  ·exact .inl h0
  ·rw[h2];exact R.mX n m h1 hl (eN hm)
  ·right;rw[h0];intro e;have:=(R.yI hl e.symm).2;omega
 have SJ:∀x,AV.gi n x=.undef∨(AV.gi n x=x∧x.wf (λ_=>true) (λm=>m != n)=true):=λx=>by
  unfold AV.gi;split
  ·exact .inr ⟨rfl,‹_›⟩
  ·exact .inl rfl
 exact {
  lb:=by
   funext m
   simp only[St.lb,jS,te];rw[R.lb];rfl
  lv:=by
   funext m
   simp only[St.lv,get,gV];by_cases e:d=m
   ·simp[e]
   ·rw[ah e,iG]
    by_cases e':n=m
    ·simp[e',eN e]
    ·rw[ah e']
     have:=R.sT m;simp only[St.lv] at this;simp[eN e,eN e',this]
  pj:=R.pj
  nt:=R.nt
  pK:=R.pK
  oB:=R.oB
  size:=bO R.size E.size
  os:=E.os.trans R.os
  tape:=E.tape.trans R.tape
  dr:=bO R.dr E.dr
  output:=E.output.trans R.output
  old:=λb hb hi=>(E.old b hb hi).trans (R.old b hb hi)
  env:=λt y h=>by
   obtain⟨x,hx,rfl⟩:=iT h;rcases SJ x with h0 |⟨h0,hw⟩
   ·rw[h0];exact .undef
   ·rw[h0];exact E.ra (R.env t x hx) hw
  box:=λm cs' h=>by
   obtain⟨cs,je,rfl⟩:=iT h;have hm:p.lb m:=(R.vg m).2 (by simp[St.lb,je]);refine E.box (R.box m cs je) rfl (hg.block _ (R.blt hm) (λe=>?_)) (by simp) (λi c hc=>?_)
   ·rcases iE with h0 |⟨h1,h2⟩
    ·rw[h0] at e;cases e
    ·exact R.my m n hm h1 (by rw[← h2];exact e.symm)
   ·rw[aA] at hc
    cases hq:cs[i]? with
    |none=>simp[hq] at hc
    |some q=>
     simp[hq] at hc;subst hc;rcases SJ q with h0 |⟨h0,hw⟩
     ·exact .inl h0
     ·exact .inr ⟨by rw[h0],by rw[h0];exact hw⟩
  vec:=λm s' h=>by
   simp only[get] at h;split at h
   ·rename_i e;subst e;cases h
    exact⟨by simp only[fO];exact sJ _ E.cell E.ok,hz,λg Gs=>by
     simp only[fO] at Gs;rcases hblk with h0 |⟨h1,h2⟩ |h0
     ·rw[h0] at Gs;cases Gs
     ·exact(R.yI h1 (h2.symm.trans Gs)).1
     ·rw[h0] at Gs;cases Gs;exact .inl R.size⟩
   ·rename_i e
    rw[iG] at h;split at h
    ·cases h
    ·rename_i e'
     have hl:p.lv m:=(R.sT m).2 (by simp[St.lv,h]);exact E.vec (R.vec m s' h) (nr _ _ (eN e)) (λg hgm=>Cf m g (eN e') hl hgm)
  oF:=R.oF
  my:=λm k hm hk=>by
   dsimp only at hm hk ⊢;by_cases e:k=d
   ·subst e;rw[fO];intro Gs;exact agp m _ hm Gs rfl
   ·rw[nr _ _ e];exact R.my m k hm (hk.resolve_left e).2
  mX:=λm k hm hk Qx=>by
   dsimp only at hm hk ⊢;by_cases e:m=d
   ·subst e
    rw[fO,nr _ _ (eN Qx)];have:=hk.resolve_left (eN Qx);exact hdv k this.1 this.2
   ·by_cases e':k=d
    ·subst e'
     rw[fO,nr _ _ e];have:=hm.resolve_left e;rcases hdv m this.1 this.2 with h0 |h0
     ·by_cases hn:(p.rw m).fN=none
      ·exact .inl hn
      ·right;rw[h0];exact hn
     ·exact .inr (eN h0)
    ·rw[nr _ _ e,nr _ _ e'];exact R.mX m k (hm.resolve_left e).2 (hk.resolve_left e').2 Qx }
theorem Rel.Ye (R:Rel K st a w p) {n:Nat} {cs cs':List AV} {vs vs':Array Value} {ty:TypeId} (hn:get st.box n=some cs) (hh:w.heap[p.bx n]? =some (.cells vs ty (0,0))) (hl:vs'.size=cs'.length)
  (hr:∀(i:Nat) (c:AV) (v:Value),cs'[i]? =some c→vs'[i]? =some v→RA w (dx K w p) p c v) (h1:∀(i:Nat) (v:Value),vs'[i]? =some v→v.oneCell'=true):
  Rel K { st with box:=(n,cs')::st.box } a (w.setRow (p.bx n) vs') p:=by
 have sj:p.lb n:=(R.vg n).2 (by simp[St.lb,hn]);have E:LR K w (w.setRow (p.bx n) vs') p p (λ_=>true) (λ_=>true):=
  ⟨by simp,rfl,rfl,rfl,λb hb hi=>setRow_other w _ b _ (λe=>by
    rcases(R.box n cs hn).yc with h0 |h0
    ·omega
    ·exact hi (e▸h0)),
   λq hq=>D6 w _ _ q (hq.2.2.1 n sj),λb h=>⟨by simpa using h.1,h.2⟩,λ_ _ h=>⟨h,rfl⟩,λ_ _ h=>⟨h,rfl⟩,aM _⟩
 exact {
  lb:=by
   funext m
   simp only[St.lb,get,gV];have:=R.vg m;by_cases e:n=m
   ·subst e;simp[sj]
   ·simp only[ah e,this,St.lb]
  lv:=R.lv
  pj:=R.pj
  nt:=R.nt
  pK:=R.pK
  oB:=R.oB
  size:=bO R.size E.size
  os:=R.os
  tape:=R.tape
  dr:=R.dr
  output:=R.output
  old:=λb hb hi=>(E.old b hb hi).trans (R.old b hb hi)
  env:=λt x h=>E.ra (R.env t x h) (nZ x)
  box:=λm cs2 h=>by
   simp only[get] at h;split at h
   ·rename_i e;subst e;cases h
    exact⟨⟨vs',ty,setRow_heap w _ vs vs' ty _ hh,hl,λi c v hc hv=>E.ra (hr i c v hc hv) (nZ c),h1⟩,(R.box n cs hn).yc⟩
   ·rename_i e
    have hm:p.lb m:=(R.vg m).2 (by simp[St.lb,h]);exact E.box (R.box m cs2 h) rfl (setRow_other w _ _ _ (R.oF m n hm sj (eN e))) rfl (λi c hc=>.inr ⟨hc,nZ c⟩)
  vec:=λm s h=>E.vec (R.vec m s h) rfl (λg hg=>setRow_other w _ _ _ (λe=>R.my n m sj ((R.sT m).2 (by simp[St.lv,h])) (by rw[hg,e])))
  oF:=R.oF
  my:=R.my
  mX:=R.mX }
theorem Rel.L7 (R:Rel K st a w p) {n d:Nat} {w':World} {v':Value} {s:VS} {xs:List Value} {row:Option Nat} (hM:s.rC=false) (hd:get (del st.vec n) d=none) (hg:w.grownBy w' row) (Ay:vV w≤vV w') (iE:row=none∨(p.lv n∧row=(p.rw n).fN))
  (eC:w'.ownsRow 0 s.e s.z v' s.rows.length xs) (hz:∀r∈s.rows,r.length=s.z) (rD:∀(j:Nat) (x:D) (v:Value),s.rows.flatten[j]? =some x→xs[j]? =some v→RD w (dx K w p) x v)
  (hblk:v'.fN=none∨(p.lv n∧v'.fN=(p.rw n).fN)∨v'.fN=some w.heap.size):
  Rel K { nt:=st.nt,env:=me (AV.gi n) st.env,box:=me (List.map (AV.gi n)) st.box,vec:=(d,s)::del st.vec n } a w' ⟨p.bx,Ue p.rw d v',p.lb,λm=>m=d∨(m≠n∧p.lv m)⟩:=
 R.NC hd hg Ay iE (λ_ h1 h2=>.of hM ⟨xs,eC,λj x v hx hv=>(rD j x v hx hv).mono h1 h2⟩) hz hblk
theorem Rel.aaS (R:Rel K st a w p) {n:Nat} {s s':VS} {g:Nat} {w':World} (hn:get st.vec n=some s) (LJ:(p.rw n).fN=some g) (hg:w.grownBy w' (some g)) (Ay:vV w≤vV w') (hz:∀r∈s'.rows,r.length=s'.z)
  (sJ:∀nf:Nat→Prop,(∀q:Addr,dx K w p q.block→si w' q=si w q)→(∀b,dx K w p b→nf b)→qK w' nf s' (p.rw n)):
  Rel K { st with vec:=(n,s')::st.vec } a w' p:=by
 have sj:p.lv n:=(R.sT n).2 (by simp[St.lv,hn]);have Cf:∀b,b < w.heap.size→b≠g→w'.heap[b]? =w.heap[b]? :=λb hb e=>hg.block b hb (λe'=>e (af e'))
 have E:LR K w w' p p (λ_=>true) (λ_=>true):=
  ⟨hg.size,hg.os,hg.tape,hg.output,λb hb hi=>Cf b (bu hb R.size) (λe=>by
    rcases(R.yI sj LJ).1 with h3 |h3
    ·omega
    ·exact hi (.inr (by rw[e];exact h3))),
   λq hq=>cT (Cf q.block hq.1 (λe=>hq.2.2.2 n sj (by rw[LJ,e]))),λb h=>⟨bu h.1 hg.size,h.2⟩,λ_ _ h=>⟨h,rfl⟩,λ_ _ h=>⟨h,rfl⟩,Ay⟩
 exact {
  lb:=R.lb
  lv:=by
   funext m
   simp only[St.lv,get,gV];have:=R.sT m;by_cases e:n=m
   ·subst e;simp[sj]
   ·simp only[ah e,this,St.lv]
  pj:=R.pj
  nt:=R.nt
  pK:=R.pK
  oB:=R.oB
  size:=bO R.size E.size
  os:=E.os.trans R.os
  tape:=E.tape.trans R.tape
  dr:=bO R.dr E.dr
  output:=E.output.trans R.output
  old:=λb hb hi=>(E.old b hb hi).trans (R.old b hb hi)
  env:=λt x h=>E.ra (R.env t x h) (nZ x)
  box:=λm cs h=>by
   have hm:p.lb m:=(R.vg m).2 (by simp[St.lb,h]);exact E.box (R.box m cs h) rfl (Cf _ (R.blt hm) (λe=>R.my m n hm sj (by rw[LJ,e]))) rfl (λi c hc=>.inr ⟨hc,nZ c⟩)
  vec:=λm s2 h=>by
   simp only[get] at h;split at h
   ·rename_i e;subst e;cases h
    exact⟨sJ _ E.cell E.ok,hz,(R.vec n s hn).yc⟩
   ·rename_i e
    have hm:p.lv m:=(R.sT m).2 (by simp[St.lv,h]);exact E.vec (R.vec m s2 h) rfl (λg' LK=>Cf g' (R.yI hm LK).2 (λe'=>by
     rcases R.mX m n hm sj (eN e) with h0 |h0
     ·rw[h0] at LK;cases LK
     ·exact h0 (by rw[LK,LJ,e'])))
  oF:=R.oF
  my:=R.my
  mX:=R.mX }
theorem Rel.Ia (R:Rel K st a w p) {n:Nat} {s:VS} {rows':List (List D)} {g c len:Nat} {ZC:Array Value} {xs':List Value} (hn:get st.vec n=some s) (hv:p.rw n=.slice (some ⟨g,0,none⟩) len c)
  (hl:rows'.length=s.rows.length) (hz:∀r∈rows',r.length=s.z) (eC:(w.setRow g ZC).ownsRow 0 s.e s.z (p.rw n) s.rows.length xs')
  (rD:∀(j:Nat) (x:D) (v:Value),rows'.flatten[j]? =some x→xs'[j]? =some v→RD w (dx K w p) x v):
  Rel K { st with vec:=(n,{ s with rows:=rows' })::st.vec } a (w.setRow g ZC) p:=by
 have sj:p.lv n:=(R.sT n).2 (by simp[St.lv,hn]);have LJ:(p.rw n).fN=some g:=by rw[hv];rfl
 have E:LR K w (w.setRow g ZC) p p (λ_=>true) (λ_=>true):=
  ⟨by simp,rfl,rfl,rfl,λb hb hi=>setRow_other w _ b _ (λe=>by
    rcases(R.yI sj LJ).1 with h3 |h3
    ·omega
    ·exact hi (.inr (by rw[e];exact h3))),
   λq hq=>D6 w _ _ q (λe=>hq.2.2.2 n sj (by rw[LJ,e])),λb h=>⟨by simpa using h.1,h.2⟩,λ_ _ h=>⟨h,rfl⟩,λ_ _ h=>⟨h,rfl⟩,aM _⟩
 exact {
  lb:=R.lb
  lv:=by
   funext m
   simp only[St.lv,get,gV];have:=R.sT m;by_cases e:n=m
   ·subst e;simp[sj]
   ·simp only[ah e,this,St.lv]
  pj:=R.pj
  nt:=R.nt
  pK:=R.pK
  oB:=R.oB
  size:=bO R.size E.size
  os:=R.os
  tape:=R.tape
  dr:=R.dr
  output:=R.output
  old:=λb hb hi=>(E.old b hb hi).trans (R.old b hb hi)
  env:=λt x h=>E.ra (R.env t x h) (nZ x)
  box:=λm cs h=>E.box (R.box m cs h) rfl (setRow_other w _ _ _ (λe=>R.my m n ((R.vg m).2 (by simp[St.lb,h])) sj (by rw[LJ,e]))) rfl (λi c hc=>.inr ⟨hc,nZ c⟩)
  vec:=λm s2 h=>by
   simp only[get] at h;split at h
   ·rename_i e;subst e;cases h
    exact⟨.of ((R.vec n s hn).at_.sl hv) ⟨xs',by rw[hl];exact eC,λj x v hx hv=>E.rd (rD j x v hx hv)⟩,hz,(R.vec n s hn).yc⟩
   ·rename_i e
    have hm:p.lv m:=(R.sT m).2 (by simp[St.lv,h]);exact E.vec (R.vec m s2 h) rfl (λg' LK=>setRow_other w _ _ _ (λe'=>by
     rcases R.mX m n hm sj (eN e) with h0 |h0
     ·rw[h0] at LK;cases LK
     ·exact h0 (by rw[LK,LJ,e'])))
  oF:=R.oF
  my:=R.my
  mX:=R.mX }
end
mutual
def AV.sY (n:Nat) (rows:D):AV→AV
 | .vec m=>if m=n then .d rows else .vec m
 | .iR m z i o=>if m=n then .undef else .iR m z i o
 | .cut m z lo k=>if m=n then .undef else .cut m z lo k
 | .agg l=>.agg (AV.Gu n rows l)
 | .ia l=>.ia (AV.Gu n rows l)
 | .fn f l=>.fn f (AV.Gu n rows l)
 |x=>x
def AV.Gu (n:Nat) (rows:D):List AV→List AV
 |[]=>[]
 |x::l=>AV.sY n rows x::AV.Gu n rows l
end
theorem Bg (n:Nat) (rows:D):∀l:List AV,AV.Gu n rows l=l.map (AV.sY n rows)
 |[]=>rfl
 |x::l=>by simp[AV.Gu,Bg n rows l]
theorem EE {w:World} {ok nf:Nat→Prop} {base:Nat} {e:TypeId} {z:Nat} {v:Value} {rows:List (List D)} {xs:List Value} (h:w.ownsRow base e z v rows.length xs) (hz:∀r∈rows,r.length=z)
  (rD:∀(j:Nat) (d:D) (v:Value),rows.flatten[j]? =some d→xs[j]? =some v→RD w ok d v) (gD:∀b,ok b→nf b) (hb:∀g,v.fN=some g→nf g):RD w nf (.slice rows) v:=by
 rcases h.2 with ⟨rfl,h0⟩ |⟨g,cap,cur,rfl,_,hg,hn,hm,hs,hx⟩
 ·have:rows=[]:=aI h0
  subst this;exact .pQ
 ·obtain⟨_,hc⟩:=yP h
  have tW:rows.flatten.length=rows.length * z:=ir hz;refine .slice z (λj=>xs.getD j undef) hz (hb g rfl) hn (λj hj=>?_) (λj d hd=>?_)
  ·rw[ix,gg,(hc j (by omega)).1]
   have:j < xs.length:=by rw[h.1];omega
   simp[List.getD,ae this]
  ·have hj:j < xs.length:=by have:=(aj.1 hd).1;rw[h.1];omega
   exact(rD j d _ hd (by simp[List.getD,ae hj])).mono (λ_ _=>rfl) gD
theorem RA.sY {w:World} {ok nf:Nat→Prop} {p p':Pl} {n:Nat} {rows:D} (ho:∀b,ok b→nf b) (hb:∀m,p.lb m→p'.lb m∧p'.bx m=p.bx m) (hv:∀m,m≠n→p.lv m→p'.lv m∧p'.rw m=p.rw m)
  (hn:RD w nf rows (p.rw n)) {x:AV} {v:Value} (h:RA w ok p x v):RA w nf p' (x.sY n rows) v:=by
 induction h with
 |undef=>simp only[AV.sY];exact .undef
 |d h=>simp only[AV.sY];exact .d (h.mono (λ_ _=>rfl) ho)
 |dK=>simp only[AV.sY];exact .dK
 |full h=>simp only[AV.sY];exact .full (h.mono (λ_ _=>rfl) ho)
 |agg hl _ h1 ih=>
  simp only[AV.sY,Bg];refine .agg (by simpa using hl) (λi a v ha lE=>?_) h1;simp only[aA,aP] at ha;obtain⟨q,hq,rfl⟩:=ha;exact ih i q v hq lE
 |ia hl _ ih=>
  simp only[AV.sY,Bg];refine .ia (by simpa using hl) (λi a v ha lE=>?_);simp only[aA,aP] at ha;obtain⟨q,hq,rfl⟩:=ha;exact ih i q v hq lE
 |ptr hm=>obtain⟨h1,h2⟩:=hb _ hm;simp only[AV.sY,←h2];exact .ptr h1
 |cN vs gD eY h=>simp only[AV.sY];exact .cN vs (ho _ gD) eY (λj x hx=>(h j x hx).mono (λ_ _=>rfl) ho)
 |vec hm=>
  simp only[AV.sY];split
  ·subst_vars;exact .d hn
  ·obtain⟨h1,h2⟩:=hv _ ‹_› hm;rw[← h2];exact .vec h1
 |iR hm he=>
  simp only[AV.sY];split
  ·exact .undef
  ·obtain⟨h1,h2⟩:=hv _ ‹_› hm;exact .iR h1 (h2.trans he)
 |cut hm he ho hle=>
  simp only[AV.sY];split
  ·exact .undef
  ·obtain⟨h1,h2⟩:=hv _ ‹_› hm;exact .cut h1 (h2.trans he) ho hle
 |oG hm he=>
  simp only[AV.sY];split
  ·exact .undef
  ·obtain⟨h1,h2⟩:=hv _ ‹_› hm;exact .oG h1 (h2.trans he)
 |pR=>simp only[AV.sY];exact .pR
 |iter=>simp only[AV.sY];exact .iter
 |fn hl _ ih=>
  simp only[AV.sY,Bg];refine .fn (by simpa using hl) (λi a v ha lE=>?_);simp only[aA,aP] at ha;obtain⟨q,hq,rfl⟩:=ha;exact ih i q v hq lE
def VS.QB (s:VS):D:=if s.rC=true then .mp s.e s.z s.rows else .slice s.rows
def St.sY (st:St) (n:Nat):St:=
 match get st.vec n with
 |some s=>{ nt:=st.nt,env:=me (AV.sY n s.QB) st.env,box:=me (List.map (AV.sY n s.QB)) st.box,vec:=del st.vec n }
 |none=>st
section
variable {P:Program} {K:Ctx P} {st:St} {a:Act} {w:World} {p:Pl}
theorem Rel.sY (R:Rel K st a w p) (n:Nat):∃p',Rel K (st.sY n) a w p'∧(∀b,dx K w p b→dx K w p' b)∧p'.bx=p.bx∧p'.lb=p.lb∧((∃s,get st.vec n=some s∧s.rC=true)∨∀g,p.lv n→(p.rw n).fN=some g→dx K w p' g):=by
 unfold St.sY;cases hs:get st.vec n with
 |none=>exact⟨p,R,λ_ h=>h,rfl,rfl,.inr λg hl _=>by have:=(R.sT n).1 hl;simp[St.lv,hs] at this⟩
 |some s=>
  simp only;have sj:p.lv n:=(R.sT n).2 (by simp[St.lv,hs])
  let p':Pl:=⟨p.bx,p.rw,p.lb,λm=>m≠n∧p.lv m⟩
  have gD:∀b,dx K w p b→dx K w p' b:=λb h=>⟨h.1,h.2.1,h.2.2.1,λm hm=>h.2.2.2 m hm.2⟩
  obtain⟨sJ,hz,yo⟩:=R.vec n s hs;have hgk:∀g,(p.rw n).fN=some g→dx K w p' g:=λg hg=>⟨(R.yI sj hg).2,.inr (R.yI sj hg).1,λm hm e=>R.my m n hm sj (by rw[hg,e]),λm hm e=>by
   rcases R.mX m n hm.2 sj hm.1 with h0 |h0
   ·rw[h0] at e;cases e
   ·exact h0 (by rw[e,hg])⟩
  have hd:RD w (dx K w p') s.QB (p.rw n):=by
   unfold VS.QB;cases hM:s.rC with
   |true=>
    obtain⟨b,es,clock,hv,hb,hm⟩:=sJ.map hM;rw[ai rfl,hv];exact RD.ofMap hM hz hb (hgk b (by rw[hv];rfl)) (hm.mono (λ_ _=>rfl) gD)
   |false=>
    obtain⟨xs,eC,rD⟩:=sJ.row hM;rw[ah (by decide)];exact EE eC hz rD gD hgk
  have key:∀{x:AV} {v:Value},RA w (dx K w p) p x v→RA w (dx K w p') p' (x.sY n s.QB) v:=λh=>h.sY (p:=p) (p':=p') gD (λm hm=>⟨hm,rfl⟩) (λm hm hl=>⟨⟨hm,hl⟩,rfl⟩) hd
  refine⟨p',?_,gD,rfl,rfl,.inr λg _ hg=>hgk g hg⟩;exact {
   lb:=by funext m;simp only[St.lb,jS,te];show p.lb m=_;rw[R.lb];rfl
   lv:=by
    funext m
    simp only[St.lv,iG,gV];show(m≠n∧p.lv m)↔_;by_cases e:n=m
    ·simp[e]
    ·rw[ah e];have:=R.sT m;simp only[St.lv] at this;simp[eN e,this]
   pj:=R.pj
   nt:=R.nt
   pK:=R.pK
   oB:=R.oB
   size:=R.size
   os:=R.os
   tape:=R.tape
   dr:=R.dr
   output:=R.output
   old:=R.old
   env:=λt y h=>by obtain⟨x,hx,rfl⟩:=iT h;exact key (R.env t x hx)
   box:=λm cs' h=>by
    obtain⟨cs,je,rfl⟩:=iT h;obtain⟨⟨vs,ty,h1,h2,h3,h4⟩,h5⟩:=R.box m cs je;refine⟨⟨vs,ty,h1,by simpa using h2,λi c v hc hv=>?_,h4⟩,h5⟩;rw[aA] at hc;cases hq:cs[i]? with
    |none=>simp[hq] at hc
    |some q=>simp[hq] at hc;subst hc;exact key (h3 i q v hq hv)
   vec:=λm s' h=>by
    rw[iG] at h;split at h
    ·cases h
    ·obtain⟨h1,h3,h4⟩:=R.vec m s' h
     exact⟨h1.mono (λ_ _=>rfl) gD (λ_ _=>rfl),h3,h4⟩
   oF:=R.oF
   my:=λm k hm hk=>R.my m k hm hk.2
   mX:=λm k hm hk=>R.mX m k hm.2 hk.2 }
end
end Go.Vl
namespace Go.Vl
open Go Go.RowKit
def AV.Qt:AV→Option D
 | .d x=>some x
 | .dK=>some (.slice [])
 | .full rows=>some (.slice rows)
 |_=>none
def uW:List AV→Option (List D)
 |[]=>some []
 |x::l=>x.Qt.bind λd=>(uW l).map λr=>d::r
def chunk (z:Nat):Nat→List D→List (List D)
 |0,_=>[]
 |n+1,l=>l.take z::chunk z n (l.drop z)
theorem BL {w:World} {ok:Nat→Prop} {p:Pl} {x:AV} {d:D} (h:x.Qt=some d) {v:Value} (hv:RA w ok p x v):RD w ok d v:=by
 cases hv with
 |d hd=>simp[AV.Qt] at h;subst h;exact hd
 |dK=>simp[AV.Qt] at h;subst h;exact .pQ
 |full hd=>simp[AV.Qt] at h;subst h;exact hd
 |_=>simp[AV.Qt] at h
theorem vD:∀{l:List AV} {r:List D},uW l=some r→r.length=l.length∧∀(i:Nat) (d:D),r[i]? =some d→∃x,l[i]? =some x∧x.Qt=some d
 |[],r,h=>by simp[uW] at h;subst h;exact⟨rfl,λi d hd=>by simp at hd⟩
 |x::l,r,h=>by
  simp only[uW] at h;cases hx:x.Qt with
  |none=>simp[hx] at h
  |some d=>
   cases hl:uW l with
   |none=>simp[hx,hl] at h
   |some r'=>
    simp[hx,hl] at h;subst h;obtain⟨h1,h2⟩:=vD hl;refine⟨by simp[h1],λi d' hd=>?_⟩;cases i with
    |zero=>simp at hd;subst hd;exact⟨x,rfl,hx⟩
    |succ i=>simpa using h2 i d' (by simpa using hd)
theorem Ln (z:Nat):∀(n:Nat) (l:List D),l.length=n * z→(chunk z n l).length=n∧(chunk z n l).flatten=l∧∀r∈chunk z n l,r.length=z
 |0,l,h=>by have:l=[]:=aI (by simpa using h);subst this;simp[chunk]
 |n+1,l,h=>by
  rw[dQ] at h;obtain⟨h1,h2,h3⟩:=Ln z n (l.drop z) (by simp;omega);refine⟨by simp[chunk,h1],by simp[chunk,h2],λr hr=>?_⟩;simp only[chunk,aZ] at hr;rcases hr with rfl |hr
  ·simp;omega
  ·exact h3 r hr
theorem RA.names {w:World} {ok:Nat→Prop} {p:Pl} {lb lv:Nat→Bool} (hb:∀n,p.lb n→lb n=true) (hv:∀n,p.lv n→lv n=true) {x:AV} {v:Value} (h:RA w ok p x v):x.wf lb lv=true:=by
 have hL:∀(l:List AV),(∀(i:Nat) (a:AV),l[i]? =some a→a.wf lb lv=true)→AV.we lb lv l=true:=by
  intro l
  induction l with
  |nil=>intro _;rfl
  |cons x l ih=>intro h;simp only[AV.we,aR];exact⟨h 0 x rfl,ih λi a ha=>h (i+1) a (by simpa using ha)⟩
 induction h with
 |agg hl hh _ ih=>
  simp only[AV.wf];refine hL _ λi a ha=>?_
  exact ih i a _ ha (bp (by have:=(aj.1 ha).1;omega))
 |ia hl hh ih=>
  simp only[AV.wf];refine hL _ λi a ha=>?_
  exact ih i a _ ha (bp (by have:=(aj.1 ha).1;omega))
 |fn hl hh ih=>
  simp only[AV.wf];refine hL _ λi a ha=>?_
  exact ih i a _ ha (bp (by have:=(aj.1 ha).1;omega))
 |ptr hn=>simp only[AV.wf];exact hb _ hn
 |vec hn=>simp only[AV.wf];exact hv _ hn
 |iR hn _=>simp only[AV.wf];exact hv _ hn
 |cut hn _ _ _=>simp only[AV.wf];exact hv _ hn
 |oG hn _=>simp only[AV.wf];exact hv _ hn
 |pR=>simp[AV.wf]
 |iter=>simp[AV.wf]
 |_=>simp only[AV.wf]
section
variable {P:Program} {K:Ctx P} {st:St} {a:Act} {w:World} {p:Pl}
theorem Rel.NU (R:Rel K st a w p) {d:Nat} {w':World} {v':Value} {s:VS} (hd:get st.vec d=none) (hg:w.grownBy w' none) (Ay:vV w≤vV w')
  (sJ:∀nf:Nat→Prop,(∀q:Addr,dx K w p q.block→si w' q=si w q)→(∀b,dx K w p b→nf b)→qK w' nf s v') (hz:∀r∈s.rows,r.length=s.z)
  (hblk:v'.fN=none∨v'.fN=some w.heap.size):
  Rel K { st with vec:=(d,s)::st.vec } a w' ⟨p.bx,Ue p.rw d v',p.lb,λm=>m=d∨(m≠d∧p.lv m)⟩:=by
 have sj:¬p.lv d:=λh=>by have:=(R.sT d).1 h;simp[St.lv,hd] at this
 have H:=R.NC (n:=d) (d:=d) (row:=none) (by rw[iG,ai rfl]) hg Ay (.inl rfl) sJ hz (by rcases hblk with h |h;exact .inl h;exact .inr (.inr h));have hsc:∀{x:AV} {v:Value},RA w (dx K w p) p x v→AV.gi d x=x:=λh=>by
  unfold AV.gi;rw[ai (h.names (lb:=λ_=>true) (λ_ _=>rfl) (λn hn=>by simp;intro e;exact sj (e▸hn)))]
 have Th:∀m,get ((d,s)::del st.vec d) m=get ((d,s)::st.vec) m:=λm=>by
  simp only[get];split
  ·rfl
  ·rename_i e;rw[iG,ah e]
 exact {
  lb:=by rw[H.lb];funext m;simp only[St.lb,jS,te]
  lv:=by rw[H.lv];funext m;simp only[St.lv,Th]
  pj:=H.pj
  nt:=H.nt
  pK:=H.pK
  oB:=H.oB
  size:=H.size
  os:=H.os
  tape:=H.tape
  dr:=H.dr
  output:=H.output
  old:=H.old
  env:=λt x h=>H.env t x (by rw[jS,h];simp[hsc (R.env t x h)])
  box:=λm cs h=>H.box m cs (by
   rw[jS,h];simp only[cr]
   congr 1
   obtain⟨⟨vs,ty,_,h2,h3,_⟩,_⟩:=R.box m cs h;apply eH;intro i;rw[aA];cases hc:cs[i]? with
   |none=>rfl
   |some c=>
    have hi:i < vs.size:=by have:=(aj.1 hc).1;omega
    simp[hsc (h3 i c vs[i] hc (by simp[hi]))])
  vec:=λm s' h=>H.vec m s' (by rw[Th];exact h)
  oF:=H.oF
  my:=H.my
  mX:=H.mX }
theorem Rel.B7 (R:Rel K st a w p) {d:Nat} {w':World} {v':Value} {s:VS} {xs:List Value} (hM:s.rC=false) (hd:get st.vec d=none) (hg:w.grownBy w' none) (Ay:vV w≤vV w')
  (eC:w'.ownsRow 0 s.e s.z v' s.rows.length xs) (hz:∀r∈s.rows,r.length=s.z) (rD:∀(j:Nat) (x:D) (v:Value),s.rows.flatten[j]? =some x→xs[j]? =some v→RD w (dx K w p) x v)
  (hblk:v'.fN=none∨v'.fN=some w.heap.size):
  Rel K { st with vec:=(d,s)::st.vec } a w' ⟨p.bx,Ue p.rw d v',p.lb,λm=>m=d∨(m≠d∧p.lv m)⟩:=
 R.NU hd hg Ay (λ_ h1 h2=>.of hM ⟨xs,eC,λj x v hx hv=>(rD j x v hx hv).mono h1 h2⟩) hz hblk
theorem yM (R:Rel K st a w p) {x:AV} {rows:List (List D)} (h:rowsOf st x=some rows) {v:Value} (hv:RA w (dx K w p) p x v):∃b c,v=.slice b rows.length c∧
  (rows=[]∨∃(ad:Addr) (z:Nat) (news:List Value),b=some ad∧news.length=rows.length * z∧(∀r∈rows,r.length=z)∧(∀(j:Nat) (u:Value),news[j]? =some u→w.cell? (ad.add j)=some u)∧
   (∀u∈news,u.oneCell'=true)∧∀(j:Nat) (d:D) (u:Value),rows.flatten[j]? =some d→news[j]? =some u→RD w (dx K w p) d u):=by
 have key:∀{v:Value} {b:Option Addr} {n c:Nat},n=rows.length→RD w (dx K w p) (.slice rows) (.slice b n c)→(rows=[]∨∃(ad:Addr) (z:Nat) (news:List Value),b=some ad∧news.length=rows.length * z∧(∀r∈rows,r.length=z)∧(∀(j:Nat) (u:Value),news[j]? =some u→w.cell? (ad.add j)=some u)∧
   (∀u∈news,u.oneCell'=true)∧∀(j:Nat) (d:D) (u:Value),rows.flatten[j]? =some d→news[j]? =some u→RD w (dx K w p) d u):=by
  intro v b n c hn hd;cases hd with
  |pQ=>exact .inl rfl
  |slice z vs hz gD hc eY Jk=>
   rename_i ad;have tW:=ir hz;have uq:∀(j:Nat) (u:Value),((List.range (rows.length * z)).map vs)[j]? =some u→j < rows.length * z∧u=vs j:=λj u hj=>by
    rw[aA] at hj;by_cases h0:j < rows.length * z
    ·rw[qN h0] at hj;simp at hj;exact⟨h0,hj.symm⟩
    ·rw[fy (by simpa using h0)] at hj;simp at hj
   refine .inr ⟨ad,z,(List.range (rows.length * z)).map vs,rfl,by simp,hz,λj u hj=>?_,λu hu=>?_,λj d u hd hj=>?_⟩
   ·obtain⟨h0,rfl⟩:=uq j u hj;exact eY j (by omega)
   ·obtain⟨j,hj,rfl⟩:=aG.1 hu
    have wm:j < rows.flatten.length:=by rw[tW];simpa using hj
    exact(Jk j _ (ae wm)).one
   ·obtain⟨h0,rfl⟩:=uq j u hj;exact Jk j d hd
 cases hv with
 |d hd=>
  rename_i x;cases x <;> simp[rowsOf] at h
  subst h;cases hd with
  |pQ=>exact⟨_,_,rfl,.inl rfl⟩
  |slice z vs hz gD hc eY Jk=>exact⟨_,_,rfl,key (v:=.nilFunc) rfl (.slice z vs hz gD hc eY Jk)⟩
 |dK=>simp[rowsOf] at h;subst h;exact⟨_,_,rfl,.inl rfl⟩
 |full hd=>simp[rowsOf] at h;subst h;exact⟨_,_,rfl,key (v:=.nilFunc) rfl hd⟩
 |vec hn=>
  rename_i n;simp only[rowsOf] at h;cases hs:get st.vec n with
  |none=>simp[hs] at h
  |some s=>
   simp only[hs,aa] at h;split at h
   ·cases h
   rename_i hM;cases h;obtain⟨sJ,hz,yo⟩:=R.vec n s hs;obtain⟨xs,eC,rD⟩:=sJ.row (by simpa using hM);rcases eC.2 with ⟨h0,h1⟩ |⟨g,cap,cur,h0,_,_,_,_,_,_⟩
   ·exact⟨none,0,by rw[h0,h1],.inl (aI h1)⟩
   ·refine⟨_,_,h0,.inr ⟨⟨g,0,none⟩,s.z,xs,rfl,eC.1,hz,λj u hu=>?_,λu hu=>?_,rD⟩⟩
    ·rw[h0] at eC
     have hj:j < s.rows.length * s.z:=by have:=(aj.1 hu).1;rw[eC.1] at this;exact this
     rw[ix,gg,((yP eC).2 j hj).1];exact hu
    ·obtain⟨j,hj,rfl⟩:=cu hu
     have wm:j < s.rows.flatten.length:=by rw[ir hz,←eC.1];exact hj
     exact(rD j _ _ (ae wm) (ae hj)).one
 |cut hn hv ho hle=>
  rename_i n z lo k o g c len;simp only[rowsOf] at h;cases hs:get st.vec n with
  |none=>simp[hs] at h
  |some s=>
   simp only[hs,aa] at h;split at h
   ·cases h
   rename_i hM;split at h
   case isFalse=>cases h
   rename_i hh;obtain⟨Y8,rfl⟩:=hh;cases h;obtain⟨sJ,hz,yo⟩:=R.vec n s hs;obtain⟨xs,eC,rD⟩:=sJ.row (by simpa using hM);have hlen:((s.rows.drop lo).take k).length=k:=by rw[dV,uw,oI (by omega)]
   rw[hlen];refine⟨_,_,rfl,?_⟩;by_cases hk:k=0
   ·left;subst hk;simp
   right
   have Bb:=ho.1.resolve_left hk;subst Bb;have tW:((s.rows.drop lo).take k).flatten=(s.rows.flatten.drop (lo * s.z)).take (k * s.z):=by rw[vT (λr hr=>hz r (mE hr)),Co hz]
   rw[hv] at eC;have hmul:(lo+k) * s.z≤s.rows.length * s.z:=dy _ Y8;rw[dQ] at hmul;have N6:xs.length=s.rows.length * s.z:=eC.1;refine⟨⟨g,lo * s.z,none⟩,s.z,(xs.drop (lo * s.z)).take (k * s.z),rfl,by simp;omega,λr hr=>hz r (mE (eT hr)),λj u hu=>?_,λu hu=>?_,λj d u hd hu=>?_⟩
   ·rw[bS] at hu
    split at hu
    case isFalse=>cases hu
    rename_i hj;rw[dc] at hu;rw[ix,((yP eC).2 (lo * s.z+j) (by omega)).1];exact hu
   ·have E8:=mE (eT hu)
    obtain⟨j,hj,rfl⟩:=cu E8;have wm:j < s.rows.flatten.length:=by rw[ir hz,←eC.1];exact hj
    exact(rD j _ _ (ae wm) (ae hj)).one
   ·rw[tW,bS] at hd
    rw[bS] at hu;split at hd
    case isFalse=>cases hd
    rename_i hj;rw[ai hj,dc] at hu;rw[dc] at hd;exact rD _ d u hd hu
 |oG hn hv=>
  rename_i n z;simp only[rowsOf] at h;cases hs:get st.vec n with
  |none=>simp[hs] at h
  |some s=>
   simp only[hs,aa] at h;split at h
   ·cases h
   split at h
   case isFalse=>cases h
   cases h;exact⟨none,0,by simp,.inl (by simp)⟩
 |_=>simp[rowsOf] at h
theorem Da {P:Program} {t ty e:TypeId} {z:Nat} (ht:P.underlying t=some (.slice e)) (hz:fh P e=some z) (b0 b:Option Addr) (n0 c0 c:Nat) (h:n0≤c0) (w:World):
  (Builtin.append_ #[t,t] ty #[.slice b0 n0 c0,.slice b 0 c]).run P w=.ok (.slice b0 n0 c0) w:=by
 have hi:∃i,P.info? e=some i:=by
  unfold fh at hz;cases hi:P.info? e with
  |none=>simp[hi] at hz
  |some i=>exact⟨i,rfl⟩
 obtain⟨i,hi⟩:=hi;cases b <;> cases b0 <;> simp[Builtin.append_,aJ ht,sizeOf,typeInfo,hi,Builtin.lenOf,Builtin.firstCells,h,loadCells,loadCellsFrom,storeCells]
end
def wV (P:Program) (e:TypeId):Bool:=match P.info? e with |some i=>i.bytes≤65536 |none=>false
def sP (P:Program) (st:St) (o:Oper):Option St:=
 (gI P st o).bind λx=>match o.dst with |some d=>if d < st.nt then some (st.put d x) else none |none=>some st
def ue (P:Program) (st:St) (d:Nat) (cs:List AV):Option St:=
 match get st.box d with
 |some _=>none
 |none=>if d < st.nt then some (St.put { st with box:=(d,cs)::st.box } d (.ptr d 0)) else none
def mA (P:Program) (st:St) (d:Nat) (t:TypeId) (n:Nat) (parts:List (Nat×AV)):Option St:=
 match P.underlying t with
 |some (.slice e)=>(fZ P e).bind λzs=>let z:=zs.length
  if n * z≤16777216∧n≤16777216∧d < st.nt∧e < 1000000 then
   (tZ (λi=>some (i * z,z)) (List.replicate (n * z) .undef) parts).bind λr=>(uW r).bind λds=>
    match get st.vec d with
    |none=>some (St.put { st with vec:=(d,⟨e,z,chunk z n ds⟩)::st.vec } d (.vec d))
    |some _=>none
  else none
 |_=>none
def JL (cs l:List AV) (o:Nat):List AV:=cs.take o++(l++cs.drop (o+l.length))
def D0 (P:Program) (st:St) (t:TypeId) (x y:AV):Option St:=
 (gq y).bind λl=>if fh P t=some l.length then match x with
  | .ptr n o=>(get st.box n).bind λcs=>if o+l.length≤cs.length then some { st with box:=(n,JL cs l o)::st.box } else none
  | .iR n z i o=>(get st.vec n).bind λs=>(s.rows[i]?).bind λrow=>(uW l).bind λds=>
    if z=s.z∧o+ds.length≤row.length then some { st with vec:=(n,{ s with rows:=s.rows.set i (row.take o++(ds++row.drop (o+ds.length)))})::st.vec } else none
  |_=>none else none
def zl (P:Program) (st:St) (d:Nat) (t t':TypeId) (x y:AV):Option St:=
 if t=t'∧d < st.nt then match P.underlying t with
  |some (.slice e)=>(fZ P e).bind λzs=>let z:=zs.length
   (rowsOf st y).bind λys=>if 0 < z∧wV P e=true∧e < 1000000∧∀r∈ys,r.length=z then
    match x with
    | .dK=>if ys.length≤268435456 then(match get st.vec d with
     |none=>some (St.put { st with vec:=(d,⟨e,z,ys⟩)::st.vec } d (.vec d))
     |some _=>none) else none
    | .cut n z' lo k=>if lo=0∧z'=z then(get st.vec n).bind λs=>if s.e=e∧s.z=z∧k≤s.rows.length∧k+ys.length≤268435456∧(d=n∨(get st.vec d).isNone=true) then
      some (St.put { nt:=st.nt,env:=me (AV.gi n) st.env,box:=me (List.map (AV.gi n)) st.box,vec:=(d,{ s with rows:=s.rows.take k++ys })::del st.vec n } d (.vec d)) else none else none
    | .vec n=>(get st.vec n).bind λs=>if s.e=e∧s.z=z∧s.rows.length+ys.length≤268435456∧(d=n∨(get st.vec d).isNone=true) then
      some (St.put { nt:=st.nt,env:=me (AV.gi n) st.env,box:=me (List.map (AV.gi n)) st.box,vec:=(d,{ s with rows:=s.rows++ys })::del st.vec n } d (.vec d)) else none
    | .full xs=>if xs.length+ys.length≤268435456∧0 < ys.length∧∀r∈xs,r.length=z then(match get st.vec d with
     |none=>some (St.put { st with vec:=(d,⟨e,z,xs++ys⟩)::st.vec } d (.vec d))
     |some _=>none) else none
    |_=>none
   else none
  |_=>none
 else none
mutual
def AV.vp:AV→AV
 | .dK=>.d (.slice [])
 | .agg l=>.agg (AV.Ot l)
 |x=>x
def AV.Ot:List AV→List AV
 |[]=>[]
 |x::l=>AV.vp x::AV.Ot l
end
theorem KW:∀l:List AV,AV.Ot l=l.map AV.vp
 |[]=>rfl
 |x::l=>by simp[AV.Ot,KW l]
theorem RA.vp {w:World} {ok:Nat→Prop} {p:Pl} {x:AV} {v:Value} (h:RA w ok p x v):RA w ok p x.vp v:=by
 induction h with
 |undef=>simp only[AV.vp];exact .undef
 |d h=>simp only[AV.vp];exact .d h
 |dK=>simp only[AV.vp];exact .d .pQ
 |full h=>simp only[AV.vp];exact .full h
 |agg hl _ h1 ih=>
  simp only[AV.vp,KW];refine .agg (by simpa using hl) (λi a v ha lE=>?_) h1;simp only[aA,aP] at ha;obtain⟨q,hq,rfl⟩:=ha;exact ih i q v hq lE
 |ia hl h=>simp only[AV.vp];exact .ia hl h
 |ptr hm=>simp only[AV.vp];exact .ptr hm
 |cN vs h1 h2 h3=>simp only[AV.vp];exact .cN vs h1 h2 h3
 |vec hm=>simp only[AV.vp];exact .vec hm
 |iR h1 h2=>simp only[AV.vp];exact .iR h1 h2
 |cut h1 h2 h3 h4=>simp only[AV.vp];exact .cut h1 h2 h3 h4
 |oG h1 h2=>simp only[AV.vp];exact .oG h1 h2
 |pR=>simp only[AV.vp];exact .pR
 |iter=>simp only[AV.vp];exact .iter
 |fn hl h=>simp only[AV.vp];exact .fn hl h
def Dt (P:Program) (kt:TypeId) (ka:Bool) (k:AV) (ds:List D):Option Bool:=
 if ka=true then(match k with | .agg l=>Tu P kt l (ds.map .d) |_=>none)
 else match ds with |[d]=>nT P kt k (.d d) |_=>none
def E3:AV→Bool
 | .d (.int _ _)=>true
 |_=>false
def xl (P:Program) (kt:TypeId) (ka:Bool) (k:AV):Bool:=
 if ka=true then(match P.underlying kt,k with
  |some (.array n e),.agg l=>decide (l.length=n)&&decide (fh P e=some 1)&&(match P.underlying e with |some (.int _)=>true |_=>false)&&l.all E3
  |_,_=>false)
 else match P.underlying kt,k with
  |some (.int _),.d (.int _ _)=>true
  |some .string,.d (.str _)=>true
  |some .bool,.d (.bool _)=>true
  |_,_=>false
def lW (P:Program) (kt:TypeId) (ka:Bool) (kz:Nat) (k:AV):List (List D)→Option (Option (Nat×List D))
 |[]=>some none
 |r::rs=>(Dt P kt ka k (r.take kz)).bind λb=>if b=true then some (some (0,r.drop kz)) else(lW P kt ka kz k rs).map λo=>o.map λq=>(q.1+1,q.2)
def ml (ag:Bool) (ds:List D):Option AV:=if ag=true then some (.agg (ds.map .d)) else match ds with |[d]=>some (.d d) |_=>none
def mG (ag:Bool) (x:AV):Option (List D):=if ag=true then(match x with | .agg l=>uW l |_=>none) else match x with | .agg _ | .ia _=>none |x=>x.Qt.map λd=>[d]
def zeroV (P:Program) (t:TypeId):Option AV:=((P.info? t).bind (·.zero)).map λz=>AV.vp (AV.ofConst z)
def vH (P:Program) (et:TypeId) (va ok:Bool) (o:Option (Nat×List D)):Option AV:=
 (match o with |some q=>ml va q.2 |none=>zeroV P et).map λv=>if ok=true then .ia [v,.d (.bool o.isSome)] else v
def F8 (rows:List (List D)) (row:List D):Option (Nat×List D)→List (List D)
 |some q=>rows.set q.1 row
 |none=>rows++[row]
def P5 (rows:List (List D)):Option (Nat×List D)→List (List D)
 |some q=>rows.eraseIdx q.1
 |none=>rows
def rT (P:Program) (st:St) (t:TypeId) (x k:AV) (ok:Bool):Option AV:=
 match P.underlying t,x with
 |some (.map kt et),.vec n=>(get st.vec n).bind λs=>if s.rC=true∧xl P kt s.ka k=true then(lW P kt s.ka s.kz k s.rows).bind λo=>
   vH P et s.va ok o else none
 |some (.map kt et),.d (.mp e z rows)=>if xl P kt (VS.mk e z rows).ka k=true then(lW P kt (VS.mk e z rows).ka (VS.mk e z rows).kz k rows).bind λo=>vH P et (VS.mk e z rows).va ok o else none
 |_,_=>none
def QW (P:Program) (st:St) (t:TypeId) (x k v:AV):Option St:=
 match P.underlying t,x with
 |some (.map kt _),.vec n=>(get st.vec n).bind λs=>if s.rC=true∧xl P kt s.ka k=true then(mG s.ka k).bind λkd=>(mG s.va v).bind λvd=>
   if kd.length=s.kz∧s.kz+vd.length=s.z then(lW P kt s.ka s.kz k s.rows).bind λo=>
    some { st with vec:=(n,{ s with rows:=F8 s.rows (kd++vd) o })::st.vec } else none else none
 |_,_=>none
def TE (P:Program) (st:St) (t:TypeId) (x k:AV):Option St:=
 match P.underlying t,x with
 |some (.map kt _),.vec n=>(get st.vec n).bind λs=>if s.rC=true∧xl P kt s.ka k=true then(lW P kt s.ka s.kz k s.rows).bind λo=>
    some { st with vec:=(n,{ s with rows:=P5 s.rows o })::st.vec } else none
 |_,_=>none
def VB (P:Program) (st:St) (t:TypeId) (x:AV):Option Int:=
 match P.underlying t,x with
 |some (.map _ _),.vec n=>(get st.vec n).bind λs=>if s.rC=true then some (s.rows.length:Int) else none
 |some (.map _ _),.d (.mp _ _ rows)=>some (rows.length:Int)
 |_,_=>none
def Xt:Option AV→Bool
 |none=>true
 |some x=>(pA x).isSome
def Vx (P:Program) (st:St) (d:Nat) (t:TypeId) (r:Option AV):Option St:=
 match P.underlying t with
 |some (.map kt et)=>(fh P kt).bind λkz=>(fh P et).bind λvz=>
  if kz < 64∧d < st.nt∧Xt r=true then
   match get st.vec d with
   |none=>some (St.put { st with vec:=(d,⟨bL t kz (gO P kt) (gO P et),kz+vz,[]⟩)::st.vec } d (.vec d))
   |some _=>none
  else none
 |_=>none
def Es (st:St) (dst:Option Nat) (x:AV):Option St:=match dst with |some d=>if d < st.nt then some (st.put d x) else none |none=>some st
def Vw (P:Program) (st:St) (d:Nat) (t:TypeId) (l c:AV):Option St:=
 match P.underlying t with
 |some (.slice e)=>(pA l).bind λl=>(pA c).bind λc=>(fZ P e).bind λzs=>(uW zs).bind λds=>
  if 0≤l∧l=c∧c≤268435456∧0 < zs.length∧wV P e=true∧e < 1000000∧d < st.nt then
   match get st.vec d with
   |none=>some (St.put { st with vec:=(d,⟨e,zs.length,List.replicate l.toNat ds⟩)::st.vec } d (.vec d))
   |some _=>none
  else none
 |_=>none
def Wa (st:St):AV→Option (Nat×Nat×Nat)
 | .vec n=>(get st.vec n).map λs=>(n,0,s.rows.length)
 | .cut n z lo k=>(get st.vec n).bind λs=>if z=s.z then some (n,lo,k) else none
 |_=>none
def cpA (P:Program) (st:St) (dst:Option Nat) (t:TypeId) (x y:AV):Option St:=
 match P.underlying t with
 |some (.slice e)=>(Wa st x).bind λq=>(get st.vec q.1).bind λs=>(rowsOf st y).bind λys=>
  if s.rC=true then none else if fh P e=some s.z∧0 < s.z∧q.2.1+q.2.2≤s.rows.length∧∀r∈ys,r.length=s.z then
   let m:=min q.2.2 ys.length
   let st1:={ st with vec:=(q.1,{ s with rows:=s.rows.take q.2.1++(ys.take m++s.rows.drop (q.2.1+m))})::st.vec }
   match dst with
   |some d=>if d < st.nt then some (St.put st1 d (.d (.int .i64 m))) else none
   |none=>some st1
  else none
 |_=>none
def step (P:Program) (st:St) (o:Oper):Option St:=
 match o.op with
 | .alloc t=>o.dst.bind λd=>(fZ P t).bind λz=>ue P st d z
 | .box _ x=>o.dst.bind λd=>(gq (ca st x)).bind λl=>ue P st d l
 | .buildSlice t n parts=>o.dst.bind λd=>mA P st d t n (parts.toList.map λ(i,x)=>(i,ca st x))
 | .store t x y=>match o.dst with |none=>D0 P st t (ca st x) (ca st y) |some _=>none
 | .call c=>match c.callee,c.args.toList,c.argTypes.toList with
  | .builtin .append,[x,y],[t,t']=>o.dst.bind λd=>zl P st d t t' (ca st x) (ca st y)
  | .builtin .copy,[x,y],[t,_]=>cpA P st o.dst t (ca st x) (ca st y)
  | .builtin .delete,[x,y],[t,_]=>(TE P st t (ca st x) (ca st y)).bind λst=>Es st o.dst (.ia [])
  | .builtin .len,[x],[t]=>match VB P st t (ca st x) with |some n=>Es st o.dst (.d (.int .i64 n)) |none=>sP P st o
  |_,_,_=>sP P st o
 | .makeSlice t l c=>o.dst.bind λd=>Vw P st d t (ca st l) (ca st c)
 | .makeMap t r=>o.dst.bind λd=>Vx P st d t (r.map (ca st))
 | .lookup t x k ok=>(rT P st t (ca st x) (ca st k) ok).bind λv=>Es st o.dst v
 | .mapUpdate t x k v=>match o.dst with |none=>QW P st t (ca st x) (ca st k) (ca st v) |some _=>none
 | .insert t x k v=>match o.dst with |none=>QW P st t (ca st x) (ca st k) (ca st v) |some _=>none
 |_=>sP P st o
section
variable {P:Program} {K:Ctx P} {st:St} {a:Act} {w:World} {p:Pl}
def Stepped (P:Program) (K:Ctx P) (cM:St) (o:Oper) (a:Act) (w:World):Prop:=
 ∃w' p',(∃v,(execOp a.eval o).run P w=.ok (.value v) w'∧Rel K cM (a.put o.dst v) w' p')∨((execOp a.eval o).run P w=.ok .skip w'∧Rel K cM (a.put o.dst undef) w' p')
theorem zF (R:Rel K st a w p) {o:Oper} {cM:St} (h:sP P st o=some cM):Stepped P K cM o a w:=by
 unfold sP at h;cases hv:gI P st o with
 |none=>simp[hv] at h
 |some x=>
  simp only[hv,aa] at h;obtain⟨v,h1,h2⟩:=rI R hv;exact⟨w,p,.inl ⟨v,h1,R.BX h2 h⟩⟩
theorem Rv (R:Rel K st a w p) {d:Nat} {cs:List AV} {vs:Array Value} {ty:TypeId} {cM:St} (h:ue P st d cs=some cM) (hl:vs.size=cs.length) (hr:∀(i:Nat) (c:AV) (v:Value),cs[i]? =some c→vs[i]? =some v→RA w (dx K w p) p c v)
  (h1:∀(i:Nat) (v:Value),vs[i]? =some v→v.oneCell'=true):∃p',Rel K cM (a.put (some d) (.pointer (some ⟨w.heap.size,0,none⟩))) (w.alloc (.cells vs ty)) p':=by
 unfold ue at h;cases hb:get st.box d with
 |some _=>simp[hb] at h
 |none=>
  simp only[hb] at h;split at h
  case isFalse=>cases h
  rename_i hd;cases h;have R':=R.Yw (ty:=ty) (bu hd R.pK) hb hl hr h1;exact⟨_,R'.put (RA.Rw (Or.inl rfl) (fO _ _ _)) hd⟩
theorem Q7 {cs l:List AV} {o:Nat} (hle:o+l.length≤cs.length) (i:Nat):(JL cs l o)[i]? =if i < o then cs[i]? else if i < o+l.length then l[i - o]? else cs[i]? :=by
 simp only[JL,cX,dV,bS,dc];by_cases h1:i < o
 ·rw[ai (by omega),ai h1,ai h1]
 ·rw[ah (by omega),ah h1]
  have e1:i - min o cs.length=i - o:=by omega
  rw[e1];by_cases h2:i < o+l.length
  ·rw[ai (by omega),ai h2]
  ·rw[ah (by omega),ah h2];congr 1;omega
end
end Go.Vl
namespace Go.Vl
open Go
theorem eb {ε α β:Type} {x:Except ε α} {f:α→Except ε β} {r:β} (h:(x >>= f)=.ok r):∃a,x=.ok a∧f a=.ok r:=by
 cases x with
 |error e=>cases h
 |ok a=>exact⟨a,rfl,h⟩
end Go.Vl
namespace Go.Vl
open Go Go.RowKit
section
variable {P:Program} {K:Ctx P} {st:St} {a:Act} {w:World} {p:Pl}
theorem GB (R:Rel K st a w p) {o:Oper} {t:TypeId} (ho:o.op=.alloc t) {d:Nat} (hd:o.dst=some d) {z:List AV} (hz:fZ P t=some z) {cM:St} (h:ue P st d z=some cM):Stepped P K cM o a w:=by
 obtain⟨i,v,hi,hv,gS,rfl,h1⟩:=nk hz;obtain⟨p',R'⟩:=Rv (ty:=t) R h (vs:=v.cells) (by simp) (λi c u hc hu=>BH v.cells i c u hc hu) h1;refine⟨_,p',.inl ⟨_,?_,by rw[hd];exact R'⟩⟩;simp[execOp,ho,Instr.alloc,zeroValue,typeInfo,hi,hv,newVar,newRow]
theorem Lu (R:Rel K st a w p) {o:Oper} {t:TypeId} {x:Operand} (ho:o.op=.box t x) {d:Nat} (hd:o.dst=some d) {l:List AV} (hl:gq (ca st x)=some l) {cM:St} (h:ue P st d l=some cM):Stepped P K cM o a w:=by
 obtain⟨g1,g2,g3⟩:=(R.ca x).one hl R.JN;obtain⟨p',R'⟩:=Rv (ty:=t) R h (vs:=(a.eval x).cells) g1 g2 g3;refine⟨_,p',.inl ⟨_,?_,by rw[hd];exact R'⟩⟩;simp[execOp,ho,Instr.box,newVar,newRow]
theorem pz {e z:Nat} {rows:List (List D)} (h:e < 1000000):VS.rC ⟨e,z,rows⟩=false:=by
 unfold VS.rC;exact gy (Nat.not_le.2 h)
theorem Ol {α:Type} {l:List (Nat×α)} {n:Nat} {s:α} (h:get l n=some s) (m:Nat):get ((n,s)::l) m=get l m:=by
 simp only[get];split
 ·rename_i e;subst e;exact h.symm
 ·rfl
theorem Rel.ac7 {cM:St} (R:Rel K st a w p) (he:∀t,get cM.env t=get st.env t) (hb:∀n,get cM.box n=get st.box n) (hv:∀n,get cM.vec n=get st.vec n) (hn:cM.nt=st.nt:=by rfl):Rel K cM a w p where
 lb:=by rw[R.lb];funext n;simp[St.lb,hb]
 lv:=by rw[R.lv];funext n;simp[St.lv,hv]
 pj:=R.pj
 nt:=by rw[R.nt,hn]
 pK:=by rw[hn];exact R.pK
 oB:=R.oB
 size:=R.size
 os:=R.os
 tape:=R.tape
 dr:=R.dr
 output:=R.output
 old:=R.old
 env:=λt x h=>R.env t x (by rw[← he,h])
 box:=λn cs h=>R.box n cs (by rw[← hb,h])
 vec:=λn s h=>R.vec n s (by rw[← hv,h])
 oF:=R.oF
 my:=R.my
 mX:=R.mX
theorem Bq (R:Rel K st a w p) {o:Oper} {t:TypeId} {n:Nat} {parts:Array (Nat×Operand)} (ho:o.op=.buildSlice t n parts) {d:Nat} (hd:o.dst=some d) {cM:St}
  (h:mA P st d t n (parts.toList.map λ(i,x)=>(i,ca st x))=some cM):Stepped P K cM o a w:=by
 unfold mA at h;split at h
 case h_2=>cases h
 rename_i e hu;cases hz:fZ P e with
 |none=>simp[hz] at h
 |some zs=>
  simp only[hz,aa] at h;split at h
  case isFalse=>cases h
  rename_i hb;obtain⟨uP,Jl,pO,PQ⟩:=hb;obtain⟨i,v,hi,hv,gS,Aw,h1⟩:=nk hz;have BF:zs.length=i.size:=by rw[Aw];simp[gS]
  cases hf:tZ (λi=>some (i * zs.length,zs.length)) (List.replicate (n * zs.length) .undef) (parts.toList.map λ(i,x)=>(i,ca st x)) with
  |none=>rw[hf] at h;simp at h
  |some r=>
   rw[hf] at h;simp only[aa] at h;cases IM:uW r with
   |none=>simp[IM] at h
   |some ds=>
    simp only[IM,aa] at h;cases zx:get st.vec d with
    |some _=>simp[zx] at h
    |none=>
     simp only[zx] at h;cases h
     -- WI cells before ai8 are filled
     have zW:∀(j:Nat) (i k:Nat) (x:AV) (v:Value),(parts.toList.map λ(i,x)=>(i,ca st x))[j]? =some (i,x)→(parts.map λ(i,x)=>(i,a.eval x)).toList[j]? =some (k,v)→i=k∧RA w (dx K w p) p x v:=by
      intro j i k x v hj hk;rw[Array.toList_map,aA] at hk;rw[aA] at hj;cases hq:parts.toList[j]? with
      |none=>simp[hq] at hj
      |some q=>
       obtain⟨q1,q2⟩:=q;simp[hq] at hj hk;obtain⟨rfl,rfl⟩:=hj;obtain⟨rfl,rfl⟩:=hk;exact⟨rfl,R.ca _⟩
     let z0:Array Value:=if n * i.size=0 then #[] else v.cells
     have hz1:∀(j:Nat) (u:Value),((Array.range (n * i.size)).map (λx=>z0[x % z0.size]!))[j]? =some u→u.oneCell'=true:=by
      intro j u hj;rw[Array.getElem?_map] at hj;by_cases h0:j < n * i.size
      ·simp only[Array.getElem?_range,h0,eM,cr] at hj
       cases hj;have iA:¬(n * i.size=0):=by omega
       have rW:0 < i.size:=Nat.pos_of_ne_zero (λe=>iA (by rw[e,Nat.mul_zero]));have LF:z0=v.cells:=ah iA;rw[LF];have iN:j % v.cells.size < v.cells.size:=Nat.mod_lt _ (by omega);rw[getElem!_pos v.cells _ iN];exact h1 _ _ (bp iN)
      ·simp only[Array.getElem?_range,h0,cS,Option.map_none] at hj;cases hj
     obtain⟨cs',c1,c2,c3,c4⟩:=rZ (w:=w) (ok:=dx K w p) (p:=p) R.JN (cs:=(Array.range (n * i.size)).map (λx=>z0[x % z0.size]!)) hf (vals:=(parts.map λ(i,x)=>(i,a.eval x)).toList) (by simp) zW (by simp[BF])
      (λj a u ha hu=>by
       rw[List.getElem?_replicate] at ha;split at ha
       ·cases ha;exact .undef
       ·cases ha) hz1
     obtain⟨t1,t2⟩:=vD IM;have zB:r.length=n * zs.length:=by
      have tW:∀(pts:List (Nat×AV)) (cells r:List AV),tZ (λi=>some (i * zs.length,zs.length)) cells pts=some r→r.length=cells.length:=by
       intro pts
       induction pts with
       |nil=>intro cells r h;simp[tZ] at h;rw[h]
       |cons q pts ih=>
        intro cells r h;obtain⟨q1,q2⟩:=q;simp only[tZ] at h;cases hc:gq q2 with
        |none=>simp[hc] at h
        |some l=>
         simp only[hc,aa] at h;split at h
         ·rename_i hh
          have:=ih _ _ h;rw[this];simp;omega
         ·cases h
      have:=tW _ _ _ hf;simpa using this
     obtain⟨k1,k2,k3⟩:=Ln zs.length n ds (by rw[t1,zB]);have hlen:cs'.size=n * zs.length:=by rw[c2,zB]
     have eC:(w.alloc (.cells cs' e)).ownsRow 0 e zs.length (.slice (some ⟨w.heap.size,0,none⟩) n n) n cs'.toList:=
      World.ownsRow_lit w cs' n (cE _) (by simp only[maxLen];omega) hlen
     have R':=R.B7 (d:=d) (s:=⟨e,zs.length,chunk zs.length n ds⟩) (xs:=cs'.toList) (pz PQ) zx (kW w _ none) (aM 0) (by rw[k1];exact eC) k3 (λj x u hx hu=>by
      rw[k2] at hx;obtain⟨y,hy,YK⟩:=t2 j x hx;exact BL YK (c3 j y u hy (by rw[← bo];exact hu))) (.inr rfl)
     refine⟨_,_,.inl ⟨.slice (some ⟨w.heap.size,0,none⟩) n n,?_,by rw[hd];exact R'.put (RA.qS (Or.inl rfl) (fO _ _ _)) pO⟩⟩;have ack:¬(n * i.size > 2 ^ 24):=by rw[← BF];omega
     have Zk:Instr.fill (λi_1=>some (i_1 * i.size,i.size)) ((Array.range (n * i.size)).map (λx=>z0[x % z0.size]!)) (parts.map λ(i,x)=>(i,a.eval x)).toList=some cs':=by rw[← BF] at c1 ⊢;exact c1
     by_cases h0:n * i.size=0
     ·have LF:z0= #[]:=ai h0
      rw[LF] at Zk;simp only[execOp,ho,Instr.buildSlice,bk,aJ hu,aU,eO (show fh P e=some i.size by simp[fh,hi]),mU,ah ack,ai h0,cV,Zk,newRow,run_newObj,World.alloc_eq]
     ·have LF:z0=v.cells:=ah h0
      rw[LF] at Zk;simp only[execOp,ho,Instr.buildSlice,bk,aJ hu,aU,eO (show fh P e=some i.size by simp[fh,hi]),mU,ah ack,ah h0,cV,zeroValue,typeInfo,run_program,hi,hv,Zk,newRow,run_newObj,World.alloc_eq]
theorem ny {α:Type} (l m:List α) {o:Nat} (h:o+m.length≤l.length) (j:Nat):(l.take o++m++l.drop (o+m.length))[j]? =if j < o then l[j]? else if j < o+m.length then m[j - o]? else l[j]? :=by
 rw[eX];simp only[cX,dV,bS,dc];by_cases h1:j < o
 ·rw[ai (by omega),ai h1,ai h1]
 ·rw[ah (by omega),ah h1]
  have e1:j - min o l.length=j - o:=by omega
  rw[e1];by_cases h2:j < o+m.length
  ·rw[ai (by omega),ai h2]
  ·rw[ah (by omega),ah h2];congr 1;omega
theorem JB (R:Rel K st a w p) {o:Oper} {t:TypeId} {x y:Operand} (ho:o.op=.store t x y) (hd:o.dst=none) {cM:St} (h:D0 P st t (ca st x) (ca st y)=some cM):Stepped P K cM o a w:=by
 unfold D0 at h;cases hl:gq (ca st y) with
 |none=>simp[hl] at h
 |some l=>
  simp only[hl,aa] at h;split at h
  case isFalse=>cases h
  rename_i gS;obtain⟨g1,g2,g3⟩:=(R.ca y).one hl R.JN;have hx:=R.ca x;generalize UA:a.eval y=vy at *;have vj:∀v∈vy.cells.toList,v.oneCell'=true:=λv hv=>by
   obtain⟨j,hj,rfl⟩:=cu hv;exact g3 j _ (by simp at hj;simp[hj])
  split at h
  ·rename_i n q hq
   rw[hq] at hx;cases hb:get st.box n with
   |none=>simp[hb] at h
   |some cs=>
    simp only[hb,aa] at h;split at h
    case isFalse=>cases h
    rename_i hle;cases h;obtain⟨⟨vs,ty,h1,h2,h3,h4⟩,h5⟩:=R.box n cs hb;generalize Jm:a.eval x=ax at *;cases hx with |ptr hn=>
    have sV:=mS P (p.bx n) q ty vy.cells.toList 0 vs w h1 (by simp;omega) vj;simp only[ov] at sV;have uq:∀i,(vs.toList.take q++vy.cells.toList++vs.toList.drop (q+vy.cells.toList.length))[i]? =if i < q then vs[i]? else if i < q+l.length then vy.cells[i - q]? else vs[i]? :=λi=>by
     rw[ny _ _ (by simp;omega)];simp[g1]
    have R':=R.Ye (cs':=JL cs l q) (vs':=(vs.toList.take q++vy.cells.toList++vs.toList.drop (q+vy.cells.toList.length)).toArray) hb h1 (by simp[JL];omega) (λi c v hc hv=>by
     rw[hD,uq] at hv;rw[Q7 hle] at hc;split at hc
     ·rw[ai ‹_›] at hv;exact h3 i c v hc hv
     ·rw[ah ‹_›] at hv
      split at hc
      ·rw[ai ‹_›] at hv;exact g2 _ c v hc hv
      ·rw[ah ‹_›] at hv;exact h3 i c v hc hv) (λi v hv=>by
     rw[hD,uq] at hv;split at hv
     ·exact h4 i v hv
     ·split at hv
      ·exact g3 _ v hv
      ·exact h4 i v hv)
    refine⟨_,p,.inr ⟨?_,by rw[hd];exact R'⟩⟩;simp only[execOp,ho,Jm,UA,Instr.storeAt,Instr.sureAddr,bk,cV,aU,storeVar,eO gS,g1,ne_eq,mC,cS,mU,sV]
  ·rename_i n z i q hq
   rw[hq] at hx;cases hb:get st.vec n with
   |none=>simp[hb] at h
   |some s=>
    simp only[hb,aa] at h;cases iE:s.rows[i]? with
    |none=>simp[iE] at h
    |some row=>
     simp only[iE,aa] at h;cases IM:uW l with
     |none=>simp[IM] at h
     |some ds=>
      simp only[IM,aa] at h;split at h
      case isFalse=>cases h
      rename_i hh;obtain⟨rfl,hle⟩:=hh;cases h;obtain⟨t1,t2⟩:=vD IM;obtain⟨sJ,hz,yo⟩:=R.vec n s hb;generalize Jm:a.eval x=ax at *;cases hx with |iR hn hv=>
      obtain⟨xs,eC,rD⟩:=sJ.row (sJ.sl hv);rename_i g c len;have zB:row.length=s.z:=hz row (bm iE);have hi:i < s.rows.length:=(aj.1 iE).1;rcases eC.2 with ⟨h0,_⟩ |⟨g',cap,cur,h0,uP,hg,pO,FX,Uz,Uy⟩
      ·rw[hv] at h0;cases h0
      rw[hv] at h0;injection h0 with Ae XG V3
      injection Ae with Ae
      injection Ae with Ae
      subst Ae;subst XG;subst V3;have XE:i * s.z+s.z≤s.rows.length * s.z:=by
       have:(i+1) * s.z≤s.rows.length * s.z:=dy _ hi;rw[dQ] at this;omega
      have acR:s.rows.length * s.z≤c * s.z:=dy _ pO;have VW:i * s.z+q+vy.cells.size≤s.rows.length * s.z:=by omega
      have sV:=mS P g (i * s.z+q) s.e vy.cells.toList 0 cur w hg (by simp;omega) vj;simp only[ov] at sV
      let xs':=xs.take (i * s.z+q)++vy.cells.toList++xs.drop (i * s.z+q+vy.cells.toList.length)
      have N6:xs.length=s.rows.length * s.z:=eC.1;have uq:∀j,xs'[j]? =if j < i * s.z+q then xs[j]? else if j < i * s.z+q+l.length then vy.cells[j - (i * s.z+q)]? else xs[j]? :=λj=>by
       simp only[xs'];rw[ny _ _ (by simp;omega)];simp[g1]
      have Jf:∀r∈s.rows.set i (row.take q++(ds++row.drop (q+ds.length))),r.length=s.z:=λr hr=>by
       rcases List.mem_or_eq_of_mem_set hr with hr |rfl
       ·exact hz r hr
       ·simp;omega
      have nS:(w.setRow g (cur.toList.take (i * s.z+q)++vy.cells.toList++cur.toList.drop (i * s.z+q+vy.cells.toList.length)).toArray).ownsRow 0 s.e s.z (p.rw n) s.rows.length xs':=by
       refine⟨by simp[xs'];omega,.inr ⟨g,c,_,hv,uP,setRow_heap w g cur _ s.e _ hg,pO,FX,by simp;omega,?_⟩⟩;apply eH;intro j;rw[uq,bS,ny _ _ (by simp;omega),←Uy];simp only[kE,g1,bS,bo];by_cases hj:j < s.rows.length * s.z
       ·simp only[hj,eM]
       ·rw[ah hj,ah (by omega),ah (by omega),ah hj]
      have R':=R.Ia (rows':=s.rows.set i (row.take q++(ds++row.drop (q+ds.length)))) (xs':=xs') hb hv (by simp) Jf nS (λj x v hx hv=>by
       rw[uq] at hv
       -- aaH row
       have hj:j < s.rows.length * s.z:=by
        have:=(aj.1 hx).1;rw[ir Jf] at this;simpa using this
       have KE:0 < s.z:=Nat.pos_of_ne_zero (λe=>by rw[e,Nat.mul_zero] at hj;omega);have XA:j=(j / s.z) * s.z+j % s.z:=by rw[kT];exact(Nat.div_add_mod j s.z).symm
       have SV:j % s.z < s.z:=Nat.mod_lt _ KE;have hdv:j / s.z < s.rows.length:=Nat.div_lt_of_lt_mul (by rw[kT];exact hj);by_cases rY:j / s.z=i
       ·have KF:(s.rows.set i (row.take q++(ds++row.drop (q+ds.length))))[i]? =some (row.take q++(ds++row.drop (q+ds.length))):=by simp[hi]
        rw[XA,rY,flat_get Jf KF SV] at hx;rw[rY] at XA;simp only[cX,dV,bS,dc] at hx;by_cases h1:j % s.z < q
        ·rw[ai (by omega),ai h1] at hx
         rw[ai (by omega)] at hv;exact rD j x v (by rw[XA,flat_get hz iE SV];exact hx) hv
        ·rw[ah (by omega)] at hx
         rw[ah (by omega)] at hv;have e1:j % s.z - min q row.length=j % s.z - q:=by omega
         rw[e1] at hx;by_cases h2:j % s.z - q < ds.length
         ·rw[ai h2] at hx
          rw[ai (by omega)] at hv;obtain⟨y',YT,YK⟩:=t2 _ _ hx;exact BL YK (g2 _ y' v YT (by rw[show j % s.z - q=j - (i * s.z+q) by omega];exact hv))
         ·rw[ah h2] at hx
          rw[ah (by omega)] at hv;exact rD j x v (by rw[XA,flat_get hz iE SV,←hx];congr 1;omega) hv
       ·have KF:(s.rows.set i (row.take q++(ds++row.drop (q+ds.length))))[j / s.z]? =some s.rows[j / s.z]:=by
         rw[iF (eN rY)];exact ae hdv
        rw[XA,flat_get Jf KF SV,←flat_get hz (ae hdv) SV,←XA] at hx;have iA:¬(i * s.z≤j∧j < i * s.z+s.z):=λ⟨h1,h2⟩=>rY (by
         apply Nat.div_eq_of_lt_le
         ·exact h1
         ·rw[dQ];omega)
        by_cases h1:j < i * s.z+q
        ·rw[ai h1] at hv;exact rD j x v hx hv
        ·rw[ah h1,ah (by omega)] at hv;exact rD j x v hx hv)
      refine⟨_,p,.inr ⟨?_,by rw[hd];exact R'⟩⟩;simp only[execOp,ho,Jm,UA,Instr.storeAt,Instr.sureAddr,bk,cV,aU,storeVar,eO gS,g1,ne_eq,mC,cS,mU,sV]
  ·cases h
theorem Ps (R:Rel K st a w p) {o:Oper} {t:TypeId} {l c:Operand} (ho:o.op=.makeSlice t l c) {d:Nat} (hd:o.dst=some d) {cM:St} (h:Vw P st d t (ca st l) (ca st c)=some cM):Stepped P K cM o a w:=by
 unfold Vw at h;split at h
 case h_2=>cases h
 rename_i e hu;cases hl:pA (ca st l) with
 |none=>simp[hl] at h
 |some n=>
  cases hc:pA (ca st c) with
  |none=>simp[hl,hc] at h
  |some m=>
   cases hz:fZ P e with
   |none=>simp[hl,hc,hz] at h
   |some zs=>
    cases IM:uW zs with
    |none=>simp[hl,hc,hz,IM] at h
    |some ds=>
     simp only[hl,hc,hz,IM,aa] at h;split at h
     case isFalse=>cases h
     rename_i hh;obtain⟨h0,rfl,hb,rW,Fh,PQ,nW⟩:=hh;cases zx:get st.vec d with
     |some _=>simp[zx] at h
     |none=>
      simp only[zx] at h;cases h;obtain⟨kl,hl'⟩:=pL hl (R.ca l);obtain⟨kc,wP⟩:=pL hc (R.ca c);obtain⟨i,zv,hi,hv,gS,Aw,h1⟩:=nk hz;have BF:zs.length=i.size:=by rw[Aw];simp[gS]
      have Fg:i.bytes≤65536:=by simpa[wV,hi] using Fh
      obtain⟨k,rfl⟩:∃k:Nat,n=(k:Int):=⟨n.toNat,by omega⟩;have hk:k≤268435456:=by omega
      have hmul:i.bytes * k≤65536 * 268435456:=Nat.mul_le_mul Fg hk;have gT:=run_make_full (P:=P) w 0 t e i zv i.size hu hi hv rfl kl kc k (by omega) (by simp only[maxLen];omega) (cE _);obtain⟨w',g1,g2,g3⟩:=gT;obtain⟨t1,t2⟩:=vD IM;have Tg:ds.length=zs.length:=t1;have iE:∀r∈List.replicate k ds,r.length=zs.length:=λr hr=>by rw[(List.mem_replicate.1 hr).2];exact Tg
      have tW:∀(k j:Nat) (x:D),(List.replicate k ds).flatten[j]? =some x→j < k * zs.length∧ds[j % zs.length]? =some x:=λk=>by
       induction k with
       |zero=>intro j x hx;simp at hx
       |succ k ih=>
        intro j x hx;rw[List.replicate_succ,eG,cX] at hx;split at hx
        ·rename_i hj
         rw[Tg] at hj;rw[Nat.mod_eq_of_lt hj,dQ];exact⟨by omega,hx⟩
        ·rename_i hj
         rw[Tg] at hj hx;obtain⟨a1,a2⟩:=ih _ _ hx;rw[dQ];refine⟨by omega,?_⟩;have:j % zs.length=(j - zs.length) % zs.length:=by rw[Nat.mod_eq_sub_mod (by omega)]
         rw[this];exact a2
      have R':=R.B7 (d:=d) (s:=⟨e,zs.length,List.replicate k ds⟩) (pz PQ) zx g3 (cE _) (by rw[uh];show w'.ownsRow 0 e zs.length _ k _;rw[BF];exact g2) iE (λj x u hx hu=>by
       obtain⟨a1,a2⟩:=tW k j x hx;obtain⟨y,oC,DM⟩:=t2 _ _ a2;rw[BF] at a1 oC;rw[bo] at hu;unfold madeCells at hu;rw[Array.getElem?_map,Array.getElem?_range,ai a1] at hu;simp only[cr,ba] at hu;have iN:j % i.size < zv.cells.size:=by rw[gS];exact Nat.mod_lt _ (by omega)
       subst hu;rw[gS,getElem!_pos zv.cells (j % i.size) iN];exact BL DM (BH (p:=p) zv.cells (j % i.size) y _ (by rw[← Aw];exact oC) (bp iN))) (.inr rfl)
      refine⟨w',_,.inl ⟨_,?_,by rw[hd];exact R'.put (RA.qS (Or.inl rfl) (fO _ _ _)) nW⟩⟩;simp[execOp,ho,hl',wP,g1]
theorem M6 (R:Rel K st a w p) {o:Oper} {x y:Operand} {t t':TypeId} (ho:o.op=.call { callee:=.builtin .copy,args:=#[x,y],argTypes:=#[t,t']}) {cM:St}
  (h:cpA P st o.dst t (ca st x) (ca st y)=some cM):Stepped P K cM o a w:=by
 unfold cpA at h;split at h
 case h_2=>cases h
 rename_i e hu;cases hq:Wa st (ca st x) with
 |none=>simp[hq] at h
 |some q=>
  obtain⟨n,lo,k⟩:=q;simp only[hq,aa] at h;cases hs:get st.vec n with
  |none=>simp[hs] at h
  |some s=>
   simp only[hs,aa] at h;cases hy:rowsOf st (ca st y) with
   |none=>simp[hy] at h
   |some ys=>
    simp only[hy,aa] at h;split at h
    ·cases h
    rename_i hM;have hM:s.rC=false:=by simpa using hM
    split at h
    case isFalse=>cases h
    rename_i hh;obtain⟨gS,LF,Y8,Jg⟩:=hh;obtain⟨sJ,hz,yo⟩:=R.vec n s hs;obtain⟨xs,eC,rD⟩:=sJ.row hM;have N6:xs.length=s.rows.length * s.z:=eC.1;obtain⟨b,c,SB,afE⟩:=yM R hy (R.ca y);have acA:∃i,P.info? e=some i∧i.size=s.z:=by
     unfold fh at gS;cases hi:P.info? e with
     |none=>simp[hi] at gS
     |some i=>simp[hi] at gS;exact⟨i,rfl,gS⟩
    obtain⟨ie,xC,hiz⟩:=acA
    -- WI aaO first cells
    have acm:∃(news:List Value),news.length=min k ys.length * s.z∧((loadCells ((b.getD ⟨0,0,none⟩)) (min k ys.length * s.z)).run P w=.ok news.toArray w∨min k ys.length=0)∧(min k ys.length=0∨∃ad,b=some ad)∧
      (∀u∈news,u.oneCell'=true)∧∀(j:Nat) (d:D) (u:Value),ys.flatten[j]? =some d→news[j]? =some u→RD w (dx K w p) d u:=by
     rcases afE with rfl |⟨ad,z',nw,rfl,hl,Jf,eY,vj,afL⟩
     ·exact⟨[],by simp,.inr (by simp),.inl (by simp),λu hu=>by simp at hu,λj d u hd=>by simp at hd⟩
     ·by_cases h0:min k ys.length=0
      ·exact⟨[],by simp[h0],.inr h0,.inl h0,λu hu=>by simp at hu,λj d u hd hu=>by simp at hu⟩
      ·have iA:ys≠[]:=λe=>by subst e;simp at h0
       obtain⟨r,hr⟩:=gP _ iA;have:z'=s.z:=(Jf r hr).symm.trans (Jg r hr);subst this;have hle:min k ys.length * s.z≤ys.length * s.z:=dy _ (Nat.min_le_right _ _);have hlen:(nw.take (min k ys.length * s.z)).length=min k ys.length * s.z:=by simp;omega
       have VR:=run_loadCells_list (P:=P) w ad (nw.take (min k ys.length * s.z)) (λj u hj=>by
        rw[bS] at hj;split at hj
        ·exact eY j u hj
        ·cases hj)
       rw[hlen] at VR;refine⟨nw.take (min k ys.length * s.z),hlen,.inl VR,.inr ⟨ad,rfl⟩,λu hu=>vj u (eT hu),λj d u hd hj=>?_⟩;rw[bS] at hj;split at hj
       ·exact afL j d u hd hj
       ·cases hj
    obtain⟨news,sj,VR,hbb,vj,afU⟩:=acm
    -- where it goes
    have hto:(∃(g len c o:Nat),p.rw n=.slice (some ⟨g,0,none⟩) len c∧a.eval x=.slice (some ⟨g,o,none⟩) k (c - lo)∧(k=0∨o=lo * s.z)∧p.lv n)∨(p.rw n=.slice none 0 0∧a.eval x=.slice none 0 0∧k=0∧p.lv n):=by
     have xn:=R.ca x;generalize ca st x=xx at xn hq;generalize a.eval x=ax at xn ⊢;unfold Wa at hq;split at hq
     ·rename_i n'
      rw[aP] at hq;obtain⟨s',VJ,e1⟩:=hq;cases e1;rw[hs] at VJ;cases VJ;cases xn with |vec hn=>
      rcases eC.2 with ⟨h0,h1⟩ |⟨g,cap,cur,h0,_⟩
      ·exact .inr ⟨h0,by rw[h0],h1,hn⟩
      ·exact .inl ⟨g,_,cap,0,h0,by rw[h0];simp,.inr (by simp),hn⟩
     ·rename_i n' z' lo' k'
      cases VJ:get st.vec n' with
      |none=>simp[VJ] at hq
      |some s'=>
       simp only[VJ,aa] at hq;split at hq
       case isFalse=>cases hq
       rename_i Uk;cases hq;rw[hs] at VJ;cases VJ;subst Uk;cases xn with
       |cut hn hv ho hle=>exact .inl ⟨_,_,_,_,hv,rfl,ho.1,hn⟩
       |oG hn hv=>exact .inr ⟨hv,rfl,rfl,hn⟩
     ·cases hq
    have hm1:min k ys.length≤k:=Nat.min_le_left _ _;have hm2:min k ys.length≤ys.length:=Nat.min_le_right _ _;have finish:∀{w':World},(Builtin.copy_ #[t,t'] o.type #[a.eval x,a.eval y]).run P w=.ok (goInt ((min k ys.length:Nat):Int)) w'→
      Rel K { st with vec:=(n,{ s with rows:=s.rows.take lo++(ys.take (min k ys.length)++s.rows.drop (lo+min k ys.length))})::st.vec } a w' p→Stepped P K cM o a w:=λ{w'} gT R'=>by
     refine⟨w',p,.inl ⟨goInt ((min k ys.length:Nat):Int),by simp[execOp,ho,resolve,invoke,builtin,gT],?_⟩⟩;cases acN:o.dst with
     |none=>simp only[acN] at h;cases h;exact R'
     |some d=>
      simp only[acN] at h;split at h
      case isFalse=>cases h
      rename_i nW;cases h;exact R'.put (.d .int) nW
    have Jf:∀r∈s.rows.take lo++(ys.take (min k ys.length)++s.rows.drop (lo+min k ys.length)),r.length=s.z:=λr hr=>by
     rcases aQ.1 hr with hr |hr
     ·exact hz r (eT hr)
     ·rcases aQ.1 hr with hr |hr
      ·exact Jg r (eT hr)
      ·exact hz r (mE hr)
    rcases hto with ⟨g,len,c',o',A',Jm,Bb,hn⟩ |⟨A',Jm,rfl,hn⟩
    ·rw[A'] at eC
     rcases eC.2 with ⟨h0,_⟩ |⟨g',cap,cur,h0,uP,hg,pO,FX,Uz,Uy⟩
     ·cases h0
     injection h0 with Ae XG V3
     injection Ae with Ae
     injection Ae with Ae
     subst Ae;subst XG;subst V3;have acr:(lo+k) * s.z≤s.rows.length * s.z:=dy _ Y8;rw[dQ] at acr;have aih:min k ys.length * s.z≤k * s.z:=dy _ hm1;have acR:s.rows.length * s.z≤c' * s.z:=dy _ pO;by_cases SZ:min k ys.length=0
     ·have yn:s.rows.take lo++(ys.take (min k ys.length)++s.rows.drop (lo+min k ys.length))=s.rows:=by rw[SZ];simp
      rw[yn] at finish;refine finish (w':=w) ?_ ?_
      ·rw[Jm,SB,SZ]
       have SY:Nat.min ys.length k=0:=(Nat.min_comm ys.length k).trans SZ;cases b with
       |none=>simp[Builtin.copy_,aJ hu,Builtin.lenOf,sizeOf,typeInfo,xC,SY,Builtin.firstCells,storeCells]
       |some ad=>simp[Builtin.copy_,aJ hu,Builtin.lenOf,sizeOf,typeInfo,xC,SY,Builtin.firstCells,storeCells,loadCells,loadCellsFrom]
      ·exact R.ac7 (λ_=>rfl) (λ_=>rfl) (Ol hs)
     ·obtain⟨ad,rfl⟩:=hbb.resolve_left SZ
      have VR:=VR.resolve_right SZ;have hk0:k≠0:=by omega
      have Bb:=Bb.resolve_left hk0;subst Bb;have sV:=mS P g (lo * s.z) s.e news 0 cur w hg (by omega) vj;simp only[ov] at sV;have Cg:Nat.min ys.length k=min k ys.length:=Nat.min_comm ys.length k
      let xs':=xs.take (lo * s.z)++news++xs.drop (lo * s.z+news.length)
      have tW:(s.rows.take lo++(ys.take (min k ys.length)++s.rows.drop (lo+min k ys.length))).flatten=s.rows.flatten.take (lo * s.z)++(ys.flatten.take (min k ys.length * s.z)++s.rows.flatten.drop ((lo+min k ys.length) * s.z)):=by
       rw[kC,kC,vT hz,vT Jg,Co hz]
      have hsf:s.rows.flatten.length=s.rows.length * s.z:=ir hz;have hyf:ys.flatten.length=ys.length * s.z:=ir Jg;have aif:min k ys.length * s.z≤ys.length * s.z:=dy _ hm2;refine finish (w':=w.setRow g (cur.toList.take (lo * s.z)++news++cur.toList.drop (lo * s.z+news.length)).toArray) ?_ (R.Ia (xs':=xs') hs A' ?_ Jf ?_ ?_)
      ·rw[Jm,SB]
       simp only[cg] at VR;simp only[Builtin.copy_,aJ hu,Builtin.lenOf,sizeOf,typeInfo,xC,hiz,Cg,Builtin.firstCells,bk,cV,aU,hD,aS,aV,VR,sV,run_program]
      ·simp only[bF,dV,uw];omega
      ·refine⟨?_,.inr ⟨g,c',_,A',uP,setRow_heap w g cur _ s.e _ hg,pO,FX,?_,?_⟩⟩
       ·simp only[xs',bF,dV,uw];omega
       ·simp;omega
       ·simp only[xs']
        apply eH;intro j;rw[bS,ny _ _ (by simp;omega),ny _ _ (by omega),←Uy];simp only[bS];by_cases hj:j < s.rows.length * s.z
        ·simp[hj]
        ·have h1:¬j < lo * s.z:=by omega
         have h2:¬j < lo * s.z+news.length:=by omega
         simp[hj,h1,h2]
      ·intro j d u Oi hu
       rw[tW] at Oi;simp only[xs'] at hu;rw[ny _ _ (by omega)] at hu;rw[cX,dV,oI (by omega)] at Oi;split at Oi
       ·rename_i hj
        rw[ai hj] at hu;rw[bS,ai hj] at Oi;exact rD j d u Oi hu
       ·rename_i hj
        rw[ah hj] at hu;rw[cX,dV,oI (by omega)] at Oi;split at Oi
        ·rename_i IL
         rw[ai (by omega)] at hu;rw[bS,ai IL] at Oi;exact afU _ d u Oi hu
        ·rename_i IL
         rw[ah (by omega)] at hu;rw[dc,dQ] at Oi;have e1:lo * s.z+min k ys.length * s.z+(j - lo * s.z - min k ys.length * s.z)=j:=by omega
         rw[e1] at Oi;exact rD j d u Oi hu
    ·have SZ:min 0 ys.length=0:=by simp
     have yn:s.rows.take lo++(ys.take (min 0 ys.length)++s.rows.drop (lo+min 0 ys.length))=s.rows:=by rw[SZ];simp
     rw[yn] at finish;refine finish (w':=w) ?_ ?_
     ·rw[Jm,SB]
      have SY:Nat.min ys.length 0=0:=Nat.min_zero _;cases b with
      |none=>simp[Builtin.copy_,aJ hu,Builtin.lenOf,sizeOf,typeInfo,xC,SY,Builtin.firstCells,storeCells]
      |some ad=>simp[Builtin.copy_,aJ hu,Builtin.lenOf,sizeOf,typeInfo,xC,SY,Builtin.firstCells,storeCells,loadCells,loadCellsFrom]
     ·exact R.ac7 (λ_=>rfl) (λ_=>rfl) (Ol hs)
end
end Go.Vl
