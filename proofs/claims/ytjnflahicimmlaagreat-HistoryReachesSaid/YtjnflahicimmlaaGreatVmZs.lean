/- The value logic: slices.SortFunc at an owned row of structs of plain cells, put in order. Conditions: none. -/
import Derived.Test.YtjnflahicimmlaaGreatVmZr
import Derived.Shelf.SlSortCmp.NoneTotal
set_option linter.unusedSimpArgs false
set_option linter.unusedVariables false
namespace Go.Vl
open Go Go.RowKit Go.Sort Go.Proofs Go.Shelf
section
variable {P:Program} {ρ:Ren} {e k g:Nat} {T:Type} {row:T→List D}
theorem glob_grown {w:World} {blk:Nat} {d:Array Value} {m:Nat} {os:Array Obj} (h:∃ok:Nat→Prop,GlobAt P w ok∧¬ok blk∧∀b,ok b→b < w.heap.size):
  ∃ok:Nat→Prop,GlobAt P (grow (putRow id (Sort.ahead w m) blk 0 d) os) ok∧∀b,ok b→b < (grow (putRow id (Sort.ahead w m) blk 0 d) os).heap.size:=by
 obtain⟨ok,h1,h2,h3⟩:=h
 obtain⟨_,_,_,g4,g5⟩:=grownBy_id (w:=w) (g:=blk) (n:=m) (os:=os) d
 refine⟨ok,fun b i x hx=>?_,fun b hb=>Nat.lt_of_lt_of_le (h3 b hb) g4⟩
 obtain⟨k1,k2,k3⟩:=h1 b i x hx
 refine⟨k1,?_,?_⟩
 ·rw[← k2]
  exact World.cell?_of_block (g5 b (h3 b k1) fun e=>h2 (Option.some.inj e▸k1))
 ·rw[← k3]
  exact World.cell?_of_block (g5 b (h3 b k1) fun e=>h2 (Option.some.inj e▸k1))
def CmpAt (P:Program) (g:Nat) (row:T→List D) (cf:T→T→Int) (x y:T):Prop:=
 ∀W:World,(∃ok:Nat→Prop,GlobAt P W ok∧∀b,ok b→b < W.heap.size)→Calls P g #[.agg ((row x).map dval).toArray,.agg ((row y).map dval).toArray] W fun e w'=>e=.returned (.int .i64 (cf x y))∧∃q os',w'=grow (W.drewN q) os'
theorem merge_val {l:List T} (le:T→T→Bool):((l.attach).mergeSort fun x y=>le x.1 y.1).map (·.1)=l.mergeSort le:=by
 have h:=List.map_mergeSort (r:=fun x y:{x // x∈l}=>le x.1 y.1) (s:=le) (f:=fun x:{x // x∈l}=>x.1) (l:=l.attach) (fun _ _ _ _=>rfl)
 rw[List.attach_map_subtype_val] at h
 exact h
theorem sortF_row (L:SlLaysF0.n6 P ρ) (aE:∀w,(isAgg (ρ.t 24)).run P w=.ok true w) (zE:∀w,(Go.sizeOf (ρ.t 24)).run P w=.ok k w) (hp:∀x,∀d∈row x,plainD d=true) (hk:∀x,(row x).length=k)
  (cf:T→T→Int) (l:List T) (hO:SWO (ltOf fun x y:{x // x∈l}=>cf x.1 y.1)) (hT:∀x∈l,∀y∈l,¬cf x y < 0→¬cf y x < 0→x=y)
  (eg:∀args w,(callFunc g args).run P w=.ok (.enter g args) w) (hcmp:∀x∈l,∀y∈l,CmpAt P g row cf x y) (hlen:l.length≤268435456) (he:e < 1000000:=by decide):
  FnOKh P (ρ.f 6) [] [⟨e,k,rowsF row l⟩] [.vec (InV 0),.fn g []] (.tup []) [] [⟨e,k,rowsF row (l.mergeSort fun x y=>!decide (cf y x < 0))⟩]:=by
 have hN:∀(p:Option Addr) (cap:Nat) (w:World),Calls P (ρ.f 6) (#[.slice p 0 cap]++[Value.func (.func g) #[] #[]].toArray) w fun en w'=>en=.returned (.tuple #[])∧w'=w:=fun p cap w=>AnyF.slices_SortFunc_none L p cap _ w
 cases hl:l with
 |nil=>
  have:Inhabited Unit:=⟨()⟩
  have hrow0:∀x:Unit,((fun _:Unit=>List.replicate k (D.bool true)) x).length=k:=fun _=>by simp
  have:=turn_row (P:=P) (f:=ρ.f 6) (e:=e) (k:=k) (row:=fun _:Unit=>List.replicate k (D.bool true)) (fun l=>l) (fun _=>rfl) (fun _ d hd=>by rw[List.eq_of_mem_replicate hd];rfl) hrow0 [.fn g []] [Value.func (.func g) #[] #[]] (more_fn g) [] (fun g' cap w _ hH hb=>by
   refine(hN _ cap w).mono fun en w' ⟨h1,h2⟩=>⟨h1,0,#[],?_⟩
   rw[h2,grow_empty]
   show w=putRow id (Sort.ahead w 0) g' 0 (flatK (encR fun _:Unit=>List.replicate k (D.bool true)) k ([]:List Unit).toArray)
   have hz:flatK (encR fun _:Unit=>List.replicate k (D.bool true)) k ([]:List Unit).toArray= #[]:=Array.eq_empty_of_size_eq_zero (by simp)
   rw[hz]
   exact(putRow_self id w g' 0 #[] (fun j hj=>by simp at hj)).symm) hN he
  simpa[rowsF] using this
 |cons x0 l0=>
  rw[← hl]
  have:Inhabited {x // x∈l}:=⟨⟨x0,by rw[hl];simp⟩⟩
  have hrow:rowsF row l=rowsF (fun x:{x // x∈l}=>row x.1) l.attach:=by
   unfold rowsF
   rw[show (fun x:{x // x∈l}=>row x.1)=row∘(fun x:{x // x∈l}=>x.1) from rfl,←List.map_map,List.attach_map_subtype_val]
  have hrow2:rowsF row (l.mergeSort fun x y=>!decide (cf y x < 0))=rowsF (fun x:{x // x∈l}=>row x.1) (l.attach.mergeSort fun x y=>!(ltOf fun x y:{x // x∈l}=>cf x.1 y.1) y x):=by
   have:=merge_val (l:=l) (fun x y=>!decide (cf y x < 0))
   unfold rowsF
   rw[show (fun x:{x // x∈l}=>row x.1)=row∘(fun x:{x // x∈l}=>x.1) from rfl,←List.map_map,←this]
   rfl
  rw[hrow,hrow2]
  refine turn_row (P:=P) (f:=ρ.f 6) (e:=e) (k:=k) (row:=fun x:{x // x∈l}=>row x.1) (fun m=>m.mergeSort fun x y=>!(ltOf fun x y:{x // x∈l}=>cf x.1 y.1) y x) (fun m=>List.length_mergeSort _) (fun x=>hp x.1) (fun x=>hk x.1) [.fn g []] [Value.func (.func g) #[] #[]] (more_fn g) l.attach (fun g' cap w hG hH hb=>?_) hN he
  have hsz:l.attach.toArray.size < 4611686018427387904:=by simp;omega
  refine(AnyQ.slices_SortFunc_total L k aE zE (encR fun x:{x // x∈l}=>row x.1) (encR_len fun x=>hk x.1) (encR_one fun x=>hp x.1) (fun x y:{x // x∈l}=>cf x.1 y.1) hO g #[] g' 0 cap l.attach.toArray w eg (fun m os dk hs x y=>hcmp x.1 x.2 y.1 y.2 _ (glob_grown hG)) hH hb hsz (fun x y h1 h2=>Subtype.ext (hT x.1 x.2 y.1 y.2 (by simpa[ltOf] using h1) (by simpa[ltOf] using h2)))).mono fun en w' ⟨h1,n,os,h2⟩=>⟨h1,n,os,h2⟩
end
end Go.Vl
