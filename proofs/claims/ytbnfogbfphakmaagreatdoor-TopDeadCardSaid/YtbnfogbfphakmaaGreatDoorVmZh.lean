/- The value logic: the package-level variables of a program at the world of a row. Conditions: none. -/
import Derived.Test.YtbnfogbfphakmaaGreatDoorVmY
set_option linter.unusedSimpArgs false
set_option linter.unusedVariables false
namespace Go.Vl
open Go
def Jn (P:Program) (g:Nat):Bool:=P.globals.toList.zipIdx.all fun q=>q.2==g||(q.1.name != "leakresponse/notice.deadlines" &&q.1.name != "leakresponse/severity.levels" &&q.1.name != "internal/strconv.none")
theorem Mj {P:Program} {g:Nat} (h:Jn P g=true) {b:Nat} (hb:b≠g):E1 P b=[]:=by
 unfold E1 N5
 split
 ·rename_i q hq
  have hm:(q,b)∈P.globals.toList.zipIdx:=by
   rw[List.mem_zipIdx_iff_getElem?,Array.getElem?_toList];exact hq
  have:=List.all_eq_true.1 h _ hm
  simp only[Bool.or_eq_true,beq_iff_eq,Bool.and_eq_true,bne_iff_ne,ne_eq] at this
  rcases this with h1 |⟨⟨h1,h2⟩,h3⟩
  ·exact absurd h1 hb
  ·rw[if_neg h1,if_neg h2,if_neg h3]
 ·rfl
theorem Ns {P:Program} {g:Nat} {zs:List Int} {W:World} (h:Jn P g=true) (hz:E1 P g=zs) (hc:∀(i:Nat) (x:Int),zs[i]? =some x→W.cell? ⟨g,i,none⟩=some (.int (P4 P g) x)) (he:zs≠[]→W.cell? ⟨g,zs.length,none⟩=none):DX P W (· < W.heap.size):=fun b i x hx=>by
 by_cases hb:b=g
 ·subst hb
  rw[hz] at hx
  have:=hc i x hx
  refine⟨?_,this,by rw[hz];exact he (by rintro rfl;simp at hx)⟩
  unfold World.cell? at this
  split at this
  ·rename_i h1;exact(Array.getElem?_eq_some_iff.1 h1).1
  ·cases this
 ·rw[Mj h hb] at hx;simp at hx
theorem DX.grown {P:Program} {w W:World} {ok:Nat→Prop} (h:DX P w ok) (hok:∀k,ok k→k < w.heap.size) (hs:w.heap.size≤W.heap.size) (hb:∀k,k < w.heap.size→W.heap[k]? =w.heap[k]?):DX P W (· < W.heap.size):=fun b i x hx=>by
 obtain⟨h1,h2,h3⟩:=h b i x hx
 have hlt:=hok b h1
 refine⟨Nat.lt_of_lt_of_le hlt hs,?_,?_⟩
 ·rw[← h2];exact World.cell?_of_block (hb b hlt)
 ·rw[← h3];exact World.cell?_of_block (hb b hlt)
theorem ID {P:Program} {W:World} (h:Jn P P.globals.size=true):DX P W (· < W.heap.size):=
 Ns (zs:=[]) h (by unfold E1 N5;rw[Array.getElem?_eq_none (Nat.le_refl _)]) (fun i x hx=>by simp at hx) (fun h=>absurd rfl h)
end Go.Vl
