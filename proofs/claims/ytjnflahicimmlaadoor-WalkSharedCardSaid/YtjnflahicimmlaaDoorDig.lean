/- Contracts of library functions, laid for this translation. Conditions: none. -/
import Derived.Shelf.Small.Bits
import Derived.Shelf.Small.Wraps
import Derived.Shelf.Strconv.Itoa0
import Derived.Shelf.Strconv.Itoa1
import Derived.Shelf.LaysM
import Derived.Shelf.Strconv.Itoa2
import Derived.Shelf.Strconv.Itoa3
import Derived.Shelf.Slices.Turned
import Derived.Shelf.Slices.Clone
import Derived.Shelf.Slices.SearchI
import Derived.Shelf.SlicesE.Clone
import Derived.Test.YtjnflahicimmlaaDoorProg
import Derived.Test.YtjnflahicimmlaaDoorTyD
import Derived.Test.YtjnflahicimmlaaDoorVmZh
import Derived.Test.YtjnflahicimmlaaDoorVmZb
import Derived.Lib.LaidTab
set_option linter.unusedSimpArgs false
set_option linter.unusedVariables false
namespace Go.Proofs
open Go.Shelf
def Tryd.laysM171_ren : Go.Shelf.Ren := ⟨fun | 171 => 34 | 243 => 51 | 246 => 60 | 283 => 72 | 284 => 73 | 285 => 74 | 286 => 75 | 129 => 70 | 317 => 82 | 318 => 83 | 319 => 84 | 320 => 85 | 337 => 87 | 338 => 88 | n => n, fun | 3 => 3 | 9 => 9 | 2 => 2 | 4 => 4 | 171 => 110 | 0 => 0 | 53 => 108 | 37 => 22 | 5 => 5 | 173 => 112 | 212 => 122 | 51 => 106 | 20 => 20 | 213 => 123 | 46 => 36 | 232 => 127 | 233 => 128 | n => n, fun | 17 => 0 | 18 => 1 | 19 => 2 | n => n⟩
theorem Tryd.laysM171 : Go.Proofs.LaysM.n171 Tryd.prog Tryd.laysM171_ren := {
  mixed := by kernel_rfl
  f129 := Tryd.func70.trans (congrArg some (by kernel_rfl))
  f171 := Tryd.func34.trans (congrArg some (by kernel_rfl))
  f243 := Tryd.func51.trans (congrArg some (by kernel_rfl))
  f246 := Tryd.func60.trans (congrArg some (by kernel_rfl))
  f283 := Tryd.func72.trans (congrArg some (by kernel_rfl))
  f284 := Tryd.func73.trans (congrArg some (by kernel_rfl))
  f285 := Tryd.func74.trans (congrArg some (by kernel_rfl))
  f286 := Tryd.func75.trans (congrArg some (by kernel_rfl))
  f317 := Tryd.func82.trans (congrArg some (by kernel_rfl))
  f318 := Tryd.func83.trans (congrArg some (by kernel_rfl))
  f319 := Tryd.func84.trans (congrArg some (by kernel_rfl))
  f320 := Tryd.func85.trans (congrArg some (by kernel_rfl))
  f337 := Tryd.func87.trans (congrArg some (by kernel_rfl))
  f338 := Tryd.func88.trans (congrArg some (by kernel_rfl))
  t0 := Tryd.underlying0
  a0 := Tryd.isAgg0
  z0 := Tryd.sizeOf0
  v0 := Tryd.zeroValue0
  t2 := Tryd.underlying2
  a2 := Tryd.isAgg2
  z2 := Tryd.sizeOf2
  v2 := Tryd.zeroValue2
  t3 := Tryd.underlying3
  a3 := Tryd.isAgg3
  z3 := Tryd.sizeOf3
  v3 := Tryd.zeroValue3
  t4 := Tryd.underlying4
  a4 := Tryd.isAgg4
  z4 := Tryd.sizeOf4
  v4 := Tryd.zeroValue4
  t5 := Tryd.underlying5
  a5 := Tryd.isAgg5
  z5 := Tryd.sizeOf5
  v5 := Tryd.zeroValue5
  t9 := Tryd.underlying9
  a9 := Tryd.isAgg9
  z9 := Tryd.sizeOf9
  v9 := Tryd.zeroValue9
  t20 := Tryd.underlying20
  a20 := Tryd.isAgg20
  z20 := Tryd.sizeOf20
  v20 := Tryd.zeroValue20
  t37 := Tryd.underlying22
  a37 := Tryd.isAgg22
  z37 := Tryd.sizeOf22
  v37 := Tryd.zeroValue22
  t46 := Tryd.underlying36
  a46 := Tryd.isAgg36
  z46 := Tryd.sizeOf36
  v46 := Tryd.zeroValue36
  t51 := Tryd.underlying106
  a51 := Tryd.isAgg106
  z51 := Tryd.sizeOf106
  v51 := Tryd.zeroValue106
  t53 := Tryd.underlying108
  a53 := Tryd.isAgg108
  z53 := Tryd.sizeOf108
  v53 := Tryd.zeroValue108
  t171 := Tryd.underlying110
  a171 := Tryd.isAgg110
  z171 := Tryd.sizeOf110
  v171 := Tryd.zeroValue110
  t173 := Tryd.underlying112
  a173 := Tryd.isAgg112
  z173 := Tryd.sizeOf112
  v173 := Tryd.zeroValue112
  t212 := Tryd.underlying122
  a212 := Tryd.isAgg122
  z212 := Tryd.sizeOf122
  v212 := Tryd.zeroValue122
  t213 := Tryd.underlying123
  a213 := Tryd.isAgg123
  z213 := Tryd.sizeOf123
  t232 := Tryd.underlying127
  a232 := Tryd.isAgg127
  z232 := Tryd.sizeOf127
  v232 := Tryd.zeroValue127
  t233 := Tryd.underlying128
  a233 := Tryd.isAgg128
  z233 := Tryd.sizeOf128
  v233 := Tryd.zeroValue128
  g17 := by kernel_rfl
  g18 := by kernel_rfl
  g19 := by kernel_rfl
  i0 := by kernel_rfl
  i2 := by kernel_rfl
  i3 := by kernel_rfl
  i4 := by kernel_rfl
  i5 := by kernel_rfl
  i9 := by kernel_rfl
  i20 := by kernel_rfl
  i37 := by kernel_rfl
  i46 := by kernel_rfl
  i51 := by kernel_rfl
  i53 := by kernel_rfl
  i171 := by kernel_rfl
  i173 := by kernel_rfl
  i212 := by kernel_rfl
  i232 := by kernel_rfl
  i233 := by kernel_rfl
  m17 := by kernel_rfl
  m18 := by kernel_rfl
  m19 := by kernel_rfl }
open Go.RowKit Go.Sort Go.Lib in
/-- strconv.Itoa: "Itoa is equivalent to FormatInt(int64(i), 10).": i's DECIMAL NUMERAL ('Lib.itoa': a '-' where i is negative, then the digits), FOR EVERY int. The world behind the call: the world before it, new blocks behind the heap (the library's 'var a [24]byte'), draws. (LAID: no walk: one application.) -/
theorem Tryd.strconv_Itoa (n : Int) (h0 : -9223372036854775808 ≤ n) (h1 : n ≤ 9223372036854775807) (w : World) (htab : Lib.TabIs Tryd.prog w "internal/strconv.uint64pow10" .u64 Lib.pow10Tab) :
    Calls Tryd.prog 34 #[.int .i64 n] w fun e w' => e = .returned (.string ⟨(Lib.itoa n).toArray⟩) ∧ ∃ k os, w' = grow (w.drewN k) os := Any.strconv_Itoa Tryd.laysM171 n h0 h1 w htab
end Go.Proofs

namespace Go.Vl
open Go Go.Proofs Go.RowKit Go.Sort
theorem glob_tab {w : World} {ok : Nat → Prop} (h : GlobAt Tryd.prog w ok) : Lib.TabIs Tryd.prog w "internal/strconv.uint64pow10" .u64 Lib.pow10Tab := by
  have hg : Tryd.prog.globalNamed "internal/strconv.uint64pow10" = some 0 := by kernel_rfl
  have ho : globOf Tryd.prog 0 = Lib.pow10Tab := by kernel_rfl
  have hk : globK Tryd.prog 0 = .u64 := by kernel_rfl
  have hl : (Lib.pow10Tab).length = 20 := by kernel_rfl
  have h0 := h 0 0 1 (by rw [ho]; rfl)
  unfold Lib.TabIs World.var?
  rw [hg]
  simp only [Option.bind_some]
  have hc : ∀ (i : Nat) (x : Int), Lib.pow10Tab[i]? = some x → w.cell? ⟨0, i, none⟩ = some (.int .u64 x) := fun i x hx => by
    have := (h 0 i x (by rw [ho]; exact hx)).2.1
    rw [hk] at this; exact this
  have he : w.cell? ⟨0, 20, none⟩ = none := by
    have := h0.2.2
    rw [ho, hl] at this; exact this
  have h00 := hc 0 1 rfl
  unfold World.cell? at hc he h00
  cases hb : w.heap[0]? with
  | none => simp [hb] at h00
  | some o =>
    cases o with
    | cells cs t fz =>
      simp only [hb] at hc he h00 ⊢
      congr 1
      refine Array.ext_getElem? fun i => ?_
      simp only [List.getElem?_toArray, List.getElem?_map]
      cases hx : Lib.pow10Tab[i]? with
      | some x =>
        have := hc i x hx
        simpa using this
      | none =>
        have h20 : 20 ≤ i := by rw [List.getElem?_eq_none_iff, hl] at hx; exact hx
        have hs : cs.size ≤ 20 := by
          have : cs[20]? = none := by simpa using he
          exact Array.getElem?_eq_none_iff.1 this
        simp only [Option.map_none]
        exact Array.getElem?_eq_none (by omega)
    | _ => simp [hb] at h00
/-- a number in decimal -/
def decS (n : Int) : ByteArray := ⟨(Lib.itoa n).toArray⟩
noncomputable def strconv_Itoa (a0 : Int) : Option ByteArray := (ck (-9223372036854775808 ≤ a0 ∧ a0 ≤ 9223372036854775807)).bind fun _ => some (decS a0)
theorem strconv_Itoa_ok {a0 : Int} {r : ByteArray} (h0 : strconv_Itoa a0 = some r) : FnOK Tryd.prog 34 [] [.d (.int .i64 a0)] (.d (.str r)) [] := by
  unfold strconv_Itoa at h0
  obtain ⟨_, h1, h0⟩ := bnd h0
  obtain ⟨h1, h2⟩ := ck_some h1
  cases h0
  intro w ok io iv vs hpre hvs hargs hgl
  have hio : io = [] := List.eq_nil_of_length_eq_zero (by simpa using hpre.len)
  have hiv : iv = [] := List.eq_nil_of_length_eq_zero (by simpa using hpre.lenv)
  subst hio; subst hiv
  have hs1 : vs.size = 1 := by simpa using hvs
  have hv0 : vs[0]? = some vs[0] := Array.getElem?_eq_getElem (by omega)
  have hra := hargs 0 _ _ rfl hv0
  have hvs2 : vs = #[vs[0]] := by
    refine Array.ext (by simp [hs1]) fun i h1 h2 => ?_
    have : i = 0 := by simp at h2; omega
    subst this; rfl
  generalize vs[0] = v0 at hra hvs2
  cases hra with
  | d hrd =>
    cases hrd with
    | int =>
      rw [hvs2]
      refine (Tryd.strconv_Itoa a0 h1 h2 w (glob_tab hgl)).mono fun e w' ⟨he, k, os, hw⟩ => ?_
      have hh : w'.heap = w.heap ++ os := by rw [hw]; simp [grow, World.drewN]
      have hsz : w.heap.size ≤ w'.heap.size := by rw [hh]; simp
      refine ⟨_, [], he, .d .str, ⟨rfl, List.nodup_nil, fun b hb => ⟨hb.2.1, by simp, fun v hv => by simp at hv⟩, fun i b cs hi => by simp at hi, rfl, fun i v s hi => by simp at hi, fun i j v u hi => by simp at hi, fun v hv => by simp at hv⟩, fun u hu => by simp at hu, ⟨hsz, ?_, ?_, Nat.le_refl _, ?_, fun b hb _ _ => ?_⟩⟩
      · rw [hw]; simp [grow, World.drewN]
      · rw [hw]; simp [grow, World.drewN]
      · rw [hw]; simp [grow, World.drewN]
      · rw [hh, Array.getElem?_append_left hb]
end Go.Vl
