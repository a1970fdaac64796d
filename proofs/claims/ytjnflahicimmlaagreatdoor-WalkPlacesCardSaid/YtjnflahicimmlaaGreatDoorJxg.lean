/- walk.index in plain words: what slices.DeleteFunc leaves, and which entries are dead. Conditions: none. -/
import Derived.Test.YtjnflahicimmlaaGreatDoorJAx
import Derived.Test.YtjnflahicimmlaaGreatDoorPlG
import Derived.Test.YtjnflahicimmlaaGreatDoorVmFr
import Derived.Test.YtjnflahicimmlaaGreatDoorVmCc
import Derived.Test.YtjnflahicimmlaaGreatDoorTyJ
import Derived.Test.YtjnflahicimmlaaGreatDoorJq
import Derived.Test.YtjnflahicimmlaaGreatDoorVmLz
set_option linter.unusedSimpArgs false
set_option linter.unusedVariables false
namespace Go.Vl
open Go
def dropB (M : List (Int × api_Object)) (x : api_Item) : Bool := ((((mget inE M x.ID).getD (⟨0, 0, [], [], 0, [], ByteArray.empty, 0⟩ : api_Object)).Kind) == 2) && (((((mget inE M x.ID).getD (⟨0, 0, [], [], 0, [], ByteArray.empty, 0⟩ : api_Object)).Items).length : Int) == 0)
theorem cro_drop (x : api_Item) (M : List (Int × api_Object)) : walk_index_1_cro x M = some (dropB M x) := rfl
theorem indexF (l : List api_Item) (hl : l.length ≤ 268435456) (M : List (Int × api_Object)) : (slices_IndexFunc_api_Item_at_walk_index_1_ro l M = some (-1) ∧ ∀ x ∈ l, dropB M x = false) ∨
   ∃ i : Nat, i < l.length ∧ slices_IndexFunc_api_Item_at_walk_index_1_ro l M = some (i : Int) ∧ (∀ x ∈ l.take i, dropB M x = false) ∧ ∃ x, l[i]? = some x ∧ dropB M x = true := by
 obtain ⟨e, he, hR⟩ := iter_ex (body := slices_IndexFunc_api_Item_at_walk_index_1_ro_l0 l M) (fun s : Int => ∃ i : Nat, s = (i : Int) ∧ i ≤ l.length ∧ ∀ x ∈ l.take i, dropB M x = false) (fun s => l.length - s.toNat)
   (fun e : Unit ⊕ Int => (e = .inl () ∧ ∀ x ∈ l, dropB M x = false) ∨ ∃ i : Nat, e = .inr (i : Int) ∧ i < l.length ∧ (∀ x ∈ l.take i, dropB M x = false) ∧ ∃ x, l[i]? = some x ∧ dropB M x = true)
   (fun s ⟨i, hs, hi, hd⟩ => by
     subst hs
     unfold slices_IndexFunc_api_Item_at_walk_index_1_ro_l0
     by_cases h : i < l.length
     · rw [if_pos (by simpa using h), idx_lt h]
       simp only [Option.bind_some, cro_drop]
       cases hx : dropB M l[i] with
       | true => exact .inr ⟨_, if_pos rfl, .inr ⟨i, rfl, h, hd, l[i], List.getElem?_eq_getElem h, hx⟩⟩
       | false =>
         refine .inl ⟨((i + 1 : Nat) : Int), by rw [if_neg (by decide), w64 (by omega) (by omega)]; rfl, ⟨i + 1, rfl, h, fun x hx' => ?_⟩, by simp; omega⟩
         rw [List.take_succ_eq_append_getElem h] at hx'
         rcases List.mem_append.1 hx' with hx' | hx'
         · exact hd x hx'
         · rw [List.mem_singleton] at hx'; subst hx'; exact hx
     · rw [if_neg (by simpa using h)]
       refine .inr ⟨_, rfl, .inl ⟨rfl, ?_⟩⟩
       have : i = l.length := by omega
       subst this
       rwa [List.take_length] at hd) (s := 0) ⟨0, rfl, by omega, by simp⟩
 unfold slices_IndexFunc_api_Item_at_walk_index_1_ro
 rw [he]
 rcases hR with ⟨rfl, h⟩ | ⟨i, rfl, h1, h2, h3⟩
 · exact .inl ⟨rfl, h⟩
 · exact .inr ⟨i, h1, rfl, h2, h3⟩
theorem delF_eq (l : List api_Item) (hl : l.length ≤ 268435456) (M : List (Int × api_Object)) : slices_DeleteFunc_api_Item_eat0_at_walk_index_1_ro_own0 l M = some (l.filter fun x => !dropB M x) := by
 unfold slices_DeleteFunc_api_Item_eat0_at_walk_index_1_ro_own0
 rcases indexF l hl M with ⟨h1, h2⟩ | ⟨i, hi, h1, h2, x, h3, h4⟩
 · rw [h1]
   simp only [Option.bind_some]
   rw [if_pos (by decide), List.filter_eq_self.2 fun x hx => by rw [h2 x hx]; rfl]
 · rw [h1]
   simp only [Option.bind_some]
   rw [if_neg (by simp)]
   have hfi : ∀ (l : List api_Item) (j : Nat) (h : j < l.length), (l.take (j + 1)).filter (fun x => !dropB M x) = (l.take j).filter (fun x => !dropB M x) ++ if dropB M l[j] = true then [] else [l[j]] := fun l j h => by
     rw [List.take_succ_eq_append_getElem h, List.filter_append]
     congr 1
     cases hx : dropB M l[j] <;> simp [hx]
   obtain ⟨e, he, hR⟩ := iter_ex (body := slices_DeleteFunc_api_Item_eat0_at_walk_index_1_ro_own0_l0 M)
     (fun s : Int × Int × List api_Item => ∃ a b : Nat, s.1 = (a : Int) ∧ s.2.1 = (b : Int) ∧ a < b ∧ b ≤ l.length ∧ s.2.2.length = l.length ∧ s.2.2.drop b = l.drop b ∧ s.2.2.take a = (l.take b).filter fun x => !dropB M x)
     (fun s => l.length - s.2.1.toNat) (fun e : Int × List api_Item => ∃ a : Nat, e.1 = (a : Int) ∧ a < l.length ∧ e.2.length = l.length ∧ e.2.take a = l.filter fun x => !dropB M x)
     (fun ⟨s1, s2, s3⟩ ⟨a, b, e1, e2, hab, hb, hlen, hdr, htk⟩ => by
       simp only at e1 e2 hlen hdr htk
       subst e1; subst e2
       unfold slices_DeleteFunc_api_Item_eat0_at_walk_index_1_ro_own0_l0
       simp only
       by_cases h : b < s3.length
       · have hbl : b < l.length := by omega
         have hel : s3[b] = l[b] := by
           have := congrArg (·[0]?) hdr
           simp only [List.getElem?_drop, Nat.add_zero] at this
           rw [List.getElem?_eq_getElem h, List.getElem?_eq_getElem hbl] at this
           exact Option.some.inj this
         have hdr1 : s3.drop (b + 1) = l.drop (b + 1) := by rw [← List.drop_drop, ← List.drop_drop, hdr]
         rw [if_pos (by simpa using h), ck_t (by constructor; omega; simpa using h), idx_lt h]
         simp only [Option.bind_some, cro_drop, hel]
         cases hx : dropB M l[b] with
         | true =>
           refine .inl ⟨_, if_neg (by decide), ⟨a, b + 1, rfl, by simp only; rw [w64 (by omega) (by omega)]; rfl, by omega, by omega, hlen, hdr1, ?_⟩, ?_⟩
           · simp only; rw [htk, hfi l b hbl, if_pos hx, List.append_nil]
           · simp only; rw [w64 (by omega) (by omega)]; omega
         | false =>
           rw [if_pos (by decide), ck_t (by constructor; omega; simp; omega), idx_lt (show a < s3.length by omega)]
           refine .inl ⟨_, rfl, ⟨a + 1, b + 1, by simp only; rw [w64 (by omega) (by omega)]; rfl, by simp only; rw [w64 (by omega) (by omega)]; rfl, by omega, by omega, by simp [hlen], ?_, ?_⟩, ?_⟩
           · simp only [Int.toNat_natCast]
             rw [List.drop_set_of_lt (by omega), hdr1]
           · simp only [Int.toNat_natCast]
             rw [List.take_succ_eq_append_getElem (by simp; omega), List.getElem_set_self, List.take_set_of_le (by omega), htk, hfi l b hbl, if_neg (by rw [hx]; decide)]
           · simp only; rw [w64 (by omega) (by omega)]; omega
       · rw [if_neg (by simpa using h)]
         have : b = l.length := by omega
         subst this
         exact .inr ⟨_, rfl, a, rfl, hab, hlen, by simpa using htk⟩) (s := ((i : Int), IntKind.i64.wrap ((i : Int) + 1), l)) ⟨i, i + 1, rfl, by simp only; rw [w64 (by omega) (by omega)]; rfl, by omega, by omega, rfl, rfl, by
       have h3' : l[i] = x := by rw [List.getElem?_eq_getElem hi] at h3; exact Option.some.inj h3
       simp only
       rw [hfi l i hi, h3', if_pos h4, List.append_nil, List.filter_eq_self.2 fun x hx => by rw [h2 x hx]; rfl]⟩
   obtain ⟨e1, e2⟩ := e
   obtain ⟨a, ha, hal, hlen, htk⟩ := hR
   simp only at ha hlen htk
   subst ha
   rw [he]
   simp only [Option.bind_some]
   rw [ck_t (by omega)]
   simp only [Option.bind_some, Int.toNat_natCast]
   rw [ck_t (by simp; omega)]
   simp only [Option.bind_some]
   rw [List.take_append_of_le_length (by simp; omega), List.take_take, Nat.min_self, htk]
inductive Dead (M : List (Int × api_Object)) : Int → Prop
 | mk {k : Int} {o : api_Object} (h : (k, o) ∈ M) (hk : o.Kind = 2) (hi : ∀ x ∈ o.Items, Dead M x.ID) : Dead M k
open Classical in
noncomputable def liveIt (M : List (Int × api_Object)) (l : List api_Item) : List api_Item := l.filter fun x => decide (¬ Dead M x.ID)
noncomputable def cleanM (M : List (Int × api_Object)) : List (Int × api_Object) := M.map fun q => (q.1, { q.2 with Items := liveIt M q.2.Items })
structure Mid (M0 M : List (Int × api_Object)) : Prop where
 len : M.length = M0.length
 at_ : ∀ (j : Nat) (q0 q : Int × api_Object), M0[j]? = some q0 → M[j]? = some q → q.1 = q0.1 ∧ ∃ f : api_Item → Bool, (∀ x, ¬ Dead M0 x.ID → f x = true) ∧ q.2 = { q0.2 with Items := q0.2.Items.filter f }
def Stab (M : List (Int × api_Object)) (q : Int × api_Object) : Prop := ∀ x ∈ q.2.Items, dropB M x = false
theorem Mid.refl (M : List (Int × api_Object)) : Mid M M := ⟨rfl, fun j q0 q h1 h2 => by
 rw [h1] at h2; cases h2
 exact ⟨rfl, fun _ => true, fun _ _ => rfl, by rw [List.filter_eq_self.2 fun _ _ => rfl]⟩⟩
theorem Mid.keys {M0 M : List (Int × api_Object)} (h : Mid M0 M) : M.map (·.1) = M0.map (·.1) := by
 apply List.ext_getElem (by simp [h.len])
 intro j h1 h2
 simp only [List.length_map] at h1 h2
 simp only [List.getElem_map]
 exact (h.at_ j _ _ (List.getElem?_eq_getElem h2) (List.getElem?_eq_getElem h1)).1
theorem mfind_nodup {ν : Type} : ∀ {M : List (Int × ν)} {j : Nat} {k : Int} {o : ν}, (M.map (·.1)).Nodup → M[j]? = some (k, o) → mfind inE k M = some (j, o)
 | [], _, _, _, _, h => by simp at h
 | q :: M, 0, k, o, _, h => by
   simp at h; subst h
   simp [mfind, inE]
 | q :: M, j + 1, k, o, hn, h => by
   rw [List.map_cons, List.nodup_cons] at hn
   simp only [List.getElem?_cons_succ] at h
   have hne : k ≠ q.1 := fun e => hn.1 (e ▸ List.mem_map.2 ⟨(k, o), List.mem_of_getElem? h, rfl⟩)
   unfold mfind
   rw [if_neg (by simp [inE, hne]), mfind_nodup hn.2 h]
   rfl
theorem mget_nodup {ν : Type} {M : List (Int × ν)} (hn : (M.map (·.1)).Nodup) {k : Int} {o : ν} (h : (k, o) ∈ M) : mget inE M k = some o := by
 obtain ⟨j, hj⟩ := List.mem_iff_getElem?.1 h
 unfold mget; rw [mfind_nodup hn hj]; rfl
theorem mgetI_mem {ν : Type} : ∀ {M : List (Int × ν)} {k : Int} {o : ν}, mget inE M k = some o → (k, o) ∈ M
 | [], _, _, h => by simp [mget, mfind] at h
 | q :: M, k, o, h => by
   unfold mget mfind at h
   split at h
   · rename_i e
     simp [inE] at e h
     subst h; rw [e]; exact List.mem_cons_self
   · have : mget inE M k = some o := by
       unfold mget
       rw [Option.map_map] at h
       exact h
     exact List.mem_cons_of_mem _ (mgetI_mem this)
theorem Mid.drop {M0 M : List (Int × api_Object)} (h : Mid M0 M) {x : api_Item} (hd : dropB M x = true) : Dead M0 x.ID := by
 unfold dropB at hd
 cases hg : mget inE M x.ID with
 | none => rw [hg] at hd; simp at hd
 | some o =>
   rw [hg] at hd
   simp only [Option.getD_some, Bool.and_eq_true, beq_iff_eq] at hd
   obtain ⟨h1, h2⟩ := hd
   have h2 : o.Items = [] := List.eq_nil_of_length_eq_zero (by omega)
   obtain ⟨j, hj⟩ := List.mem_iff_getElem?.1 (mgetI_mem hg)
   have hj' : j < M0.length := by rw [← h.len]; exact (List.getElem?_eq_some_iff.1 hj).1
   obtain ⟨e1, f, hf, e2⟩ := h.at_ j _ _ (List.getElem?_eq_getElem hj') hj
   simp only at e1 e2
   refine .mk (k := x.ID) (o := M0[j].2) (by rw [e1]; exact List.getElem_mem hj') (by rw [e2] at h1; exact h1) fun y hy => ?_
   refine Classical.byContradiction fun hn => ?_
   have := hf y hn
   rw [e2] at h2
   simp only [List.filter_eq_nil_iff] at h2
   exact h2 y hy this
theorem Mid.step {M0 M : List (Int × api_Object)} (h : Mid M0 M) {j : Nat} {k : Int} {o : api_Object} (hj : M[j]? = some (k, o)) : Mid M0 (M.set j (k, { o with Items := o.Items.filter fun x => !dropB M x })) := by
 refine ⟨by rw [List.length_set]; exact h.len, fun i q0 q h1 h2 => ?_⟩
 rw [List.getElem?_set] at h2
 split at h2
 · rename_i e
   subst e
   split at h2
   case isFalse => cases h2
   cases h2
   obtain ⟨e1, f, hf, e2⟩ := h.at_ j q0 _ h1 hj
   simp only at e1 e2
   refine ⟨e1, fun x => f x && !dropB M x, fun x hx => ?_, ?_⟩
   · simp only
     rw [hf x hx, Bool.true_and]
     cases hd : dropB M x with
     | false => rfl
     | true => exact absurd (h.drop hd) hx
   · simp only
     rw [e2]
     simp only [List.filter_filter, api_Object.mk.injEq, true_and, and_true]
     exact List.filter_congr fun x _ => by rw [Bool.and_comm]
 · exact h.at_ i q0 q h1 h2
theorem Mid.done {M0 M : List (Int × api_Object)} (h : Mid M0 M) (hn : (M0.map (·.1)).Nodup) (hs : ∀ q ∈ M, Stab M q) : M = cleanM M0 := by
 have hdead : ∀ k, Dead M0 k → ∀ o, (k, o) ∈ M → o.Kind = 2 ∧ o.Items = [] := by
   intro k hk
   induction hk with
   | @mk k o0 hm hk hi ih =>
     intro o ho
     obtain ⟨j, hj⟩ := List.mem_iff_getElem?.1 ho
     have hj' : j < M0.length := by rw [← h.len]; exact (List.getElem?_eq_some_iff.1 hj).1
     obtain ⟨e1, f, hf, e2⟩ := h.at_ j _ _ (List.getElem?_eq_getElem hj') hj
     simp only at e1 e2
     have e0 : M0[j].2 = o0 := by
       have h1 := mget_nodup hn hm
       have h2 := mget_nodup hn (k := M0[j].1) (o := M0[j].2) (List.getElem_mem hj')
       rw [← e1, h1] at h2
       exact (Option.some.inj h2).symm
     rw [e0] at e2
     refine ⟨by rw [e2]; exact hk, List.eq_nil_iff_forall_not_mem.2 fun y hy => ?_⟩
     have hy0 : y ∈ o0.Items := by
       rw [e2] at hy
       exact (List.mem_filter.1 hy).1
     have hal := hs _ ho y hy
     have hdy := hi y hy0
     cases hdy with
     | @mk _ oy hmy hky _ =>
       have hke : y.ID ∈ M.map (·.1) := by rw [h.keys]; exact List.mem_map.2 ⟨_, hmy, rfl⟩
       obtain ⟨⟨k', o'⟩, ho', e'⟩ := List.mem_map.1 hke
       simp only at e'; subst e'
       obtain ⟨i1, i2⟩ := ih y hy0 o' ho'
       have hnM : (M.map (·.1)).Nodup := by rw [h.keys]; exact hn
       unfold dropB at hal
       rw [mget_nodup hnM ho'] at hal
       simp [i1, i2] at hal
 have hlive : ∀ q ∈ M, ∀ x ∈ q.2.Items, ¬ Dead M0 x.ID := fun q hq x hx hd => by
   have hal := hs q hq x hx
   have hke : x.ID ∈ M.map (·.1) := by
     cases hd with
     | @mk _ o hm _ _ => rw [h.keys]; exact List.mem_map.2 ⟨_, hm, rfl⟩
   obtain ⟨⟨k', o'⟩, ho', e'⟩ := List.mem_map.1 hke
   simp only at e'; subst e'
   obtain ⟨i1, i2⟩ := hdead _ hd o' ho'
   have hnM : (M.map (·.1)).Nodup := by rw [h.keys]; exact hn
   unfold dropB at hal
   rw [mget_nodup hnM ho'] at hal
   simp [i1, i2] at hal
 unfold cleanM
 apply List.ext_getElem (by simp [h.len])
 intro j h1 h2
 simp only [List.length_map] at h2
 simp only [List.getElem_map]
 obtain ⟨e1, f, hf, e2⟩ := h.at_ j _ _ (List.getElem?_eq_getElem h2) (List.getElem?_eq_getElem h1)
 refine Prod.ext e1 ?_
 rw [e2]
 simp only [api_Object.mk.injEq, true_and, and_true]
 unfold liveIt
 refine List.filter_congr fun x hx => ?_
 by_cases hd : Dead M0 x.ID
 · simp only [hd, not_true_eq_false, decide_false]
   cases hfx : f x with
   | false => rfl
   | true =>
     refine absurd hd (hlive _ (List.getElem_mem h1) x ?_)
     rw [e2]
     exact List.mem_filter.2 ⟨hx, hfx⟩
 · simp only [hd, not_false_eq_true, decide_true]
   exact hf x hd
def sizeM (M : List (Int × api_Object)) : Nat := (M.map fun q => q.2.Items.length).sum
theorem sizeM_set : ∀ {M : List (Int × api_Object)} {j : Nat} {q q' : Int × api_Object}, M[j]? = some q → q'.2.Items.length < q.2.Items.length → sizeM (M.set j q') < sizeM M
 | [], _, _, _, h, _ => by simp at h
 | a :: M, 0, q, q', h, hl => by
   simp at h; subst h
   simp only [List.set_cons_zero, sizeM, List.map_cons, List.sum_cons]; omega
 | a :: M, j + 1, q, q', h, hl => by
   have := sizeM_set (M := M) (by simpa using h) hl
   simp only [List.set_cons_succ, sizeM, List.map_cons, List.sum_cons] at this ⊢
   omega
theorem filter_all {l : List api_Item} {f : api_Item → Bool} (h : ¬ (l.filter f).length < l.length) : ∀ x ∈ l, f x = true := by
 have : (l.filter f).length = l.length := by have := List.length_filter_le f l; omega
 exact List.filter_eq_self.1 (List.filter_sublist.eq_of_length this)
end Go.Vl
namespace Go.Vl
open Go Go.Proofs Go.RowKit
noncomputable def walk_index_l0 (a0 : api_Repository) (s2 : Int × (List (Int × api_Object))) : Option (Lp (Int × (List (Int × api_Object))) (List (Int × api_Object))) :=
 if (decide (s2.1 < ((a0.Objects).length : Int))) = true then
   (idx a0.Objects s2.1).bind fun x3 =>
   some (.go (IntKind.i64.wrap (s2.1 + 1), (mset inE s2.2 x3.ID x3)))
 else
   some (.out s2.2)
noncomputable def walk_index (a0 : api_Repository) : Option ((List (Int × api_Object))) :=
 (iter (walk_index_l0 a0) (0, [])).bind fun v1 =>
 (open Classical in ck ((v1.map (·.1)).Nodup ∧ ∀ q ∈ v1, q.2.Items.length ≤ 268435456)).bind fun _ =>
 some (cleanM v1)
theorem delF_none {b10 : List (Int × api_Object)} : FnOK Tryz.prog 53 [] [.d (.slice []), .fn 55 [.cptr [.mp (mTag 71 1 false true) 9 (rowsF (mRow (iRow .i64) api_Object_row) b10)] 0]] (.d (.slice [])) [] := by
 refine fn_ok (nt := 42) (rs := [.tmp 4]) Tryz.func53 rfl Tryz.ntmps53 rfl (by simp) (by decide) rfl fun K => ?_
 refine kr [0, 1] (by simp; rfl) ?_
 refine kc ?_
 refine ko [0, 1, 8, 9] 2 (by simp; rfl) ?_
 have hy1 : slices_IndexFunc_api_Item_at_walk_index_1_ro [] b10 = some (-1) := by
   rcases indexF [] (by simp) b10 with ⟨h, _⟩ | ⟨i, h, _⟩
   · exact h
   · simp at h
 refine kcallv [0, 1, 10] (slices_IndexFunc_api_Item_at_walk_index_1_ro_ok hy1) rfl rfl rfl Tryz.call88 (by simp) (by simp; rfl) ?_
 refine ko [0, 1, 5] 1 (by simp; rfl) ?_
 refine tops_nil ?_
 refine tr_seq ?_
 refine kr [0, 1, 5, 12] (by simp; rfl) ?_
 refine tr_cond (b := true) (by simp) (fun c1 => ?_) (fun c1 => by cases c1)
 refine kr [4] (by simp; rfl) ?_
 exact tr_ret ⟨[], by simp, rfl, by simp⟩
theorem slices_CloneF {l : List api_Item} (h : l.length ≤ 268435456 ∧ 0 < l.length) : FnOKv Tryz.prog 54 [] [] [.d (.slice (rowsF api_Item_row l))] (.vec (InV 0)) [] [⟨62, 2, rowsF api_Item_row l⟩] := by
 refine fn_okv (nt := 8) (rs := [.tmp 2]) Tryz.func54 rfl Tryz.ntmps54 rfl (by simp) (by decide) rfl fun K => ?_
 refine kr [0, 2] (by simp; rfl) ?_
 cases l with
 | nil => simp at h
 | cons x l =>
   refine tr_seq ?_
   refine kr [0, 4] (by simp; rfl) ?_
   refine tr_cond (b := false) (by simp) (fun h => by cases h) (fun _ => ?_)
   refine tr_skip ?_
   have p2 := h; simp at p2
   refine kr [2] (by simp [h, p2]; rfl) ?_
   exact tr_ret ⟨[], [7], by simp, by simp, by simp, by simp, by simp⟩
theorem slices_CloneN : FnOK Tryz.prog 54 [] [.d (.slice [])] (.d (.slice [])) [] := by
 refine fn_ok (nt := 8) (rs := [.tmp 2]) Tryz.func54 rfl Tryz.ntmps54 rfl (by simp) (by decide) rfl fun K => ?_
 refine kr [0, 2] (by simp; rfl) ?_
 refine tr_seq ?_
 refine kc ?_
 refine ko [0, 3] 1 (by simp; rfl) ?_
 refine tops_isnil (by simp) rfl rfl (by simp) Tryz.underlying41 (by simp) (by simp) fun b => ?_
 refine tops_nil ?_
 refine tr_cond (b := b) (by simp) (fun cb => ?_) (fun cb => ?_)
 · refine kr [2] (by simp; rfl) ?_
   exact tr_ret ⟨[], by simp, rfl, by simp⟩
 · refine tr_skip ?_
   refine kr [2] (by simp; rfl) ?_
   exact tr_ret ⟨[7], by simp, rfl, by simp⟩
structure AtI (K : Ctx Tryz.prog) (B b : Nat) (ty : TypeId) (env : List (Nat × AV)) (M : List (Int × api_Object)) (es : Array MapEntry) (clock : Nat) (a : Act) (w : World) (p : Pl) : Prop where
 rel : Rel K { nt := 48, env := env, box := [], vec := [] } a w p
 reg : a.eval (.tmp 3) = .pointer (some ⟨B, 0, none⟩)
 box : w.heap[B]? = some (.cells #[.map (some b)] ty (0, 0))
 okB : okc K w p B
 okb : okc K w p b
 map : w.heap[b]? = some (.map es clock)
 mr : MapR w (okc K w p) ⟨mTag 71 1 false true, 9, rowsF (mRow (iRow .i64) api_Object_row) M⟩ es clock
theorem obj_len (M : List (Int × api_Object)) : ∀ r ∈ rowsF (mRow (iRow .i64) api_Object_row) M, r.length = 9 := fun r hr => by
 unfold rowsF at hr
 obtain ⟨q, _, rfl⟩ := List.mem_map.1 hr
 rfl
theorem AtI.cptr {K : Ctx Tryz.prog} {B b : Nat} {ty : TypeId} {env : List (Nat × AV)} {M : List (Int × api_Object)} {es : Array MapEntry} {clock : Nat} {a : Act} {w : World} {p : Pl} (h : AtI K B b ty env M es clock a w p) : RA w (okc K w p) p (.cptr [.mp (mTag 71 1 false true) 9 (rowsF (mRow (iRow .i64) api_Object_row) M)] 0) (a.tmps.getD 3 undef) := by
 have := h.reg
 simp only [Act.eval] at this
 rw [this]
 exact cptr_map h.box h.okB (RD.ofMap (s := ⟨mTag 71 1 false true, 9, rowsF (mRow (iRow .i64) api_Object_row) M⟩) (tag_M _ _ _ _ _ _) (obj_len M) h.map h.okb h.mr)
theorem AtI.nt {K : Ctx Tryz.prog} {B b : Nat} {ty : TypeId} {env : List (Nat × AV)} {M : List (Int × api_Object)} {es : Array MapEntry} {clock : Nat} {a : Act} {w : World} {p : Pl} (h : AtI K B b ty env M es clock a w p) : a.tmps.size = 48 := h.rel.nt
theorem AtI.cptrA {K : Ctx Tryz.prog} {B b : Nat} {ty : TypeId} {env : List (Nat × AV)} {M : List (Int × api_Object)} {es : Array MapEntry} {clock : Nat} {a a' : Act} {w : World} {p : Pl} (h : AtI K B b ty env M es clock a w p) (hr : a'.eval (.tmp 3) = .pointer (some ⟨B, 0, none⟩)) : RA w (okc K w p) p (.cptr [.mp (mTag 71 1 false true) 9 (rowsF (mRow (iRow .i64) api_Object_row) M)] 0) (a'.tmps.getD 3 undef) := by
 have := hr
 simp only [Act.eval] at this
 rw [this]
 exact cptr_map h.box h.okB (RD.ofMap (s := ⟨mTag 71 1 false true, 9, rowsF (mRow (iRow .i64) api_Object_row) M⟩) (tag_M _ _ _ _ _ _) (obj_len M) h.map h.okb h.mr)
theorem obj_key (M : List (Int × api_Object)) (k : Int) : keyB Tryz.prog 3 (VS.ka ⟨mTag 71 1 false true, 9, rowsF (mRow (iRow .i64) api_Object_row) M⟩) (.d (.int .i64 k)) = true := by
 rw [tag_ka]; exact keyB_int (by simp) k
theorem obj_find {M : List (Int × api_Object)} (hn : (M.map (·.1)).Nodup) {j : Nat} {k : Int} {o : api_Object} (h : M[j]? = some (k, o)) : findM Tryz.prog 3 (VS.ka ⟨mTag 71 1 false true, 9, rowsF (mRow (iRow .i64) api_Object_row) M⟩) (VS.kz ⟨mTag 71 1 false true, 9, rowsF (mRow (iRow .i64) api_Object_row) M⟩) (.d (.int .i64 k)) (rowsF (mRow (iRow .i64) api_Object_row) M) = some (some (j, api_Object_row o)) := by
 rw [tag_ka, tag_kz _ (by decide), findM_int (k := .i64) (by simp), mfind_nodup hn h]; rfl
theorem obj_unk (M : List (Int × api_Object)) (k : Int) : unpackMA (VS.ka ⟨mTag 71 1 false true, 9, rowsF (mRow (iRow .i64) api_Object_row) M⟩) (.d (.int .i64 k)) = some (iRow .i64 k) := by rw [tag_ka]; rfl
theorem obj_unv (M : List (Int × api_Object)) (o : api_Object) : unpackMA (VS.va ⟨mTag 71 1 false true, 9, rowsF (mRow (iRow .i64) api_Object_row) M⟩) (.agg (api_Object_av o)) = some (api_Object_row o) := by rw [tag_va]; rfl
theorem obj_kz (M : List (Int × api_Object)) (k : Int) : (iRow .i64 k).length = VS.kz ⟨mTag 71 1 false true, 9, rowsF (mRow (iRow .i64) api_Object_row) M⟩ := by rw [tag_kz _ (by decide)]; rfl
theorem obj_set (M : List (Int × api_Object)) (j : Nat) (k : Int) (o : api_Object) : (rowsF (mRow (iRow .i64) api_Object_row) M).set j (iRow .i64 k ++ api_Object_row o) = rowsF (mRow (iRow .i64) api_Object_row) (M.set j (k, o)) := by
 unfold rowsF; rw [List.map_set]; rfl
theorem AtI.keep {K : Ctx Tryz.prog} {B b : Nat} {ty : TypeId} {env env' : List (Nat × AV)} {M : List (Int × api_Object)} {es : Array MapEntry} {clock : Nat} {a a' : Act} {w w' : World} {p p' : Pl} (h : AtI K B b ty env M es clock a w p) (R : Rel K { nt := 48, env := env', box := [], vec := [] } a' w' p') (k : Kept K w w' p p') (hr : a'.eval (.tmp 3) = .pointer (some ⟨B, 0, none⟩)) : AtI K B b ty env' M es clock a' w' p' :=
 ⟨R, hr, (k B h.okB).1.trans h.box, (k B h.okB).2, (k b h.okb).2, (k b h.okb).1.trans h.map, k.mapR h.mr⟩
theorem plain_slice {α : Type} {f : α → List D} (hne : ∀ x, f x ≠ []) (h : ∀ x, ∀ d ∈ f x, PlainD d) (l : List α) : PlainD (.slice (rowsF f l)) := by
 refine .slice ?_ fun j d hd => ?_
 · cases l with
   | nil => exact .inl rfl
   | cons x l =>
     right
     simp [rowsF, hne x]
 · obtain ⟨r, hr, hd⟩ := List.mem_flatten.1 (List.mem_of_getElem? hd)
   unfold rowsF at hr
   obtain ⟨x, _, rfl⟩ := List.mem_map.1 hr
   exact h x d hd
theorem obj_plain (M : List (Int × api_Object)) : ∀ r ∈ rowsF (mRow (iRow .i64) api_Object_row) M, ∀ d ∈ r, PlainD d := fun r hr d hd => by
 unfold rowsF at hr
 obtain ⟨q, _, rfl⟩ := List.mem_map.1 hr
 simp only [mRow, iRow, api_Object_row, List.cons_append, List.nil_append, List.mem_cons, List.not_mem_nil, or_false] at hd
 have hi : ∀ (k : IntKind) (l : List Int), PlainD (.slice (rowsF (iRow k) l)) := fun k l => plain_slice (fun x => by simp [iRow]) (fun x d hd => by simp [iRow] at hd; subst hd; exact .int) l
 rcases hd with rfl | rfl | rfl | rfl | rfl | rfl | rfl | rfl | rfl
 · exact .int
 · exact .int
 · exact .int
 · exact hi _ _
 · exact plain_slice (fun x => by simp) (fun x d hd => by
     simp at hd
     rcases hd with rfl | rfl
     · exact .str
     · exact .int) _
 · exact .int
 · exact hi _ _
 · exact .str
 · exact .int
set_option maxHeartbeats 1000000 in
theorem walk_index_ok {a0 : api_Repository} {r : (List (Int × api_Object))} (h0 : walk_index a0 = some r) : FnOK Tryz.prog 26 [] [.agg (api_Repository_av a0)] (.d (.mp (mTag 71 1 false true) 9 (rowsF (mRow (iRow .i64) api_Object_row) r))) [] := by
 unfold walk_index at h0
 refine fn_okK (nt := 48) (rs := [.tmp 2]) Tryz.func26 rfl Tryz.ntmps26 rfl (by simp) (by decide) rfl fun K hK => ?_
 refine kr [1] (by simp; rfl) ?_
 refine kr [1, 3] (by simp; rfl) ?_
 refine tr_seq ?_
 refine kr [3, 12, 13, 14] (by simp; rfl) ?_
 replace h0 := bnd h0; obtain ⟨e1, hI1, h0⟩ := h0
 refine tjv (fun v1 : (List (Int × api_Object)) => ({ nt := 48, env := [(3, .ptr 3 0)], box := [(3, [.vec 10])], vec := [(10, ⟨mTag 71 1 false true, 9, rowsF (mRow (iRow .i64) api_Object_row) v1⟩)] } : St)) (fun v1 => v1 = e1) (fun v1 hI1e _ W1 => ?_) ?_
 · subst hI1e
   refine tr_wk W1 ?_
   replace h0 := bnd h0; obtain ⟨_, hc, h0⟩ := h0
   replace hc := ck_some hc
   cases h0
   refine tr_seq ?_
   refine kr [3, 6] (by simp; rfl) ?_
   intro a w p R
   obtain ⟨⟨vs, ty, hB, hvs, hra, _⟩, hBm⟩ := R.box 3 [.vec 10] (by simp [get])
   obtain ⟨hat, hz, hbm⟩ := R.vec 10 ⟨mTag 71 1 false true, 9, rowsF (mRow (iRow .i64) api_Object_row) v1⟩ (by simp [get])
   obtain ⟨b, es, clock, hrw, hb, hM⟩ := hat.map (tag_M _ _ _ _ _ _)
   have hreg : a.eval (.tmp 3) = .pointer (some ⟨p.bx 3, 0, none⟩) := by
     have := R.env 3 (.ptr 3 0) (by simp [get])
     simp only [Act.eval]
     generalize a.tmps.getD 3 undef = u at this
     cases this; rfl
   have hv0 : vs = #[.map (some b)] := by
     have h1 : vs.size = 1 := hvs
     have h2 : vs[0]? = some vs[0] := Array.getElem?_eq_getElem (by omega)
     have h3 := hra 0 (.vec 10) vs[0] rfl h2
     have h4 : vs[0] = .map (some b) := by
       generalize vs[0] = u at h3
       cases h3; exact hrw
     refine Array.ext (by simp [h1]) fun i g1 g2 => ?_
     have : i = 0 := by omega
     subst this
     simpa using h4
   subst hv0
   have hKi : K.ios = [] := List.eq_nil_of_length_eq_zero hK
   generalize hBB : p.bx 3 = B at *
   have hb0 : K.w0.heap.size ≤ b ∨ K.io b := (hbm b (by rw [hrw]; rfl)).imp id .inr
   have R1 := R.weak (st' := { nt := 48, env := [(6, .d (.bool true))], box := [], vec := [] }) (by simp [weak_iff])
   have okBb : okc K w ⟨p.bx, p.rw, fun n => St.lb { nt := 48, env := [(6, .d (.bool true))], box := [], vec := [] } n = true, fun n => St.lv { nt := 48, env := [(6, .d (.bool true))], box := [], vec := [] } n = true⟩ B := by
     refine ⟨(Array.getElem?_eq_some_iff.1 hB).1, ?_, fun n hn => by simp [St.lb, get] at hn, fun n hn => by simp [St.lv, get] at hn⟩
     rcases hBm with h | h | h
     · exact .inr (.inl h)
     · rw [hKi] at h; simp at h
     · exact .inr (.inr h)
   have okbb : okc K w ⟨p.bx, p.rw, fun n => St.lb { nt := 48, env := [(6, .d (.bool true))], box := [], vec := [] } n = true, fun n => St.lv { nt := 48, env := [(6, .d (.bool true))], box := [], vec := [] } n = true⟩ b := by
     refine ⟨(Array.getElem?_eq_some_iff.1 hb).1, ?_, fun n hn => by simp [St.lb, get] at hn, fun n hn => by simp [St.lv, get] at hn⟩
     exact (hbm b (by rw [hrw]; rfl)).elim (fun h => .inr (.inl h)) fun h => .inr (.inr h)
   have at0 : AtI K B b ty [(6, .d (.bool true))] v1 es clock a w _ := ⟨R1, hreg, hB, okBb, okbb, hb, hM.mono (fun _ _ => rfl) fun k hk => ⟨hk.1, hk.2.1, fun n hn => by simp [St.lb, get] at hn, fun n hn => by simp [St.lv, get] at hn⟩⟩
   clear R1 okBb okbb hM hb hat hz hbm hB hvs hra hBm hreg R hrw hBB
   refine wp_block (wp_loop_ghost (fun n a w => ∃ (ch : Bool) (M : List (Int × api_Object)) (es : Array MapEntry) (clock : Nat) (p : Pl), AtI K B b ty [(6, .d (.bool ch))] M es clock a w p ∧ Mid v1 M ∧ (ch = false → ∀ q ∈ M, Stab M q) ∧ n = 2 * sizeM M + ch.toNat) (2 * sizeM v1 + 1) ⟨true, v1, es, clock, _, at0, Mid.refl v1, (fun h => absurd h (by decide)), rfl⟩ fun n a w ⟨ch, M, es, clock, p, at1, hmid, hst, hn⟩ => ?_)
   refine wp_seq (wp_regF hKi (fun K' => ko [6, 23] 1 (by simp; rfl) tops_end) (by simp) at1.rel at1.reg fun a w' p' R kept hv => ?_)
   have h23 := wp_bool R (t := 23) (b := ch) (by simp [St.look, get])
   obtain ⟨p2, R2, ok2⟩ := R.weak0 (st' := { nt := 48, env := [(6, .d (.bool ch))], box := [], vec := [] }) (by simp [weak_iff])
   have at2 := at1.keep R2 (fun k hk => ⟨(kept k hk).1, ok2 k (kept k hk).2⟩) hv
   clear R kept hv at1 R2 ok2
   refine wp_cond_split h23 (fun hch => wp_skip ?_) fun hch => wp_exit ?_
   case refine_2 =>
     subst hch
     have hM := hmid.done hc.1 (hst rfl)
     subst hM
     refine then_exit (then_exit (exit_in ?_))
     refine ⟨_, _, at2.rel.also at2.cptr, ?_⟩
     show Tr Tryz.prog K _ _ _
     refine kr [2] (by simp; rfl) ?_
     exact tr_ret ⟨[], by simp, rfl, by simp⟩
   subst hch
   refine then_norm ?_
   refine wp_block (wp_regF hKi (fun K' => ko [6] 1 (by simp; rfl) tops_end) (by simp) at2.rel at2.reg fun a w'' p' R kept hv => ?_)
   have at3 := at2.keep R kept hv
   clear R kept hv at2
   refine wp_seq (wp_region_lit (wl_load1 rfl 71 (.tmp 3) rfl B (.map (some b)) ty (0, 0) at3.reg (by rw [Tryz.underlying71]; rfl) (by unfold isAggB; rw [Tryz.underlying71]) at3.box (wl_range rfl (.tmp 24) 71 rfl 3 49 Tryz.underlying71 b es clock (eval_put_eq (by rw [at3.rel.nt]; decide)) at3.map (then_norm ?_))))
   obtain ⟨R4, ok4, old4, new4, okr4⟩ := (at3.rel.put (d := 24) (x := .undef) (v := .map (some b)) .undef (by decide)).alloc_quiet (.mapIter (some b) clock #[] clock)
   have R5 := R4.put (d := 25) (x := .iter w''.heap.size) (v := .pointer (some ⟨w''.heap.size, 0, none⟩)) .iter (by simp [St.put])
   obtain ⟨p6, R6, ok6⟩ := R5.weak0 (st' := { nt := 48, env := [(6, .d (.bool false)), (25, .iter w''.heap.size)], box := [], vec := [] }) (by simp [weak_iff, St.put])
   have hr0 : K.w0.heap.size ≤ w''.heap.size := at3.rel.size
   have at6 := at3.keep R6 (fun k hk => ⟨old4 k hk.1, ok6 k (ok4 k hk)⟩) (by rw [eval_put_ne (by simp), eval_put_ne (by simp)]; exact at3.reg)
   have hitr := new4
   have okr := ok6 _ okr4
   clear R4 ok4 old4 new4 okr4 R5 R6 ok6
   have hes0 : ∀ x ∈ es.toList, x.born < clock := at3.mr.born
   have hsz : n = 2 * sizeM M + 1 := hn
   clear at3
   generalize w''.heap.size = r at *
   refine wp_block (wp_loop_ghost (fun n' a w => ∃ (ch : Bool) (M' : List (Int × api_Object)) (es : Array MapEntry) (clock c0 : Nat) (seen : Array Nat) (p : Pl), AtI K B b ty [(6, .d (.bool ch)), (25, .iter r)] M' es clock a w p ∧ w.heap[r]? = some (.mapIter (some b) clock seen c0) ∧ okc K w p r ∧ clock ≤ c0 ∧ (∀ x ∈ es.toList, x.born < clock) ∧ Mid v1 M' ∧
     (ch = false → ∀ (j : Nat) (en : MapEntry) (q : Int × api_Object), es.toList[j]? = some en → seen.contains en.born = true → M'[j]? = some q → Stab M' q) ∧ sizeM M' ≤ sizeM M ∧ (ch = true → sizeM M' < sizeM M) ∧ (es.toList.filter fun e => !seen.contains e.born).length = n') _
     ⟨false, M, es, clock, clock, #[], _, at6, hitr, okr, Nat.le_refl _, hes0, hmid, (fun _ j en q _ h => by simp at h), Nat.le_refl _, (fun h => absurd h (by decide)), rfl⟩ fun n' a w ⟨ch, M', es, clock, c0, seen, p, at1, hit, okr, hc0, hborn, hmid, hstab, hle, hlt, hn'⟩ => ?_)
   have hnd : (es.toList.map (·.born)).Nodup := at1.mr.nodup
   have hlen : es.toList.length = M'.length := by
     have := at1.mr.size
     simpa [rowsF] using this
   refine wp_seq (wp_region_lit (wl_next rfl (.tmp 25) rfl r b clock c0 seen es clock (wk_iter at1.rel (by simp [get])) hit at1.map hborn hc0 (fun hz => ?_) fun en w1 hen hseen hw1 => ?_))
   · -- no entry is left
     have hx : (Act.put a (some 26) (.tuple #[.bool false])).eval (.tmp 26) = .tuple #[.bool false] := eval_put_eq (by rw [at1.nt]; decide)
     refine run_val (v := .bool false) (w' := w) rfl (by simp [execOp, hx, Instr.extract]) ?_
     refine then_norm (wp_seq (wp_cond_split (t := false) (eval_put_eq (by simp [Act.put]; rw [at1.nt]; decide)) (fun h => by cases h) fun _ => wp_exit (then_exit (then_exit (exit_in (norm_in (then_norm ?_)))))))
     obtain ⟨p6, R6, ok6⟩ := ((at1.rel.put (d := 26) (x := .undef) (v := .tuple #[.bool false]) .undef (by simp)).put (d := 27) (x := .undef) (v := .bool false) .undef (by simp [St.put])).weak0 (st' := { nt := 48, env := [(6, .d (.bool ch))], box := [], vec := [] }) (by simp [weak_iff, St.put])
     have at6 := at1.keep R6 (fun k hk => ⟨rfl, ok6 k hk⟩) (by rw [eval_put_ne (by simp), eval_put_ne (by simp)]; exact at1.reg)
     refine ⟨2 * sizeM M' + ch.toNat, ?_, ch, M', es, clock, p6, at6, hmid, fun hch q hq => ?_, rfl⟩
     · cases ch with
       | true => have := hlt rfl; simp; omega
       | false => simp; omega
     · obtain ⟨j, hj⟩ := List.mem_iff_getElem?.1 hq
       have hj' : j < es.toList.length := by rw [hlen]; exact (List.getElem?_eq_some_iff.1 hj).1
       refine hstab hch j _ q (List.getElem?_eq_getElem hj') ?_ hj
       have h0 : leftOf es seen = #[] := Array.eq_empty_of_size_eq_zero hz
       unfold leftOf at h0
       rw [Array.filter_eq_empty_iff] at h0
       have := h0 es.toList[j] (by simp)
       simpa using this
   -- an entry comes
   obtain ⟨j, hj⟩ := List.mem_iff_getElem?.1 hen
   have hj' : j < M'.length := by rw [← hlen]; exact (List.getElem?_eq_some_iff.1 hj).1
   obtain ⟨q, hq⟩ : ∃ q, M'[j]? = some q := ⟨_, List.getElem?_eq_getElem hj'⟩
   obtain ⟨k, o⟩ := q
   have hkn : (M'.map (·.1)).Nodup := by rw [hmid.keys]; exact hc.1
   have hitems : o.Items.length ≤ 268435456 := by
     have hjv : j < v1.length := by rw [← hmid.len]; exact hj'
     obtain ⟨_, f, _, e2⟩ := hmid.at_ j _ _ (List.getElem?_eq_getElem hjv) hq
     simp only at e2
     rw [e2]
     exact Nat.le_trans (List.length_filter_le _ _) (hc.2 _ (List.getElem_mem hjv))
   have R1 : Rel K { nt := 48, env := [(6, .d (.bool ch)), (25, .iter r)], box := [], vec := [] } a w1 p ∧ w1.heap = w.heap := by rcases hw1 with rfl | rfl; exact ⟨at1.rel, rfl⟩; exact ⟨at1.rel.drew, rfl⟩
   obtain ⟨R1, hh1⟩ := R1
   obtain ⟨R2, hok2, hsee2, hne2, heq2⟩ := R1.quiet (r := r) (by rw [hh1]; exact hit) (m' := some b) (s' := clock) (c' := clock) (q' := seen.push en.born) hr0
   generalize hw2 : ChangeMaps.setBlock w1 r (.mapIter (some b) clock (seen.push en.born) clock) = w2 at *
   have hok1 : ∀ k, okc K w p k → okc K w1 p k := fun k hk => ⟨by rw [hh1]; exact hk.1, hk.2⟩
   have hbr : b ≠ r := fun e => by have := at1.map; rw [e, hit] at this; cases this
   have hBr : B ≠ r := fun e => by have := at1.box; rw [e, hit] at this; cases this
   have at2 : AtI K B b ty [(6, .d (.bool ch)), (25, .iter r)] M' es clock a w2 p := ⟨R2, at1.reg, (hne2 B hBr).trans (by rw [hh1]; exact at1.box), hok2 _ (hok1 _ at1.okB), hok2 _ (hok1 _ at1.okb), (hne2 b hbr).trans (by rw [hh1]; exact at1.map), at1.mr.mono (fun q _ => (hsee2 q).trans (see_of_block (by rw [hh1]))) fun k hk => hok2 k (hok1 k hk)⟩
   have okr2 := hok2 _ (hok1 _ okr)
   clear R1 R2 hok2 hsee2 hne2 hok1 hh1 hw1 hw2 hit okr hbr hBr at1 w1
   have hx : (Act.put a (some 26) (.tuple #[.bool true, en.key, en.val])).eval (.tmp 26) = .tuple #[.bool true, en.key, en.val] := eval_put_eq (by rw [at2.nt]; decide)
   refine run_val (v := .bool true) (w' := w2) rfl (by simp [execOp, hx, Instr.extract]) ?_
   refine then_norm (wp_seq (wp_cond_split (t := true) (eval_put_eq (by simp [Act.put]; rw [at2.nt]; decide)) (fun _ => wp_skip (then_norm ?_)) fun h => by cases h))
   have R8 := (at2.rel.put (d := 26) (x := .undef) (v := .tuple #[.bool true, en.key, en.val]) .undef (by simp)).put (d := 27) (x := .undef) (v := .bool true) .undef (by simp [St.put])
   have hreg8 : (Act.put (Act.put a (some 26) (.tuple #[.bool true, en.key, en.val])) (some 27) (.bool true)).eval (.tmp 3) = .pointer (some ⟨B, 0, none⟩) := by rw [eval_put_ne (by simp), eval_put_ne (by simp)]; exact at2.reg
   refine wp_block (wp_seq (wp_region_lit (wl_entry rfl (.tmp 25) rfl r b clock clock seen es en (wk_iter R8 (by simp [get, St.put])) heq2 at2.map hen hnd ?_)))
   obtain ⟨hk1, hv1⟩ := map_at (p := p) (j := j) (row := mRow (iRow .i64) api_Object_row (k, o)) (kA := .d (.int .i64 k)) (vA := .agg (api_Object_av o)) at2.mr (by simp [rowsF, hq]) (by rw [← Array.getElem?_toList]; exact hj) (by simp [packMA, tag_ka, tag_kz, mRow]) (by simp [packMA, tag_va, tag_kz, mRow])
   have R9 := R8.put (d := 28) (x := .tup [.d (.int .i64 k), .agg (api_Object_av o)]) (v := .tuple #[en.key, en.val]) (.tup rfl fun i y v hy hv' => by
     match i with
     | 0 => simp at hy hv'; subst hy; subst hv'; exact hk1
     | 1 => simp at hy hv'; subst hy; subst hv'; exact hv1
     | i + 2 => simp at hy) (by simp [St.put])
   have hreg9 : (Act.put (Act.put (Act.put a (some 26) (.tuple #[.bool true, en.key, en.val])) (some 27) (.bool true)) (some 28) (.tuple #[en.key, en.val])).eval (.tmp 3) = .pointer (some ⟨B, 0, none⟩) := by rw [eval_put_ne (by simp)]; exact hreg8
   have R10 := R9.also (at2.cptrA hreg9)
   generalize Act.put (Act.put (Act.put a (some 26) (.tuple #[.bool true, en.key, en.val])) (some 27) (.bool true)) (some 28) (.tuple #[en.key, en.val]) = a9 at *
   clear R8 R9 hk1 hv1 hreg8 hx
   refine wpl_regF hKi (fun K' => ko [3, 6, 7, 8, 25] 5 (by simp; rfl) tops_end) (by simp) R10 hreg9 fun a12 w12 p12 R12 kept12 hv12 => then_norm ?_
   refine wp_regF hKi (st1 := ({ nt := 48, env := [(3, .cptr [.mp (mTag 71 1 false true) 9 (rowsF (mRow (iRow .i64) api_Object_row) M')] 0), (6, .d (.bool ch)), (7, .d (.int .i64 k)), (8, .ptr 8 0), (9, .d (.slice (rowsF api_Item_row (o.Items.filter fun x => !dropB M' x)))), (25, .iter r)], box := [(8, api_Object_av o)], vec := [] } : St)) (fun K' => ?hT13) (by simp) R12 hv12 fun a13 w13 p13 R13 kept13 hv13 => ?_
   case hT13 =>
     by_cases hnil : o.Items = []
     · refine ko [3, 6, 7, 8, 25, 32] 2 (by simp; rfl) ?_
       refine kcall [3, 6, 7, 8, 25, 33] [] slices_CloneN rfl rfl rfl Tryz.call54 (by simp [hnil]) (by simp; rfl) ?_
       refine ko [3, 6, 7, 8, 25, 33, 34] 1 (by simp; rfl) ?_
       refine kcallV [3, 6, 7, 8, 25, 35] [] [] [] (delF_none (b10 := M')) rfl rfl rfl Tryz.call53 (by simp) (by simp; rfl) ?_
       refine ko [3, 6, 7, 8, 9, 25] 1 (by simp; rfl) ?_
       exact tops_nil ⟨rfl, by simp [hnil]⟩
     · have hpos : 0 < o.Items.length := List.length_pos_iff.2 hnil
       refine ko [3, 6, 7, 8, 25, 32] 2 (by simp; rfl) ?_
       refine kcallV [3, 6, 7, 8, 25, 33] [] [] [33] (slices_CloneF ⟨hitems, hpos⟩) rfl rfl rfl Tryz.call54 (by simp) (by simp; rfl) ?_
       refine ko [3, 6, 7, 8, 25, 33, 34] 1 (by simp; rfl) ?_
       refine kcallV [3, 6, 7, 8, 25, 35] [] [33] [35] (slices_DeleteFunc_api_Item_eat0_at_walk_index_1_ro_own0_ok (delF_eq o.Items hitems M')) rfl rfl rfl Tryz.call53 (by simp) (by simp; rfl) ?_
       refine ko [3, 6, 7, 8, 9, 25] 1 (by simp; rfl) ?_
       refine tops_frz 35 (tops_nil ⟨rfl, by simp [St.frz, get]⟩)
   refine wp_regF hKi (fun K' => ko [3, 6, 7, 8, 9, 25, 41] 6 (by simp; rfl) tops_end) (by simp) R13 hv13 fun a14 w14 p14 R14 kept14 hv14 => ?_
   have h41 := wp_bool R14 (t := 41) (b := decide (((o.Items.filter fun x => !dropB M' x).length : Int) < (o.Items.length : Int))) (by simp [St.look, get])
   have kept := (kept12.trans kept13).trans kept14
   clear kept12 kept13 kept14 hv12 hv13 R12 R13
   refine wp_cond_split h41 (fun hdec => ?_) (fun hdec => wp_skip (norm_in (then_norm ?_)))
   case refine_2 =>
     obtain ⟨p6, R6, ok6⟩ := R14.weak0 (st' := { nt := 48, env := [(6, .d (.bool ch)), (25, .iter r)], box := [], vec := [] }) (by simp [weak_iff])
     have at6 := at2.keep R6 (fun k hk => ⟨(kept k hk).1, ok6 k (kept k hk).2⟩) hv14
     refine ⟨(es.toList.filter fun e => !(seen.push en.born).contains e.born).length, by rw [← hn']; exact left_push hen hseen, ch, M', es, clock, clock, seen.push en.born, p6, at6, (kept r okr2).1.trans heq2, ok6 r (kept r okr2).2, Nat.le_refl _, hborn, hmid, fun hch j' en' q' h1 h2 h3 => ?_, hle, hlt, rfl⟩
     rw [Array.contains_push] at h2
     by_cases hs : seen.contains en'.born = true
     · exact hstab hch j' en' q' h1 hs h3
     · have hbe : en'.born = en.born := by
         rcases Bool.or_eq_true _ _ |>.mp h2 with h2 | h2
         · exact absurd h2 hs
         · simpa using h2
       have hjj : j' = j := by
         have e1 : (es.toList.map (·.born))[j']? = some en.born := by rw [List.getElem?_map, h1]; simp [hbe]
         have e2 : (es.toList.map (·.born))[j]? = some en.born := by rw [List.getElem?_map, hj]; rfl
         obtain ⟨g1, g2⟩ := List.getElem?_eq_some_iff.1 e1
         obtain ⟨g3, g4⟩ := List.getElem?_eq_some_iff.1 e2
         exact (List.getElem_inj hnd).1 (g2.trans g4.symm)
       subst hjj
       rw [hq] at h3
       cases h3
       have hge := filter_all (l := o.Items) (f := fun x => !dropB M' x) (by have := of_decide_eq_false hdec; omega)
       exact fun x hx => by simpa using hge x hx
   have hless : (o.Items.filter fun x => !dropB M' x).length < o.Items.length := by have := of_decide_eq_true hdec; omega
   refine wp_regF hKi (fun K' => ko [3, 6, 7, 8, 25] 4 (by simp; rfl) tops_end) (by simp) R14 hv14 fun a15 w15 p15 R15 kept15 hv15 => ?_
   have kept := kept.trans kept15
   clear kept15 hv14 R14 h41
   refine wp_region_lit (wl_load1 rfl 71 (.tmp 3) rfl B (.map (some b)) ty (0, 0) hv15 (by rw [Tryz.underlying71]; rfl) (by unfold isAggB; rw [Tryz.underlying71]) ((kept B at2.okB).1.trans at2.box) ?_)
   have R16 := R15.put (d := 44) (x := .undef) (v := .map (some b)) .undef (by simp)
   have h44 : (a15.put (some 44) (.map (some b))).eval (.tmp 44) = .map (some b) := eval_put_eq (by rw [R15.nt]; simp)
   have hv16 : (a15.put (some 44) (.map (some b))).eval (.tmp 3) = .pointer (some ⟨B, 0, none⟩) := by rw [eval_put_ne (by simp)]; exact hv15
   generalize a15.put (some 44) (.map (some b)) = a16 at *
   refine wpl_append [_, _] _ _ ?_
   refine wpl_regF2 hKi (fun K' => ko [6, 25, 45, 46] 2 (by simp; rfl) tops_end) (by simp) (by simp) R16 hv16 h44 fun a17 w17 p17 R17 kept17 hv17 h44' => ?_
   have kept := kept.trans kept17
   clear kept17 R16 R15 hv16 h44 hv15
   show wpList _ _ _ [_] a17 w17
   have hk17 : RA w17 (okc K w17 p17) p17 (.d (.int .i64 k)) (a17.eval (.tmp 45)) := by
     have := R17.opd (.tmp 45); simpa [opd, St.look, get] using this
   have hy17 : RA w17 (okc K w17 p17) p17 (.agg (api_Object_av { o with Items := o.Items.filter fun x => !dropB M' x })) (a17.eval (.tmp 46)) := by
     have := R17.opd (.tmp 46); simpa [opd, St.look, get] using this
   have hb17 := (kept b at2.okb).1.trans at2.map
   refine wl_update (p := p17) (kav := .d (.int .i64 k)) (yav := .agg (api_Object_av { o with Items := o.Items.filter fun x => !dropB M' x })) (kd := iRow .i64 k) (vd := api_Object_row { o with Items := o.Items.filter fun x => !dropB M' x }) (i := j) (q := api_Object_row o) rfl rfl rfl Tryz.underlying71 (obj_key M' k) (kept.mapR at2.mr) h44' hb17 hk17 hy17 (obj_unk M' k) (obj_unv M' _) (obj_kz M' k) (obj_find hkn hq) fun es' hbo hM' => ?_
   have hM' : MapR w17 (okc K w17 p17) ⟨mTag 71 1 false true, 9, rowsF (mRow (iRow .i64) api_Object_row) (M'.set j (k, { o with Items := o.Items.filter fun x => !dropB M' x }))⟩ es' clock := by
     rw [← obj_set]; exact hM'
   generalize hMM : M'.set j (k, { o with Items := o.Items.filter fun x => !dropB M' x }) = M2 at *
   obtain ⟨hb18, hne18, _⟩ := set_map (o' := .map es' clock) hb17
   have hsz18 : ({ w17 with heap := w17.heap.setIfInBounds b (.map es' clock) } : World).heap.size = w17.heap.size := by simp
   have hot18 : ({ w17 with heap := w17.heap.setIfInBounds b (.map es' clock) } : World).os = w17.os ∧ ({ w17 with heap := w17.heap.setIfInBounds b (.map es' clock) } : World).tape = w17.tape ∧ ({ w17 with heap := w17.heap.setIfInBounds b (.map es' clock) } : World).output = w17.output := ⟨rfl, rfl, rfl⟩
   generalize ({ w17 with heap := w17.heap.setIfInBounds b (.map es' clock) } : World) = w18 at *
   obtain ⟨p6, R6, ok6⟩ := R17.weak0 (st' := { nt := 48, env := [(6, .d (.bool true)), (25, .iter r)], box := [], vec := [] }) (by simp [weak_iff])
   have R7 := rel_new R6 (fun s y h => by
     simp only [get] at h
     split at h
     · cases h; exact .inl ⟨_, rfl⟩
     · split at h
       · cases h; exact .inr ⟨_, rfl⟩
       · cases h) hb0 hsz18 hot18 hne18
   have okg : ∀ k, okc K w17 p17 k → okc K w18 p6 k := fun k hk => okc_grow (Nat.le_of_eq hsz18.symm) (ok6 k hk)
   have hbB : B ≠ b := fun e => by have := at2.box; rw [e, at2.map] at this; cases this
   have hrb : r ≠ b := fun e => by have := heq2; rw [e, at2.map] at this; cases this
   have at7 : AtI K B b ty [(6, .d (.bool true)), (25, .iter r)] M2 es' clock a17 w18 p6 := ⟨R7, hv17, (hne18 B hbB).trans ((kept B at2.okB).1.trans at2.box), okg _ (kept B at2.okB).2, okg _ (kept b at2.okb).2, hb18, ((hM'.set hb17 hne18 (obj_plain M2)).mono (fun _ _ => rfl) okg)⟩
   have hs2 : sizeM M2 < sizeM M' := by rw [← hMM]; exact sizeM_set hq hless
   refine norm_in (then_norm ⟨(es'.toList.filter fun e => !(seen.push en.born).contains e.born).length, ?_, true, M2, es', clock, clock, seen.push en.born, p6, at7, (hne18 r hrb).trans ((kept r okr2).1.trans heq2), okg _ (kept r okr2).2, Nat.le_refl _, hM'.born, ?_, (fun h => absurd h (by decide)), by omega, fun _ => by omega, rfl⟩)
   · rw [born_len hbo, ← hn']; exact left_push hen hseen
   · rw [← hMM]; exact hmid.step hq
 · refine tr_block (tr_iter (fun s2 : Int × (List (Int × api_Object)) => ({ nt := 48, env := [(3, .ptr 3 0), (12, .d (.slice (rowsF api_Object_row a0.Objects))), (13, .d (.int .i64 ((a0.Objects).length : Int))), (14, .d (.int .i64 s2.1))], box := [(3, [.vec 10])], vec := [(10, ⟨mTag 71 1 false true, 9, rowsF (mRow (iRow .i64) api_Object_row) s2.2⟩)] } : St)) hI1 (wk (by simp [weak_iff])) fun G1 s2 o1 h1 hg1 he1 => ?_)
   unfold walk_index_l0 at h1
   refine kr [3, 12, 13, 14, 15] (by simp; rfl) ?_
   refine tr_seq ?_
   refine tr_cond (b := (decide (s2.1 < ((a0.Objects).length : Int)))) (by simp) (fun c3 => ?_) (fun c3 => ?_)
   · rw [if_pos c3] at h1
     refine tr_skip ?_
     refine tr_seq ?_
     refine tr_block ?_
     replace h1 := bnd h1; obtain ⟨x3, p3, h1⟩ := h1
     replace p3 := idx_some p3
     have p3' := p3; try simp at p3'
     refine kr [3, 5, 12, 13, 14] (by simp [p3, p3']; rfl) ?_
     refine lr (by simp; rfl) ?_
     refine lr (by simp; rfl) ?_
     exact ⟨_, hg1 _ (Option.some.inj h1), wk (by simp [weak_iff])⟩
   · rw [if_neg (by rw [c3]; decide)] at h1
     refine tr_exit ?_
     exact ⟨_, he1 _ (Option.some.inj h1), wk (by simp [weak_iff])⟩
end Go.Vl
