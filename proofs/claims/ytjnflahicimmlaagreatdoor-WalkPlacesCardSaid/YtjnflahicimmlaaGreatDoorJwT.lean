/- Walk: the contents at a time, in plain words. Conditions: none. -/
import Derived.Test.YtjnflahicimmlaaGreatDoorJwS
set_option linter.unusedSimpArgs false
set_option linter.unusedVariables false
set_option linter.unusedSectionVars false
namespace Go.Vl
open Go
noncomputable def evT (r : api_Repository) (t k : Int) : List Int := befL r (objM r.Objects) (cleanM (objM r.Objects)) k t
noncomputable def plT (r : api_Repository) (t id : Int) : List api_Place := (evT r t 3).flatMap fun c => ((lvC r c).filter fun x => x.ID == id).map fun x => ⟨0, x.Name, sfC r c⟩
inductive Sub (os : List api_Object) (b : Int) : Int → Prop
 | refl : Sub os b b
 | head {o : api_Object} {x : api_Item} (ho : o ∈ os) (hx : x ∈ o.Items) (h : Sub os b x.ID) : Sub os b o.ID
theorem Sub.snoc {os : List api_Object} {b : Int} {o : api_Object} {x : api_Item} (ho : o ∈ os) (hx : x ∈ o.Items) (e : o.ID = b) {T : Int} (h : Sub os b T) : Sub os x.ID T := by
 induction h with
 | refl => rw [← e]; exact .head ho hx .refl
 | head h1 h2 _ ih => exact .head h1 h2 ih
theorem Sub.inv {os : List api_Object} {b T : Int} (h : Sub os b T) : T = b ∨ ∃ o ∈ os, ∃ x ∈ o.Items, o.ID = T ∧ Sub os b x.ID := by
 cases h with
 | refl => exact .inl rfl
 | head ho hx h => exact .inr ⟨_, ho, _, hx, rfl, h⟩
theorem sum_one {α : Type} : ∀ l : List α, (l.map fun _ => 1).sum = l.length
 | [] => rfl
 | _ :: l => by rw [List.map_cons, List.sum_cons, sum_one l, List.length_cons]; omega
theorem sum_filter_le {α : Type} (p q : α → Bool) (f : α → Nat) : ∀ L : List α, (∀ a ∈ L, p a = true → q a = true) → ((L.filter p).map f).sum ≤ ((L.filter q).map f).sum
 | [], _ => by simp
 | a :: L, h => by
   have ih := sum_filter_le p q f L fun b hb => h b (List.mem_cons_of_mem _ hb)
   rw [List.filter_cons, List.filter_cons]
   cases hp : p a with
   | true =>
     rw [if_pos rfl, if_pos (h a (List.mem_cons_self ..) hp), List.map_cons, List.map_cons, List.sum_cons, List.sum_cons]
     omega
   | false =>
     rw [if_neg (by decide)]
     split
     · rw [List.map_cons, List.sum_cons]; omega
     · exact ih
section
variable {r : api_Repository} (M : MadeR r)
include M
theorem MadeR.dead {b T : Int} (hb : ∃ o ∈ r.Objects, o.ID = b ∧ o.Kind = 1) (h : Sub r.Objects b T) : ¬ Dead (objM r.Objects) T := by
 have key : ∀ {k : Int} {o o' : api_Object}, (k, o) ∈ objM r.Objects → o' ∈ r.Objects → o'.ID = k → o' = o := fun {k o o'} h1 h2 h3 => by
   obtain ⟨o2, h4, e⟩ := List.mem_map.1 h1
   cases e
   have g1 := objM_get M.o.nd h4
   have g2 := objM_get M.o.nd h2
   rw [h3, g1] at g2
   exact (Option.some.inj g2).symm
 induction h with
 | refl =>
   obtain ⟨o, ho, e, hk⟩ := hb
   intro hd
   cases hd with
   | mk h1 h2 h3 =>
     have := key h1 ho e
     subst this
     omega
 | @head o x ho hx _ ih =>
   intro hd
   cases hd with
   | mk h1 h2 h3 =>
     have := key h1 ho rfl
     subst this
     exact ih (h3 x hx)
theorem MadeR.leaf_of {b : Int} (hb : ∃ o ∈ r.Objects, o.ID = b ∧ o.Kind = 1) : ∀ (n : Nat) {T : Int}, T.toNat < n → (∃ o ∈ r.Objects, o.ID = T ∧ o.Kind = 2) → Sub r.Objects b T → ∃ q ∈ leavesN (cleanM (objM r.Objects)) n T, q.2 = b
 | 0, _, h, _, _ => by omega
 | n + 1, T, hn, hT, h => by
   cases h with
   | refl =>
     obtain ⟨o, ho, e, hk⟩ := hb
     obtain ⟨o', ho', e', hk'⟩ := hT
     have g1 := objM_get M.o.nd ho
     have g2 := objM_get M.o.nd ho'
     rw [e] at g1; rw [e', g1] at g2
     cases g2; omega
   | @head o x ho hx h =>
     have hx2 : x ∈ kidI (cleanM (objM r.Objects)) o.ID := by
       unfold kidI
       rw [mget_clean, objM_get M.o.nd ho]
       exact List.mem_filter.2 ⟨hx, by simpa using M.dead hb h⟩
     have hdn := M.dag.dn o.ID x hx2
     have hkx : (∃ o ∈ r.Objects, o.ID = x.ID ∧ o.Kind = 1) ∨ (∃ o ∈ r.Objects, o.ID = x.ID ∧ o.Kind = 2) := by
       cases M.o.obj o ho with
       | blob h1 h2 h3 => rw [h3] at hx; cases hx
       | commit h1 h2 h3 => rw [h3] at hx; cases hx
       | tree h1 h2 h3 h4 => exact (h4 x hx).2
     rcases hkx with ⟨p, hp, e1, e2⟩ | ⟨p, hp, e1, e2⟩
     · have hbx : x.ID = b := by
         rcases h.inv with h | ⟨o2, ho2, x2, hx3, heq, h'⟩
         · exact h
         · exfalso
           have g1 := objM_get M.o.nd hp
           have g2 := objM_get M.o.nd ho2
           rw [e1] at g1
           rw [heq] at g2
           rw [g1] at g2
           cases g2
           cases M.o.obj p hp with
           | blob h1 h2 h3 => rw [h3] at hx3; cases hx3
           | commit h1 h2 h3 => omega
           | tree h1 h2 h3 h4 => omega
       have hkk : kidK (cleanM (objM r.Objects)) x.ID ≠ 2 := by rw [← e1, clean_kid M.o.nd hp, e2]; decide
       refine ⟨(x.Name, x.ID), ?_, hbx⟩
       simp only [leavesN, List.mem_flatMap]
       exact ⟨x, hx2, by rw [if_neg hkk]; simp⟩
     · have hkk : kidK (cleanM (objM r.Objects)) x.ID = 2 := by rw [← e1, clean_kid M.o.nd hp, e2]
       obtain ⟨q, hq, e⟩ := MadeR.leaf_of hb n (by omega) ⟨p, hp, e1, e2⟩ h
       refine ⟨((x.Name ++ slB) ++ q.1, q.2), ?_, e⟩
       simp only [leavesN, List.mem_flatMap]
       exact ⟨x, hx2, by rw [if_pos hkk]; exact List.mem_map_of_mem hq⟩
theorem MadeR.cover {t id : Int} (h : Rch (objM r.Objects) (seedsAt r t) id) : (∃ o ∈ r.Objects, o.ID = id ∧ o.Kind = 3) ∨ ∃ c ∈ r.Objects, c.Kind = 3 ∧ Rch (objM r.Objects) (seedsAt r t) c.ID ∧ Sub r.Objects id c.Tree := by
 induction h with
 | seed h => exact .inl (M.ok.seeds h)
 | @step i j h1 h2 ih =>
   obtain ⟨o, ho, rfl⟩ := M.ok.rchAt h1
   rw [M.ok.nm ho] at h2
   unfold namesO at h2
   simp only [List.mem_append, List.mem_map] at h2
   rcases h2 with (h2 | ⟨x, hx, rfl⟩) | h2
   · cases M.o.obj o ho with
     | blob h3 h4 h5 h6 h7 => rw [h7] at h2; cases h2
     | tree h3 h4 h5 h6 h7 h8 => rw [h8] at h2; cases h2
     | commit h3 h4 h5 h6 h7 h8 => exact .inl (h8 j h2).2
   · rcases ih with ⟨p, hp, e, hk⟩ | ⟨c, hc, hk, hr, hs⟩
     · have g1 := objM_get M.o.nd ho
       have g2 := objM_get M.o.nd hp
       rw [e, g1] at g2
       cases g2
       cases M.o.obj o ho with
       | blob h3 => omega
       | tree h3 => omega
       | commit h3 h4 h5 => rw [h5] at hx; cases hx
     · exact .inr ⟨c, hc, hk, hr, hs.snoc ho hx rfl⟩
   · split at h2
     · rename_i hk
       rw [List.mem_singleton] at h2
       subst h2
       exact .inr ⟨o, ho, hk, h1, .refl⟩
     · cases h2
theorem MadeR.evT_nd (t k : Int) : (evT r t k).Nodup := by
 unfold evT befL
 exact List.Nodup.sublist List.filter_sublist M.ok.ever_nd
variable {t : Int}
theorem MadeR.evT_mem {k : Int} (hk : k ≠ 0) {id : Int} : id ∈ evT r t k ↔ (∃ o ∈ r.Objects, o.ID = id ∧ o.Kind = k) ∧ ∃ u, seenF r (objM r.Objects) r.Events.length id = some u ∧ u ≤ t := by
 unfold evT befL
 rw [List.mem_filter, M.ok.ever_mem]
 cases hs : seenF r (objM r.Objects) r.Events.length id with
 | none => simp
 | some u =>
   by_cases hu : u ≤ t
   · have h2 : (∃ v, some u = some v ∧ v ≤ t) ↔ True := ⟨fun _ => trivial, fun _ => ⟨u, rfl, hu⟩⟩
     rw [h2]
     simp only [Option.isSome_some, Option.getD_some, true_and, and_true]
     rw [decide_eq_false (by omega), Bool.false_or, mget_clean]
     cases hg : mget inE (objM r.Objects) id with
     | none =>
       simp only [Option.map_none, Option.getD_none, Bool.not_eq_true', bne_eq_false_iff_eq]
       constructor
       · intro h; exact absurd h.symm hk
       · rintro ⟨o, ho, rfl, _⟩
         rw [objM_get M.o.nd ho] at hg; cases hg
     | some o =>
       obtain ⟨ho, rfl⟩ := objM_mem hg
       simp only [Option.map_some, Option.getD_some, Bool.not_eq_true', bne_eq_false_iff_eq]
       constructor
       · intro h; exact ⟨o, ho, rfl, h⟩
       · rintro ⟨o', ho', he, hk⟩
         have := objM_get M.o.nd ho'
         rw [he, hg] at this
         cases this; exact hk
   · constructor
     · rintro ⟨_, h⟩
       simp only [Option.getD_some] at h
       rw [decide_eq_true (by omega)] at h
       simp at h
     · rintro ⟨_, v, h1, h2⟩
       cases h1
       exact absurd h2 hu
theorem MadeR.comT {c : Int} (h : c ∈ evT r t 3) : ∃ o ∈ r.Objects, o.ID = c ∧ o.Kind = 3 ∧ lvC r c = lvO r o := by
 obtain ⟨o, ho, rfl, hk⟩ := ((M.evT_mem (by decide)).1 h).1
 exact ⟨o, ho, rfl, hk, by unfold lvC; rw [M.obj_of ho]⟩
theorem MadeR.evT_len {k : Int} : (evT r t k).length ≤ 13 := by
 have h1 : (evT r t k).length ≤ (everL r (objM r.Objects)).length := by
   unfold evT befL
   exact List.length_filter_le _ _
 have h2 := sub_len M.ok.ever_nd fun x hx => M.ok.ever_in hx
 have := M.lo
 omega
theorem MadeR.w_sumT : ∀ (cs : List Int), (∀ c ∈ cs, c ∈ evT r t 3) → (cs.map fun c => (lvC r c).length).sum ≤ 81 * cs.length
 | [], _ => by simp
 | c :: cs, h => by
   obtain ⟨o, ho, rfl, hk, e⟩ := M.comT (h c (by simp))
   have h1 := M.lv_len ho hk
   have h2 := MadeR.w_sumT cs fun c hc => h c (by simp [hc])
   rw [← e] at h1
   rw [List.map_cons, List.sum_cons, List.length_cons]
   omega
theorem MadeR.pl_eqT (id : Int) : (plT r t id).length = (((evT r t 3).flatMap (lvC r)).filter fun x => x.ID == id).length := by
 unfold plT
 rw [List.filter_flatMap, List.length_flatMap, List.length_flatMap]
 congr 2
 funext c
 rw [List.length_map]
theorem MadeR.w_lenT : ((evT r t 3).flatMap (lvC r)).length ≤ 1053 := by
 rw [List.length_flatMap]
 have h1 := M.w_sumT (evT r t 3) fun _ h => h
 have h2 := M.evT_len (t := t) (k := 3)
 omega
open Classical in
theorem MadeR.contentsT : walk_Contents r t = some ((evT r t 1).map (fun id => (⟨(getO r id).Data, plT r t id⟩ : api_Content)), 0) := by
 have hdat : ∀ id, ((mget inE (cleanM (objM r.Objects)) id).getD (⟨0, 0, [], [], 0, [], ByteArray.empty, 0⟩ : api_Object)).Data = (getO r id).Data := fun id => by
   unfold getO
   rw [mget_clean]
   cases mget inE (objM r.Objects) id <;> rfl
 have hlen := M.evT_len (t := t) (k := 1)
 have hsum := M.w_sumT (evT r t 3) fun _ h => h
 have hlen3 := M.evT_len (t := t) (k := 3)
 unfold walk_Contents
 rw [ok_valid M.fit M.ok, walk_index_eq M.ok, M.ok.idx]
 simp only [Option.bind_some]
 rw [if_neg (by decide), ck_t ⟨M.ok.okH, by have := M.ok.ever_len; omega⟩]
 simp only [Option.bind_some]
 rw [show befL r (objM r.Objects) (cleanM (objM r.Objects)) 3 t = evT r t 3 from rfl, show befL r (objM r.Objects) (cleanM (objM r.Objects)) 1 t = evT r t 1 from rfl,
   contP _ (fun c => (seenF r (objM r.Objects) r.Events.length c).getD 0) (lvC r) (evT r t 3) (fun c hc left h1 h2 => by
     obtain ⟨o, ho, rfl, hk, e⟩ := M.comT hc
     rw [e] at h1 ⊢
     exact M.paths ho hk left h1 h2) 2000 0 [] (by omega) (by omega) (by omega)]
 simp only [Option.bind_some]
 have hget : ∀ id, (mget inE ((evT r t 3).foldl (fun L c => (lvC r c).foldl (placeAt ((seenF r (objM r.Objects) r.Events.length c).getD 0)) L) []) id).getD [] = plT r t id := fun id => by
   have := placeC_get (fun c => (seenF r (objM r.Objects) r.Events.length c).getD 0) (lvC r) (evT r t 3) [] id
   rw [this]; rfl
 generalize (evT r t 3).foldl (fun L c => (lvC r c).foldl (placeAt ((seenF r (objM r.Objects) r.Events.length c).getD 0)) L) [] = PL at hget ⊢
 have hl := iter_foldl (body := walk_Contents_l0 (evT r t 1) (cleanM (objM r.Objects)) PL) (evT r t 1) (fun s id => s ++ [(⟨(getO r id).Data, plT r t id⟩ : api_Content)]) (fun s => s) (fun i s => s.length = i) (fun i hi s hs => ⟨?_, by simp [hs]⟩) (fun s hs => ?_) [] rfl
 · rw [hl, fold_app]; rfl
 · unfold walk_Contents_l0
   rw [if_pos (by simp; omega), idx_lt hi]
   simp only [Option.bind_some]
   rw [hdat, hget]
   unfold slices_Clone_byte
   have hd : (getO r (evT r t 1)[i]).Data.length ≤ 268435456 := by
     obtain ⟨o, ho, e, _⟩ := ((M.evT_mem (by decide)).1 (List.getElem_mem hi)).1
     rw [← e, M.obj_of ho]
     have := M.ok.obj ho
     omega
   rw [ck_t hd]
   simp only [Option.bind_some]
   rw [ck_t (by simp; omega), w64 (by omega) (by omega)]
   rfl
 · unfold walk_Contents_l0
   rw [if_neg (by simp)]
end
section
variable {r : api_Repository} (M : MadeR r) {t : Int}
include M
theorem MadeR.w_idT : ∀ x ∈ (evT r t 3).flatMap (lvC r), x.ID ∈ evT r t 1 := fun x hx => by
 obtain ⟨c, hc, hx⟩ := List.mem_flatMap.1 hx
 obtain ⟨u, hu, hut⟩ := ((M.evT_mem (by decide)).1 hc).2
 obtain ⟨o, ho, rfl, hk, e⟩ := M.comT hc
 rw [e] at hx
 obtain ⟨q, hq, rfl⟩ := (M.lv_mem ho hk).1 hx
 have hr := seen_rch hu
 have hr2 : Rch (objM r.Objects) (seedsAt r u) o.Tree := .step hr (by
   rw [M.ok.nm ho]
   unfold namesO
   rw [if_pos hk]; simp)
 obtain ⟨h1, h2⟩ := M.leaf _ _ q hq hr2
 obtain ⟨u', h3, h4⟩ := rch_seen M.ok.so h1
 exact (M.evT_mem (by decide)).2 ⟨h2, u', h3, by omega⟩
theorem MadeR.pl_ne {b : Int} (hb : b ∈ evT r t 1) : (plT r t b).length ≠ 0 := by
 obtain ⟨h1, u, hu, hut⟩ := (M.evT_mem (by decide)).1 hb
 rcases M.cover (seen_rch hu) with ⟨o, ho, e, hk⟩ | ⟨c, hc, hk, hr, hs⟩
 · obtain ⟨o', ho', e', hk'⟩ := h1
   have g1 := objM_get M.o.nd ho
   have g2 := objM_get M.o.nd ho'
   rw [e] at g1; rw [e', g1] at g2
   cases g2; omega
 · obtain ⟨u', h3, h4⟩ := rch_seen M.ok.so hr
   have hcT : c.ID ∈ evT r t 3 := (M.evT_mem (by decide)).2 ⟨⟨c, hc, rfl, hk⟩, u', h3, by omega⟩
   have hT : ∃ o ∈ r.Objects, o.ID = c.Tree ∧ o.Kind = 2 := by
     cases M.o.obj c hc with
     | blob h1 => omega
     | tree h1 => omega
     | commit h1 h2 h3 h4 h5 => exact h5
   obtain ⟨q, hq, e⟩ := M.leaf_of h1 (c.Tree.toNat + 1) (Nat.lt_succ_self _) hT hs
   rw [M.pl_eqT]
   intro h0
   have hx : (⟨(decS c.ID ++ ⟨#[58]⟩) ++ q.1, q.2⟩ : api_Item) ∈ (((evT r t 3).flatMap (lvC r)).filter fun x => x.ID == b) := by
     refine List.mem_filter.2 ⟨List.mem_flatMap.2 ⟨c.ID, hcT, ?_⟩, by simp [e]⟩
     unfold lvC
     rw [M.obj_of hc]
     exact (M.lv_mem hc hk).2 ⟨q, hq, rfl⟩
   rw [List.eq_nil_of_length_eq_zero h0] at hx
   cases hx
theorem MadeR.pl_time {b : Int} {p : api_Place} (hp : p ∈ plT r t b) : p.Time ≤ t ∧ p.Source = 0 := by
 unfold plT at hp
 obtain ⟨c, hc, hp⟩ := List.mem_flatMap.1 hp
 obtain ⟨x, _, rfl⟩ := List.mem_map.1 hp
 obtain ⟨u, hu, hut⟩ := ((M.evT_mem (by decide)).1 hc).2
 refine ⟨?_, rfl⟩
 show sfC r c ≤ t
 unfold sfC
 rw [hu]; exact hut
theorem MadeR.pl_sum : ((evT r t 1).map fun b => (plT r t b).length).sum = (((evT r t 3).map fun c => (lvC r c).length)).sum := by
 have h1 := (group_perm (fun x : api_Item => x.ID) (evT r t 1) (M.evT_nd t 1) _ (M.w_idT (t := t))).length_eq
 rw [List.length_flatMap, List.length_flatMap] at h1
 rw [← h1]
 congr 1
 refine List.map_congr_left fun b _ => ?_
 exact M.pl_eqT b
omit M in
theorem evT_le {t' : Int} (h : t ≤ t') (k : Int) (f : Int → Nat) : ((evT r t k).map f).sum ≤ ((evT r t' k).map f).sum := by
 unfold evT befL
 refine sum_filter_le _ _ f _ fun a _ ha => ?_
 simp only [Bool.not_eq_true', Bool.or_eq_false_iff, decide_eq_false_iff_not] at ha ⊢
 exact ⟨by omega, ha.2⟩
omit M in
theorem evT_len_le {t' : Int} (h : t ≤ t') (k : Int) : (evT r t k).length ≤ (evT r t' k).length := by
 have := evT_le (r := r) h k (fun _ => 1)
 rw [sum_one, sum_one] at this; exact this
open Classical in
theorem MadeR.blobsT : walk_Blobs r t = some (evT r t 1) := by
 unfold walk_Blobs
 rw [ok_valid M.fit M.ok, walk_index_eq M.ok, M.ok.idx]
 simp only [Option.bind_some]
 rw [if_neg (by decide), ck_t ⟨M.ok.okH, by have := M.ok.ever_len; omega⟩]
 simp only [Option.bind_some]
 rfl
end
end Go.Vl
namespace Go.Vl
open Go
theorem foldN_sum {α : Type} (f : α → Nat) : ∀ (l : List α) (n : Int), l.foldl (fun n b => n + (f b : Int)) n = n + (((l.map f).sum : Nat) : Int)
 | [], n => by simp
 | b :: l, n => by rw [List.foldl_cons, foldN_sum f l, List.map_cons, List.sum_cons]; omega
section
variable {r : api_Repository} (M : MadeR r) {t : Int}
include M
theorem MadeR.pl_len (b : Int) : (plT r t b).length ≤ 1053 := by
 have h1 := M.pl_eqT (t := t) b
 have h2 := M.w_lenT (t := t)
 have h3 := List.length_filter_le (fun x : api_Item => x.ID == b) ((evT r t 3).flatMap (lvC r))
 omega
theorem places_l2 {a1 : Int} (ha : bAnd .i64 a1 31 = t) (D : List Int) (b : Int) : iter (law16_WalkPlaces_l2 ⟨D, plT r t b⟩ a1) 0 = some (.inl ()) := by
 have hl := M.pl_len (t := t) b
 have key := (iter_foldlS (body := law16_WalkPlaces_l2 ⟨D, plT r t b⟩ a1) (plT r t b) (fun (i : Nat) (_ : Unit) => (i : Int)) (fun _ _ => ()) (fun _ => .inl ()) (fun _ _ => True) (fun i hi s _ => ⟨?_, trivial⟩) (fun s _ => ?_) () trivial).1
 · exact key
 · obtain ⟨h1, h2⟩ := M.pl_time (List.getElem_mem hi)
   unfold law16_WalkPlaces_l2
   rw [if_pos (by simp; omega), idx_lt hi, ha]
   simp only [Option.bind_some]
   rw [if_neg (by simp; omega), h2]
   simp only [Option.bind_some]
   rw [if_neg (by decide), w64 (by omega) (by omega)]
   rfl
 · unfold law16_WalkPlaces_l2
   rw [if_neg (by simp)]
end
theorem WalkPlaces_law (a : List Int) (a1 : Int) : law16_WalkPlaces a a1 = some true := by
 obtain ⟨r, m, e1, M, _, _, tb⟩ := repo_ex a
 obtain ⟨v, m', e2, v0, v9, _⟩ := next_b tb (by omega) (n := 9) (by omega)
 obtain ⟨x, hx, x0, x1⟩ : ∃ x, bAnd .i64 a1 31 = x ∧ 0 ≤ x ∧ x ≤ 31 := by
   refine ⟨_, bAndM a1 5 (by omega) 31 (by decide), ?_, ?_⟩
   · exact Int.emod_nonneg _ (by decide)
   · have := Int.emod_lt_of_pos a1 (b := ((2 ^ 5 : Nat) : Int)) (by decide)
     omega
 unfold law16_WalkPlaces
 rw [e1]
 simp only [Option.bind_some]
 rw [hx, M.contentsT]
 simp only [Option.bind_some]
 rw [e2]
 simp only [Option.bind_some]
 rw [w64 (by omega) (by omega), M.contentsT, M.blobsT]
 simp only [Option.bind_some]
 have hle := evT_len_le (r := r) (t := x) (t' := x + v) (by omega) 1
 rw [if_neg (by simp; omega)]
 have hln := M.evT_len (t := x) (k := 1)
 have hln' := M.evT_len (t := x + v) (k := 1)
 have k0 := (iter_foldlS (body := law16_WalkPlaces_l0 ((evT r x 1).map (fun id => (⟨(getO r id).Data, plT r x id⟩ : api_Content)), 0) (evT r x 1) (r, m) a1) (evT r x 1) (fun (i : Nat) (n : Int) => (n, (i : Int))) (fun n b => n + ((plT r x b).length : Int)) (fun n => .inl n) (fun i n => 0 ≤ n ∧ n ≤ 1053 * i) (fun i hi n hn => ⟨?_, ?_⟩) (fun n _ => ?_) 0 (by simp)).1
 · have k1 := (iter_foldlS (body := law16_WalkPlaces_l1 ((evT r (x + v) 1).map (fun id => (⟨(getO r id).Data, plT r (x + v) id⟩ : api_Content)), 0)) (evT r (x + v) 1) (fun (i : Nat) (n : Int) => (n, (i : Int))) (fun n b => n + ((plT r (x + v) b).length : Int)) (fun n => n) (fun i n => 0 ≤ n ∧ n ≤ 1053 * i) (fun i hi n hn => ⟨?_, ?_⟩) (fun n _ => ?_) 0 (by simp)).1
   · rw [foldN_sum] at k0 k1
     have k0' : iter (law16_WalkPlaces_l0 ((evT r x 1).map (fun id => (⟨(getO r id).Data, plT r x id⟩ : api_Content)), 0) (evT r x 1) (r, m) a1) (0, 0) = _ := k0
     have k1' : iter (law16_WalkPlaces_l1 ((evT r (x + v) 1).map (fun id => (⟨(getO r id).Data, plT r (x + v) id⟩ : api_Content)), 0)) (0, 0) = _ := k1
     rw [k0']
     simp only [Option.bind_some]
     rw [k1']
     simp only [Option.bind_some]
     have h1 := M.pl_sum (t := x)
     have h2 := M.pl_sum (t := x + v)
     have h3 := evT_le (r := r) (t := x) (t' := x + v) (by omega) 3 (fun c => (lvC r c).length)
     rw [if_pos (by simp; omega), awake16]
     rfl
   · have hp := M.pl_len (t := x + v) (evT r (x + v) 1)[i]
     unfold law16_WalkPlaces_l1
     rw [if_pos (by simp; omega), idx_lt (by simpa using hi)]
     simp only [Option.bind_some, List.getElem_map]
     rw [w64 (by omega) (by omega), w64 (by omega) (by omega)]
     rfl
   · have hp := M.pl_len (t := x + v) (evT r (x + v) 1)[i]
     omega
   · unfold law16_WalkPlaces_l1
     rw [if_neg (by simp)]
 · have hp := M.pl_len (t := x) (evT r x 1)[i]
   have hb := List.getElem_mem hi
   obtain ⟨⟨o, ho, e, _⟩, _⟩ := (M.evT_mem (by decide)).1 hb
   have hne := M.pl_ne hb
   have hget : getO r o.ID = o := M.obj_of ho
   unfold law16_WalkPlaces_l0
   rw [if_pos (by simp; omega), idx_lt hi]
   simp only [Option.bind_some]
   rw [idx_lt (by simpa using hi)]
   simp only [List.getElem_map]
   generalize (evT r x 1)[i] = b at *
   subst e
   rw [find_eq M ho, hget]
   simp only [Option.bind_some]
   have hne' : (((plT r x o.ID).length : Int) == 0) = false := by simp; intro h; exact hne (by rw [h]; rfl)
   rw [if_neg (by rw [hne']; decide), if_neg (by simp)]
   simp only [Option.bind_some]
   rw [if_neg (by simp), places_l2 M hx]
   simp only [Option.bind_some]
   rw [w64 (by omega) (by omega), w64 (by omega) (by omega)]
   rfl
 · have hp := M.pl_len (t := x) (evT r x 1)[i]
   omega
 · unfold law16_WalkPlaces_l0
   rw [if_neg (by simp)]
end Go.Vl
