/- What history.reachable's loop comes to: what can be reached by names, whatever the order. Conditions: none. -/
import Derived.Test.YtjnflahicimmlaaHr
import Derived.Test.YtjnflahicimmlaaPlG
import Derived.Test.YtjnflahicimmlaaHsn
set_option linter.unusedSimpArgs false
set_option linter.unusedVariables false
namespace Go.Vl
open Go
theorem iter_meas {σ ε : Type} {body : σ → Option (Lp σ ε)} (Inv : σ → Prop) (μ : σ → Nat) (Φ : ε → Prop)
    (h : ∀ s, Inv s → (∃ s', body s = some (.go s') ∧ Inv s' ∧ μ s' < μ s) ∨ (∃ e, body s = some (.out e) ∧ Φ e)) : ∀ s, Inv s → ∃ e, iter body s = some e ∧ Φ e := by
  suffices H : ∀ n s, μ s ≤ n → Inv s → ∃ m e, itN body m s = some e ∧ Φ e from fun s hs => by
    obtain ⟨m, e, h1, h2⟩ := H (μ s) s (Nat.le_refl _) hs
    exact ⟨e, iter_iff.2 ⟨m, h1⟩, h2⟩
  intro n
  induction n with
  | zero =>
    intro s hn hs
    rcases h s hs with ⟨s', h1, h2, h3⟩ | ⟨e, h1, h2⟩
    · omega
    · exact ⟨1, e, by simp [itN, h1], h2⟩
  | succ n ih =>
    intro s hn hs
    rcases h s hs with ⟨s', h1, h2, h3⟩ | ⟨e, h1, h2⟩
    · obtain ⟨m, e, h4, h5⟩ := ih s' (by omega) h2
      exact ⟨m + 1, e, by simp [itN, h1, h4], h5⟩
    · exact ⟨1, e, by simp [itN, h1], h2⟩
/-- what an object with this ID names -/
def nmO (all : List (Int × api_Object)) (id : Int) : List Int := namesO ((mget inE all id).getD (⟨0, 0, [], [], 0, [], ByteArray.empty, 0⟩ : api_Object))
/-- reachable from these -/
inductive Rch (all : List (Int × api_Object)) (seeds : List Int) : Int → Prop
  | seed {id : Int} : id ∈ seeds → Rch all seeds id
  | step {id j : Int} : Rch all seeds id → j ∈ nmO all id → Rch all seeds j
/-- how many IDs those name that p leaves out -/
def wgt (p : Int → Bool) : List (Int × api_Object) → Nat
  | [] => 0
  | q :: l => (if p q.1 = true then 0 else (namesO q.2).length) + wgt p l
theorem wgt_congr {p p' : Int → Bool} : ∀ {l : List (Int × api_Object)}, (∀ q ∈ l, p q.1 = p' q.1) → wgt p l = wgt p' l
  | [], _ => rfl
  | q :: l, h => by simp only [wgt]; rw [h q (by simp), wgt_congr fun q hq => h q (by simp [hq])]
theorem nmO_nil : (namesO (⟨0, 0, [], [], 0, [], ByteArray.empty, 0⟩ : api_Object)) = [] := rfl
theorem wgt_take {p p' : Int → Bool} {x : Int} (hx : p x = false) (hp : ∀ c, p' c = (c == x || p c)) : ∀ {l : List (Int × api_Object)}, (l.map (·.1)).Nodup → wgt p' l + (nmO l x).length = wgt p l
  | [], _ => rfl
  | q :: l, hn => by
    rw [List.map_cons, List.nodup_cons] at hn
    unfold nmO
    rw [mget_cons]
    by_cases h : x = q.1
    · rw [if_pos ((inE_eq _ _).2 h)]
      have h2 : wgt p' l = wgt p l := wgt_congr fun r hr => by
        rw [hp]
        have : r.1 ≠ x := fun e => hn.1 (by rw [← h, ← e]; exact List.mem_map_of_mem hr)
        simp [this]
      simp only [wgt, Option.getD_some]
      rw [h2, hp, ← h, hx]
      simp
      omega
    · rw [if_neg (fun e => h ((inE_eq _ _).1 e))]
      have h2 := wgt_take hx hp hn.2
      unfold nmO at h2
      have : (q.1 == x) = false := by simpa using fun e => h e.symm
      simp only [wgt]
      rw [hp, this, Bool.false_or]
      omega
/-- a repository's objects, small enough to be walked through -/
def okR (all : List (Int × api_Object)) (n : Nat) : Prop := (all.map (·.1)).Nodup ∧ (∀ q ∈ all, fitO q.2 = true) ∧ n + wgt (fun _ => false) all ≤ 200000000
/-- in what history.reachable answers every key is there with true -/
structure RchM (all : List (Int × api_Object)) (seeds : List Int) (m : List (Int × Bool)) : Prop where
  nd : (m.map (·.1)).Nodup
  tt : ∀ q ∈ m, q.2 = true
  iff : ∀ id, id ∈ m.map (·.1) ↔ Rch all seeds id
structure RInv (all : List (Int × api_Object)) (seeds : List Int) (s : List (Int × Bool) × List Int) : Prop where
  nd : (s.1.map (·.1)).Nodup
  tt : ∀ q ∈ s.1, q.2 = true
  rk : ∀ id ∈ s.1.map (·.1), Rch all seeds id
  rn : ∀ id ∈ s.2, Rch all seeds id
  sd : ∀ id ∈ seeds, id ∈ s.1.map (·.1) ∨ id ∈ s.2
  st : ∀ id ∈ s.1.map (·.1), ∀ j ∈ nmO all id, j ∈ s.1.map (·.1) ∨ j ∈ s.2
  sz : s.2.length + wgt (fun c => (mget inE s.1 c).isSome) all ≤ 200000000
theorem mset_true {m : List (Int × Bool)} (h : ∀ q ∈ m, q.2 = true) (x : Int) : ∀ q ∈ mset inE m x true, q.2 = true := by
  induction m with
  | nil => intro q hq; simp [mset, mfind] at hq; rw [hq]
  | cons r m ih =>
    intro q hq
    rw [mset_cons] at hq
    split at hq
    · rcases List.mem_cons.1 hq with rfl | hq
      · rfl
      · exact h q (by simp [hq])
    · rcases List.mem_cons.1 hq with rfl | hq
      · exact h _ (by simp)
      · exact ih (fun q hq => h q (by simp [hq])) q hq
theorem fit_zero : fitO (⟨0, 0, [], [], 0, [], ByteArray.empty, 0⟩ : api_Object) = true := by simp [fitO]
theorem reach_iter {all : List (Int × api_Object)} {seeds ss : List Int} (ok : okR all ss.length) (hss : ∀ id, id ∈ ss ↔ id ∈ seeds) : ∃ r, iter (history_reachable_l0 all) ([], ss) = some r ∧ RchM all seeds r := by
  have hgf : ∀ (m : List (Int × Bool)) (x : Int), (∀ q ∈ m, q.2 = true) → (mget inE m x).getD false = (mget inE m x).isSome := fun m x h => by
    cases hg : mget inE m x with
    | none => rfl
    | some b => exact h _ (mget_some inE_eq hg)
  refine iter_meas (RInv all seeds) (fun s => s.2.length + wgt (fun c => (mget inE s.1 c).isSome) all) _ (fun s I => ?_) _ ⟨by simp, by simp, by simp, fun id hid => .seed ((hss id).1 hid), fun id hid => .inr ((hss id).2 hid), by simp, by simpa [mget, mfind] using ok.2.2⟩
  rcases List.eq_nil_or_concat s.2 with h0 | ⟨pre, x, h0⟩
  · right
    refine ⟨s.1, by unfold history_reachable_l0; simp [h0], I.nd, I.tt, fun id => ⟨I.rk id, fun h => ?_⟩⟩
    induction h with
    | seed h => exact (I.sd _ h).resolve_right (by simp [h0])
    | step _ h2 ih => exact (I.st _ ih _ h2).resolve_right (by simp [h0])
  · left
    have hsz := I.sz
    rw [h0] at hsz
    simp only [List.concat_eq_append, List.length_append, List.length_singleton] at h0 hsz
    have hlen : s.2.length = pre.length + 1 := by rw [h0]; simp
    have hw : IntKind.i64.wrap ((s.2.length : Int) - 1) = (pre.length : Int) := by rw [wrapI (by omega) (by omega)]; omega
    have hidx : idx s.2 (pre.length : Int) = some x := by
      rw [idx_nat, h0]; simp
    have htk : s.2.take pre.length = pre := by rw [h0]; simp
    have hck1 : ck (0 ≤ IntKind.i64.wrap ((s.2.length : Int) - 1) ∧ (Int.toNat (IntKind.i64.wrap ((s.2.length : Int) - 1))) < s.2.length) = some () := if_pos (by rw [hw]; omega)
    have hck2 : ck (0 ≤ 0 ∧ 0 ≤ IntKind.i64.wrap ((s.2.length : Int) - 1) ∧ IntKind.i64.wrap ((s.2.length : Int) - 1) ≤ ((s.2.length : Nat) : Int)) = some () := if_pos (by rw [hw]; omega)
    have hxr : Rch all seeds x := I.rn x (by rw [h0]; simp)
    have hb : history_reachable_l0 all s = if (mget inE s.1 x).isSome = true then some (.go (s.1, pre)) else some (.go (mset inE s.1 x true, pre ++ nmO all x)) := by
      unfold history_reachable_l0
      rw [if_pos (by simp; omega), hck1, hw, hidx]
      simp only [Option.bind_some]
      rw [hw] at hck2
      rw [hck2]
      simp only [Option.bind_some, Int.toNat_natCast]
      simp only [htk]
      rw [hgf _ _ I.tt]
      by_cases hm : (mget inE s.1 x).isSome = true
      · rw [hm]; simp
      · have hm' : (mget inE s.1 x).isSome = false := by simpa using hm
        rw [hm']
        have hfit : fitO ((mget inE all x).getD (⟨0, 0, [], [], 0, [], ByteArray.empty, 0⟩ : api_Object)) = true := by
          cases hg : mget inE all x with
          | none => exact fit_zero
          | some o => exact ok.2.1 _ (mget_some inE_eq hg)
        have hwt := wgt_take (p := fun c => (mget inE s.1 c).isSome) (p' := fun c => (c == x || (mget inE s.1 c).isSome)) (x := x) hm' (fun _ => rfl) ok.1
        have hln : pre.length + (nmO all x).length ≤ 268435456 := by omega
        simp only [Bool.not_false, if_true]
        unfold history_named
        rw [if_pos hfit]
        simp only [Option.bind_some]
        unfold nmO at hln
        rw [ck_t hln]
        rfl
    by_cases hm : (mget inE s.1 x).isSome = true
    · refine ⟨(s.1, pre), by rw [hb, if_pos hm], ⟨I.nd, I.tt, I.rk, fun id hid => I.rn id (by rw [h0]; simp [hid]), fun id hid => ?_, fun id hid j hj => ?_, by show pre.length + wgt (fun c => (mget inE s.1 c).isSome) all ≤ _; omega⟩, by show pre.length + wgt (fun c => (mget inE s.1 c).isSome) all < s.2.length + wgt (fun c => (mget inE s.1 c).isSome) all; omega⟩
      · rcases I.sd id hid with h | h
        · exact .inl h
        · rw [h0] at h
          rcases List.mem_append.1 h with h | h
          · exact .inr h
          · rw [List.mem_singleton.1 h]; exact .inl ((mget_mem inE_eq).1 hm)
      · rcases I.st id hid j hj with h | h
        · exact .inl h
        · rw [h0] at h
          rcases List.mem_append.1 h with h | h
          · exact .inr h
          · rw [List.mem_singleton.1 h]; exact .inl ((mget_mem inE_eq).1 hm)
    · have hm' : (mget inE s.1 x).isSome = false := by simpa using hm
      have hp : ∀ c, (mget inE (mset inE s.1 x true) c).isSome = (c == x || (mget inE s.1 c).isSome) := fun c => by
        by_cases e : c = x
        · rw [(mget_mset inE_eq _ _ _ _).1 e]; simp [e]
        · rw [(mget_mset inE_eq _ _ _ _).2 e]; simp [e]
      have hwt := wgt_take (p := fun c => (mget inE s.1 c).isSome) (p' := fun c => (mget inE (mset inE s.1 x true) c).isSome) (x := x) hm' hp ok.1
      refine ⟨(mset inE s.1 x true, pre ++ nmO all x), by rw [hb, if_neg hm], ⟨mset_nodup inE_eq I.nd x true, mset_true I.tt x, fun id hid => ?_, fun id hid => ?_, fun id hid => ?_, fun id hid j hj => ?_, by show (pre ++ nmO all x).length + wgt (fun c => (mget inE (mset inE s.1 x true) c).isSome) all ≤ _; rw [List.length_append]; omega⟩, by show (pre ++ nmO all x).length + wgt (fun c => (mget inE (mset inE s.1 x true) c).isSome) all < s.2.length + wgt (fun c => (mget inE s.1 c).isSome) all; rw [List.length_append]; omega⟩
      · rcases (mset_mem inE_eq).1 hid with rfl | h
        · exact hxr
        · exact I.rk id h
      · rcases List.mem_append.1 hid with h | h
        · exact I.rn id (by rw [h0]; simp [h])
        · exact .step hxr h
      · rcases I.sd id hid with h | h
        · exact .inl ((mset_mem inE_eq).2 (.inr h))
        · rw [h0] at h
          rcases List.mem_append.1 h with h | h
          · exact .inr (List.mem_append.2 (.inl h))
          · exact .inl ((mset_mem inE_eq).2 (.inl (List.mem_singleton.1 h)))
      · rcases (mset_mem inE_eq).1 hid with rfl | h
        · exact .inr (List.mem_append.2 (.inr hj))
        · rcases I.st id h j hj with h | h
          · exact .inl ((mset_mem inE_eq).2 (.inr h))
          · rw [h0] at h
            rcases List.mem_append.1 h with h | h
            · exact .inr (List.mem_append.2 (.inl h))
            · exact .inl ((mset_mem inE_eq).2 (.inl (List.mem_singleton.1 h)))
end Go.Vl

namespace Go.Vl
open Go Go.Proofs
/-- one event -/
noncomputable def refStep (m : List (ByteArray × Int)) (e : api_RefEvent) : List (ByteArray × Int) := if e.Kind = 1 then mset stE m e.Name e.Commit else mdel stE m e.Name
/-- the references at a time -/
noncomputable def refsF (t : Int) (m : List (ByteArray × Int)) : List api_RefEvent → List (ByteArray × Int)
  | [] => m
  | e :: l => if t < e.Time then m else refsF t (refStep m e) l
theorem refs_eq {a0 : api_Repository} (h : a0.Events.length ≤ 1000000) (t : Int) : history_refs a0 t = some (refsF t [] a0.Events) := by
  unfold history_refs
  obtain ⟨e, h1, h2⟩ := iter_meas (body := history_refs_l0 a0 t) (fun s => ∃ k : Nat, k ≤ a0.Events.length ∧ s.1 = (k : Int) ∧ refsF t s.2 (a0.Events.drop k) = refsF t [] a0.Events) (fun s => a0.Events.length - s.1.toNat) (fun e => e = refsF t [] a0.Events) (fun s ⟨k, hk, h1, h2⟩ => by
    unfold history_refs_l0
    rw [h1]
    by_cases hl : k < a0.Events.length
    · rw [if_pos (by simpa using hl), idx_nat, List.getElem?_eq_getElem hl]
      rw [List.drop_eq_getElem_cons hl] at h2
      simp only [Option.bind_some]
      simp only [refsF] at h2
      by_cases ht : t < (a0.Events[k]).Time
      · rw [if_pos ht] at h2
        right
        exact ⟨_, by rw [if_pos (by simpa using ht)], h2⟩
      · rw [if_neg ht] at h2
        left
        have hw : IntKind.i64.wrap ((k : Int) + 1) = ((k + 1 : Nat) : Int) := by rw [wrapI (by omega) (by omega)]; rfl
        rw [if_neg (by simpa using ht), hw]
        refine ⟨(((k + 1 : Nat) : Int), refStep s.2 a0.Events[k]), ?_, ⟨k + 1, hl, rfl, h2⟩, ?_⟩
        · unfold refStep
          by_cases hk1 : (a0.Events[k]).Kind = 1
          · rw [if_pos hk1, if_pos (by simpa using hk1)]
          · rw [if_neg hk1, if_neg (by simpa using hk1)]
        · show a0.Events.length - (((k + 1 : Nat) : Int)).toNat < a0.Events.length - ((k : Nat) : Int).toNat
          simp only [Int.toNat_natCast]; omega
    · right
      rw [if_neg (by simpa using hl)]
      refine ⟨_, rfl, ?_⟩
      rw [List.drop_eq_nil_of_le (by omega)] at h2
      simpa [refsF] using h2) (0, []) ⟨0, Nat.zero_le _, rfl, by simp⟩
  rw [h1, h2]; rfl
/-- the commits that the references name at a time -/
noncomputable def seedsAt (a0 : api_Repository) (t : Int) : List Int := (refsF t [] a0.Events).map (·.2)
open Classical in
/-- since when it is reachable, by the first n events -/
noncomputable def seenF (a0 : api_Repository) (all : List (Int × api_Object)) : Nat → Int → Option Int
  | 0, _ => none
  | n + 1, id => match seenF a0 all n id with
    | some t => some t
    | none => match a0.Events[n]? with
      | some e => if sameNext a0.Events n e.Time = false ∧ Rch all (seedsAt a0 e.Time) id then some e.Time else none
      | none => none
theorem seenStep_get (t : Int) (m : List (Int × Int)) (q : Int × Bool) (id : Int) : mget inE (seenStep t m q) id = if id = q.1 then (match mget inE m id with | some u => some u | none => some t) else mget inE m id := by
  unfold seenStep
  by_cases h : (mget inE m q.1).isSome = true
  · rw [if_pos h]
    split
    · rename_i e; subst e
      cases hg : mget inE m q.1 with
      | none => rw [hg] at h; cases h
      | some u => rfl
    · rfl
  · rw [if_neg h]
    split
    · rename_i e; subst e
      rw [(mget_mset inE_eq _ _ _ _).1 rfl]
      cases hg : mget inE m q.1 with
      | none => rfl
      | some u => rw [hg] at h; exact absurd rfl h
    · rename_i e
      rw [(mget_mset inE_eq _ _ _ _).2 e]
theorem seenFold_get (t : Int) : ∀ (l : List (Int × Bool)) (m : List (Int × Int)) (id : Int), mget inE (l.foldl (seenStep t) m) id = if id ∈ l.map (·.1) then (match mget inE m id with | some u => some u | none => some t) else mget inE m id
  | [], m, id => by simp
  | q :: l, m, id => by
    rw [List.foldl_cons, seenFold_get t l _ id, seenStep_get]
    by_cases h1 : id = q.1
    · simp only [h1, if_true, List.map_cons, List.mem_cons, true_or]
      cases mget inE m q.1 <;> simp
    · simp [h1]
theorem seenFold_nd (t : Int) : ∀ (l : List (Int × Bool)) (m : List (Int × Int)), (m.map (·.1)).Nodup → ((l.foldl (seenStep t) m).map (·.1)).Nodup
  | [], m, h => h
  | q :: l, m, h => by
    rw [List.foldl_cons]
    refine seenFold_nd t l _ ?_
    unfold seenStep
    split
    · exact h
    · exact mset_nodup inE_eq h _ _
/-- what Seen answers: since when each is reachable -/
structure SeenM (a0 : api_Repository) (all : List (Int × api_Object)) (n : Nat) (m : List (Int × Int)) : Prop where
  nd : (m.map (·.1)).Nodup
  eq : ∀ id, mget inE m id = seenF a0 all n id
theorem seen_zero (a0 : api_Repository) (all : List (Int × api_Object)) : SeenM a0 all 0 [] := ⟨by simp, fun id => rfl⟩
theorem seen_skip {a0 : api_Repository} {all : List (Int × api_Object)} {i : Nat} {e : api_RefEvent} (he : a0.Events[i]? = some e) (hs : sameNext a0.Events i e.Time = true) {m : List (Int × Int)} (h : SeenM a0 all i m) : SeenM a0 all (i + 1) m := ⟨h.nd, fun id => by
  rw [h.eq]
  simp only [seenF, he]
  rw [if_neg (fun q => by rw [hs] at q; cases q.1)]
  cases seenF a0 all i id <;> rfl⟩
theorem seen_take {a0 : api_Repository} {all : List (Int × api_Object)} {i : Nat} {e : api_RefEvent} (he : a0.Events[i]? = some e) (hs : sameNext a0.Events i e.Time = false) {m : List (Int × Int)} (h : SeenM a0 all i m) {rr l : List (Int × Bool)}
    (hr : RchM all (seedsAt a0 e.Time) rr) (hl : l.Perm rr) : SeenM a0 all (i + 1) (l.foldl (seenStep e.Time) m) := ⟨seenFold_nd _ _ _ h.nd, fun id => by
  have hm : id ∈ l.map (·.1) ↔ Rch all (seedsAt a0 e.Time) id := (hl.map _).mem_iff.trans (hr.iff id)
  rw [seenFold_get, h.eq]
  simp only [seenF, he]
  by_cases h1 : Rch all (seedsAt a0 e.Time) id
  · rw [if_pos (hm.2 h1), if_pos ⟨hs, h1⟩]
  · rw [if_neg (fun q => h1 (hm.1 q)), if_neg (fun q => h1 q.2)]
    cases seenF a0 all i id <;> rfl⟩
/-- small enough to be walked through at all times -/
structure OkH (a0 : api_Repository) (all : List (Int × api_Object)) : Prop where
  ev : a0.Events.length ≤ 1000000
  nd : (all.map (·.1)).Nodup
  fit : ∀ q ∈ all, fitO q.2 = true
  sz : wgt (fun _ => false) all ≤ 100000000
theorem refStep_len (m : List (ByteArray × Int)) (e : api_RefEvent) : (refStep m e).length ≤ m.length + 1 := by
  unfold refStep
  split
  · unfold mset
    split
    · simp
    · simp
  · have := (mdel_sub (e := stE) m e.Name).length_le
    omega
theorem refsF_len (t : Int) : ∀ (l : List api_RefEvent) (m : List (ByteArray × Int)), (refsF t m l).length ≤ m.length + l.length
  | [], m => by simp [refsF]
  | e :: l, m => by
    simp only [refsF]
    split
    · omega
    · have h1 := refsF_len t l (refStep m e)
      have h2 := refStep_len m e
      simp only [List.length_cons]
      omega
theorem seedsAt_len (a0 : api_Repository) (t : Int) : (seedsAt a0 t).length ≤ a0.Events.length := by
  have := refsF_len t a0.Events []
  unfold seedsAt
  simpa using this
/-- what reachable answers, in the value logic -/
theorem reachable_ok {a0 : api_Repository} {all : List (Int × api_Object)} (ok : OkH a0 all) (t : Int) :
    FnOKr Try.prog 41 [.agg (api_Repository_av a0), .d (.mp (mTag 69 1 false true) 9 (rowsF (mRow (iRow .i64) api_Object_row) all)), .d (.int .i64 t)] (RchM all (seedsAt a0 t)) (fun r => .d (.mp (mTag 49 1 false false) 2 (rowsF (mRow (iRow .i64) bRow) r))) (fun _ => []) :=
  history_reachable_ok (refs_eq ok.ev t) (by have := seedsAt_len a0 t; have := ok.ev; unfold seedsAt at *; simp at *; omega) fun ss hss => by
    have hl := seedsAt_len a0 t
    have hev := ok.ev
    refine reach_iter ⟨ok.nd, ok.fit, ?_⟩ fun id => hss.mem_iff
    have := hss.length_eq
    have hz := ok.sz
    unfold seedsAt at hl
    omega
theorem seen_ok {a0 : api_Repository} {all : List (Int × api_Object)} {sg : Bool} (hidx : history_index a0 = some (all, sg)) (ok : OkH a0 all) :
    FnOKr Try.prog 23 [.agg (api_Repository_av a0)] (SeenM a0 all a0.Events.length) (fun r => .d (.mp (mTag 58 1 false false) 2 (rowsF (mRow (iRow .i64) (iRow .i64)) r))) (fun _ => []) :=
  history_Seen_ok hidx ok.ev (fun t => reachable_ok ok t) (seen_zero a0 all) (fun _ _ he hs _ h => seen_skip he hs h) fun _ _ he hs _ h _ hr _ hl => seen_take he hs h hr hl
end Go.Vl
