/- What history's functions answer of a repository without an error. Conditions: none. -/
import Derived.Test.YtjnflahicimmlaaHpCd
import Derived.Test.YtjnflahicimmlaaHzz
set_option linter.unusedSimpArgs false
set_option linter.unusedVariables false
namespace Go.Vl
open Go
theorem nodup_len {α : Type} : ∀ {l m : List α}, l.Nodup → l ⊆ m → l.length ≤ m.length
  | [], _, _, _ => Nat.zero_le _
  | x :: l, m, h1, h2 => by
    rw [List.nodup_cons] at h1
    obtain ⟨s, t, rfl⟩ := List.append_of_mem (h2 (List.mem_cons_self ..))
    have : l ⊆ s ++ t := fun y hy => by
      rcases List.mem_append.1 (h2 (List.mem_cons_of_mem _ hy)) with h | h
      · exact List.mem_append_left _ h
      · rcases List.mem_cons.1 h with rfl | h
        · exact absurd hy h1.1
        · exact List.mem_append_right _ h
    have := nodup_len h1.2 this
    simp only [List.length_append, List.length_cons] at this ⊢
    omega
theorem mset_in {κ ν : Type} {e : κ → κ → Bool} {m : List (κ × ν)} {k : κ} {v : ν} {q : κ × ν} (h : q ∈ mset e m k v) : q = (k, v) ∨ q ∈ m := by
  induction m with
  | nil => rw [mset_nil] at h; exact .inl (List.mem_singleton.1 h)
  | cons r m ih =>
    rw [mset_cons] at h
    split at h
    · rcases List.mem_cons.1 h with h | h
      · exact .inl h
      · exact .inr (List.mem_cons_of_mem _ h)
    · rcases List.mem_cons.1 h with h | h
      · exact .inr (h ▸ List.mem_cons_self ..)
      · rcases ih h with h | h
        · exact .inl h
        · exact .inr (List.mem_cons_of_mem _ h)
theorem refsF_mem {t : Int} : ∀ {l : List api_RefEvent} {m : List (ByteArray × Int)} {q : ByteArray × Int}, q ∈ refsF t m l → q ∈ m ∨ ∃ e ∈ l, e.Kind = 1 ∧ e.Time ≤ t ∧ q = (e.Name, e.Commit)
  | [], m, q, h => .inl h
  | e :: l, m, q, h => by
    simp only [refsF] at h
    split at h
    · exact .inl h
    · rename_i ht
      rcases refsF_mem h with h | ⟨e', h1, h2⟩
      · unfold refStep at h
        split at h
        · rename_i hk
          rcases mset_in h with h | h
          · exact .inr ⟨e, List.mem_cons_self .., hk, by omega, h⟩
          · exact .inl h
        · exact .inl ((mdel_sub m e.Name).subset h)
      · exact .inr ⟨e', List.mem_cons_of_mem _ h1, h2⟩
theorem nl_commit {all : List (Int × api_Object)} : ∀ {l : List api_RefEvent} {m : List (ByteArray × Bool)}, nlB all l m = false → ∀ e ∈ l, e.Kind = 1 → kindM all e.Commit = 3
  | [], _, _, e, he, _ => by cases he
  | e' :: l, m, h, e, he, hk => by
    rw [nl_cons, Bool.or_eq_false_iff] at h
    rcases List.mem_cons.1 he with rfl | he
    · have := h.1
      unfold bareB at this
      rw [Bool.or_eq_false_iff, Bool.and_eq_false_iff] at this
      rcases this.1 with h2 | h2
      · simp [hk] at h2
      · simpa using h2
    · exact nl_commit h.2 e he hk
theorem wgt_le {n : Nat} : ∀ {l : List (Int × api_Object)}, (∀ q ∈ l, (namesO q.2).length ≤ n) → wgt (fun _ => false) l ≤ l.length * n
  | [], _ => by simp [wgt]
  | q :: l, h => by
    have h1 := h q (by simp)
    have h2 := wgt_le (l := l) fun r hr => h r (by simp [hr])
    simp only [wgt, Bool.false_eq_true, if_false, List.length_cons, Nat.add_mul]
    omega
theorem names_len (o : api_Object) : (namesO o).length ≤ o.Parents.length + o.Items.length + 1 := by
  unfold namesO
  split <;> simp <;> omega
section
variable {a0 : api_Repository} (V : OkV a0)
include V
theorem OkV.obj {o : api_Object} (h : o ∈ a0.Objects) : o.Data.length ≤ 65536 ∧ o.Items.length ≤ 64 ∧ o.Parents.length ≤ 8 := (objE_zero.1 (V.ob o h)).2.1
theorem OkV.idx : history_index a0 = some (objM a0.Objects, true) := by
  rw [index_eq (by have := V.no; omega), decide_eq_true (idxM_single.2 V.nd), idxM_nodup V.nd]
theorem OkV.okH : OkH a0 (objM a0.Objects) := by
  refine ⟨by have := V.ne; omega, by rw [objM_keys]; exact V.nd, fun q hq => ?_, ?_⟩
  · obtain ⟨o, ho, rfl⟩ := List.mem_map.1 hq
    have := V.obj ho
    simp only [fitO, Bool.and_eq_true, decide_eq_true_eq]; omega
  · have := wgt_le (n := 73) (l := objM a0.Objects) fun q hq => by
      obtain ⟨o, ho, rfl⟩ := List.mem_map.1 hq
      have h1 := V.obj ho
      have h2 := names_len o
      show (namesO o).length ≤ 73
      omega
    have h2 := V.no
    have h3 : (objM a0.Objects).length = a0.Objects.length := by simp [objM]
    rw [h3] at this
    omega
theorem OkV.get {o : api_Object} (h : o ∈ a0.Objects) : mget inE (objM a0.Objects) o.ID = some o := mget_of inE_eq (by rw [objM_keys]; exact V.nd) (List.mem_map.2 ⟨o, h, rfl⟩)
omit V in
theorem objM_get {l : List api_Object} {id : Int} {o : api_Object} (h : mget inE (objM l) id = some o) : o ∈ l ∧ o.ID = id := by
  obtain ⟨o', h1, h2⟩ := List.mem_map.1 (mget_some inE_eq h)
  cases h2
  exact ⟨h1, rfl⟩
omit V in
theorem kind_in {l : List api_Object} {id : Int} (h : kindM (objM l) id ≠ 0) : ∃ o ∈ l, o.ID = id ∧ kindM (objM l) id = o.Kind := by
  unfold kindM at h ⊢
  cases hg : mget inE (objM l) id with
  | none => rw [hg] at h; exact absurd rfl h
  | some o => exact ⟨o, (objM_get hg).1, (objM_get hg).2, rfl⟩
theorem OkV.kind {o : api_Object} (h : o ∈ a0.Objects) : kindM (objM a0.Objects) o.ID = o.Kind := by
  unfold kindM; rw [V.get h]; rfl
theorem OkV.nm {o : api_Object} (h : o ∈ a0.Objects) : nmO (objM a0.Objects) o.ID = namesO o := by
  unfold nmO; rw [V.get h]; rfl
/-- what an object names is there -/
theorem OkV.named {o : api_Object} (h : o ∈ a0.Objects) {j : Int} (hj : j ∈ namesO o) : ∃ p ∈ a0.Objects, p.ID = j := by
  have h1 := V.hr o h
  unfold hereB at h1
  simp only [Bool.and_eq_true, List.all_eq_true, Bool.or_eq_true, beq_iff_eq, bne_iff_ne] at h1
  obtain ⟨h2, h3, h4⟩ := h1
  unfold namesO at hj
  simp only [List.mem_append, List.mem_map] at hj
  have hk : kindM (objM a0.Objects) j ≠ 0 := by
    rcases hj with (hj | ⟨x, hx, rfl⟩) | hj
    · rw [h3 j hj]; decide
    · rcases h2 x hx with e | e <;> rw [e] <;> decide
    · split at hj
      · rename_i hk
        rw [List.mem_singleton.1 hj]
        rcases h4 with e | e
        · exact absurd hk e
        · rw [e]; decide
      · cases hj
  obtain ⟨p, hp, h5, _⟩ := kind_in hk
  exact ⟨p, hp, h5⟩
theorem OkV.seeds {t id : Int} (h : id ∈ seedsAt a0 t) : ∃ p ∈ a0.Objects, p.ID = id ∧ p.Kind = 3 := by
  unfold seedsAt at h
  obtain ⟨q, hq, rfl⟩ := List.mem_map.1 h
  rcases refsF_mem hq with h | ⟨e, he, hk, _, rfl⟩
  · cases h
  · have := nl_commit V.nl e he hk
    obtain ⟨p, hp, h1, h2⟩ := kind_in (l := a0.Objects) (id := e.Commit) (by rw [this]; decide)
    exact ⟨p, hp, h1, by rw [← h2]; exact this⟩
/-- all that is reachable is an object -/
theorem OkV.rch {seeds : List Int} (hs : ∀ id ∈ seeds, ∃ p ∈ a0.Objects, p.ID = id) {id : Int} (h : Rch (objM a0.Objects) seeds id) : ∃ p ∈ a0.Objects, p.ID = id := by
  induction h with
  | seed h => exact hs _ h
  | step _ h2 ih =>
    obtain ⟨p, hp, rfl⟩ := ih
    rw [V.nm hp] at h2
    exact V.named hp h2
theorem OkV.rchAt {t id : Int} (h : Rch (objM a0.Objects) (seedsAt a0 t) id) : ∃ p ∈ a0.Objects, p.ID = id := V.rch (fun id hid => by obtain ⟨p, hp, h1, _⟩ := V.seeds hid; exact ⟨p, hp, h1⟩) h
theorem OkV.reachM (t : Int) : ∃ m, RchM (objM a0.Objects) (seedsAt a0 t) m := by
  have H := V.okH
  have hl := seedsAt_len a0 t
  have hev := V.ne
  have hz := H.sz
  obtain ⟨m, _, h⟩ := reach_iter (all := objM a0.Objects) (seeds := seedsAt a0 t) (ss := seedsAt a0 t) ⟨H.nd, H.fit, by omega⟩ fun _ => Iff.rfl
  exact ⟨m, h⟩
theorem OkV.seenM (n : Nat) : ∃ m, SeenM a0 (objM a0.Objects) n m := by
  induction n with
  | zero => exact ⟨[], seen_zero _ _⟩
  | succ n ih =>
    obtain ⟨m, hm⟩ := ih
    cases he : a0.Events[n]? with
    | none => exact ⟨m, hm.nd, fun id => by rw [hm.eq]; simp only [seenF, he]; cases seenF a0 (objM a0.Objects) n id <;> rfl⟩
    | some e =>
      cases hs : sameNext a0.Events n e.Time with
      | true => exact ⟨m, seen_skip he hs hm⟩
      | false =>
        obtain ⟨rr, hr⟩ := V.reachM e.Time
        exact ⟨_, seen_take he hs hm hr (List.Perm.refl _)⟩
theorem OkV.reach_mem {t x : Int} : x ∈ reachL (objM a0.Objects) (seedsAt a0 t) ↔ Rch (objM a0.Objects) (seedsAt a0 t) x := by
  obtain ⟨m, hm⟩ := V.reachM t
  rw [← reachL_eq hm, sortI_mem, hm.iff]
theorem OkV.reach_nd (t : Int) : (reachL (objM a0.Objects) (seedsAt a0 t)).Nodup := by
  obtain ⟨m, hm⟩ := V.reachM t
  rw [← reachL_eq hm]; exact sortI_nodup hm.nd
theorem OkV.reach_so (t : Int) : (reachL (objM a0.Objects) (seedsAt a0 t)).Pairwise (· ≤ ·) := by
  obtain ⟨m, hm⟩ := V.reachM t
  rw [← reachL_eq hm]; exact sortI_sorted _
omit V in
theorem sub_len {l : List Int} {os : List api_Object} (h1 : l.Nodup) (h2 : ∀ x ∈ l, ∃ p ∈ os, p.ID = x) : l.length ≤ os.length := by
  have : l ⊆ os.map (·.ID) := fun x hx => by
    obtain ⟨p, hp, rfl⟩ := h2 x hx
    exact List.mem_map_of_mem hp
  have := nodup_len h1 this
  simpa using this
theorem OkV.reach_len (t : Int) : (reachL (objM a0.Objects) (seedsAt a0 t)).length ≤ 400 := by
  have := sub_len (V.reach_nd t) fun x hx => V.rchAt (V.reach_mem.1 hx)
  have := V.no
  omega
/-! since when -/
omit V in
theorem seen_char {all : List (Int × api_Object)} {id : Int} : ∀ (n : Nat), (seenF a0 all n id = none → ∀ i, i < n → ∀ e, a0.Events[i]? = some e → sameNext a0.Events i e.Time = false → ¬Rch all (seedsAt a0 e.Time) id) ∧
    ∀ u, seenF a0 all n id = some u → ∃ i, i < n ∧ ∃ e, a0.Events[i]? = some e ∧ sameNext a0.Events i e.Time = false ∧ Rch all (seedsAt a0 e.Time) id ∧ u = e.Time ∧ ∀ j, j < i → ∀ e', a0.Events[j]? = some e' → sameNext a0.Events j e'.Time = false → ¬Rch all (seedsAt a0 e'.Time) id
  | 0 => ⟨fun _ i hi => by omega, fun u h => by simp [seenF] at h⟩
  | n + 1 => by
    obtain ⟨h1, h2⟩ := seen_char (all := all) (id := id) n
    have hd : seenF a0 all (n + 1) id = match seenF a0 all n id with
      | some t => some t
      | none => match a0.Events[n]? with
        | some e => open Classical in if sameNext a0.Events n e.Time = false ∧ Rch all (seedsAt a0 e.Time) id then some e.Time else none
        | none => none := rfl
    cases hg : seenF a0 all n id with
    | some t =>
      rw [hg] at hd
      refine ⟨fun h => (by rw [hd] at h; cases h), fun u h => ?_⟩
      rw [hd] at h
      cases h
      obtain ⟨i, hi, e, h3⟩ := h2 t hg
      exact ⟨i, by omega, e, h3⟩
    | none =>
      rw [hg] at hd
      have hno := h1 hg
      cases he : a0.Events[n]? with
      | none =>
        rw [he] at hd
        refine ⟨fun _ i hi e hie hs => ?_, fun u h => (by rw [hd] at h; cases h)⟩
        rcases Nat.lt_succ_iff_lt_or_eq.1 hi with h3 | h3
        · exact hno i h3 e hie hs
        · subst h3; rw [he] at hie; cases hie
      | some e =>
        rw [he] at hd
        simp only at hd
        by_cases hc : sameNext a0.Events n e.Time = false ∧ Rch all (seedsAt a0 e.Time) id
        · rw [if_pos hc] at hd
          refine ⟨fun h => (by rw [hd] at h; cases h), fun u h => ?_⟩
          rw [hd] at h
          cases h
          exact ⟨n, by omega, e, he, hc.1, hc.2, rfl, hno⟩
        · rw [if_neg hc] at hd
          refine ⟨fun _ i hi e' hie hs hr => ?_, fun u h => (by rw [hd] at h; cases h)⟩
          rcases Nat.lt_succ_iff_lt_or_eq.1 hi with h3 | h3
          · exact hno i h3 e' hie hs hr
          · subst h3; rw [he] at hie; cases hie; exact hc ⟨hs, hr⟩
omit V in
theorem seen_rch {n : Nat} {id u : Int} (h : seenF a0 (objM a0.Objects) n id = some u) : Rch (objM a0.Objects) (seedsAt a0 u) id := by
  obtain ⟨i, _, e, _, _, h1, rfl, _⟩ := (seen_char n).2 u h
  exact h1
theorem OkV.ever_mem {x : Int} : x ∈ everL a0 (objM a0.Objects) ↔ (seenF a0 (objM a0.Objects) a0.Events.length x).isSome = true := by
  obtain ⟨m, hm⟩ := V.seenM a0.Events.length
  rw [← everL_eq hm, sortI_mem]; exact seen_key hm x
theorem OkV.ever_nd : (everL a0 (objM a0.Objects)).Nodup := by
  obtain ⟨m, hm⟩ := V.seenM a0.Events.length
  rw [← everL_eq hm]; exact sortI_nodup hm.nd
theorem OkV.ever_so : (everL a0 (objM a0.Objects)).Pairwise (· ≤ ·) := by
  obtain ⟨m, hm⟩ := V.seenM a0.Events.length
  rw [← everL_eq hm]; exact sortI_sorted _
theorem OkV.ever_in {x : Int} (h : x ∈ everL a0 (objM a0.Objects)) : ∃ p ∈ a0.Objects, p.ID = x := by
  have h1 := V.ever_mem.1 h
  obtain ⟨u, hu⟩ := Option.isSome_iff_exists.1 h1
  exact V.rchAt (seen_rch hu)
theorem OkV.ever_len : (everL a0 (objM a0.Objects)).length ≤ 400 := by
  have := sub_len V.ever_nd fun x hx => V.ever_in hx
  have := V.no
  omega
theorem OkV.lost_len (t : Int) : (lostL a0 (objM a0.Objects) t).length ≤ 400 := Nat.le_trans (List.length_filter_le _ _) V.ever_len
open Classical in
theorem OkV.lost_mem {t x : Int} : x ∈ lostL a0 (objM a0.Objects) t ↔ (∃ u, seenF a0 (objM a0.Objects) a0.Events.length x = some u ∧ u ≤ t) ∧ ¬Rch (objM a0.Objects) (seedsAt a0 t) x := by
  unfold lostL
  rw [List.mem_filter, V.ever_mem]
  simp only [decide_eq_true_eq]
  constructor
  · exact fun h => h.2
  · rintro ⟨⟨u, h1, h2⟩, h3⟩
    exact ⟨by rw [h1]; rfl, ⟨u, h1, h2⟩, h3⟩
theorem OkV.lost_nd (t : Int) : (lostL a0 (objM a0.Objects) t).Nodup := by
  unfold lostL
  exact V.ever_nd.filter _
/-! the functions -/
variable (hf : FitR a0)
include hf
theorem OkV.val : history_Valid a0 = some 0 := by rw [valid_eq hf, validE_zero.2 V]
theorem OkV.reachable (t : Int) : history_Reachable a0 t = some (reachL (objM a0.Objects) (seedsAt a0 t)) := by
  unfold history_Reachable
  rw [V.val hf, V.idx]
  simp only [Option.bind_some]
  rw [if_neg (by decide), if_pos ⟨V.okH, by have := V.reach_len t; omega⟩]
theorem OkV.ever : history_Ever a0 = some (everL a0 (objM a0.Objects)) := by
  unfold history_Ever
  rw [V.val hf, V.idx]
  simp only [Option.bind_some]
  rw [if_neg (by decide), if_pos ⟨V.okH, by have := V.ever_len; omega⟩]
theorem OkV.lost (t : Int) : history_Lost a0 t = some (lostL a0 (objM a0.Objects) t) := by
  unfold history_Lost
  rw [V.val hf, V.idx]
  simp only [Option.bind_some]
  rw [if_neg (by decide), if_pos ⟨V.okH, by have := V.lost_len t; omega⟩]
theorem OkV.since (id : Int) : history_Since a0 id = some ((seenF a0 (objM a0.Objects) a0.Events.length id).getD 0, (seenF a0 (objM a0.Objects) a0.Events.length id).isSome) := by
  unfold history_Since
  rw [V.val hf, V.idx]
  simp only [Option.bind_some]
  rw [if_neg (by decide), if_pos V.okH]
theorem OkV.refs (t : Int) : history_Refs a0 t = some (sortIt ((refsF t [] a0.Events).map itemOf)) := by
  unfold history_Refs
  rw [V.val hf]
  simp only [Option.bind_some]
  rw [if_neg (by decide), ck_t (by have := V.ne; omega)]
  rfl
end
/-! times -/
theorem refsF_congr {t t' : Int} : ∀ {l : List api_RefEvent} {m : List (ByteArray × Int)}, (∀ e ∈ l, t < e.Time ↔ t' < e.Time) → refsF t m l = refsF t' m l
  | [], _, _ => rfl
  | e :: l, m, h => by
    simp only [refsF]
    have h1 := h e (by simp)
    have h2 := refsF_congr (l := l) (m := refStep m e) fun x hx => h x (by simp [hx])
    by_cases hc : t < e.Time
    · rw [if_pos hc, if_pos (h1.1 hc)]
    · rw [if_neg hc, if_neg (fun g => hc (h1.2 g)), h2]
theorem last_ix {p : Nat → Prop} : ∀ {n : Nat}, (∃ i, i < n ∧ p i) → ∃ i, i < n ∧ p i ∧ ∀ j, i < j → j < n → ¬p j
  | 0, ⟨i, hi, _⟩ => by omega
  | n + 1, ⟨i, hi, h⟩ => by
    by_cases hn : p n
    · exact ⟨n, by omega, hn, fun j h1 h2 => by omega⟩
    · rcases Nat.lt_succ_iff_lt_or_eq.1 hi with h3 | h3
      · obtain ⟨k, h4, h5, h6⟩ := last_ix (n := n) ⟨i, h3, h⟩
        refine ⟨k, by omega, h5, fun j h7 h8 => ?_⟩
        rcases Nat.lt_succ_iff_lt_or_eq.1 h8 with h9 | h9
        · exact h6 j h7 h9
        · subst h9; exact hn
      · subst h3; exact absurd h hn
theorem rch_nil {all : List (Int × api_Object)} {id : Int} (h : Rch all [] id) : False := by
  induction h with
  | seed h => cases h
  | step _ _ ih => exact ih
theorem refsF_none {t : Int} : ∀ {l : List api_RefEvent} {m : List (ByteArray × Int)}, (∀ e ∈ l, t < e.Time) → refsF t m l = m
  | [], _, _ => rfl
  | e :: l, m, h => by simp only [refsF]; rw [if_pos (h e (by simp))]
/-- what is reachable at a time was reached for the first time by then -/
theorem rch_seen {a0 : api_Repository} {all : List (Int × api_Object)} (so : a0.Events.Pairwise fun x y => x.Time ≤ y.Time) {t id : Int} (h : Rch all (seedsAt a0 t) id) : ∃ u, seenF a0 all a0.Events.length id = some u ∧ u ≤ t := by
  by_cases hx : ∃ i, i < a0.Events.length ∧ ∃ e, a0.Events[i]? = some e ∧ e.Time ≤ t
  · obtain ⟨i, hi, ⟨e, he, ht⟩, hlast⟩ := last_ix hx
    have hge : a0.Events[i] = e := by rw [List.getElem?_eq_getElem hi] at he; exact Option.some.inj he
    have hseeds : seedsAt a0 t = seedsAt a0 e.Time := by
      unfold seedsAt
      rw [refsF_congr fun x hx => ?_]
      obtain ⟨j, hj, rfl⟩ := List.getElem_of_mem hx
      by_cases hji : i < j
      · have h1 := hlast j hji hj
        have h2 : t < a0.Events[j].Time := by
          refine Classical.byContradiction fun hn => h1 ⟨_, List.getElem?_eq_getElem hj, by omega⟩
        constructor
        · intro _; omega
        · intro _; exact h2
      · have h2 : a0.Events[j].Time ≤ e.Time := by
          rcases Nat.lt_or_eq_of_le (Nat.le_of_not_lt hji) with h3 | h3
          · rw [← hge]; exact List.pairwise_iff_getElem.1 so j i hj hi h3
          · subst h3; rw [hge]; exact Int.le_refl _
        constructor <;> intro _ <;> omega
    have hs : sameNext a0.Events i e.Time = false := by
      unfold sameNext
      cases hn : a0.Events[i + 1]? with
      | none => rfl
      | some e' =>
        have hl : i + 1 < a0.Events.length := (List.getElem?_eq_some_iff.1 hn).1
        have h1 := hlast (i + 1) (by omega) hl
        have : ¬ e'.Time ≤ t := fun g => h1 ⟨e', hn, g⟩
        simp only [beq_eq_false_iff_ne]
        omega
    rw [hseeds] at h
    cases hg : seenF a0 all a0.Events.length id with
    | none => exact absurd h ((seen_char _).1 hg i hi e he hs)
    | some u =>
      refine ⟨u, rfl, ?_⟩
      obtain ⟨k, hk, e', h1, h2, h3, rfl, h4⟩ := (seen_char _).2 u hg
      have hki : k ≤ i := by
        refine Nat.le_of_not_lt fun g => h4 i g e he hs h
      have hge' : a0.Events[k] = e' := by rw [List.getElem?_eq_getElem hk] at h1; exact Option.some.inj h1
      rcases Nat.lt_or_eq_of_le hki with h5 | h5
      · have := List.pairwise_iff_getElem.1 so k i hk hi h5
        rw [hge, hge'] at this
        omega
      · subst h5
        rw [he] at h1; cases h1; exact ht
  · exfalso
    unfold seedsAt at h
    rw [refsF_none fun e he => ?_] at h
    · exact rch_nil h
    · obtain ⟨i, hi, rfl⟩ := List.getElem_of_mem he
      refine Classical.byContradiction fun hn => hx ⟨i, hi, _, List.getElem?_eq_getElem hi, by omega⟩
end Go.Vl

namespace Go.Vl
open Go
/-! The tape -/
def TB (m : make_Tape) (b : Int) : Prop := 0 ≤ m.at_ ∧ m.at_ ≤ b
theorem TB.mono {m : make_Tape} {b c : Int} (h : TB m b) (hc : b ≤ c) : TB m c := ⟨h.1, Int.le_trans h.2 hc⟩
theorem next_b {m : make_Tape} {b : Int} (h : TB m b) (hb : b ≤ 1000000000) {n : Int} (hn : 0 < n) : ∃ v m', make_Tape_Next m n = some (v, m') ∧ 0 ≤ v ∧ v < n ∧ TB m' (b + 1) := by
  obtain ⟨h1, h2⟩ := h
  unfold make_Tape_Next
  by_cases hx : (m.L.length : Int) ≤ m.at_
  · rw [if_pos (by simpa using hx)]
    exact ⟨0, m, rfl, by omega, hn, h1, by omega⟩
  · rw [if_neg (by simpa using hx), idx_toNat h1 (by omega)]
    simp only [Option.bind_some, ck_t (show n ≠ 0 by omega), bAnd16]
    rw [Int.tmod_eq_emod_of_nonneg (Int.emod_nonneg _ (by omega)), w64 (by omega) (by omega)]
    exact ⟨_, _, rfl, Int.emod_nonneg _ (by omega), Int.emod_lt_of_pos _ hn, by simp only; omega, by simp only; omega⟩
theorem between_b {m : make_Tape} {b : Int} (h : TB m b) (hb : b ≤ 1000000000) {x y : Int} (hxy : x ≤ y) (hx : -1000000 ≤ x) (hy : y ≤ 1000000) : ∃ v m', make_Tape_Between m x y = some (v, m') ∧ x ≤ v ∧ v ≤ y ∧ TB m' (b + 1) := by
  unfold make_Tape_Between
  rw [w64 (x := y - x) (by omega) (by omega), w64 (x := y - x + 1) (by omega) (by omega)]
  obtain ⟨v, m', h1, h2, h3, h4⟩ := next_b h hb (n := y - x + 1) (by omega)
  rw [h1]
  simp only [Option.bind_some]
  rw [w64 (by omega) (by omega)]
  exact ⟨_, _, rfl, by omega, by omega, h4⟩
theorem sidxB {b : ByteArray} {i : Int} (h0 : 0 ≤ i) (h1 : i < b.size) : ∃ x, sidx b i = some x ∧ 0 ≤ x ∧ x < 256 := by
  have h2 : i.toNat < b.size := by omega
  have h3 := (b[i.toNat]).toNat_lt
  exact ⟨((b[i.toNat]).toNat : Int), by unfold sidx; rw [if_pos h0, getElem?_pos b i.toNat h2]; rfl, by omega, by omega⟩
theorem bytes_j {x0 : Int × make_Tape} {m : make_Tape} {b : Int} (hm : TB m b) (hb : b ≤ 1000000) {n i : Int} (hi : 0 ≤ i) (hn : n ≤ 1000000) (hin : i < n) {L : List Int} {p : Int} {out : List Int} (ho : (out.length : Int) = i) (w : Bool) :
    ∃ s', make_Bytes_j1 (x0.1, m) (i, L, p, out) w = some (.go s') ∧ s'.1 = i + 1 ∧ (s'.2.2.2.length : Int) = i + 1 ∧ TB ⟨s'.2.1, s'.2.2.1⟩ (b + 1) := by
  unfold make_Bytes_j1
  cases w with
  | true =>
    obtain ⟨v, m1, e1, v1, v2, t1⟩ := next_b hm (by omega) (n := 10) (by omega)
    simp only [if_true, e1, Option.bind_some]
    rw [ck_t (by simp <;> omega), w64 (x := i + 1) (by omega) (by omega)]
    exact ⟨_, rfl, rfl, by simp <;> omega, t1⟩
  | false =>
    obtain ⟨v, m1, e1, v1, v2, t1⟩ := next_b hm (by omega) (n := 8) (by omega)
    obtain ⟨x, ex, _, _⟩ := sidxB (b := (⟨#[97, 98, 99, 100, 101, 102, 116, 107]⟩ : ByteArray)) (i := v) v1 (by exact v2)
    simp only [Bool.false_eq_true, if_false, e1, Option.bind_some, ex]
    rw [ck_t (by simp <;> omega), w64 (x := i + 1) (by omega) (by omega)]
    exact ⟨_, rfl, rfl, by simp <;> omega, t1⟩
theorem bytes_b {m : make_Tape} {b : Int} (h : TB m b) (hb : b ≤ 100000) {n : Int} (h0 : 0 ≤ n) (hn : n ≤ 1000) : ∃ l m', make_Bytes m n = some (l, m') ∧ (l.length : Int) = n ∧ TB m' (b + 3 * n) := by
  unfold make_Bytes
  have key : ∃ e, iter (make_Bytes_l0 n) (0, m.L, m.at_, []) = some e ∧ (TB ⟨e.1, e.2.1⟩ (b + 3 * n) ∧ (e.2.2.length : Int) = n) := by
    refine iter_ex (body := make_Bytes_l0 n) (fun s => 0 ≤ s.1 ∧ s.1 ≤ n ∧ TB ⟨s.2.1, s.2.2.1⟩ (b + 3 * s.1) ∧ (s.2.2.2.length : Int) = s.1) (fun s => (n - s.1).toNat) _ ?_ ⟨by simp, h0, by simpa using h, by simp⟩
    rintro ⟨i, L, p, out⟩ ⟨g1, g2, g3, g4⟩
    simp only at g1 g2 g3 g4
    unfold make_Bytes_l0
    simp only
    by_cases hi : i < n
    · left
      obtain ⟨v, m1, e1, v1, v2, t1⟩ := next_b g3 (by omega) (n := 8) (by omega)
      rw [if_pos (by simpa using hi), e1]
      simp only [Option.bind_some]
      by_cases c0 : v = 0
      · rw [if_pos (by simpa using c0)]
        obtain ⟨v', m2, e2, w1, w2, t2⟩ := next_b t1 (by omega) (n := 8) (by omega)
        obtain ⟨x, ex, _, _⟩ := sidxB (b := (⟨#[32, 10, 61, 37, 43, 47, 45, 46]⟩ : ByteArray)) (i := v') w1 (by exact w2)
        simp only [e2, Option.bind_some, ex]
        rw [ck_t (by simp <;> omega), w64 (x := i + 1) (by omega) (by omega)]
        refine ⟨_, rfl, ⟨by simp only; omega, by simp only; omega, t2.mono (by simp only; omega), by simp <;> omega⟩, by simp only; omega⟩
      · rw [if_neg (by simpa using c0)]
        by_cases c1 : v = 1
        · rw [if_pos (by simpa using c1)]
          obtain ⟨v', m2, e2, w1, w2, t2⟩ := next_b t1 (by omega) (n := 256) (by omega)
          simp only [e2, Option.bind_some]
          rw [ck_t (by simp <;> omega), w64 (x := i + 1) (by omega) (by omega)]
          refine ⟨_, rfl, ⟨by simp only; omega, by simp only; omega, t2.mono (by simp only; omega), by simp <;> omega⟩, by simp only; omega⟩
        · rw [if_neg (by simpa using c1)]
          have hj := fun w => bytes_j (x0 := (v, m1)) t1 (by omega) g1 (n := n) (by omega) hi (L := L) (p := p) g4 w
          split
          · obtain ⟨s', e2, r1, r2, r3⟩ := hj (v == 2)
            exact ⟨s', e2, ⟨by omega, by omega, r3.mono (by omega), by omega⟩, by omega⟩
          · obtain ⟨s', e2, r1, r2, r3⟩ := hj (v == 3)
            exact ⟨s', e2, ⟨by omega, by omega, r3.mono (by omega), by omega⟩, by omega⟩
    · right
      have : i = n := by omega
      subst this
      rw [if_neg (by simp)]
      exact ⟨_, rfl, g3, g4⟩
  obtain ⟨e, h1, h2, h3⟩ := key
  rw [h1]
  exact ⟨_, _, rfl, h3, h2⟩
/-! What is made -/
def kAt (os : List api_Object) (id k : Int) : Prop := ∃ o ∈ os, o.ID = id ∧ o.Kind = k
theorem kAt.mono {os l : List api_Object} {id k : Int} (h : kAt os id k) : kAt (os ++ l) id k := by
  obtain ⟨o, h1, h2⟩ := h
  exact ⟨o, List.mem_append_left _ h1, h2⟩
abbrev nA : ByteArray := ⟨#[97]⟩
abbrev nB : ByteArray := ⟨#[98]⟩
abbrev nD : ByteArray := ⟨#[100]⟩
abbrev nAnn : ByteArray := ⟨#[97, 110, 110]⟩
inductive MObj (os : List api_Object) (o : api_Object) : Prop
  | blob : o.Kind = 1 → o.Data.length ≤ 20 → o.Items = [] → o.Tree = 0 → o.Parents = [] → o.Author = ByteArray.empty → o.Time = 0 → MObj os o
  | tree : o.Kind = 2 → o.Data = [] → (o.Items.map (·.Name)).Sublist [nA, nB, nD] → (∀ x ∈ o.Items, x.ID < o.ID ∧ (kAt os x.ID 1 ∨ kAt os x.ID 2)) → o.Tree = 0 → o.Parents = [] → o.Author = ByteArray.empty → o.Time = 0 → MObj os o
  | commit : o.Kind = 3 → o.Data = [] → o.Items = [] → o.Tree < o.ID → kAt os o.Tree 2 → (∀ p ∈ o.Parents, p < o.ID ∧ kAt os p 3) → o.Parents.Nodup → o.Parents.length ≤ 2 → o.Author = nAnn → 0 ≤ o.Time → o.Time ≤ 20 → MObj os o
theorem MObj.mono {os l : List api_Object} {o : api_Object} (h : MObj os o) : MObj (os ++ l) o := by
  cases h with
  | blob h1 h2 h3 h4 h5 h6 h7 => exact .blob h1 h2 h3 h4 h5 h6 h7
  | tree h1 h2 h3 h4 h5 h6 h7 h8 => exact .tree h1 h2 h3 (fun x hx => ⟨(h4 x hx).1, (h4 x hx).2.imp kAt.mono kAt.mono⟩) h5 h6 h7 h8
  | commit h1 h2 h3 h4 h5 h6 h7 h8 h9 h10 h11 => exact .commit h1 h2 h3 h4 h5.mono (fun p hp => ⟨(h6 p hp).1, (h6 p hp).2.mono⟩) h7 h8 h9 h10 h11
structure MadeO (os : List api_Object) : Prop where
  ids : ∀ (i : Nat) (h : i < os.length), os[i].ID = (i : Int) + 1
  obj : ∀ o ∈ os, MObj os o
theorem MadeO.nil : MadeO [] := ⟨fun i h => by simp at h, fun o h => by cases h⟩
theorem MadeO.le {os : List api_Object} (M : MadeO os) {id k : Int} (h : kAt os id k) : 1 ≤ id ∧ id ≤ os.length := by
  obtain ⟨o, ho, rfl, _⟩ := h
  obtain ⟨i, hi, rfl⟩ := List.getElem_of_mem ho
  rw [M.ids i hi]
  omega
theorem MadeO.push {os : List api_Object} (M : MadeO os) {o : api_Object} (hid : o.ID = (os.length : Int) + 1) (ho : MObj os o) : MadeO (os ++ [o]) := by
  refine ⟨fun i h => ?_, fun x hx => ?_⟩
  · rw [List.getElem_append]
    split
    · exact M.ids i _
    · have : i = os.length := by simp at h; omega
      subst this
      simpa using hid
  · rcases List.mem_append.1 hx with h | h
    · exact (M.obj x h).mono
    · rw [List.mem_singleton.1 h]; exact ho.mono
theorem MadeO.nd {os : List api_Object} (M : MadeO os) : (os.map (·.ID)).Nodup := by
  refine List.pairwise_iff_getElem.2 fun i j hi hj hij => ?_
  have hj' : j < os.length := by simpa using hj
  simp only [List.getElem_map]
  rw [M.ids, M.ids]
  omega
theorem add_eq {o : api_Object} {os : List api_Object} {ev : List api_RefEvent} {id : Int} (h : id = os.length) (hl : os.length ≤ 1000) :
    make_Repository_1_cbbo0 o id ⟨os, ev⟩ = some (id + 1, id + 1, ⟨os ++ [⟨id + 1, o.Kind, o.Data, o.Items, o.Tree, o.Parents, o.Author, o.Time⟩], ev⟩) := by
  unfold make_Repository_1_cbbo0
  rw [ck_t (by simp <;> omega), w64 (x := id + 1) (by omega) (by omega)]
  rfl
theorem l0_ex {m : make_Tape} (h : TB m 10) {K : Int} (h1 : 1 ≤ K) (h4 : K ≤ 4) : ∃ e, iter make_Repository_l0 (K, m.L, m.at_, [], 0, [], []) = some e ∧
    (TB ⟨e.1, e.2.1⟩ 200 ∧ e.2.2.1 = [] ∧ e.2.2.2.1 = (e.2.2.2.2.2.length : Int) ∧ MadeO e.2.2.2.2.2 ∧ (e.2.2.2.2.2.length : Int) ≤ 4 ∧ (e.2.2.2.2.1.length : Int) = K ∧ ∀ x ∈ e.2.2.2.2.1, kAt e.2.2.2.2.2 x 1) := by
  refine iter_ex (body := make_Repository_l0) (fun s => 0 ≤ s.1 ∧ s.1 ≤ K ∧ TB ⟨s.2.1, s.2.2.1⟩ (10 + 40 * (K - s.1)) ∧ s.2.2.2.1 = [] ∧ s.2.2.2.2.1 = (s.2.2.2.2.2.2.length : Int) ∧ MadeO s.2.2.2.2.2.2 ∧ (s.2.2.2.2.2.2.length : Int) + s.1 = K ∧ (s.2.2.2.2.2.1.length : Int) + s.1 = K ∧ ∀ x ∈ s.2.2.2.2.2.1, kAt s.2.2.2.2.2.2 x 1) (fun s => s.1.toNat) _ ?_ ⟨by simp only; omega, by simp only; omega, h.mono (by simp only; omega), rfl, rfl, MadeO.nil, by simp, by simp, by simp⟩
  rintro ⟨k, L, p, ev, id, bl, os⟩ ⟨g1, g2, g3, g4, g5, g6, g7, g8, g9⟩
  simp only at g1 g2 g3 g4 g5 g6 g7 g8 g9
  unfold make_Repository_l0
  simp only
  by_cases hk : 0 < k
  · left
    obtain ⟨v, m1, e1, v1, v2, t1⟩ := next_b g3 (by omega) (n := 12) (by omega)
    obtain ⟨d, m2, e2, d1, t2⟩ := bytes_b t1 (by omega) v1 (by omega)
    rw [if_pos (by simpa using hk), e1]
    simp only [Option.bind_some, e2]
    rw [add_eq g5 (by omega)]
    simp only [Option.bind_some]
    rw [ck_t (by simp <;> omega), w64 (x := k - 1) (by omega) (by omega)]
    refine ⟨_, rfl, ⟨by simp only; omega, by simp only; omega, t2.mono (by simp only; omega), g4, by simp <;> omega, ?_, by simp <;> omega, by simp <;> omega, ?_⟩, by simp only; omega⟩
    · refine g6.push (by simp only; omega) (.blob rfl (by simp only; omega) rfl rfl rfl rfl rfl)
    · intro x hx
      simp only [List.mem_append, List.mem_singleton] at hx
      rcases hx with hx | rfl
      · exact (g9 x hx).mono
      · exact ⟨_, List.mem_append_right _ (List.mem_singleton.2 rfl), rfl, rfl⟩
  · right
    have : k = 0 := by omega
    subst this
    rw [if_neg (by simp)]
    exact ⟨_, rfl, g3.mono (by omega), g4, g5, g6, by simp only; omega, by simp only; omega, g9⟩
theorem l4_ex {v2 : (List Int) × Int × (List api_RefEvent) × Int × (List Int) × (List api_Object)} {s18 : Int × (List Int) × Int × (List api_RefEvent) × Int × (List api_Object) × (List Int)} {m : make_Tape} {b : Int} (h : TB m b) (hb : b ≤ 10000) {os : List api_Object}
    (hbl : 1 ≤ v2.2.2.2.2.1.length) (hbl2 : v2.2.2.2.2.1.length ≤ 1000) (h1 : ∀ x ∈ v2.2.2.2.2.1, kAt os x 1) (htl : s18.2.2.2.2.2.2.length ≤ 1000) (h2 : ∀ x ∈ s18.2.2.2.2.2.2, kAt os x 2) :
    ∃ e, iter (make_Repository_l4 [nA, nB, nD] v2 s18) (0, m.L, m.at_, []) = some e ∧ (TB ⟨e.1, e.2.1⟩ (b + 6) ∧ (e.2.2.map (·.Name)).Sublist [nA, nB, nD] ∧ ∀ x ∈ e.2.2, kAt os x.ID 1 ∨ kAt os x.ID 2) := by
  refine iter_ex (body := make_Repository_l4 [nA, nB, nD] v2 s18) (fun s => 0 ≤ s.1 ∧ s.1 ≤ 3 ∧ TB ⟨s.2.1, s.2.2.1⟩ (b + 2 * s.1) ∧ (s.2.2.2.map (·.Name)).Sublist ([nA, nB, nD].take s.1.toNat) ∧ ∀ x ∈ s.2.2.2, kAt os x.ID 1 ∨ kAt os x.ID 2) (fun s => (3 - s.1).toNat) _ ?_ ⟨by simp, by simp, h.mono (by simp only; omega), by simp, by simp⟩
  rintro ⟨i, L, p, it⟩ ⟨g1, g2, g3, g4, g5⟩
  simp only at g1 g2 g3 g4 g5
  unfold make_Repository_l4
  simp only
  have hln : it.length ≤ 3 := by
    have := g4.length_le
    simp at this
    omega
  by_cases hi : i < 3
  · left
    rw [if_pos (by simp <;> omega), ck_t (by simp <;> omega), idx_toNat g1 (by simp <;> omega)]
    simp only [Option.bind_some]
    obtain ⟨v, m1, e1, v1, v2', t1⟩ := next_b g3 (by omega) (n := 3) (by omega)
    rw [e1, w64 (x := i + 1) (by omega) (by omega)]
    simp only [Option.bind_some]
    obtain ⟨j, rfl⟩ : ∃ j : Nat, i = (j : Int) := ⟨i.toNat, by omega⟩
    have hj : j < [nA, nB, nD].length := by simp <;> omega
    simp only [Int.toNat_natCast] at g4 ⊢
    have hsub : ∀ id, ((it ++ [(⟨[nA, nB, nD][j], id⟩ : api_Item)]).map (·.Name)).Sublist ([nA, nB, nD].take ((j : Int) + 1).toNat) := fun id => by
      have e : ((j : Int) + 1).toNat = j + 1 := by omega
      rw [e, List.take_succ_eq_append_getElem hj, List.map_append]
      exact g4.append (List.Sublist.refl _)
    have hsub2 : (it.map (·.Name)).Sublist ([nA, nB, nD].take ((j : Int) + 1).toNat) := by
      have e : ((j : Int) + 1).toNat = j + 1 := by omega
      rw [e, List.take_succ_eq_append_getElem hj]
      exact g4.trans (List.sublist_append_left _ _)
    have hput : ∀ id, (kAt os id 1 ∨ kAt os id 2) → ∀ x ∈ it ++ [(⟨[nA, nB, nD][j], id⟩ : api_Item)], kAt os x.ID 1 ∨ kAt os x.ID 2 := fun id hid x hx => by
      rcases List.mem_append.1 hx with hx | hx
      · exact g5 x hx
      · rw [List.mem_singleton.1 hx]; exact hid
    by_cases c0 : v = 0
    · rw [if_pos (by simpa using c0)]
      obtain ⟨v', m2, e2, w1, w2, t2⟩ := next_b t1 (by omega) (n := (v2.2.2.2.2.1.length : Int)) (by omega)
      rw [e2]
      simp only [Option.bind_some]
      rw [ck_t (by omega), idx_toNat w1 (by omega)]
      simp only [Option.bind_some]
      rw [ck_t (by simp <;> omega)]
      refine ⟨_, rfl, ⟨by simp only; omega, by simp only; omega, t2.mono (by simp only; omega), hsub _, hput _ (.inl (h1 _ (List.getElem_mem _)))⟩, by simp only; omega⟩
    · rw [if_neg (by simpa using c0)]
      by_cases c1 : v = 1
      · rw [if_pos (by simpa using c1)]
        by_cases c2 : 0 < (s18.2.2.2.2.2.2.length : Int)
        · rw [if_pos (by simpa using c2)]
          obtain ⟨v', m2, e2, w1, w2, t2⟩ := next_b t1 (by omega) (n := (s18.2.2.2.2.2.2.length : Int)) c2
          rw [e2]
          simp only [Option.bind_some]
          rw [ck_t (by omega), idx_toNat w1 (by omega)]
          simp only [Option.bind_some]
          rw [ck_t (by simp <;> omega)]
          refine ⟨_, rfl, ⟨by simp only; omega, by simp only; omega, t2.mono (by simp only; omega), hsub _, hput _ (.inr (h2 _ (List.getElem_mem _)))⟩, by simp only; omega⟩
        · rw [if_neg (by simpa using c2)]
          exact ⟨_, rfl, ⟨by simp only; omega, by simp only; omega, t1.mono (by simp only; omega), hsub2, g5⟩, by simp only; omega⟩
      · rw [if_neg (by simpa using c1)]
        exact ⟨_, rfl, ⟨by simp only; omega, by simp only; omega, t1.mono (by simp only; omega), hsub2, g5⟩, by simp only; omega⟩
  · right
    have : i = 3 := by omega
    subst this
    rw [if_neg (by simp)]
    exact ⟨_, rfl, g3.mono (by omega), g4, g5⟩
theorem l1_ex {v2 : (List Int) × Int × (List api_RefEvent) × Int × (List Int) × (List api_Object)} {m : make_Tape} (h : TB m 210) {os0 : List api_Object} (M : MadeO os0) (hl0 : os0.length ≤ 4) (hbl : 1 ≤ v2.2.2.2.2.1.length) (hbl2 : v2.2.2.2.2.1.length ≤ 1000) (hb : ∀ x ∈ v2.2.2.2.2.1, kAt os0 x 1) {id0 : Int} (hid : id0 = os0.length) {K : Int} (h1 : 1 ≤ K) (h4 : K ≤ 4) :
    ∃ e, iter (make_Repository_l1 v2) (K, m.L, m.at_, [], id0, os0, []) = some e ∧ (TB ⟨e.1, e.2.1⟩ 300 ∧ e.2.2.1 = [] ∧ e.2.2.2.1 = (e.2.2.2.2.1.length : Int) ∧ MadeO e.2.2.2.2.1 ∧ (e.2.2.2.2.1.length : Int) ≤ 8 ∧ (e.2.2.2.2.2.length : Int) = K ∧ ∀ x ∈ e.2.2.2.2.2, kAt e.2.2.2.2.1 x 2) := by
  refine iter_ex (body := make_Repository_l1 v2) (fun s => 0 ≤ s.1 ∧ s.1 ≤ K ∧ TB ⟨s.2.1, s.2.2.1⟩ (210 + 10 * (K - s.1)) ∧ s.2.2.2.1 = [] ∧ s.2.2.2.2.1 = (s.2.2.2.2.2.1.length : Int) ∧ MadeO s.2.2.2.2.2.1 ∧ (s.2.2.2.2.2.1.length : Int) + s.1 ≤ 8 ∧ (s.2.2.2.2.2.2.length : Int) + s.1 = K ∧ (∀ x ∈ s.2.2.2.2.2.2, kAt s.2.2.2.2.2.1 x 2) ∧ ∀ x ∈ v2.2.2.2.2.1, kAt s.2.2.2.2.2.1 x 1) (fun s => s.1.toNat) _ ?_ ⟨by simp only; omega, by simp only; omega, h.mono (by simp only; omega), rfl, hid, M, by simp only; omega, by simp, by simp, hb⟩
  rintro ⟨k, L, p, ev, id, os, tr⟩ ⟨g1, g2, g3, g4, g5, g6, g7, g8, g9, g10⟩
  simp only at g1 g2 g3 g4 g5 g6 g7 g8 g9 g10
  unfold make_Repository_l1
  simp only
  by_cases hk : 0 < k
  · left
    obtain ⟨e, e1, t1, i1, i2⟩ := l4_ex (s18 := (k, L, p, ev, id, os, tr)) g3 (by omega) hbl hbl2 g10 (by simp only; omega) g9
    rw [if_pos (by simpa using hk)]
    simp only [Option.bind_some]
    have e1' : iter (make_Repository_l4 [(⟨#[97]⟩ : ByteArray), (⟨#[98]⟩ : ByteArray), (⟨#[100]⟩ : ByteArray)] v2 (k, L, p, ev, id, os, tr)) (0, L, p, []) = some e := e1
    rw [e1']
    simp only [Option.bind_some]
    rw [add_eq g5 (by omega)]
    simp only [Option.bind_some]
    rw [ck_t (by simp <;> omega), w64 (x := k - 1) (by omega) (by omega)]
    refine ⟨_, rfl, ⟨by simp only; omega, by simp only; omega, t1.mono (by simp only; omega), g4, by simp <;> omega, ?_, by simp <;> omega, by simp <;> omega, ?_, fun x hx => (g10 x hx).mono⟩, by simp only; omega⟩
    · refine g6.push (by simp only; omega) (.tree rfl rfl i1 (fun x hx => ⟨?_, i2 x hx⟩) rfl rfl rfl rfl)
      rcases i2 x hx with h | h
      · have := g6.le h; simp only; omega
      · have := g6.le h; simp only; omega
    · intro x hx
      simp only [List.mem_append, List.mem_singleton] at hx
      rcases hx with hx | rfl
      · exact (g9 x hx).mono
      · exact ⟨_, List.mem_append_right _ (List.mem_singleton.2 rfl), rfl, rfl⟩
  · right
    have : k = 0 := by omega
    subst this
    rw [if_neg (by simp)]
    exact ⟨_, rfl, g3.mono (by omega), g4, g5, g6, by simp only; omega, by simp only; omega, g9⟩
theorem l3_ex {s8 : Int × (List Int) × Int × (List api_RefEvent) × Int × (List api_Object) × (List Int)} {m : make_Tape} {b : Int} (h : TB m b) (hb : b ≤ 10000) (hl : s8.2.2.2.2.2.2.length ≤ 1000) (hn : s8.2.2.2.2.2.2.Nodup) :
    ∃ e, iter (make_Repository_l3 s8) (IntKind.i64.wrap (((s8.2.2.2.2.2.2).length : Int) - 1), m.L, m.at_, []) = some e ∧ (TB ⟨e.1, e.2.1⟩ (b + s8.2.2.2.2.2.2.length) ∧ e.2.2.Nodup ∧ e.2.2.length ≤ 2 ∧ ∀ x ∈ e.2.2, x ∈ s8.2.2.2.2.2.2) := by
  generalize hcs : s8.2.2.2.2.2.2 = cs at *
  rw [w64 (by omega) (by omega)]
  refine iter_ex (body := make_Repository_l3 s8) (fun s => -1 ≤ s.1 ∧ s.1 < cs.length ∧ TB ⟨s.2.1, s.2.2.1⟩ (b + (cs.length - 1 - s.1)) ∧ s.2.2.2.Nodup ∧ s.2.2.2.length ≤ 2 ∧ ∀ x ∈ s.2.2.2, ∃ j : Nat, s.1 < (j : Int) ∧ cs[j]? = some x) (fun s => (s.1 + 1).toNat) _ ?_ ⟨by simp only; omega, by simp only; omega, h.mono (by simp only; omega), .nil, by simp, by simp⟩
  rintro ⟨q, L, p, ps⟩ ⟨g1, g2, g3, g4, g5, g6⟩
  simp only at g1 g2 g3 g4 g5 g6
  unfold make_Repository_l3
  simp only [Option.bind_some]
  by_cases hc : 0 ≤ q ∧ ps.length < 2
  · left
    have hcb : (decide (0 ≤ q) && decide ((ps.length : Int) < 2)) = true := by simp only [Bool.and_eq_true, decide_eq_true_eq]; omega
    rw [if_pos hcb]
    obtain ⟨v, m1, e1, v1, v2, t1⟩ := next_b g3 (by omega) (n := 2) (by omega)
    rw [e1, w64 (x := q - 1) (by omega) (by omega)]
    simp only [Option.bind_some]
    by_cases c0 : v = 0
    · rw [if_pos (by simpa using c0), hcs, ck_t (by omega), idx_toNat hc.1 (by omega)]
      simp only [Option.bind_some]
      rw [ck_t (by simp <;> omega)]
      refine ⟨_, rfl, ⟨by simp only; omega, by simp only; omega, t1.mono (by simp only; omega), ?_, by simp <;> omega, fun x hx => ?_⟩, by simp only; omega⟩
      · rw [List.nodup_append]
        refine ⟨g4, by simp, fun a ha c hc' => ?_⟩
        rw [List.mem_singleton] at hc'
        subst hc'
        obtain ⟨j, h1, h2⟩ := g6 a ha
        intro e
        subst e
        have hj : j < cs.length := (List.getElem?_eq_some_iff.1 h2).1
        have := (List.pairwise_iff_getElem.1 hn) q.toNat j (by omega) hj (by omega)
        rw [List.getElem?_eq_getElem hj] at h2
        exact this (Option.some.inj h2).symm
      · simp only [List.mem_append, List.mem_singleton] at hx
        rcases hx with hx | rfl
        · obtain ⟨j, h1, h2⟩ := g6 x hx
          exact ⟨j, by simp only; omega, h2⟩
        · exact ⟨q.toNat, by simp only; omega, List.getElem?_eq_getElem (by omega)⟩
    · rw [if_neg (by simpa using c0)]
      refine ⟨_, rfl, ⟨by simp only; omega, by simp only; omega, t1.mono (by simp only; omega), g4, g5, fun x hx => ?_⟩, by simp only; omega⟩
      obtain ⟨j, h1, h2⟩ := g6 x hx
      exact ⟨j, by simp only; omega, h2⟩
  · right
    have hcb : ¬(decide (0 ≤ q) && decide ((ps.length : Int) < 2)) = true := by simp only [Bool.and_eq_true, decide_eq_true_eq]; omega
    rw [if_neg hcb]
    refine ⟨_, rfl, g3.mono (by omega), g4, g5, fun x hx => ?_⟩
    obtain ⟨j, _, h2⟩ := g6 x hx
    exact List.mem_of_getElem? h2
theorem l2_ex {v4 : (List Int) × Int × (List api_RefEvent) × Int × (List api_Object) × (List Int)} {m : make_Tape} (h : TB m 310) {os0 : List api_Object} (M : MadeO os0) (hl0 : os0.length ≤ 8) (htl : 1 ≤ v4.2.2.2.2.2.length) (htl2 : v4.2.2.2.2.2.length ≤ 1000) (hb : ∀ x ∈ v4.2.2.2.2.2, kAt os0 x 2) {id0 : Int} (hid : id0 = os0.length) {K : Int} (h1 : 1 ≤ K) (h4 : K ≤ 5) :
    ∃ e, iter (make_Repository_l2 v4) (K, m.L, m.at_, [], id0, os0, []) = some e ∧ (TB ⟨e.1, e.2.1⟩ 400 ∧ e.2.2.1 = [] ∧ MadeO e.2.2.2.1 ∧ (e.2.2.2.1.length : Int) ≤ 13 ∧ (e.2.2.2.2.length : Int) = K ∧ ∀ x ∈ e.2.2.2.2, kAt e.2.2.2.1 x 3) := by
  refine iter_ex (body := make_Repository_l2 v4) (fun s => 0 ≤ s.1 ∧ s.1 ≤ K ∧ TB ⟨s.2.1, s.2.2.1⟩ (310 + 10 * (K - s.1)) ∧ s.2.2.2.1 = [] ∧ s.2.2.2.2.1 = (s.2.2.2.2.2.1.length : Int) ∧ MadeO s.2.2.2.2.2.1 ∧ (s.2.2.2.2.2.1.length : Int) + s.1 ≤ 13 ∧ ((s.2.2.2.2.2.2.length : Int) + s.1 = K ∧ s.2.2.2.2.2.2.Nodup) ∧ (∀ x ∈ s.2.2.2.2.2.2, kAt s.2.2.2.2.2.1 x 3) ∧ ∀ x ∈ v4.2.2.2.2.2, kAt s.2.2.2.2.2.1 x 2) (fun s => s.1.toNat) _ ?_ ⟨by simp only; omega, by simp only; omega, h.mono (by simp only; omega), rfl, hid, M, by simp only; omega, ⟨by simp, .nil⟩, by simp, hb⟩
  rintro ⟨k, L, p, ev, id, os, cs⟩ ⟨g1, g2, g3, g4, g5, g6, g7, ⟨g8, g8n⟩, g9, g10⟩
  simp only at g1 g2 g3 g4 g5 g6 g7 g8 g8n g9 g10
  unfold make_Repository_l2
  simp only
  by_cases hk : 0 < k
  · left
    obtain ⟨v, m1, e1, v1, v2, t1⟩ := next_b g3 (by omega) (n := (v4.2.2.2.2.2.length : Int)) (by omega)
    rw [if_pos (by simpa using hk), e1]
    simp only [Option.bind_some]
    rw [ck_t (by omega), idx_toNat v1 (by omega)]
    simp only [Option.bind_some]
    obtain ⟨u, m2, e2, u1, u2, t2⟩ := next_b t1 (by omega) (n := 20) (by omega)
    rw [e2]
    simp only [Option.bind_some]
    obtain ⟨e, e3, t3, i1, i2, i3⟩ := l3_ex (s8 := (k, L, p, ev, id, os, cs)) t2 (by omega) (by simp only; omega) g8n
    simp only at e3 t3 i3
    rw [e3]
    simp only [Option.bind_some]
    rw [add_eq g5 (by omega)]
    simp only [Option.bind_some]
    rw [ck_t (by simp <;> omega), w64 (x := k - 1) (by omega) (by omega)]
    have hT : kAt os (v4.2.2.2.2.2[v.toNat]'(by omega)) 2 := g10 _ (List.getElem_mem _)
    refine ⟨_, rfl, ⟨by simp only; omega, by simp only; omega, t3.mono (by simp only; omega), g4, by simp <;> omega, ?_, by simp <;> omega, ⟨by simp <;> omega, ?_⟩, ?_, fun x hx => (g10 x hx).mono⟩, by simp only; omega⟩
    · refine g6.push (by simp only; omega) (.commit rfl rfl rfl ?_ hT (fun x hx => ⟨?_, g9 x (i3 x hx)⟩) i1 i2 rfl u1 (by simp only; omega))
      · have := g6.le hT; simp only; omega
      · have := g6.le (g9 x (i3 x hx)); simp only; omega
    · simp only
      rw [List.nodup_append]
      refine ⟨g8n, by simp, fun a ha c hc => ?_⟩
      rw [List.mem_singleton] at hc
      subst hc
      have := g6.le (g9 a ha)
      omega
    · intro x hx
      simp only [List.mem_append, List.mem_singleton] at hx
      rcases hx with hx | rfl
      · exact (g9 x hx).mono
      · exact ⟨_, List.mem_append_right _ (List.mem_singleton.2 rfl), rfl, rfl⟩
  · right
    have : k = 0 := by omega
    subst this
    rw [if_neg (by simp)]
    exact ⟨_, rfl, g3.mono (by omega), g4, g6, by simp only; omega, by simp only; omega, g9⟩
/-! Events -/
abbrev nMain : ByteArray := ⟨#[109, 97, 105, 110]⟩
abbrev nOld : ByteArray := ⟨#[111, 108, 100]⟩
abbrev nX : ByteArray := ⟨#[120]⟩
abbrev nNew : ByteArray := ⟨#[110, 101, 119]⟩
structure EvOk (os : List api_Object) (e : api_RefEvent) : Prop where
  k : (e.Kind = 1 ∧ kAt os e.Commit 3) ∨ (e.Kind = 2 ∧ e.Commit = 0)
  n : e.Name ∈ [nMain, nOld, nX, nNew]
  t : 0 ≤ e.Time ∧ e.Time ≤ 100
noncomputable def nmF (l : List api_RefEvent) : List (ByteArray × Bool) := l.foldl (fun m e => mset stE m e.Name (e.Kind == 1)) []
/-- what is deleted was there -/
noncomputable def delB : List api_RefEvent → List (ByteArray × Bool) → Bool
  | [], _ => true
  | e :: l, m => (e.Kind != 2 || (mget stE m e.Name).getD false) && delB l (mset stE m e.Name (e.Kind == 1))
theorem delB_append : ∀ (l l2 : List api_RefEvent) (m : List (ByteArray × Bool)), delB (l ++ l2) m = (delB l m && delB l2 (l.foldl (fun m e => mset stE m e.Name (e.Kind == 1)) m))
  | [], l2, m => by simp [delB]
  | e :: l, l2, m => by simp only [List.cons_append, delB, List.foldl_cons, delB_append l l2]; rw [Bool.and_assoc]
structure MadeE (os : List api_Object) (l : List api_RefEvent) : Prop where
  ok : ∀ e ∈ l, EvOk os e
  so : l.Pairwise fun x y => x.Time ≤ y.Time
  dl : delB l [] = true
theorem events_ex {m : make_Tape} (h : TB m 400) {os : List api_Object} {cs : List Int} (hl : 1 ≤ cs.length) (hl2 : cs.length ≤ 1000) (hc : ∀ x ∈ cs, kAt os x 3) : ∃ l m', make_Events m cs = some (l, m') ∧ MadeE os l ∧ l.length ≤ 7 ∧ (∀ e ∈ l, e.Time ≤ 20) ∧ TB m' 500 := by
  unfold make_Events
  obtain ⟨v, m1, e1, v1, v2, t1⟩ := next_b h (by omega) (n := 4) (by omega)
  rw [e1]
  simp only [Option.bind_some]
  obtain ⟨K, m2, e2, u1, u2, t2⟩ := next_b t1 (by omega) (n := 8) (by omega)
  rw [e2]
  simp only [Option.bind_some]
  have key : ∃ e, iter (make_Events_l0 cs) (v, K, m2.L, m2.at_, [], []) = some e ∧ (TB ⟨e.1, e.2.1⟩ 500 ∧ MadeE os e.2.2 ∧ e.2.2.length ≤ 7 ∧ ∀ x ∈ e.2.2, x.Time ≤ 20) := by
    refine iter_ex (body := make_Events_l0 cs) (fun s => 0 ≤ s.2.1 ∧ s.2.1 ≤ 7 ∧ (0 ≤ s.1 ∧ s.1 + 2 * s.2.1 ≤ 20) ∧ TB ⟨s.2.2.1, s.2.2.2.1⟩ (410 + 5 * (7 - s.2.1)) ∧ s.2.2.2.2.1 = nmF s.2.2.2.2.2 ∧ (s.2.2.2.2.2.length : Int) + s.2.1 ≤ 7 ∧ MadeE os s.2.2.2.2.2 ∧ ∀ e ∈ s.2.2.2.2.2, e.Time ≤ s.1) (fun s => s.2.1.toNat) _ ?_ ⟨u1, by simp only; omega, ⟨v1, by simp only; omega⟩, t2.mono (by simp only; omega), rfl, by simp only [List.length_nil]; omega, ⟨by simp, .nil, rfl⟩, by simp⟩
    rintro ⟨now, k, L, p, th, out⟩ ⟨g1, g2, ⟨g3, g3'⟩, g4, g5, g6, g7, g8⟩
    simp only at g1 g2 g3 g3' g4 g5 g6 g7 g8
    unfold make_Events_l0
    simp only
    by_cases hk : 0 < k
    · left
      rw [if_pos (by simpa using hk)]
      obtain ⟨a, m3, e3, a1, a2, t3⟩ := next_b g4 (by omega) (n := 3) (by omega)
      rw [e3]
      simp only [Option.bind_some]
      obtain ⟨b, m4, e4, b1, b2, t4⟩ := next_b t3 (by omega) (n := 3) (by omega)
      rw [e4]
      simp only [Option.bind_some]
      rw [ck_t (by simp <;> omega), idx_toNat b1 (by simp <;> omega)]
      simp only [Option.bind_some]
      have hnm : ([nMain, nOld, nX][b.toNat]'(by simp <;> omega)) ∈ [nMain, nOld, nX, nNew] := by
        have : ([nMain, nOld, nX][b.toNat]'(by simp <;> omega)) ∈ [nMain, nOld, nX] := List.getElem_mem _
        exact List.mem_append_left [nNew] this
      rw [show ([(⟨#[109, 97, 105, 110]⟩ : ByteArray), (⟨#[111, 108, 100]⟩ : ByteArray), (⟨#[120]⟩ : ByteArray)][b.toNat]'(by simp <;> omega)) = ([nMain, nOld, nX][b.toNat]'(by simp <;> omega)) from rfl]
      generalize [nMain, nOld, nX][b.toNat]'(by simp <;> omega) = nm at hnm ⊢
      rw [w64 (x := now + a) (by omega) (by omega), w64 (x := k - 1) (by omega) (by omega)]
      have hfin : ∀ (e : api_RefEvent), EvOk os e → e.Time = now + a → e.Name = nm → (e.Kind = 2 → (mget stE th nm).getD false = true) → MadeE os (out ++ [e]) ∧ (∀ x ∈ out ++ [e], x.Time ≤ now + a) ∧ mset stE th nm (e.Kind == 1) = nmF (out ++ [e]) := fun e hok ht hn hd => by
        refine ⟨⟨fun x hx => ?_, ?_, ?_⟩, fun x hx => ?_, ?_⟩
        · rcases List.mem_append.1 hx with h | h
          · exact g7.ok x h
          · rw [List.mem_singleton.1 h]; exact hok
        · rw [List.pairwise_append]
          exact ⟨g7.so, List.pairwise_singleton _ _, fun x hx y hy => by rw [List.mem_singleton.1 hy, ht]; have := g8 x hx; omega⟩
        · rw [delB_append, g7.dl]
          have : out.foldl (fun m e => mset stE m e.Name (e.Kind == 1)) [] = th := g5.symm
          rw [this]
          simp only [delB, Bool.true_and, Bool.and_true, hn]
          by_cases k2 : e.Kind = 2
          · rw [hd k2]; simp
          · simp [k2]
        · rcases List.mem_append.1 hx with h | h
          · have := g8 x h; omega
          · rw [List.mem_singleton.1 h, ht]; exact Int.le_refl _
        · unfold nmF
          rw [List.foldl_append, List.foldl_cons, List.foldl_nil]
          have : out.foldl (fun m e => mset stE m e.Name (e.Kind == 1)) [] = th := g5.symm
          rw [this, hn]
      have hset : ∀ (L' : List Int) (p' : Int), TB ⟨L', p'⟩ (413 + 5 * (7 - k)) → ∃ s', ((make_Tape_Next (⟨L', p'⟩ : make_Tape) ((cs).length : Int)).bind fun y9 =>
          (idx cs y9.1).bind fun x10 =>
          (ck ((out).length + ([(⟨1, nm, x10, now + a⟩ : api_RefEvent)]).length ≤ 268435456)).bind fun _ =>
          some (Lp.go (ε := (List Int) × Int × (List api_RefEvent)) (now + a, k - 1, y9.2.L, y9.2.at_, (mset stE th nm true), (out ++ [(⟨1, nm, x10, now + a⟩ : api_RefEvent)])))) = some (.go s') ∧ (0 ≤ s'.2.1 ∧ s'.2.1 ≤ 7 ∧ (0 ≤ s'.1 ∧ s'.1 + 2 * s'.2.1 ≤ 20) ∧ TB ⟨s'.2.2.1, s'.2.2.2.1⟩ (410 + 5 * (7 - s'.2.1)) ∧ s'.2.2.2.2.1 = nmF s'.2.2.2.2.2 ∧ (s'.2.2.2.2.2.length : Int) + s'.2.1 ≤ 7 ∧ MadeE os s'.2.2.2.2.2 ∧ ∀ e ∈ s'.2.2.2.2.2, e.Time ≤ s'.1) ∧ s'.2.1.toNat < k.toNat := fun L' p' ht => by
        obtain ⟨c, m5, e5, c1, c2, t5⟩ := next_b ht (by omega) (n := (cs.length : Int)) (by omega)
        rw [e5]
        simp only [Option.bind_some]
        rw [idx_toNat c1 (by omega)]
        simp only [Option.bind_some]
        rw [ck_t (by simp <;> omega)]
        obtain ⟨f1, f2, f3⟩ := hfin ⟨1, nm, cs[c.toNat]'(by omega), now + a⟩ ⟨.inl ⟨rfl, hc _ (List.getElem_mem _)⟩, hnm, by simp only; omega⟩ rfl rfl (fun h => by cases h)
        exact ⟨_, rfl, ⟨by simp only; omega, by simp only; omega, ⟨by simp only; omega, by simp only; omega⟩, t5.mono (by simp only; omega), f3, by simp <;> omega, f1, f2⟩, by simp only; omega⟩
      by_cases hth : (mget stE th nm).getD false = true
      · rw [if_pos hth]
        obtain ⟨d, m5, e5, d1, d2, t5⟩ := next_b t4 (by omega) (n := 3) (by omega)
        rw [e5]
        simp only [Option.bind_some]
        by_cases c0 : d = 0
        · rw [if_pos (by simpa using c0), ck_t (by simp <;> omega)]
          obtain ⟨f1, f2, f3⟩ := hfin ⟨2, nm, 0, now + a⟩ ⟨.inr ⟨rfl, rfl⟩, hnm, by simp only; omega⟩ rfl rfl (fun _ => hth)
          exact ⟨_, rfl, ⟨by simp only; omega, by simp only; omega, ⟨by simp only; omega, by simp only; omega⟩, t5.mono (by simp only; omega), f3, by simp <;> omega, f1, f2⟩, by simp only; omega⟩
        · rw [if_neg (by simpa using c0)]
          exact hset m5.L m5.at_ (t5.mono (by omega))
      · rw [if_neg hth]
        simp only [Option.bind_some, Bool.false_eq_true, if_false]
        exact hset m4.L m4.at_ (t4.mono (by omega))
    · right
      have : k = 0 := by omega
      subst this
      rw [if_neg (by simp)]
      exact ⟨_, rfl, g4.mono (by omega), g7, by simp only; omega, fun e he => by have := g8 e he; omega⟩
  obtain ⟨e, h1, h2, h3, h4, h5⟩ := key
  rw [h1]
  exact ⟨_, _, rfl, h3, h4, h5, h2⟩
structure MadeR (r : api_Repository) : Prop where
  o : MadeO r.Objects
  lo : r.Objects.length ≤ 13
  cm : ∃ o ∈ r.Objects, o.Kind = 3
  e : MadeE r.Objects r.Events
  le : r.Events.length ≤ 10
theorem repo_ex (a : List Int) : ∃ r m, make_Repository ⟨a, 0⟩ = some (r, m) ∧ MadeR r ∧ r.Events.length ≤ 7 ∧ (∀ e ∈ r.Events, e.Time ≤ 20) ∧ TB m 500 := by
  unfold make_Repository
  obtain ⟨k1, m1, e1, a1, b1, t1⟩ := between_b (m := ⟨a, 0⟩) (b := 0) ⟨Int.le_refl _, Int.le_refl _⟩ (by omega) (x := 1) (y := 4) (by omega) (by omega) (by omega)
  rw [e1]
  simp only [Option.bind_some]
  obtain ⟨⟨L1, p1, ev1, id1, bl1, os1⟩, e2, t2, x1, x2, x3, x4, x5, x6⟩ := l0_ex (t1.mono (by omega)) a1 b1
  rw [e2]
  simp only at t2 x1 x2 x3 x4 x5 x6
  simp only [Option.bind_some]
  subst x1
  obtain ⟨k2, m2, e3, a2, b2, t3⟩ := between_b t2 (by omega) (x := 1) (y := 4) (by omega) (by omega) (by omega)
  rw [e3]
  simp only [Option.bind_some]
  obtain ⟨⟨L2, p2, ev2, id2, os2, tr2⟩, e4, t4, y1, y2, y3, y4, y5, y6⟩ := l1_ex (v2 := (L1, p1, [], id1, bl1, os1)) (t3.mono (by omega)) x3 (by omega) (by simp only; omega) (by simp only; omega) x6 x2 a2 b2
  rw [e4]
  simp only at t4 y1 y2 y3 y4 y5 y6
  simp only [Option.bind_some]
  subst y1
  obtain ⟨k3, m3, e5, a3, b3, t5⟩ := between_b t4 (by omega) (x := 1) (y := 5) (by omega) (by omega) (by omega)
  rw [e5]
  simp only [Option.bind_some]
  obtain ⟨⟨L3, p3, ev3, os3, cs3⟩, e6, t6, z1, z2, z3, z4, z5⟩ := l2_ex (v4 := (L2, p2, [], id2, os2, tr2)) (t5.mono (by omega)) y3 (by omega) (by simp only; omega) (by simp only; omega) y6 y2 a3 b3
  rw [e6]
  simp only at t6 z1 z2 z3 z4 z5
  simp only [Option.bind_some]
  obtain ⟨ev, m4, e7, w1, w2, w3, t7⟩ := events_ex t6 (cs := cs3) (by omega) (by omega) z5
  rw [e7]
  simp only [Option.bind_some]
  refine ⟨_, _, rfl, ⟨z2, by simp only; omega, ?_, w1, by simp only; omega⟩, w2, w3, t7⟩
  obtain ⟨o, h1, _, h2⟩ := z5 (cs3[0]'(by omega)) (List.getElem_mem _)
  exact ⟨o, h1, h2⟩
end Go.Vl

namespace Go.Vl
open Go
/-! No object leads back to itself -/
theorem hasK_sub {l l' : List (Int × api_Object)} (h : l' ⊆ l) {id : Int} (hk : hasK l' id = true) : hasK l id = true := by
  unfold hasK at *
  rw [mget_mem inE_eq] at *
  obtain ⟨q, hq, rfl⟩ := List.mem_map.1 hk
  exact List.mem_map_of_mem (h hq)
theorem leave_sub (l : List (Int × api_Object)) : (leaveL l).Sublist l := List.filter_sublist
theorem min_key : ∀ {l : List (Int × api_Object)}, l ≠ [] → ∃ q ∈ l, ∀ r ∈ l, q.1 ≤ r.1
  | [], h => absurd rfl h
  | [q], _ => ⟨q, by simp, by simp⟩
  | q :: r :: l, _ => by
    obtain ⟨p, hp, h⟩ := min_key (l := r :: l) (by simp)
    by_cases hc : q.1 ≤ p.1
    · refine ⟨q, by simp, fun x hx => ?_⟩
      rcases List.mem_cons.1 hx with rfl | hx
      · exact Int.le_refl _
      · exact Int.le_trans hc (h x hx)
    · refine ⟨p, List.mem_cons_of_mem _ hp, fun x hx => ?_⟩
      rcases List.mem_cons.1 hx with rfl | hx
      · omega
      · exact h x hx
theorem leave_lt {l : List (Int × api_Object)} (h : ∀ q ∈ l, ∀ j ∈ namesO q.2, j < q.1) (hne : l ≠ []) : (leaveL l).length < l.length := by
  obtain ⟨q, hq, hmin⟩ := min_key hne
  refine List.length_filter_lt_length_iff_exists.2 ⟨q, hq, ?_⟩
  rw [Bool.not_eq_true]
  refine List.any_eq_false.2 fun j hj hk => ?_
  unfold hasK at hk
  rw [mget_mem inE_eq] at hk
  obtain ⟨r, hr, h2⟩ := List.mem_map.1 hk
  have h1 := h q hq j hj
  have h3 := hmin r hr
  omega
theorem cycN_nil : ∀ (n : Nat) {l : List (Int × api_Object)}, (∀ q ∈ l, ∀ j ∈ namesO q.2, j < q.1) → l.length ≤ n → cycN n l = []
  | 0, l, _, hl => by
    have : l = [] := List.eq_nil_of_length_eq_zero (by omega)
    subst this; rfl
  | n + 1, l, h, hl => by
    rw [cycN]
    refine cycN_nil n (fun q hq => h q ((leave_sub l).subset hq)) ?_
    by_cases hne : l = []
    · subst hne; simp [leaveL]
    · have := leave_lt h hne; omega
theorem cyc_no {l : List (Int × api_Object)} (h : ∀ q ∈ l, ∀ j ∈ namesO q.2, j < q.1) : cycB l = false := by
  unfold cycB
  rw [cycN_nil l.length h (Nat.le_refl _)]; rfl
/-! Names -/
theorem many_no {ns : List ByteArray} (hn : ns.length ≤ 32) : ∀ {l : List api_RefEvent} {m : List (ByteArray × Bool)}, (∀ e ∈ l, e.Name ∈ ns) → (m.map (·.1)).Nodup → (∀ k ∈ m.map (·.1), k ∈ ns) → manyB l m = false
  | [], _, _, _, _ => rfl
  | e :: l, m, h, h1, h2 => by
    have h3 : ((nameStep m e).map (·.1)).Nodup := by
      unfold nameStep
      split
      · exact mset_nodup stE_eq h1 _ _
      · exact mdel_nodup h1 _
    have h4 : ∀ k ∈ (nameStep m e).map (·.1), k ∈ ns := by
      intro k hk
      unfold nameStep at hk
      split at hk
      · rcases (mset_mem stE_eq).1 hk with rfl | hk
        · exact h e (by simp)
        · exact h2 k hk
      · exact h2 k (((mdel_mem stE_eq h1).1 hk).2)
    have h5 := nodup_len h3 h4
    rw [manyB, many_no hn (fun x hx => h x (by simp [hx])) h3 h4]
    simp at h5 ⊢
    omega
theorem nlB_iff {all : List (Int × api_Object)} : ∀ {l : List api_RefEvent} {m : List (ByteArray × Bool)}, (∀ e ∈ l, e.Kind = 1 → kindM all e.Commit = 3) → delB l m = true → nlB all l m = false
  | [], _, _, _ => nl_nil _ _
  | e :: l, m, h, hd => by
    rw [delB, Bool.and_eq_true] at hd
    rw [nl_cons, nlB_iff (fun x hx => h x (by simp [hx])) hd.2, Bool.or_false]
    unfold bareB
    rw [Bool.or_eq_false_iff]
    constructor
    · by_cases k1 : e.Kind = 1
      · simp [h e (by simp) k1]
      · simp [k1]
    · cases hb : e.Kind == 2 with
      | false => rfl
      | true =>
        have := hd.1
        unfold bne at this
        rw [hb] at this
        simpa using this
/-! Made -/
theorem MadeO.kind {os : List api_Object} (M : MadeO os) {id k : Int} (h : kAt os id k) : kindM (objM os) id = k := by
  obtain ⟨o, ho, rfl, rfl⟩ := h
  unfold kindM
  have : mget inE (objM os) o.ID = some o := mget_of inE_eq (v := o) (by rw [objM_keys]; exact M.nd) (List.mem_map.2 ⟨o, ho, rfl⟩)
  rw [this]; rfl
theorem MadeO.id_le {os : List api_Object} (M : MadeO os) {o : api_Object} (h : o ∈ os) : 1 ≤ o.ID ∧ o.ID ≤ os.length := M.le ⟨o, h, rfl, rfl⟩
theorem nm3 : nmB nA = true ∧ nmB nB = true ∧ nmB nD = true ∧ nmB nAnn = true := by
  refine ⟨?_, ?_, ?_, ?_⟩ <;> decide +kernel
theorem nmz4 : ∀ n ∈ [nMain, nOld, nX, nNew], nmB n = true := by
  intro n hn
  simp only [List.mem_cons, List.not_mem_nil, or_false] at hn
  rcases hn with rfl | rfl | rfl | rfl <;> decide +kernel
theorem lt3 : [nA, nB, nD].Pairwise fun x y => Op.bytesLess x.toList y.toList = true := by
  simp only [List.pairwise_cons, List.mem_cons, List.not_mem_nil, or_false, ByteArray.toList_eq]
  refine ⟨?_, ?_, ?_, .nil⟩
  · rintro y (rfl | rfl) <;> decide +kernel
  · rintro y rfl; decide +kernel
  · intro y h; cases h
theorem other_no {o : api_Object} (h1 : o.Tree = 0) (h2 : o.Parents = []) (h3 : o.Author = ByteArray.empty) (h4 : o.Time = 0) : otherB o = false := by
  unfold otherB
  rw [h1, h2, h3, h4]
  have : ByteArray.empty = (⟨#[]⟩ : ByteArray) := rfl
  rw [this]
  simp
theorem items_ok {l : List api_Item} (h : (l.map (·.Name)).Sublist [nA, nB, nD]) (hid : ∀ x ∈ l, numB x.ID = true) : ∀ i, i < l.length → treeB l i = true := by
  intro i hi
  have hp := List.Pairwise.sublist h lt3
  have hn : ∀ x ∈ l, nmB x.Name = true := fun x hx => by
    have := h.subset (List.mem_map_of_mem (f := (·.Name)) hx)
    simp only [List.mem_cons, List.not_mem_nil, or_false] at this
    rcases this with e | e | e <;> rw [e]
    · exact nm3.1
    · exact nm3.2.1
    · exact nm3.2.2.1
  unfold treeB
  rw [List.getElem?_eq_getElem hi]
  simp only
  rw [hn _ (List.getElem_mem hi), hid _ (List.getElem_mem hi)]
  cases i with
  | zero => rfl
  | succ i =>
    simp only [Nat.add_sub_cancel, List.getElem?_eq_getElem (show i < l.length by omega)]
    have := List.pairwise_iff_getElem.1 hp i (i + 1) (by simp; omega) (by simp; omega) (by omega)
    simp only [List.getElem_map] at this
    rw [this]; simp
theorem parents_ok {l : List Int} (h : l.Nodup) (hid : ∀ x ∈ l, numB x = true) : ∀ i, i < l.length → parB l i = true := by
  intro i hi
  unfold parB
  rw [List.getElem?_eq_getElem hi]
  simp only
  rw [hid _ (List.getElem_mem hi), Bool.true_and, Bool.not_eq_true', List.contains_eq_mem, decide_eq_false_iff_not]
  intro hm
  obtain ⟨j, hj, e⟩ := List.getElem_of_mem hm
  rw [List.getElem_take] at e
  have hji : j < i := by simp at hj; omega
  have := (List.pairwise_iff_getElem.1 h) j i (by omega) hi hji
  exact this e
theorem numB_of {x : Int} (h : 1 ≤ x ∧ x ≤ 1000) : numB x = true := by
  unfold numB
  simp only [Bool.and_eq_true, decide_eq_true_eq]
  omega
theorem sub3_len {l : List api_Item} (h : (l.map (·.Name)).Sublist [nA, nB, nD]) : l.length ≤ 3 := by
  have := h.length_le
  simpa using this
theorem MadeO.objE {os : List api_Object} (M : MadeO os) (hl : os.length ≤ 1000) {o : api_Object} (ho : o ∈ os) : objE o = 0 := by
  have hid := M.id_le ho
  refine objE_zero.2 ⟨numB_of (by omega), ?_, ?_⟩
  · cases M.obj o ho with
    | blob h1 h2 h3 h4 h5 => rw [h3, h5]; simp; omega
    | tree h1 h2 h3 h4 h5 h6 => rw [h2, h6]; have := sub3_len h3; simp; omega
    | commit h1 h2 h3 h4 h5 h6 h7 h8 => rw [h2, h3]; simp; omega
  · unfold rightB
    cases M.obj o ho with
    | blob h1 h2 h3 h4 h5 h6 h7 => rw [if_pos h1, h3, other_no h4 h5 h6 h7]; rfl
    | tree h1 h2 h3 h4 h5 h6 h7 h8 =>
      rw [if_neg (by omega), if_pos h1, h2, other_no h5 h6 h7 h8]
      rw [decide_eq_true (items_ok h3 fun x hx => ?_)]
      · rfl
      · rcases (h4 x hx).2 with h | h
        · have := M.le h; exact numB_of (by omega)
        · have := M.le h; exact numB_of (by omega)
    | commit h1 h2 h3 h4 h5 h6 h7 h8 h9 h10 h11 =>
      rw [if_neg (by omega), if_neg (by omega), if_pos h1, h2, h3]
      have hT := M.le h5
      unfold commitB
      rw [decide_eq_true (parents_ok h7 fun x hx => numB_of (by have := M.le (h6 x hx).2; omega)), numB_of (by omega), h9, nm3.2.2.2]
      simp
      omega
theorem MadeO.here {os : List api_Object} (M : MadeO os) {o : api_Object} (ho : o ∈ os) : hereB (objM os) o = true := by
  unfold hereB
  simp only [Bool.and_eq_true, List.all_eq_true, Bool.or_eq_true, beq_iff_eq, bne_iff_ne]
  cases M.obj o ho with
  | blob h1 h2 h3 h4 h5 => rw [h3, h5]; exact ⟨by simp, by simp, .inl (by omega)⟩
  | tree h1 h2 h3 h4 h5 h6 => rw [h6]; exact ⟨fun x hx => (h4 x hx).2.imp M.kind M.kind, by simp, .inl (by omega)⟩
  | commit h1 h2 h3 h4 h5 h6 => rw [h3]; exact ⟨by simp, fun p hp => M.kind (h6 p hp).2, .inr (M.kind h5)⟩
theorem MadeO.down {os : List api_Object} (M : MadeO os) {o : api_Object} (ho : o ∈ os) {j : Int} (hj : j ∈ namesO o) : j < o.ID := by
  unfold namesO at hj
  simp only [List.mem_append, List.mem_map] at hj
  cases M.obj o ho with
  | blob h1 h2 h3 h4 h5 => rw [h3, h5, if_neg (by omega)] at hj; simp at hj
  | tree h1 h2 h3 h4 h5 h6 =>
    rw [h6, if_neg (by omega)] at hj
    rcases hj with (hj | ⟨x, hx, rfl⟩) | hj
    · cases hj
    · exact (h4 x hx).1
    · cases hj
  | commit h1 h2 h3 h4 h5 h6 =>
    rw [h3, if_pos h1] at hj
    rcases hj with (hj | ⟨x, hx, rfl⟩) | hj
    · exact (h6 j hj).1
    · cases hx
    · rw [List.mem_singleton.1 hj]; exact h4
theorem MadeR.ok {r : api_Repository} (M : MadeR r) : OkV r := by
  have hlo := M.lo
  have hle := M.le
  refine ⟨by omega, by omega, fun o ho => M.o.objE (by omega) ho, fun e he => ?_, M.o.nd, fun o ho => M.o.here ho, nlB_iff (fun e he hk => ?_) M.e.dl, cyc_no fun q hq j hj => ?_, fun e he => ?_, M.e.so, many_no (ns := [nMain, nOld, nX, nNew]) (by simp) (fun e he => (M.e.ok e he).n) (by simp) (by simp)⟩
  · have h := M.e.ok e he
    unfold wrongB
    rw [nmz4 _ h.n]
    rcases h.k with ⟨h1, _⟩ | ⟨h1, h2⟩
    · simp [h1]
    · simp [h1, h2]
  · rcases (M.e.ok e he).k with ⟨_, h2⟩ | ⟨h1, _⟩
    · exact M.o.kind h2
    · omega
  · obtain ⟨o, ho, rfl⟩ := List.mem_map.1 hq
    exact M.o.down ho hj
  · have h := (M.e.ok e he).t
    unfold timeB
    simp
    omega
theorem nsz4 : ∀ n ∈ [nMain, nOld, nX, nNew], n.size ≤ 1000 := by
  intro n hn
  simp only [List.mem_cons, List.not_mem_nil, or_false] at hn
  rcases hn with rfl | rfl | rfl | rfl <;> decide
theorem MadeR.fit {r : api_Repository} (M : MadeR r) : FitR r := by
  refine ⟨fun o ho => ?_, fun e he => by have := nsz4 _ (M.e.ok e he).n; omega⟩
  cases M.o.obj o ho with
  | blob h1 h2 h3 h4 h5 h6 h7 => exact ⟨by rw [h3]; simp, by rw [h6]; decide⟩
  | tree h1 h2 h3 h4 h5 h6 h7 h8 =>
    refine ⟨fun x hx => ?_, by rw [h7]; decide⟩
    have := h3.subset (List.mem_map_of_mem (f := (·.Name)) hx)
    simp only [List.mem_cons, List.not_mem_nil, or_false] at this
    rcases this with e | e | e <;> rw [e] <;> decide
  | commit h1 h2 h3 h4 h5 h6 h7 h8 h9 => exact ⟨by rw [h3]; simp, by rw [h9]; decide⟩
theorem delB_take {l : List api_RefEvent} (h : delB l [] = true) (k : Nat) : delB (l.take k) [] = true := by
  have := delB_append (l.take k) (l.drop k) []
  rw [List.take_append_drop, h] at this
  exact (Bool.and_eq_true_iff.1 this.symm).1
theorem MadeR.cut {r : api_Repository} (M : MadeR r) (k : Nat) : MadeR ⟨r.Objects, r.Events.take k⟩ := by
  refine ⟨M.o, M.lo, M.cm, ⟨fun e he => M.e.ok e (List.mem_of_mem_take he), M.e.so.sublist (List.take_sublist ..), delB_take M.e.dl k⟩, ?_⟩
  have := M.le
  simp only [List.length_take]
  omega
theorem MadeR.more {r : api_Repository} (M : MadeR r) (hl : r.Events.length ≤ 9) {e : api_RefEvent} (he : EvOk r.Objects e) (hk : e.Kind = 1) (ht : ∀ x ∈ r.Events, x.Time ≤ e.Time) : MadeR ⟨r.Objects, r.Events ++ [e]⟩ := by
  refine ⟨M.o, M.lo, M.cm, ⟨fun x hx => ?_, ?_, ?_⟩, by simp only [List.length_append, List.length_singleton]; omega⟩
  · rcases List.mem_append.1 hx with h | h
    · exact M.e.ok x h
    · rw [List.mem_singleton.1 h]; exact he
  · rw [List.pairwise_append]
    exact ⟨M.e.so, List.pairwise_singleton _ _, fun x hx y hy => by rw [List.mem_singleton.1 hy]; exact ht x hx⟩
  · rw [delB_append, M.e.dl]
    simp [delB, hk]
end Go.Vl
