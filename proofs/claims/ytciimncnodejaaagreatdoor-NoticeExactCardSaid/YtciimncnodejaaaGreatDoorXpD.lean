/- Plain laws of notices: the reference's Open and Late; NoticeExact. Conditions: none. -/
import Derived.Test.YtciimncnodejaaaGreatDoorXpC
set_option linter.unusedSimpArgs false
set_option linter.unusedVariables false
namespace Go.Vl
open Go

theorem same_sp {a : List api_Notice} (ha : a.length ≤ 1000000) : ref41_Same a a = some true := by
  unfold ref41_Same
  rw [if_neg (by simp)]
  have : iter (ref41_Same_l0 a a) 0 = some (.inl ()) := by
    refine (iter_allE a.length (fun _ => true) false (fun i hi => ?_) ?_).trans (congrArg some (if_pos fun _ _ => rfl))
    · rw [if_pos rfl]
      unfold ref41_Same_l0
      rw [if_pos (by simp <;> omega), idx_lt hi, w64 (by omega) (by omega)]
      simp only [Option.bind_some, beq_self_eq_true, Bool.and_self, Bool.not_true]
      rfl
    · unfold ref41_Same_l0
      rw [if_neg (by simp)]
  rw [this]; rfl
theorem ints_sp {a : List Int} (ha : a.length ≤ 1000000) : ref23_Ints a a = some true := by
  unfold ref23_Ints
  rw [if_neg (by simp)]
  have : iter (ref23_Ints_l0 a a) 0 = some (.inl ()) := by
    refine (iter_allE a.length (fun _ => true) false (fun i hi => ?_) ?_).trans (congrArg some (if_pos fun _ _ => rfl))
    · rw [if_pos rfl]
      unfold ref23_Ints_l0
      rw [if_pos (by simp <;> omega), idx_lt hi, w64 (by omega) (by omega)]
      simp only [Option.bind_some]
      rw [if_neg (by simp)]; rfl
    · unfold ref23_Ints_l0
      rw [if_neg (by simp)]
  rw [this]; rfl
/-! Open -/
theorem sortI_pw (l : List Int) : (sortI l).Pairwise (· ≤ ·) := by
  have := List.pairwise_mergeSort (le := fun x y : Int => decide (x ≤ y)) (fun a b c h1 h2 => by simp only [decide_eq_true_eq] at h1 h2 ⊢; omega) (fun a b => by simp only [Bool.or_eq_true, decide_eq_true_eq]; omega) l
  exact this.imp fun {a b} h => by simpa using h
theorem sortI_perm (l : List Int) : (sortI l).Perm l := List.mergeSort_perm ..
theorem sortI_eq {l l' : List Int} (hn : l.Nodup) (hs : l'.Pairwise (· < ·)) (hm : ∀ x, x ∈ l ↔ x ∈ l') : sortI l = l' := by
  have hn' : l'.Nodup := hs.imp fun {a b} h => by omega
  refine List.Perm.eq_of_pairwise (le := fun a b : Int => a ≤ b) (fun a b _ _ h1 h2 => by omega) (sortI_pw l) (hs.imp fun {a b} h => by omega) ((sortI_perm l).trans ?_)
  exact (List.perm_ext_iff_of_nodup hn hn').2 hm
def stF (t : Int) (st : List Int) (x : api_Case) : List Int := if x.Time ≤ t ∧ st.getD x.Case.toNat 0 ≠ 3 then st.set x.Case.toNat x.Kind else st
theorem stF_len (t : Int) (st : List Int) (x : api_Case) : (stF t st x).length = st.length := by
  unfold stF; split <;> simp
structure RelO (t : Int) (prev : List Int) (last : Int) (m : List (Int × Bool)) (st : List Int) : Prop where
  len : st.length = 16
  nd : (m.map (·.1)).Nodup
  bd : ∀ x ∈ m.map (·.1), 0 ≤ x ∧ x < 16
  iff : ∀ c : Nat, c < 16 → ((c : Int) ∈ m.map (·.1) ↔ st.getD c 0 ≠ 0 ∧ st.getD c 0 ≠ 3)
  old : last ≤ t → ∀ c : Nat, c < 16 → (c : Int) ∈ prev → st.getD c 0 ≠ 0
  new : ∀ c : Nat, c < 16 → st.getD c 0 ≠ 0 → (c : Int) ∈ prev
theorem set_getD {st : List Int} {k : Nat} (hk : k < st.length) (v : Int) (c : Nat) : (st.set k v).getD c 0 = if c = k then v else st.getD c 0 := by
  rw [List.getD_eq_getElem?_getD, List.getD_eq_getElem?_getD, List.getElem?_set]
  by_cases h : c = k
  · subst h; simp [hk]
  · rw [if_neg (fun h2 => h h2.symm), if_neg h]
theorem RelO.step {d : api_Directory} {t : Int} {prev : List Int} {last : Int} {m : List (Int × Bool)} {st : List Int} (R : RelO t prev last m st) {x : api_Case} (ht : last ≤ x.Time) (hx : rightP d prev x = true) : RelO t (prev ++ [x.Case]) x.Time (openF t m x) (stF t st x) := by
  unfold rightP at hx
  simp only [Bool.and_eq_true, decide_eq_true_eq] at hx
  obtain ⟨⟨h0, h16⟩, hx⟩ := hx
  obtain ⟨k, hk⟩ : ∃ k : Nat, x.Case = (k : Int) := ⟨x.Case.toNat, by omega⟩
  have hk16 : k < 16 := by omega
  have hkl : k < st.length := by rw [R.len]; exact hk16
  have hkn : x.Case.toNat = k := by omega
  by_cases hl : x.Time ≤ t
  case neg =>
    have e1 : openF t m x = m := by unfold openF; rw [if_pos (by omega)]
    have e2 : stF t st x = st := by unfold stF; rw [if_neg (fun h => hl h.1)]
    rw [e1, e2]
    exact ⟨R.len, R.nd, R.bd, R.iff, fun h => absurd h hl, fun c hc h => List.mem_append_left _ (R.new c hc h)⟩
  have ho := R.old (by omega)
  have e1 : openF t m x = if x.Kind = 1 then mset inE m x.Case true else if x.Kind = 3 then mdel inE m x.Case else m := by unfold openF; rw [if_neg (by omega)]
  by_cases h1 : x.Kind = 1
  · rw [if_pos h1] at hx e1
    simp only [Bool.and_eq_true, Bool.not_eq_true', decide_eq_true_eq] at hx
    have hnp : x.Case ∉ prev := fun h => by have := List.contains_iff_mem.2 h; rw [this] at hx; exact absurd hx.1 (by decide)
    have hz : st.getD k 0 = 0 := by
      refine Classical.byContradiction fun h => hnp ?_
      rw [hk]; exact R.new k hk16 h
    have e2 : stF t st x = st.set k 1 := by unfold stF; rw [hkn, if_pos ⟨hl, by rw [hz]; decide⟩, h1]
    rw [e1, e2]
    refine ⟨by simp [R.len], mset_nodup inE_eq R.nd _ _, fun y hy => ?_, fun c hc => ?_, fun _ c hc hm => ?_, fun c hc h => ?_⟩
    · rcases (mset_mem inE_eq).1 hy with rfl | hy
      · omega
      · exact R.bd y hy
    · rw [mset_mem inE_eq, set_getD hkl, R.iff c hc, hk]
      by_cases hck : c = k
      · simp [hck]
      · rw [if_neg hck]
        constructor
        · rintro (h | h)
          · omega
          · exact h
        · exact .inr
    · rw [set_getD hkl]
      by_cases hck : c = k
      · simp [hck]
      · rw [if_neg hck]
        rcases List.mem_append.1 hm with h | h
        · exact ho c hc h
        · simp at h; omega
    · rw [set_getD hkl] at h
      by_cases hck : c = k
      · rw [hck, hk]; simp
      · rw [if_neg hck] at h
        exact List.mem_append_left _ (R.new c hc h)
  · rw [if_neg h1] at hx e1
    by_cases h23 : x.Kind = 2 ∨ x.Kind = 3
    case neg => rw [if_neg h23] at hx; cases hx
    rw [if_pos h23] at hx
    simp only [Bool.and_eq_true] at hx
    have hp : x.Case ∈ prev := List.contains_iff_mem.1 hx.1
    have hnz : st.getD k 0 ≠ 0 := ho k hk16 (hk ▸ hp)
    have hsub : ∀ c : Nat, (c : Int) ∈ prev ++ [x.Case] → (c : Int) ∈ prev := fun c h => by
      rcases List.mem_append.1 h with h | h
      · exact h
      · simp at h; rw [h]; exact hp
    by_cases h3 : st.getD k 0 = 3
    · have e2 : stF t st x = st := by unfold stF; rw [hkn, if_neg (fun h => h.2 h3)]
      have hnm : x.Case ∉ m.map (·.1) := fun h => by rw [hk] at h; exact ((R.iff k hk16).1 h).2 h3
      have e3 : ∀ c : Int, c ∈ (openF t m x).map (·.1) ↔ c ∈ m.map (·.1) := fun c => by
        rw [e1]
        split
        · rw [mdel_mem inE_eq R.nd]
          exact ⟨fun h => h.2, fun h => ⟨fun e => hnm (e ▸ h), h⟩⟩
        · rfl
      rw [e2]
      refine ⟨R.len, openF_nodup t R.nd x, fun y hy => R.bd y ((e3 y).1 hy), fun c hc => by rw [e3, R.iff c hc], fun _ c hc hm => ho c hc (hsub c hm), fun c hc h => List.mem_append_left _ (R.new c hc h)⟩
    · have e2 : stF t st x = st.set k x.Kind := by unfold stF; rw [hkn, if_pos ⟨hl, h3⟩]
      have hkm : x.Case ∈ m.map (·.1) := by rw [hk]; exact (R.iff k hk16).2 ⟨hnz, h3⟩
      rw [e2]
      refine ⟨by simp [R.len], openF_nodup t R.nd x, fun y hy => ?_, fun c hc => ?_, fun _ c hc hm => ?_, fun c hc h => ?_⟩
      · rw [e1] at hy
        split at hy
        · exact R.bd y ((mdel_mem inE_eq R.nd).1 hy).2
        · exact R.bd y hy
      · rw [set_getD hkl, e1]
        by_cases hk3 : x.Kind = 3
        · rw [if_pos hk3, mdel_mem inE_eq R.nd, hk, hk3]
          by_cases hck : c = k
          · simp [hck]
          · rw [if_neg hck, R.iff c hc]
            exact ⟨fun h => h.2, fun h => ⟨by omega, h⟩⟩
        · rw [if_neg hk3]
          by_cases hck : c = k
          · rw [if_pos hck, hck, ← hk]
            exact ⟨fun _ => ⟨by omega, hk3⟩, fun _ => hkm⟩
          · rw [if_neg hck, R.iff c hc]
      · rw [set_getD hkl]
        by_cases hck : c = k
        · rw [if_pos hck]; omega
        · rw [if_neg hck]; exact ho c hc (hsub c hm)
      · rw [set_getD hkl] at h
        by_cases hck : c = k
        · rw [hck, hk]; simp
        · rw [if_neg hck] at h
          exact List.mem_append_left _ (R.new c hc h)
theorem RelO.all {d : api_Directory} {t : Int} : ∀ {l : List api_Case} {prev : List Int} {last : Int} {m : List (Int × Bool)} {st : List Int}, RelO t prev last m st → casesB d prev last l = true → ∃ prev' last', RelO t prev' last' (l.foldl (openF t) m) (l.foldl (stF t) st)
  | [], prev, last, m, st, R, _ => ⟨prev, last, R⟩
  | x :: l, prev, last, m, st, R, h => by
    simp only [casesB, Bool.and_eq_true, decide_eq_true_eq] at h
    have h2 := RelO.all (l := l) (R.step h.1.1.1 h.1.2) h.2
    exact h2
theorem ropen_l0 {d : api_Directory} {l : List api_Case} (hl : l.length ≤ 1000) (hc : casesB d [] 0 l = true) (t : Int) : iter (ref41_Open_l0 l t) (0, zerosI 16) = some (l.foldl (stF t) (zerosI 16)) ∧ (l.foldl (stF t) (zerosI 16)).length = 16 := by
  refine iter_foldlS (body := ref41_Open_l0 l t) l (fun i m => ((i : Int), m)) (stF t) (fun m => m) (fun i m => m.length = 16) (fun i hi st h1 => ⟨?_, by rw [stF_len]; exact h1⟩) (fun st _ => ?_) (zerosI 16) (zerosI_length 16)
  · have hr := (casesB_get hc i hi).1
    unfold rightP at hr
    simp only [Bool.and_eq_true, decide_eq_true_eq] at hr
    obtain ⟨⟨h0, h16⟩, _⟩ := hr
    unfold ref41_Open_l0 stF
    simp only
    rw [if_pos (by simp <;> omega), idx_lt hi, w64 (by omega) (by omega)]
    simp only [Option.bind_some]
    have hg : idx st l[i].Case = some (st.getD l[i].Case.toNat 0) := by
      rw [idx_toNat h0 (by omega), List.getD_eq_getElem?_getD, List.getElem?_eq_getElem (by omega)]; rfl
    rw [ck_t ⟨h0, h16⟩, hg, ck_t (by omega)]
    simp only [Option.bind_some]
    by_cases ht : l[i].Time ≤ t
    · rw [if_pos (by simpa using ht)]
      simp only [Option.bind_some]
      by_cases h3 : st.getD l[i].Case.toNat 0 = 3
      · rw [if_neg (by rw [h3]; decide), if_neg (fun h => h.2 h3)]; rfl
      · rw [if_pos (by simpa using h3), if_pos ⟨ht, h3⟩]; rfl
    · rw [if_neg (by simpa using ht)]
      simp only [Option.bind_some, Bool.false_eq_true, if_false]
      rw [if_neg (fun h => ht h.1)]; rfl
  · unfold ref41_Open_l0
    simp only
    rw [if_neg (by simp)]
def opS (st : List Int) : List Int := ((List.range 16).map fun k : Nat => (k : Int)).filter fun c => st.getD c.toNat 0 != 0 && st.getD c.toNat 0 != 3
theorem opS_pw (st : List Int) : (opS st).Pairwise (· < ·) := by
  unfold opS
  refine List.Pairwise.filter _ ?_
  rw [List.pairwise_map]
  exact List.pairwise_lt_range.imp fun {a b} h => by omega
theorem opS_len (st : List Int) : (opS st).length ≤ 16 := by
  unfold opS
  exact Nat.le_trans (List.length_filter_le _ _) (by simp)
theorem opS_mem {st : List Int} {x : Int} : x ∈ opS st ↔ ∃ c : Nat, c < 16 ∧ x = (c : Int) ∧ st.getD c 0 ≠ 0 ∧ st.getD c 0 ≠ 3 := by
  unfold opS
  simp only [List.mem_filter, List.mem_map, List.mem_range, Bool.and_eq_true, bne_iff_ne]
  constructor
  · rintro ⟨⟨c, hc, rfl⟩, h⟩
    exact ⟨c, hc, rfl, by simpa using h⟩
  · rintro ⟨c, hc, rfl, h⟩
    exact ⟨⟨c, hc, rfl⟩, by simpa using h⟩
theorem ropen_l1 {st : List Int} (h : st.length = 16) : iter (ref41_Open_l1 st) (0, []) = some (opS st) := by
  unfold opS
  refine filt_loop (σ := Unit) _ (by simp) (fun i hi out ho => ?_) (fun out => ?_)
  · have hi' : i < 16 := by simpa using hi
    unfold ref41_Open_l1
    simp only
    rw [if_pos (by simp; omega), ck_t (by omega), idx_lt (show i < st.length by omega), w64 (by omega) (by omega)]
    simp only [Option.bind_some]
    rw [ck_t (by simp; omega)]
    have hg : st.getD i 0 = st[i] := by rw [List.getD_eq_getElem?_getD, List.getElem?_eq_getElem (by omega)]; rfl
    simp only [List.getElem_map, List.getElem_range, Int.toNat_natCast, hg]
    split <;> rfl
  · unfold ref41_Open_l1
    simp only
    rw [if_neg (by simp)]
theorem open_eq (d : api_Directory) (l : List api_Case) (t : Int) : ∃ r, notice_Open d l t = some r ∧ ref41_Open d l t = some r ∧ r.length ≤ 100 ∧ r.Pairwise (· < ·) := by
  by_cases hd : dirOk d = true
  case neg =>
    refine ⟨[], ?_, ?_, by simp, .nil⟩
    · unfold notice_Open; rw [ncheck_sp, if_neg hd]; rfl
    · unfold ref41_Open; rw [rcheckN_sp, if_neg hd]; rfl
  by_cases hl : casesOk d l = true
  case neg =>
    refine ⟨[], ?_, ?_, by simp, .nil⟩
    · unfold notice_Open; rw [ncheck_sp, if_pos hd, if_neg hl]; rfl
    · unfold ref41_Open; rw [rcheckN_sp, if_pos hd, if_neg hl]; rfl
  have hc := hl
  unfold casesOk at hc
  simp only [Bool.and_eq_true, decide_eq_true_eq] at hc
  obtain ⟨h1, h2⟩ := ropen_l0 (show l.length ≤ 1000 by omega) hc.2 t
  have R0 : RelO t [] 0 [] (zerosI 16) := by
    have hz : ∀ c : Nat, c < 16 → (zerosI 16).getD c 0 = 0 := fun c hc => by
      have : ∀ c : _root_.Fin 16, (zerosI 16).getD c 0 = 0 := by decide
      exact this ⟨c, hc⟩
    exact ⟨by simp, by simp, by simp, fun c hc => by rw [hz c hc]; simp, fun _ c _ h => (by cases h), fun c hc h => absurd (hz c hc) h⟩
  obtain ⟨_, _, R⟩ := R0.all hc.2
  have e : sortI ((openM l t).map (·.1)) = opS (l.foldl (stF t) (zerosI 16)) := by
    refine sortI_eq R.nd (opS_pw _) fun x => ?_
    rw [opS_mem]
    constructor
    · intro h
      have hb := R.bd x h
      refine ⟨x.toNat, by omega, by omega, ?_⟩
      exact (R.iff x.toNat (by omega)).1 (by rw [show ((x.toNat : Nat) : Int) = x by omega]; exact h)
    · rintro ⟨c, hc, rfl, h⟩
      exact (R.iff c hc).2 h
  refine ⟨_, Open_sp hd hl t, ?_, by rw [e]; have := opS_len (l.foldl (stF t) (zerosI 16)); omega, by rw [e]; exact opS_pw _⟩
  rw [e]
  unfold ref41_Open
  rw [rcheckN_sp, if_pos hd, if_pos hl]
  simp only [Option.bind_some]
  rw [if_neg (by decide), h1]
  simp only [Option.bind_some]
  rw [ck_t h2]
  simp only [Option.bind_some]
  rw [ropen_l1 h2]; rfl
/-! Late -/
theorem lateM_mem {op : List Int} {x : Int} : ∀ (al : List api_Notice) (m : List (Int × Bool)), x ∈ (al.foldl (lateF op) m).map (·.1) ↔ x ∈ m.map (·.1) ∨ (x ∈ op ∧ al.any (fun y => y.Case == x && decide (1 ≤ y.Step)) = true)
  | [], m => by simp
  | y :: al, m => by
    rw [List.foldl_cons, lateM_mem al, List.any_cons]
    have : x ∈ (lateF op m y).map (·.1) ↔ x ∈ m.map (·.1) ∨ (x ∈ op ∧ (y.Case == x && decide (1 ≤ y.Step)) = true) := by
      unfold lateF
      simp only [Bool.and_eq_true, List.contains_iff_mem, decide_eq_true_eq, beq_iff_eq]
      split
      · rename_i h
        rw [mset_mem inE_eq]
        constructor
        · rintro (rfl | h2)
          · exact .inr ⟨h.2, rfl, by omega⟩
          · exact .inl h2
        · rintro (h2 | ⟨_, h3, _⟩)
          · exact .inr h2
          · exact .inl h3.symm
      · rename_i h
        constructor
        · exact .inl
        · rintro (h2 | ⟨h2, h3, h4⟩)
          · exact h2
          · exact absurd ⟨by omega, h3 ▸ h2⟩ h
    rw [this]
    simp only [Bool.or_eq_true]
    constructor
    · rintro ((h | h) | h)
      · exact .inl h
      · exact .inr ⟨h.1, .inl h.2⟩
      · exact .inr ⟨h.1, .inr h.2⟩
    · rintro (h | ⟨h1, h | h⟩)
      · exact .inl (.inl h)
      · exact .inl (.inr ⟨h1, h⟩)
      · exact .inr ⟨h1, h⟩
theorem rlate_l1 {al : List api_Notice} {e : Int} (ha : al.length ≤ 1000000) (x : Int) : iter (ref41_Late_l1 (al, e) x) (false, 0) = some (al.any fun y => y.Case == x && decide (1 ≤ y.Step)) := by
  have h := iter_foldlS (body := ref41_Late_l1 (al, e) x) al (fun i b => (b, (i : Int))) (fun b y => b || (y.Case == x && decide (1 ≤ y.Step))) (fun b => b) (fun _ _ => True) (fun i hi b _ => ⟨by
    unfold ref41_Late_l1
    simp only
    rw [if_pos (by simp <;> omega), idx_lt hi, w64 (by omega) (by omega)]
    rfl, trivial⟩) (fun b _ => by
    unfold ref41_Late_l1
    simp only
    rw [if_neg (by simp)]) false trivial
  rw [show ((false, 0) : Bool × Int) = (false, ((0 : Nat) : Int)) from rfl, h.1]
  have : ∀ (l : List api_Notice) (b : Bool), l.foldl (fun b y => b || (y.Case == x && decide (1 ≤ y.Step))) b = (b || l.any fun y => y.Case == x && decide (1 ≤ y.Step)) := fun l => by
    induction l with
    | nil => intro b; simp
    | cons y l ih => intro b; rw [List.foldl_cons, ih, List.any_cons, Bool.or_assoc]
  rw [this, Bool.false_or]
theorem rlate_l0 {al : List api_Notice} {e : Int} (ha : al.length ≤ 1000000) {op : List Int} (ho : op.length ≤ 1000) : iter (ref41_Late_l0 op (al, e)) (0, []) = some (op.filter fun x => al.any fun y => y.Case == x && decide (1 ≤ y.Step)) := by
  refine filt_loop (σ := Unit) _ (by omega) (fun i hi out hu => ?_) (fun out => ?_)
  · unfold ref41_Late_l0
    simp only
    rw [if_pos (by simp <;> omega), idx_lt hi, w64 (by omega) (by omega)]
    simp only [Option.bind_some]
    rw [rlate_l1 ha]
    simp only [Option.bind_some]
    rw [ck_t (by simp; omega)]
    split <;> rfl
  · unfold ref41_Late_l0
    simp only
    rw [if_neg (by simp)]
theorem all_len (c : api_Calendar) (d : api_Directory) (s : List api_Steward) (l : List api_Case) (u : Int) : (AllP c d s l u).1.length ≤ 400 := by
  by_cases h : casesOk d l = true
  case neg =>
    have : AllP c d s l u = ([], (AllP c d s l u).2) := by unfold AllP; grind
    rw [this]; simp
  have h6 := catP_len (f := casP c s l u) (m := 4) (casP_len c s l u) (opensP l)
  have h7 : (opensP l).length ≤ l.length := by
    unfold opensP
    exact Nat.le_trans (List.length_filter_le _ _) (by simp)
  have h8 : l.length ≤ 100 := by
    simp [casesOk] at h
    exact h.1
  have h9 := sortN_len (catP (casP c s l u) (opensP l)).1
  unfold AllP allP
  repeat' split
  all_goals first | simp; done | simp only [h9]; omega
theorem late_eq (c : api_Calendar) (d : api_Directory) (s : List api_Steward) (l : List api_Case) (u : Int) : ∃ r : List Int × Int, notice_Late c d s l u = some r ∧ ref41_Late c d s l u = some r ∧ r.1.length ≤ 100 := by
  obtain ⟨op, o1, o2, o3, o4⟩ := open_eq d l u
  have hl := all_len c d s l u
  unfold notice_Late ref41_Late
  rw [All_sp, rAll_sp]
  generalize AllP c d s l u = r at *
  obtain ⟨al, e⟩ := r
  simp only [Option.bind_some] at hl ⊢
  by_cases he : e = 0
  case neg => exact ⟨([], e), by rw [if_pos (by simpa using he)], by rw [if_pos (by simpa using he)], by simp⟩
  subst he
  rw [if_neg (by decide), if_neg (by decide), o1, o2]
  simp only [Option.bind_some]
  obtain ⟨g1, g2, g3, g4⟩ := late_l0 (al := al) (e := 0) (by omega) (op := op) (by omega)
  rw [g1, rlate_l0 (by omega) (by omega)]
  simp only [Option.bind_some]
  rw [sorted_sp (by omega)]
  have e1 : sortI ((lateM al op).map (·.1)) = op.filter fun x => al.any fun y => y.Case == x && decide (1 ≤ y.Step) := by
    refine sortI_eq g4 (o4.filter _) fun x => ?_
    unfold lateM
    rw [lateM_mem, List.mem_filter]
    simp
  rw [e1]
  exact ⟨_, rfl, rfl, Nat.le_trans (List.length_filter_le _ _) o3⟩
/-! the law -/
theorem exact_j5 (y3 : api_Calendar × make_Tape) (d : api_Directory) (s : List api_Steward) (l : List api_Case) (k u : Int) : law41_NoticeExact_j5 y3 d s l k u = some (.go (IntKind.i64.wrap (k + 1))) := by
  obtain ⟨op, o1, o2, o3, o4⟩ := open_eq d l u
  obtain ⟨la, l1, l2, l3⟩ := late_eq y3.1 d s l u
  have hl := all_len y3.1 d s l u
  unfold law41_NoticeExact_j5
  rw [All_sp, rAll_sp, l1, l2, o1, o2]
  simp only [Option.bind_some]
  rw [same_sp (by omega), ints_sp (by omega), ints_sp (by omega)]
  simp
theorem exact_j4 {y3 : api_Calendar × make_Tape} {d : api_Directory} {s : List api_Steward} {l : List api_Case} {s14 : Int × (List Int) × Int} {v : (List Int) × Int × Int} (hv : TapeOk ⟨v.1, v.2.1⟩) : law41_NoticeExact_j4 y3 d s l s14 v = some (.go (IntKind.i64.wrap (s14.1 + 1), (tnextT ⟨v.1, v.2.1⟩).L, (tnextT ⟨v.1, v.2.1⟩).at_)) := by
  have hl := all_len ⟨v.2.2, y3.1.From, y3.1.To, 0, y3.1.Holidays⟩ d s l 20
  unfold law41_NoticeExact_j4
  rw [next_spT hv (by omega)]
  simp only [Option.bind_some]
  rw [All_sp, rAll_sp]
  simp only [Option.bind_some]
  rw [same_sp (by omega)]
  simp
theorem exact_l3 {a b c : Int} (y3 : api_Calendar × make_Tape) (d : api_Directory) (s : List api_Steward) (l : List api_Case) : iter (law41_NoticeExact_l3 [a, b, c] y3 d s l) 0 = some (.inl ()) := by
  refine (iter_allE 3 (fun _ => true) false (fun i hi => ?_) ?_).trans (congrArg some (if_pos fun _ _ => rfl))
  · rw [if_pos rfl]
    unfold law41_NoticeExact_l3
    rw [if_pos (by simp; omega), ck_t (by omega), idx_lt (by simpa using hi)]
    simp only [Option.bind_some, exact_j5]
    rw [w64 (by omega) (by omega)]
    split <;> rfl
  · unfold law41_NoticeExact_l3
    rw [if_neg (by decide)]
theorem exact_l2 {cs bent a3 : List api_Case} {y4 : api_Directory × make_Tape} {a1 : api_Directory} {y5 : (List api_Steward) × make_Tape} {a2 : List api_Steward} {a5 : Int} {y3 : api_Calendar × make_Tape} {i : Nat} (hi : i < 3) {m : make_Tape} (hm : TapeOk m) :
    ∃ m' : make_Tape, TapeOk m' ∧ law41_NoticeExact_l2 [cs, bent, a3] y4 a1 y5 a2 a5 y3 ((i : Int), m.L, m.at_) = some (.go (((i + 1 : Nat) : Int), m'.L, m'.at_)) := by
  have t2 : ∀ q : Int, ∃ m' : make_Tape, TapeOk m' ∧ law41_NoticeExact_j4 y3 ([y4.1, y4.1, a1][i]'(by simpa using hi)) ([y5.1, y5.1, a2][i]'(by simpa using hi)) ([cs, bent, a3][i]'(by simpa using hi)) ((i : Int), m.L, m.at_) ((tnextT (tnextT m)).L, (tnextT (tnextT m)).at_, q) = some (.go (((i + 1 : Nat) : Int), m'.L, m'.at_)) := fun q => by
    refine ⟨_, ?_, by rw [exact_j4 (tnextT_ok (tnextT_ok hm)), w64 (by omega) (by omega)]; rfl⟩
    exact tnextT_ok (tnextT_ok (tnextT_ok hm))
  unfold law41_NoticeExact_l2
  simp only
  rw [if_pos (by simp; omega), ck_t (by omega), idx_lt (show i < [cs, bent, a3].length by simpa using hi)]
  simp only [Option.bind_some]
  rw [idx_lt (show i < [y4.1, y4.1, a1].length by simpa using hi), idx_lt (show i < [y5.1, y5.1, a2].length by simpa using hi)]
  simp only [Option.bind_some]
  rw [ncheck_sp, rcheckN_sp]
  simp only [Option.bind_some, bne_self_eq_false, Bool.false_eq_true, if_false]
  rw [next_spT (m := ⟨m.L, m.at_⟩) hm (by omega)]
  simp only [Option.bind_some]
  rw [exact_l3]
  simp only [Option.bind_some]
  rw [next_spT (tnextT_ok hm) (by omega)]
  simp only [Option.bind_some]
  split
  · exact t2 _
  · exact t2 _
theorem exact_l1 (a b : Int) : iter (law41_NoticeExact_l1 [a, b, 1]) 0 = some (.inl ()) := by
  refine (iter_allE 3 (fun _ => true) false (fun i hi => ?_) ?_).trans (congrArg some (if_pos fun _ _ => rfl))
  · rw [if_pos rfl]
    unfold law41_NoticeExact_l1
    rw [if_pos (by simp; omega), ck_t (by omega), idx_lt (by simpa using hi)]
    simp only [Option.bind_some, dl_sp, rdl_sp]
    rw [w64 (by omega) (by omega), if_neg (by simp)]; rfl
  · unfold law41_NoticeExact_l1
    rw [if_neg (by decide)]
theorem exact_j0 {a4 : Int} {y6 : (List api_Case) × make_Tape} {a3 : List api_Case} {y4 : api_Directory × make_Tape} {a1 : api_Directory} {y5 : (List api_Steward) × make_Tape} {a2 : List api_Steward} {a5 : Int} {y3 : api_Calendar × make_Tape} {v7 : (List Int) × Int × (List api_Case)} (hv : TapeOk ⟨v7.1, v7.2.1⟩) : law41_NoticeExact_j0 a4 y6 a3 y4 a1 y5 a2 a5 y3 v7 = some true := by
  unfold law41_NoticeExact_j0
  rw [next_spT hv (by omega)]
  simp only [Option.bind_some]
  rw [exact_l1]
  simp only [Option.bind_some]
  obtain ⟨m1, t1, e1⟩ := exact_l2 (cs := y6.1) (bent := v7.2.2) (a3 := a3) (y4 := y4) (a1 := a1) (y5 := y5) (a2 := a2) (a5 := a5) (y3 := y3) (i := 0) (by omega) (tnextT_ok hv)
  obtain ⟨m2, t2, e2⟩ := exact_l2 (cs := y6.1) (bent := v7.2.2) (a3 := a3) (y4 := y4) (a1 := a1) (y5 := y5) (a2 := a2) (a5 := a5) (y3 := y3) (i := 1) (by omega) t1
  obtain ⟨m3, t3, e3⟩ := exact_l2 (cs := y6.1) (bent := v7.2.2) (a3 := a3) (y4 := y4) (a1 := a1) (y5 := y5) (a2 := a2) (a5 := a5) (y3 := y3) (i := 2) (by omega) t2
  rw [show ((0 : Int), (tnextT ⟨v7.1, v7.2.1⟩).L, (tnextT ⟨v7.1, v7.2.1⟩).at_) = (((0 : Nat) : Int), (tnextT ⟨v7.1, v7.2.1⟩).L, (tnextT ⟨v7.1, v7.2.1⟩).at_) from rfl, iter_go e1, iter_go e2, iter_go e3]
  have e4 : law41_NoticeExact_l2 [y6.1, v7.2.2, a3] y4 a1 y5 a2 a5 y3 (((2 + 1 : Nat) : Int), m3.L, m3.at_) = some (.out (.inl ())) := by
    unfold law41_NoticeExact_l2
    rw [if_neg (by simp)]
  rw [iter_out e4]
  simp only [Option.bind_some, awake41]
theorem noticeExact_plain (a0 : List Int) (a1 : api_Directory) (a2 : List api_Steward) (a3 : List api_Case) (a4 a5 : Int) : law41_NoticeExact a0 a1 a2 a3 a4 a5 = some true := by
  unfold law41_NoticeExact
  simp only [Option.bind_some]
  split
  · rw [awake41]; rfl
  rename_i hb
  have hl : a0.length ≤ 400 := by
    simp only [Bool.or_eq_true, decide_eq_true_eq] at hb
    omega
  obtain ⟨c, d, s, cs, m1, m2, m3, m4, e1, e2, e3, e4, t4, M, h7, _⟩ := made_all (m := ⟨a0, 0⟩) ⟨Int.le_refl _, by simp only; omega⟩
  rw [e1]; simp only [Option.bind_some]
  rw [e2]; simp only [Option.bind_some]
  rw [e3]; simp only [Option.bind_some]
  rw [e4]; simp only [Option.bind_some]
  rw [ck_t (by omega)]; simp only [Option.bind_some]
  by_cases h0 : 0 < cs.length
  case neg =>
    rw [if_neg (by simpa using h0)]
    exact exact_j0 t4
  rw [if_pos (by simpa using h0), next_spT t4 (by omega)]
  simp only [Option.bind_some]
  have v1 := tnextV_bd m4 (n := (cs.length : Int)) (by omega)
  generalize tnextV m4 (cs.length : Int) = u at *
  have hu : idx cs u = some cs[u.toNat] := idx_toNat v1.1 (by omega)
  rw [ck_t (by omega)]
  simp only [Option.bind_some]
  have t5 := tnextT_ok t4
  generalize tnextT m4 = m5 at *
  rw [next_spT t5 (by omega)]
  simp only [Option.bind_some]
  have t6 := tnextT_ok t5
  generalize tnextT m5 = m6 at *
  rw [between_spT t6 (by omega) (by omega) (by omega), between_spT t6 (by omega) (by omega) (by omega), between_spT t6 (by omega) (by omega) (by omega), next_spT t6 (by omega), next_spT t6 (by omega), hu]
  simp only [Option.bind_some]
  have t7 := tnextT_ok t6
  repeat' split
  all_goals exact exact_j0 t7
end Go.Vl
