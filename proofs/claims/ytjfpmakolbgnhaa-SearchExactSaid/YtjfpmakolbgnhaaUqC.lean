/- The law SearchExact: shortest lists are short, and both texts of the search agree. Conditions: none. -/
import Derived.Test.YtjfpmakolbgnhaaUqB
set_option linter.unusedSimpArgs false
set_option linter.unusedVariables false
namespace Go.Vl
open Go

/-! How long a shortest list can be -/
def rkV (v : Int) : Nat := if v = 1 then 0 else if v = 3 then 1 else 2
def rho (t : api_Rotation) : Nat := (if t.Known = 3 then 1 else 0) + rkV t.Valid + rkV (unitAt t 0).Stored + rkV (unitAt t 1).Stored
def sg (u : api_Unit) : Nat := if u.Up = false then 0 else if u.Used = u.Stored then 1 else 2
def codeS (t : api_Rotation) : Nat := rho t * 9 + sg (unitAt t 0) * 3 + sg (unitAt t 1)
theorem rkV_le (v : Int) : rkV v ≤ 2 := by unfold rkV; split <;> (try split) <;> omega
theorem sg_le (u : api_Unit) : sg u ≤ 2 := by unfold sg; split <;> (try split) <;> omega
theorem code_lt (t : api_Rotation) : codeS t < 72 := by
  have h1 := rkV_le t.Valid
  have h2 := rkV_le (unitAt t 0).Stored
  have h3 := rkV_le (unitAt t 1).Stored
  have h4 := sg_le (unitAt t 0)
  have h5 := sg_le (unitAt t 1)
  unfold codeS rho
  split <;> omega
/-- a unit goes down or up, and nothing else -/
def updown (t t1 : api_Rotation) : Prop := ∃ i, i < t.Units.length ∧ ∃ u : api_Unit, (u = ⟨false, (unitAt t i).Stored, 0⟩ ∨ u = ⟨true, (unitAt t i).Stored, (unitAt t i).Stored⟩) ∧ t1 = ⟨t.Known, t.Valid, t.Units.set i u⟩
theorem rho_step {f : api_Fleet} (h2 : f.Consumers.length ≤ 2) {t : api_Rotation} {x : api_Step} (hr : RightOk f t) (hx : safeP f t x = true) : rho t < rho (applyP f t x).1 ∨ updown t (applyP f t x).1 := by
  obtain ⟨hr', hk, hok, e⟩ := apply_right hr (safe_possible hx)
  rw [e]
  have hl := hr.2.2.2.1
  obtain ⟨k1, k2, k3, k4, k5⟩ := hk
  have hi : x.Unit.toNat < t.Units.length := by omega
  have hu : t.Units.getD x.Unit.toNat default = unitAt t x.Unit.toNat := rfl
  have hsame : ∀ (k v : Int) (i : Nat), unitAt (⟨k, v, t.Units⟩ : api_Rotation) i = unitAt t i := fun _ _ _ => rfl
  unfold okStep at hok
  unfold nextS
  by_cases c1 : x.Kind = 1
  · rw [if_pos c1] at hok ⊢
    left
    simp only [beq_iff_eq] at hok
    unfold rho
    simp only [hsame, hok]
    simp <;> omega
  rw [if_neg c1] at hok ⊢
  by_cases c2 : x.Kind = 2
  · rw [if_pos c2] at hok ⊢
    left
    simp only [Bool.and_eq_true, beq_iff_eq] at hok
    unfold rho
    simp only [hsame, hok.2.1]
    simp only [rkV]; simp <;> omega
  rw [if_neg c2] at hok ⊢
  by_cases c3 : x.Kind = 3
  · rw [if_pos c3] at hok ⊢
    left
    simp only [Bool.and_eq_true, beq_iff_eq] at hok
    unfold rho
    simp only [hsame, hok.2]
    simp only [rkV]; simp <;> omega
  rw [if_neg c3] at hok ⊢
  by_cases c8 : x.Kind = 8
  · rw [if_pos c8] at hok ⊢
    left
    simp only [beq_iff_eq] at hok
    unfold rho
    simp only [hsame, hok]
    simp only [rkV]; simp <;> omega
  rw [if_neg c8] at hok ⊢
  rw [hu] at hok ⊢
  have hf : ∀ (c : api_Consumer) (u : api_Unit), (fixU c u).Stored = u.Stored := fun c u => by unfold fixU; cases c.Live && u.Up <;> rfl
  have grow : ∀ u : api_Unit, rkV (unitAt t x.Unit.toNat).Stored < rkV u.Stored → rho t < rho (⟨t.Known, t.Valid, t.Units.set x.Unit.toNat u⟩ : api_Rotation) := fun u hlt => by
    unfold rho
    rw [unitAt_set hi, unitAt_set hi]
    have : x.Unit.toNat = 0 ∨ x.Unit.toNat = 1 := by omega
    rcases this with q | q <;> rw [q] at hlt ⊢ <;> simp <;> omega
  have k4567 : x.Kind = 4 ∨ x.Kind = 5 ∨ x.Kind = 6 ∨ x.Kind = 7 := by omega
  rcases k4567 with q | q | q | q
  · left
    rw [q, us4] at hok ⊢
    simp only [Bool.and_eq_true, beq_iff_eq] at hok
    refine grow _ ?_
    simp only [hf, hok.2]
    cases (f.Consumers.getD x.Unit.toNat default).Dual <;> decide
  · right
    rw [q, us5]
    exact ⟨_, hi, _, .inl rfl, rfl⟩
  · right
    rw [q, us6]
    exact ⟨_, hi, _, .inr rfl, rfl⟩
  · left
    rw [q, us7] at hok ⊢
    simp only [beq_iff_eq] at hok
    refine grow _ ?_
    simp only [hf, hok]
    decide
theorem updown_rho {t t1 : api_Rotation} (h : updown t t1) : rho t1 = rho t := by
  obtain ⟨i, hi, u, hu, rfl⟩ := h
  have hs : u.Stored = (unitAt t i).Stored := by rcases hu with rfl | rfl <;> rfl
  unfold rho
  rw [unitAt_set hi, unitAt_set hi]
  by_cases h0 : 0 = i
  · subst h0; simp [hs]
  · by_cases h1 : 1 = i
    · subst h1; simp [hs]
    · rw [if_neg h0, if_neg h1]
theorem rho_run {f : api_Fleet} (h2 : f.Consumers.length ≤ 2) : ∀ (l : List api_Step) (t : api_Rotation), RightOk f t → safeRun f t l → rho t ≤ rho (endS f t l) ∧
    (rho (endS f t l) = rho t → (endS f t l).Known = t.Known ∧ (endS f t l).Valid = t.Valid ∧ ∀ k, (unitAt (endS f t l) k).Stored = (unitAt t k).Stored ∧ (sg (unitAt (endS f t l) k) = 2 → unitAt (endS f t l) k = unitAt t k)) := fun l => by
  induction l with
  | nil => intro t _ _; exact ⟨Nat.le_refl _, fun _ => ⟨rfl, rfl, fun k => ⟨rfl, fun _ => rfl⟩⟩⟩
  | cons x l ih =>
    intro t hr hs
    have hr1 := (apply_right hr (safe_possible hs.1)).1
    obtain ⟨i1, i2⟩ := ih _ hr1 hs.2
    have hend : endS f t (x :: l) = endS f (applyP f t x).1 l := rfl
    rw [hend]
    rcases rho_step h2 hr hs.1 with h | h
    · exact ⟨by omega, fun e => by omega⟩
    · have he := updown_rho h
      refine ⟨by omega, fun e => ?_⟩
      obtain ⟨j1, j2, j3⟩ := i2 (by omega)
      obtain ⟨i, hi, u, hu, e1⟩ := h
      rw [j1, j2]
      have hset : ∀ k, unitAt (applyP f t x).1 k = if k = i then u else unitAt t k := fun k => by rw [e1, unitAt_set hi]
      refine ⟨by rw [e1], by rw [e1], fun k => ?_⟩
      obtain ⟨a, b⟩ := j3 k
      by_cases hk : k = i
      · subst hk
        rw [hset, if_pos rfl] at a b
        refine ⟨by rw [a]; rcases hu with rfl | rfl <;> rfl, fun hsg => ?_⟩
        have := b hsg
        rw [this] at hsg
        rcases hu with rfl | rfl <;> simp [sg] at hsg
      · rw [hset, if_neg hk] at a b
        exact ⟨a, b⟩
theorem code_same {f : api_Fleet} (h2 : f.Consumers.length ≤ 2) {l : List api_Step} {t : api_Rotation} (hr : RightOk f t) (hs : safeRun f t l) (h : codeS t = codeS (endS f t l)) : endS f t l = t := by
  obtain ⟨_, b⟩ := rho_run h2 l t hr hs
  have hre := (safeRun_run l t hr hs).2.1
  have s1 := sg_le (unitAt t 0)
  have s2 := sg_le (unitAt t 1)
  have s3 := sg_le (unitAt (endS f t l) 0)
  have s4 := sg_le (unitAt (endS f t l) 1)
  unfold codeS at h
  have e1 : rho (endS f t l) = rho t := by omega
  have e2 : sg (unitAt (endS f t l) 0) = sg (unitAt t 0) := by omega
  have e3 : sg (unitAt (endS f t l) 1) = sg (unitAt t 1) := by omega
  obtain ⟨b1, b2, b3⟩ := b e1
  generalize hE : endS f t l = E at *
  have hlen : E.Units.length = t.Units.length := by rw [hre.2.2.2.1, hr.2.2.2.1]
  have hun : ∀ k, k < t.Units.length → unitAt E k = unitAt t k := fun k hk => by
    have hk2 : k = 0 ∨ k = 1 := by have := hr.2.2.2.1; omega
    have es : sg (unitAt E k) = sg (unitAt t k) := by rcases hk2 with rfl | rfl; exact e2; exact e3
    obtain ⟨c1, c2⟩ := b3 k
    by_cases h2' : sg (unitAt E k) = 2
    · exact c2 h2'
    · have u1 := (unitP_iff.1 (hre.unit (i := k) (by omega) (by have := hr.2.2.2.1; omega))).2
      have u2 := (unitP_iff.1 (hr.unit (i := k) hk (by have := hr.2.2.2.1; omega))).2
      rw [unitAt_get (by omega)] at u1
      rw [unitAt_get hk] at u2
      unfold sg at es h2'
      generalize unitAt E k = p at *
      generalize unitAt t k = q at *
      obtain ⟨p1, p2, p3⟩ := p
      obtain ⟨q1, q2, q3⟩ := q
      simp only at c1 u1 u2 es h2'
      subst c1
      cases p1 <;> cases q1 <;> simp at es h2' u1 u2 ⊢
      · omega
      · split at es <;> simp_all
      · split at es <;> simp_all
      · rw [if_pos h2'] at es
        have : q3 = p2 := by
          apply Decidable.byContradiction
          intro hn; rw [if_neg hn] at es; omega
        rw [h2', this]
  have hU : E.Units = t.Units := List.ext_getElem hlen fun k h1 h2 => by rw [unitAt_get h1, unitAt_get h2]; exact hun k h2
  obtain ⟨x1, x2, x3⟩ := E
  obtain ⟨y1, y2, y3⟩ := t
  simp only at b1 b2 hU
  rw [b1, b2, hU]
theorem safeRun_app {f : api_Fleet} : ∀ (l m : List api_Step) (s : api_Rotation), safeRun f s (l ++ m) ↔ safeRun f s l ∧ safeRun f (endS f s l) m := fun l => by
  induction l with
  | nil => intro m s; exact ⟨fun h => ⟨trivial, h⟩, fun h => h.2⟩
  | cons x l ih =>
    intro m s
    show (safeP f s x = true ∧ safeRun f (applyP f s x).1 (l ++ m)) ↔ _
    rw [ih]
    exact ⟨fun ⟨a, b, c⟩ => ⟨⟨a, b⟩, c⟩, fun ⟨⟨a, b⟩, c⟩ => ⟨a, b, c⟩⟩
theorem endS_app {f : api_Fleet} (l m : List api_Step) (s : api_Rotation) : endS f s (l ++ m) = endS f (endS f s l) m := by unfold endS; rw [List.foldl_append]
theorem short_le {f : api_Fleet} (h2 : f.Consumers.length ≤ 2) {s : api_Rotation} (hr : RightOk f s) {l : List api_Step} {d : Int} (hd : found f s d) (hl : (l.length : Int) = d) (hs : safeRun f s l) (he : endedP f (endS f s l) = true) : l.length ≤ 71 := by
  have hmin : ∀ (k : Nat) (t : api_Rotation), reach f s k t → endedP f t = true → l.length ≤ k := fun k t a b => by
    rcases hd with ⟨_, g⟩ | ⟨_, _, g⟩
    · rw [g k t a] at b; cases b
    · have := g k t a b; omega
  have hn : ((List.range (l.length + 1)).map fun i => (codeS (endS f s (l.take i)) : Int)).Nodup := by
    refine List.pairwise_iff_getElem.2 fun i j hi hj hij => ?_
    simp only [List.length_map, List.length_range] at hi hj
    simp only [List.getElem_map, List.getElem_range]
    intro e
    have e' : codeS (endS f s (l.take i)) = codeS (endS f s (l.take j)) := by omega
    have hij' : l.take j = l.take i ++ (l.drop i).take (j - i) := by
      rw [show j = i + (j - i) by omega, List.take_add]; simp
    have hsplit := hs
    rw [← List.take_append_drop j l, safeRun_app] at hsplit
    obtain ⟨a1, a2⟩ := hsplit
    rw [hij', safeRun_app] at a1
    obtain ⟨b1, b2⟩ := a1
    have hri := (safeRun_run _ s hr b1).2.1
    have heq : endS f s (l.take j) = endS f (endS f s (l.take i)) ((l.drop i).take (j - i)) := by rw [hij', endS_app]
    rw [heq] at e'
    have := code_same h2 hri b2 e'
    rw [heq, this] at a2
    have hr2 : safeRun f s (l.take i ++ l.drop j) := (safeRun_app _ _ _).2 ⟨b1, a2⟩
    have hend : endS f s (l.take i ++ l.drop j) = endS f s l := by
      rw [endS_app]
      have h1 : endS f s l = endS f (endS f s (l.take j)) (l.drop j) := by rw [← endS_app, List.take_append_drop]
      rw [h1, heq, this]
    have := hmin _ _ ⟨_, hr2, rfl, rfl⟩ (by rw [hend]; exact he)
    rw [List.length_append, List.length_take, List.length_drop] at this
    omega
  have := nodup_le 72 _ hn (fun x hx => by
    obtain ⟨i, _, rfl⟩ := List.mem_map.1 hx
    have := code_lt (endS f s (l.take i))
    omega)
  rw [List.length_map, List.length_range] at this
  omega
/-! Both texts -/
theorem rcount_ex {f : api_Fleet} {s : api_Rotation} (h3 : f.Consumers.length ≤ 3) (hr : RightOk f s) {E : List search_found} (h : QI f s E E.length 0) : ref34_Count f s = some ((E.length : Int), 0) := by
  obtain ⟨A, d, h1, _, g1, g2, g3⟩ := search_ex h3 hr
  have hlen : A.length = E.length := by
    apply Nat.le_antisymm
    · have := q_len (f := f) (g := f) (B := E.map (·.Rotation)) g1 (fun t ht => by
        obtain ⟨k, hk⟩ := g2 t ht
        obtain ⟨x, hx, e, _⟩ := q_all hr h k t hk
        rw [← e]; exact List.mem_map_of_mem hx)
      simpa using this
    · have := q_len (f := f) (g := f) (A := E.map (·.Rotation)) (B := A) h.seen (fun t ht => by
        obtain ⟨x, hx, rfl⟩ := List.mem_map.1 ht
        obtain ⟨j, hj⟩ := List.getElem?_of_mem hx
        exact g3 _ _ (q_reach hr h (j + 1) j x (by omega) hj))
      simpa using this
  unfold ref34_Count
  rw [rcheck_sp, check0 h3 hr]
  simp only [Option.bind_some]
  rw [if_neg (by simp), h1, hlen]
  rfl
theorem leads_sp {f : api_Fleet} {s : api_Rotation} (hr : RightOk f s) {l : List api_Step} (hl : l.length ≤ 120) (hs : safeRun f s l) : ref34_Leads f s l = some (endedP f (endS f s l)) := by
  unfold ref34_Leads
  have h0 := safeRun_fault l 0 s hs
  have hfp := faultP_0 l 0 s h0
  rw [rfault_sp hr hl, rrun_sp hr hl]
  simp only [Option.bind_some]
  rw [if_neg (by rw [hfp]; simp)]
  by_cases hn : 0 < (runP f s l).1.length
  · obtain ⟨k1, k2⟩ := run_last hr hs (by omega) hn
    rw [if_pos (by simpa using hn), k1, k2]
    simp only [Option.bind_some, ref34_Leads_j0, rended_sp]
  · rw [if_neg (by simpa using hn)]
    simp only [ref34_Leads_j0, rended_sp, Option.bind_some, run_nil hr hs hn]
/-- what the law asks of one fleet and state -/
theorem exact_one {f : api_Fleet} {s : api_Rotation} (h : f.Consumers.length ≤ 2 ∨ 4 ≤ f.Consumers.length) : ∃ (n : Int × Int) (q : Int × Bool × Int) (r : List api_Step × Bool × Int), search_Count f s = some n ∧ ref34_Count f s = some n ∧ search_Distance f s = some q ∧ ref34_Distance f s = some q ∧ search_Shortest f s = some r ∧ r.2.1 = q.2.1 ∧ r.2.2 = q.2.2 ∧
    (r.2.1 = true → (r.1.length : Int) = q.1 ∧ ref34_Leads f s r.1 = some true) ∧ (r.2.1 = false → r.1 = []) := by
  by_cases hc : RightOk f s ∧ f.Consumers.length ≤ 2
  · obtain ⟨hr, h2⟩ := hc
    have h3 : f.Consumers.length ≤ 3 := by omega
    obtain ⟨E, c1, c2⟩ := count_ex h3 hr
    obtain ⟨d, d1, d2⟩ := dist_ex h3 hr
    obtain ⟨d', e1, e2⟩ := distance_ex h3 hr
    obtain ⟨l, d'', s1, s2, s3, s4⟩ := short_ex h3 hr
    obtain rfl : d' = d := found_far e2 d2
    obtain rfl : d'' = d' := found_far s2 d2
    refine ⟨_, _, _, c1, rcount_ex h3 hr c2, d1, e1, s1, rfl, rfl, fun hd => ?_, fun hd => ?_⟩
    · simp only [decide_eq_true_eq] at hd
      obtain ⟨g1, g2, g3⟩ := s4 hd
      have := short_le h2 hr d2 g1 g2 g3
      simp only
      rw [if_neg (by omega)]
      exact ⟨g1, by rw [leads_sp hr (by omega) g2, g3]⟩
    · simp only [decide_eq_false_iff_not] at hd
      exact s3 (by omega)
  · have he : (if ¬ RightOk f s then (36 : Int) else if 3 < (f.Consumers.length : Int) then 3 else 0) ≠ 0 := by
      by_cases hr : RightOk f s
      · rw [if_neg (not_not_intro hr), if_pos (by
          have : ¬ f.Consumers.length ≤ 2 := fun q => hc ⟨hr, q⟩
          omega)]
        decide
      · rw [if_pos hr]; decide
    generalize hE : (if ¬ RightOk f s then (36 : Int) else if 3 < (f.Consumers.length : Int) then 3 else 0) = e at he
    have hse : search_end f s = some ([], -1, e) := by
      unfold search_end
      rw [scheck_sp, hE]
      simp only [Option.bind_some]
      rw [if_pos (by simpa using he)]
    refine ⟨(0, e), (0, false, e), ([], false, e), ?_, ?_, ?_, ?_, ?_, rfl, rfl, fun h => (by cases h), fun _ => rfl⟩
    · unfold search_Count
      rw [scheck_sp, hE]
      simp only [Option.bind_some]
      rw [if_pos (by simpa using he)]
    · unfold ref34_Count
      rw [rcheck_sp, hE]
      simp only [Option.bind_some]
      rw [if_pos (by simpa using he)]
    · unfold search_Distance
      rw [hse]
      rfl
    · unfold ref34_Distance
      rw [rcheck_sp, hE]
      simp only [Option.bind_some]
      rw [if_pos (by simpa using he)]
    · unfold search_Shortest
      rw [hse]
      rfl
theorem exact_loop {l6 : List api_Fleet} (h6 : l6.length = 3) (hc : ∀ f ∈ l6, f.Consumers.length ≤ 2 ∨ 4 ≤ f.Consumers.length) {y3 : api_Fleet × make_Tape} (hf : FleetOk y3.1) {a2 : api_Rotation} {y5 : api_Rotation × Int} : ∀ (m i : Nat) (t : make_Tape), i + m = 3 → TOk t → iter (law34_SearchExact_l0 l6 y3 a2 y5) ((i : Int), t.L, t.at_) = some (.inl ()) := fun m => by
  induction m with
  | zero =>
    intro i t h _
    have : i = 3 := by omega
    subst this
    refine iter_out ?_
    unfold law34_SearchExact_l0
    rw [if_neg (by simp)]
  | succ m ih =>
    intro i t h ht
    have hi : i < 3 := by omega
    obtain ⟨s, t', e1, _, t1⟩ := make_State_ex ht hf
    have hgo : law34_SearchExact_l0 l6 y3 a2 y5 ((i : Int), t.L, t.at_) = some (.go (((i + 1 : Nat) : Int), t'.L, t'.at_)) := by
      unfold law34_SearchExact_l0
      simp only
      rw [if_pos (by simp; omega), ck_t (by omega), idx_lt (by omega)]
      simp only [Option.bind_some]
      rw [show (⟨t.L, t.at_⟩ : make_Tape) = t from rfl, e1]
      simp only [Option.bind_some]
      rw [idx_lt (by simp; omega)]
      simp only [Option.bind_some]
      generalize ([s, a2, y5.1] : List api_Rotation)[i]'(by simp; omega) = z
      obtain ⟨n, q, r, g1, g2, g3, g4, g5, g6, g7, g8, g9⟩ := exact_one (s := z) (hc _ (List.getElem_mem (show i < l6.length by omega)))
      rw [g1, g2]
      simp only [Option.bind_some]
      rw [if_neg (by simp), g3, g4]
      simp only [Option.bind_some]
      rw [if_neg (by simp), g5]
      simp only [Option.bind_some]
      rw [if_neg (by rw [g6]; simp), if_neg (by rw [g7]; simp), w64 (by omega) (by omega)]
      cases hb : r.2.1 with
      | true =>
        obtain ⟨k1, k2⟩ := g8 hb
        rw [if_pos rfl, if_neg (by rw [k1]; simp), k2]
        rfl
      | false =>
        rw [if_neg (by simp), if_pos (by rfl), g9 hb]
        rfl
    rw [iter_go hgo]
    exact ih (i + 1) t' (by omega) t1
theorem SearchExact_law (a : List Int) (a1 : api_Fleet) (a2 : api_Rotation) : law34_SearchExact a a1 a2 = some true := by
  unfold law34_SearchExact
  simp only [Option.bind_some]
  split
  · rw [awake34]; rfl
  · rename_i h
    have hb : ¬ 200 < (a.length : Int) ∧ ((a1.Consumers.length : Int) ≤ 2 ∨ 4 ≤ (a1.Consumers.length : Int)) := by
      by_cases h2 : 2 < (a1.Consumers.length : Int) <;> simp [h2] at h <;> omega
    obtain ⟨hl, hn⟩ := hb
    obtain ⟨f, m1, e1, hf, hle, _, t1⟩ := make_Fleet_ex (tape0 (a := a) (by omega)) (most := 2) (by omega) (by omega)
    rw [e1]
    simp only [Option.bind_some]
    rw [ck_t (by omega)]
    simp only [Option.bind_some, rstart_sp]
    have := exact_loop (l6 := [f, a1, ⟨1, List.replicate 4 ⟨0, false, false⟩⟩]) rfl (fun g hg => by
      simp only [List.mem_cons, List.not_mem_nil, or_false] at hg
      rcases hg with rfl | rfl | rfl
      · left; omega
      · omega
      · right; simp) (y3 := (f, m1)) hf (a2 := a2) (y5 := if FleetOk ⟨1, List.replicate 4 ⟨0, false, false⟩⟩ then (startR ⟨1, List.replicate 4 ⟨0, false, false⟩⟩, 0) else (zeroR, 36)) 3 0 m1 rfl t1
    rw [show ((0 : Int), m1.L, m1.at_) = (((0 : Nat) : Int), m1.L, m1.at_) from rfl, this]
    simp only [Option.bind_some]
    rw [awake34]
    rfl
end Go.Vl
