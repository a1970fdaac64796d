/- Plain laws of the planner: mending, preparing and settling pools; its steps are safe, few, and lead to the end; what plans and fallbacks answer. Conditions: none. -/
import Derived.Test.YtjfpmakolbgnhaaUxA
set_option linter.unusedSimpArgs false
set_option linter.unusedVariables false
namespace Go.Vl
open Go

def uE : api_Unit := ⟨true, 2, 2⟩
/-- what a step does to a unit, if it can be done -/
def uS (c : api_Consumer) (u : api_Unit) (k : Int) : api_Unit := if (unitStep c u k true).1 = true then (unitStep c u k true).2 else u
/-- what is left to do -/
def phi (u : api_Unit) : Nat := (if u.Stored = 1 then 2 else if u.Stored = 3 then 1 else 0) + (if u.Up = true then (if u.Used = 2 then 0 else 2) else 1)
def kapV (v : Int) : Nat := if v = 1 then 2 else if v = 3 then 1 else 0
def kap (s : api_Rotation) : Nat := (if s.Known = 1 then 1 else 0) + kapV s.Valid
def Phi (s : api_Rotation) : Nat := kap s + (s.Units.map phi).sum
theorem phi_le (u : api_Unit) : phi u ≤ 4 := by unfold phi; split <;> split <;> (try split) <;> (try split) <;> omega
theorem sum_le4 : ∀ l : List api_Unit, (l.map phi).sum ≤ 4 * l.length
  | [] => by simp
  | u :: l => by have := sum_le4 l; have := phi_le u; simp only [List.map_cons, List.sum_cons, List.length_cons]; omega
theorem Phi_le (s : api_Rotation) : Phi s ≤ 4 * s.Units.length + 3 := by
  have := sum_le4 s.Units
  unfold Phi kap kapV
  split <;> split <;> (try split) <;> omega
theorem sum_set {i : Nat} {u' : api_Unit} : ∀ {l : List api_Unit} (hi : i < l.length), ((l.set i u').map phi).sum + phi l[i] = (l.map phi).sum + phi u' := by
  induction i with
  | zero =>
    intro l hi
    cases l with
    | nil => simp at hi
    | cons a l => simp; omega
  | succ i ih =>
    intro l hi
    cases l with
    | nil => simp at hi
    | cons a l =>
      have := ih (l := l) (by simpa using hi)
      simp only [List.set_cons_succ, List.map_cons, List.sum_cons, List.getElem_cons_succ]
      omega
/-- the facts of a right unit -/
theorem unit_cases {c : api_Consumer} {u : api_Unit} {k : Int} (h : unitP c u k = true) : (u.Stored = 1 ∨ u.Stored = 2 ∨ u.Stored = 3) ∧ ((u.Up = true ∧ (u.Used = 1 ∨ u.Used = 2 ∨ u.Used = 3) ∧ (c.Live = true → u.Used = u.Stored)) ∨ (u.Up = false ∧ u.Used = 0)) := by
  obtain ⟨h1, h2⟩ := unitP_iff.1 h
  refine ⟨(bitsP_val h1).1, ?_⟩
  rcases h2 with ⟨a, b, d⟩ | h2
  · exact .inl ⟨a, (bitsP_val b).1, d⟩
  · exact .inr h2
theorem us4 (c : api_Consumer) (u : api_Unit) (b : Bool) : unitStep c u 4 b = (b && u.Stored == 1, fixU c ⟨u.Up, bif c.Dual then 3 else 2, u.Used⟩) := by simp [unitStep]
theorem us7 (c : api_Consumer) (u : api_Unit) (b : Bool) : unitStep c u 7 b = (u.Stored == 3, fixU c ⟨u.Up, 2, u.Used⟩) := by simp [unitStep]
theorem us5 (c : api_Consumer) (u : api_Unit) (b : Bool) : unitStep c u 5 b = (u.Up, ⟨false, u.Stored, 0⟩) := by simp [unitStep]
theorem us6 (c : api_Consumer) (u : api_Unit) (b : Bool) : unitStep c u 6 b = (!u.Up, ⟨true, u.Stored, u.Stored⟩) := by simp [unitStep]
theorem phi_step {c : api_Consumer} {u : api_Unit} {k : Int} (hk : k = 4 ∨ k = 7 ∨ (k = 5 ∧ u.Used ≠ 2) ∨ (k = 6 ∧ u.Stored = 2)) (h : unitP c u 3 = true) (hs : (unitStep c u k true).1 = true) : phi (unitStep c u k true).2 < phi u := by
  obtain ⟨h1, h2⟩ := unit_cases h
  obtain ⟨up, st, us⟩ := u
  obtain ⟨pl, du, li⟩ := c
  simp only at h1 h2
  rcases hk with rfl | rfl | ⟨rfl, h3⟩ | ⟨rfl, h3⟩
  · simp only [us4, Bool.true_and, beq_iff_eq] at hs ⊢
    subst hs
    rcases h2 with ⟨rfl, h2, h3⟩ | ⟨rfl, rfl⟩
    · rcases h2 with rfl | rfl | rfl <;> cases du <;> cases li <;> simp [fixU, phi] at h3 ⊢
    · cases du <;> cases li <;> simp [fixU, phi]
  · simp only [us7, beq_iff_eq] at hs ⊢
    subst hs
    rcases h2 with ⟨rfl, h2, h3⟩ | ⟨rfl, rfl⟩
    · rcases h2 with rfl | rfl | rfl <;> cases li <;> simp [fixU, phi] at h3 ⊢
    · cases li <;> simp [fixU, phi]
  · simp only at h3
    simp only [us5] at hs ⊢
    subst hs
    simp [phi, h3]
  · simp only at h3
    simp only [us6, Bool.not_eq_true'] at hs ⊢
    subst hs
    simp [phi, h3]
/-- mending: stored, alone, used -/
theorem uS4 {c : api_Consumer} {u : api_Unit} (h : unitP c u 3 = true) : (uS c u 4).Stored = 2 ∨ (uS c u 4).Stored = 3 := by
  obtain ⟨h1, _⟩ := unit_cases h
  unfold uS
  have e : (unitStep c u 4 true).1 = (u.Stored == 1) := by simp [unitStep]
  rw [e]
  split
  · have : (unitStep c u 4 true).2.Stored = bif c.Dual then 3 else 2 := by simp only [unitStep, if_true]; unfold fixU; cases (c.Live && u.Up) <;> simp
    rw [this]; cases c.Dual <;> simp
  · rename_i hn
    simp only [beq_iff_eq] at hn
    omega
theorem uS7 {c : api_Consumer} {u : api_Unit} (h : u.Stored = 2 ∨ u.Stored = 3) : (uS c u 7).Stored = 2 := by
  unfold uS
  have e : (unitStep c u 7 true).1 = (u.Stored == 3) := by simp [unitStep]
  rw [e]
  split
  · rw [us7]; unfold fixU; cases (c.Live && u.Up) <;> simp
  · rename_i hn
    simp only [beq_iff_eq] at hn
    omega
theorem uS_right {c : api_Consumer} {u : api_Unit} {k : Int} (h : unitP c u 3 = true) : unitP c (uS c u k) 3 = true := by
  unfold uS
  split
  · exact unitP_step (k := 3) h (.inr rfl) ‹_›
  · exact h
/-- the last two steps -/
theorem uS56 {c : api_Consumer} {u : api_Unit} (h : unitP c u 3 = true) (h2 : u.Stored = 2) : uS c (if u.Used ≠ 2 then uS c u 5 else u) 6 = uE := by
  obtain ⟨_, hc⟩ := unit_cases h
  obtain ⟨up, st, us⟩ := u
  simp only at h2 hc ⊢
  subst h2
  have e5 : ∀ v : api_Unit, unitStep c v 5 true = (v.Up, ⟨false, v.Stored, 0⟩) := fun v => by simp [unitStep]
  have e6 : ∀ v : api_Unit, unitStep c v 6 true = (!v.Up, ⟨true, v.Stored, v.Stored⟩) := fun v => by simp [unitStep]
  unfold uS
  simp only [e5, e6]
  rcases hc with ⟨rfl, h3, _⟩ | ⟨rfl, rfl⟩
  · by_cases hu : us = 2
    · subst hu; simp [uE]
    · simp [hu, uE]
  · simp [uE]

def poolAt (f : api_Fleet) (i : Nat) : Int := (f.Consumers.getD i default).Pool
def unitAt (s : api_Rotation) (i : Nat) : api_Unit := s.Units.getD i default
def consAt (f : api_Fleet) (i : Nat) : api_Consumer := f.Consumers.getD i default
/-- every pool is served -/
def HA (f : api_Fleet) (s : api_Rotation) : Prop := ∀ i, i < f.Consumers.length → ∃ j, j < f.Consumers.length ∧ poolAt f j = poolAt f i ∧ servesU s (unitAt s j) = true
theorem mem_raw {f : api_Fleet} {s : api_Rotation} (hl : s.Units.length = f.Consumers.length) {p : Int} : p ∈ servedRaw f s ↔ ∃ j, j < f.Consumers.length ∧ poolAt f j = p ∧ servesU s (unitAt s j) = true := by
  unfold servedRaw
  simp only [List.mem_map, List.mem_filter]
  constructor
  · rintro ⟨⟨c, u⟩, ⟨hm, hs⟩, rfl⟩
    obtain ⟨i, hi, e⟩ := List.getElem_of_mem hm
    have hi1 : i < f.Consumers.length := by simp at hi; omega
    have hi2 : i < s.Units.length := by omega
    rw [List.getElem_zip, Prod.mk.injEq] at e
    obtain ⟨rfl, rfl⟩ := e
    exact ⟨i, hi1, by simp [poolAt, List.getD, hi1], by simpa [unitAt, List.getD, hi2] using hs⟩
  · rintro ⟨i, hi, rfl, hs⟩
    have hi2 : i < s.Units.length := by omega
    have hz : i < (f.Consumers.zip s.Units).length := by simp; omega
    have := List.getElem_mem hz
    rw [List.getElem_zip] at this
    exact ⟨_, ⟨this, by simpa [unitAt, List.getD, hi2] using hs⟩, by simp [poolAt, List.getD, hi]⟩
theorem HA_holds {f : api_Fleet} {s s' : api_Rotation} (hs : RightOk f s) (hr : RightOk f s') (h : HA f s') : holdsP f s s' := fun p hp => by
  rw [(servedP_ok hs).2, mem_raw hs.2.2.2.1] at hp
  obtain ⟨j, h1, rfl, _⟩ := hp
  rw [(servedP_ok hr).2, mem_raw hr.2.2.2.1]
  exact h j h1
theorem HA_pools {f : api_Fleet} {s : api_Rotation} (hs : RightOk f s) : HA f s ↔ servedP f s = poolsP f := by
  constructor
  · intro h
    refine sorted_ext _ _ (servedP_ok hs).1 (by unfold poolsP; exact range_sorted _ _) fun p => ?_
    rw [(servedP_ok hs).2, mem_raw hs.2.2.2.1, mem_poolsP]
    constructor
    · rintro ⟨j, h1, rfl, _⟩; exact ⟨hs.1, j, h1, by simp [poolAt, List.getD, h1]⟩
    · rintro ⟨_, i, hi, rfl⟩
      have := h i hi
      simpa [poolAt, List.getD, hi] using this
  · intro h i hi
    have : poolAt f i ∈ servedP f s := by rw [h]; exact mem_poolsP.2 ⟨hs.1, i, hi, by simp [poolAt, List.getD, hi]⟩
    rwa [(servedP_ok hs).2, mem_raw hs.2.2.2.1] at this
theorem unitAt_set {s : api_Rotation} {i j : Nat} {u : api_Unit} (hi : i < s.Units.length) {k v : Int} : unitAt ⟨k, v, s.Units.set i u⟩ j = if j = i then u else unitAt s j := by
  unfold unitAt
  by_cases h : j = i
  · subst h; simp [List.getD, hi]
  · simp [List.getD, h, List.getElem?_set, show ¬ i = j from fun e => h e.symm]
/-- a unit changes: its pool is still served if another unit of it serves, or it serves itself -/
theorem HA_set {f : api_Fleet} {s : api_Rotation} {i : Nat} {u : api_Unit} {k : Int} (hi : i < s.Units.length) (h : HA f s) (ho : (∃ j, j ≠ i ∧ j < f.Consumers.length ∧ poolAt f j = poolAt f i ∧ servesU s (unitAt s j) = true) ∨ servesU s u = true) (hl : i < f.Consumers.length) : HA f ⟨k, s.Valid, s.Units.set i u⟩ := by
  intro i' hi'
  have sv : ∀ x : api_Unit, servesU ⟨k, s.Valid, s.Units.set i u⟩ x = servesU s x := fun x => rfl
  by_cases hp : poolAt f i' = poolAt f i
  · rcases ho with ⟨j, h1, h2, h3, h4⟩ | ho
    · exact ⟨j, h2, h3.trans hp.symm, by rw [unitAt_set hi, if_neg h1, sv]; exact h4⟩
    · exact ⟨i, hl, hp.symm, by rw [unitAt_set hi, if_pos rfl, sv]; exact ho⟩
  · obtain ⟨j, h1, h2, h3⟩ := h i' hi'
    refine ⟨j, h1, h2, ?_⟩
    have : j ≠ i := fun e => hp (by rw [← h2, e])
    rw [unitAt_set hi, if_neg this, sv]; exact h3

/-! One step of the planner -/
def doP (p : plan_planner) (k : Int) (i : Nat) : plan_planner := if (applyP p.fleet p.state ⟨k, (i : Int)⟩).2 = 0 then ⟨p.fleet, (applyP p.fleet p.state ⟨k, (i : Int)⟩).1, p.out ++ [⟨k, (i : Int)⟩]⟩ else p
theorem do_sp {p : plan_planner} (h : p.out.length ≤ 1000) (k : Int) (i : Nat) : plan_planner_do_o0_5 p k (i : Int) = some (doP p k i) := by
  unfold plan_planner_do_o0_5 doP
  simp only [apply_sp, Option.bind_some]
  by_cases h0 : (applyP p.fleet p.state ⟨k, (i : Int)⟩).2 = 0
  · rw [if_pos (by simpa using h0), if_pos h0, ck_t (by simp; omega)]; rfl
  · rw [if_neg (by simpa using h0), if_neg h0]
structure Gd (f : api_Fleet) (s0 : api_Rotation) (p : plan_planner) : Prop where
  fl : p.fleet = f
  right : RightOk f p.state
  ha : HA f p.state
  run : safeRun f s0 p.out
  en : endS f s0 p.out = p.state
  left : p.out.length + Phi p.state ≤ Phi s0
theorem Gd.len {f : api_Fleet} {s0 : api_Rotation} {p : plan_planner} (h : Gd f s0 p) (hr : RightOk f s0) : p.out.length ≤ 1000 := by
  have := h.left
  have := Phi_le s0
  have := hr.len.2
  omega
theorem do_G {f : api_Fleet} {s0 : api_Rotation} {p : plan_planner} {k : Int} {i : Nat} (h : Gd f s0 p) (hk : kindOk f ⟨k, (i : Int)⟩)
    (hn : okStep f p.state ⟨k, (i : Int)⟩ = true → HA f (nextS f p.state ⟨k, (i : Int)⟩) ∧ Phi (nextS f p.state ⟨k, (i : Int)⟩) < Phi p.state) :
    Gd f s0 (doP p k i) ∧ (doP p k i).state = if okStep f p.state ⟨k, (i : Int)⟩ = true then nextS f p.state ⟨k, (i : Int)⟩ else p.state := by
  unfold doP
  rw [h.fl]
  by_cases ho : okStep f p.state ⟨k, (i : Int)⟩ = true
  · obtain ⟨h1, h2⟩ := hn ho
    have ea := apply_eq h.right hk ho
    have hr := next_right h.right hk ho
    rw [if_pos ho, ea, if_pos rfl]
    have hsafe : safeP f p.state ⟨k, (i : Int)⟩ = true := by
      unfold safeP
      rw [ea]
      simp [HA_holds h.right hr h1]
    have hrun := safeRun_snoc (x := ⟨k, (i : Int)⟩) p.out s0 h.run (by rw [h.en]; exact hsafe)
    have := h.left
    exact ⟨⟨rfl, hr, h1, hrun.1, by rw [hrun.2, h.en, ea], by simp; omega⟩, rfl⟩
  · have ea : (applyP f p.state ⟨k, (i : Int)⟩).2 = 37 := by
      unfold applyP
      rw [if_neg (not_not_intro h.right), if_neg (not_not_intro hk), if_pos (by simpa using ho)]
    rw [if_neg ho, ea, if_neg (by decide)]
    exact ⟨h, rfl⟩
/-- a step of one unit -/
theorem do_unit {f : api_Fleet} {s0 : api_Rotation} {p : plan_planner} {k : Int} {i : Nat} (h : Gd f s0 p) (hkn : p.state.Known = 3) (hi : i < f.Consumers.length) (hk : k = 4 ∨ k = 7 ∨ (k = 5 ∧ (unitAt p.state i).Used ≠ 2) ∨ (k = 6 ∧ (unitAt p.state i).Stored = 2))
    (ho : (∃ j, j ≠ i ∧ j < f.Consumers.length ∧ poolAt f j = poolAt f i ∧ servesU p.state (unitAt p.state j) = true) ∨ servesU p.state (uS (consAt f i) (unitAt p.state i) k) = true) :
    Gd f s0 (doP p k i) ∧ (doP p k i).state = ⟨3, p.state.Valid, p.state.Units.set i (uS (consAt f i) (unitAt p.state i) k)⟩ := by
  have hl := h.right.2.2.2.1
  have hil : i < p.state.Units.length := by omega
  have k4 : k = 4 ∨ k = 7 ∨ k = 5 ∨ k = 6 := by clear ho; omega
  have hkk : kindOk f ⟨k, (i : Int)⟩ := by
    clear ho
    refine ⟨by simp only; omega, by simp only; omega, by simp, by simp only; omega, fun hb => ?_⟩
    rcases k4 with rfl | rfl | rfl | rfl <;> simp [issuerB] at hb
  have eo : okStep f p.state ⟨k, (i : Int)⟩ = (unitStep (consAt f i) (unitAt p.state i) k true).1 := by
    unfold okStep
    simp only
    clear ho
    rw [if_neg (by omega), if_neg (by omega), if_neg (by omega), if_neg (by omega), hkn]
    rfl
  have en : nextS f p.state ⟨k, (i : Int)⟩ = ⟨3, p.state.Valid, p.state.Units.set i (unitStep (consAt f i) (unitAt p.state i) k true).2⟩ := by
    unfold nextS
    simp only
    clear ho
    rw [if_neg (by omega), if_neg (by omega), if_neg (by omega), if_neg (by omega), hkn]
    rfl
  have hu : unitP (consAt f i) (unitAt p.state i) 3 = true := by
    have := h.right.unit hil hi
    rw [hkn] at this
    simpa [consAt, unitAt, List.getD, hil, hi] using this
  obtain ⟨h1, h2⟩ := do_G h hkk fun hok => by
    rw [eo] at hok
    have e : uS (consAt f i) (unitAt p.state i) k = (unitStep (consAt f i) (unitAt p.state i) k true).2 := by unfold uS; rw [if_pos hok]
    rw [en]
    refine ⟨HA_set hil h.ha (by rw [← e]; exact ho) hi, ?_⟩
    have := sum_set (u' := (unitStep (consAt f i) (unitAt p.state i) k true).2) hil
    have h3 := phi_step hk hu hok
    have e2 : unitAt p.state i = p.state.Units[i] := by simp [unitAt, List.getD, hil]
    unfold Phi kap
    simp only [hkn]
    rw [e2] at h3
    rw [e2] at this ⊢
    omega
  refine ⟨h1, ?_⟩
  rw [h2, eo, en]
  unfold uS
  split
  · rfl
  · have e2 : unitAt p.state i = p.state.Units[i] := by simp [unitAt, List.getD, hil]
    rw [e2, List.set_getElem_self, ← hkn]

theorem iter_first {α ε : Type} {body : Int → Option (Lp Int ε)} (l : List α) (p : α → Bool) (A : α → ε) (B : ε)
    (hgo : ∀ (i : Nat) (h : i < l.length), body (i : Int) = some (if p l[i] = true then .out (A l[i]) else .go (((i + 1 : Nat) : Int))))
    (hend : body (l.length : Int) = some (.out B)) : (∃ x, x ∈ l ∧ p x = true ∧ iter body 0 = some (A x)) ∨ ((∀ x, x ∈ l → p x = false) ∧ iter body 0 = some B) := by
  have key : ∀ (m i : Nat), i + m = l.length → (∀ j (h : j < l.length), j < i → p l[j] = false) → (∃ x, x ∈ l ∧ p x = true ∧ iter body (i : Int) = some (A x)) ∨ ((∀ x, x ∈ l → p x = false) ∧ iter body (i : Int) = some B) := fun m => by
    induction m with
    | zero =>
      intro i h hp
      have : i = l.length := by omega
      subst this
      refine .inr ⟨fun x hx => ?_, iter_out hend⟩
      obtain ⟨j, hj, rfl⟩ := List.getElem_of_mem hx
      exact hp j hj hj
    | succ m ih =>
      intro i h hp
      have hi : i < l.length := by omega
      have hb := hgo i hi
      by_cases hq : p l[i] = true
      · rw [if_pos hq] at hb
        exact .inl ⟨_, List.getElem_mem hi, hq, iter_out hb⟩
      · rw [if_neg hq] at hb
        rw [iter_go hb]
        refine ih (i + 1) (by omega) fun j hj hji => ?_
        by_cases e : j = i
        · subst e; simpa using hq
        · exact hp j hj (by omega)
  exact key l.length 0 (by omega) fun j _ h => by omega

def serves2 (s : api_Rotation) (i : Nat) : Prop := bAnd .i64 (unitAt s i).Used 2 ≠ 0
theorem b_22 : bAnd .i64 2 2 ≠ 0 := by decide
theorem b_23 : bAnd .i64 2 3 ≠ 0 := by decide
theorem b_32 : bAnd .i64 3 2 ≠ 0 := by decide
theorem b_33 : bAnd .i64 3 3 ≠ 0 := by decide
theorem b_13 : bAnd .i64 1 3 ≠ 0 := by decide
theorem b_31 : bAnd .i64 3 1 ≠ 0 := by decide
theorem b_12 : bAnd .i64 1 2 = 0 := by decide
theorem serves23 {s : api_Rotation} {u : api_Unit} (hv : s.Valid = 2 ∨ s.Valid = 3) (hu : u.Used = 2 ∨ u.Used = 3) : servesU s u = true := by
  unfold servesU
  rcases hv with e | e <;> rcases hu with e2 | e2 <;> rw [e, e2] <;> decide
theorem set_same {l : List api_Unit} {i : Nat} {a b : api_Unit} : (l.set i a).set i b = l.set i b := by
  apply List.ext_getElem? ; intro j
  simp only [List.getElem?_set, List.length_set]
  split <;> rfl
def midU (c : api_Consumer) (u : api_Unit) : api_Unit := if u.Used ≠ 2 then uS c u 5 else u
theorem mend_ex {f : api_Fleet} {s0 : api_Rotation} {p : plan_planner} {i : Nat} (h : Gd f s0 p) (hr : RightOk f s0) (hkn : p.state.Known = 3) (hi : i < f.Consumers.length)
    (ho : (∃ j, j ≠ i ∧ j < f.Consumers.length ∧ poolAt f j = poolAt f i ∧ servesU p.state (unitAt p.state j) = true) ∨
      (servesU p.state (uS (consAt f i) (unitAt p.state i) 4) = true ∧ servesU p.state (uS (consAt f i) (uS (consAt f i) (unitAt p.state i) 4) 7) = true ∧ servesU p.state (midU (consAt f i) (uS (consAt f i) (uS (consAt f i) (unitAt p.state i) 4) 7)) = true ∧ servesU p.state uE = true)) :
    ∃ p', plan_planner_mend_o0_5 p (i : Int) = some p' ∧ Gd f s0 p' ∧ p'.state = ⟨3, p.state.Valid, p.state.Units.set i uE⟩ := by
  have hil : i < p.state.Units.length := by rw [h.right.2.2.2.1]; exact hi
  have hA : ∀ (u : api_Unit), (∃ j, j ≠ i ∧ j < f.Consumers.length ∧ poolAt f j = poolAt f i ∧ servesU p.state (unitAt p.state j) = true) → ∃ j, j ≠ i ∧ j < f.Consumers.length ∧ poolAt f j = poolAt f i ∧ servesU (⟨3, p.state.Valid, p.state.Units.set i u⟩ : api_Rotation) (unitAt ⟨3, p.state.Valid, p.state.Units.set i u⟩ j) = true := fun u ⟨j, h1, h2, h3, h4⟩ => ⟨j, h1, h2, h3, by rw [unitAt_set hil, if_neg h1]; exact h4⟩
  have hu : unitP (consAt f i) (unitAt p.state i) 3 = true := by
    have := h.right.unit hil hi
    rw [hkn] at this
    simpa [consAt, unitAt, List.getD, hil, hi] using this
  generalize hc : consAt f i = c at ho hu
  generalize hu0 : unitAt p.state i = u0 at ho hu
  have r1 := uS_right (k := 4) hu
  have r2 := uS_right (k := 7) r1
  have hst := uS7 (c := c) (uS4 hu)
  have hlast : uS c (midU c (uS c (uS c u0 4) 7)) 6 = uE := uS56 r2 hst
  have hUS : ∀ u : api_Unit, unitAt (⟨3, p.state.Valid, p.state.Units.set i u⟩ : api_Rotation) i = u := fun u => by rw [unitAt_set hil, if_pos rfl]
  obtain ⟨g1, e1⟩ := do_unit (k := 4) h hkn hi (.inl rfl) (by rw [hc, hu0]; exact ho.imp id fun q => q.1)
  rw [hc, hu0] at e1
  obtain ⟨g2, e2⟩ := do_unit (k := 7) g1 (by rw [e1]) hi (.inr (.inl rfl)) (by rw [e1, hc, hUS]; exact ho.imp (hA _) fun q => q.2.1)
  rw [e1, hc, hUS] at e2
  simp only [set_same] at e2
  have hmid : ∃ p3, (if (unitAt (doP (doP p 4 i) 7 i).state i).Used ≠ 2 then doP (doP (doP p 4 i) 7 i) 5 i else doP (doP p 4 i) 7 i) = p3 ∧ Gd f s0 p3 ∧ p3.state = ⟨3, p.state.Valid, p.state.Units.set i (midU c (uS c (uS c u0 4) 7))⟩ := by
    rw [e2, hUS]
    unfold midU
    by_cases h2 : (uS c (uS c u0 4) 7).Used ≠ 2
    · rw [if_pos h2, if_pos h2]
      obtain ⟨g3, e3⟩ := do_unit (k := 5) g2 (by rw [e2]) hi (.inr (.inr (.inl ⟨rfl, by rw [e2, hUS]; exact h2⟩))) (by rw [e2, hc, hUS]; refine ho.imp (hA _) fun q => ?_; have := q.2.2.1; unfold midU at this; rw [if_pos h2] at this; exact this)
      rw [e2, hc, hUS] at e3
      simp only [set_same] at e3
      exact ⟨_, rfl, g3, e3⟩
    · rw [if_neg h2, if_neg h2]
      exact ⟨_, rfl, g2, e2⟩
  obtain ⟨p3, ep3, g3, e3⟩ := hmid
  have hst3 : (midU c (uS c (uS c u0 4) 7)).Stored = 2 := by
    unfold midU
    split
    · unfold uS at hst ⊢
      generalize (if (unitStep c (if (unitStep c u0 4 true).1 = true then (unitStep c u0 4 true).2 else u0) 7 true).1 = true then (unitStep c (if (unitStep c u0 4 true).1 = true then (unitStep c u0 4 true).2 else u0) 7 true).2 else (if (unitStep c u0 4 true).1 = true then (unitStep c u0 4 true).2 else u0)) = w at hst ⊢
      rw [us5]
      split <;> exact hst
    · exact hst
  obtain ⟨g4, e4⟩ := do_unit (k := 6) g3 (by rw [e3]) hi (.inr (.inr (.inr ⟨rfl, by rw [e3, hUS]; exact hst3⟩))) (by rw [e3, hc, hUS, hlast]; exact ho.imp (hA _) fun q => q.2.2.2)
  rw [e3, hc, hUS, hlast] at e4
  simp only [set_same] at e4
  refine ⟨_, ?_, g4, e4⟩
  have hlx : i < (doP (doP p 4 i) 7 i).state.Units.length := by rw [e2]; simpa using hil
  have eu : (doP (doP p 4 i) 7 i).state.Units[i] = unitAt (doP (doP p 4 i) 7 i).state i := by simp [unitAt, List.getD, hlx]
  unfold plan_planner_mend_o0_5 plan_planner_mend_o0_5_j0
  rw [do_sp (h.len hr), Option.bind_some, do_sp (g1.len hr), Option.bind_some, idx_lt hlx, Option.bind_some, eu]
  by_cases h2 : (unitAt (doP (doP p 4 i) 7 i).state i).Used ≠ 2
  · rw [if_pos (by simpa using h2), do_sp (g2.len hr), Option.bind_some]
    rw [if_pos h2] at ep3
    rw [ep3]
    exact (congrArg (fun q => Option.bind q some) (do_sp (g3.len hr) 6 i)).trans rfl
  · rw [if_neg (by simpa using h2)]
    rw [if_neg h2] at ep3
    rw [ep3]
    exact (congrArg (fun q => Option.bind q some) (do_sp (g3.len hr) 6 i)).trans rfl
/-- the only unit of a pool, live, that serves where the new secret is valid -/
theorem sole_serves {f : api_Fleet} {s : api_Rotation} {i : Nat} (h : RightOk f s) (hkn : s.Known = 3) (hi : i < f.Consumers.length) (hv : s.Valid = 2 ∨ s.Valid = 3) (hs : servesU s (unitAt s i) = true) (hlive : (consAt f i).Live = true) :
    servesU s (uS (consAt f i) (unitAt s i) 4) = true ∧ servesU s (uS (consAt f i) (uS (consAt f i) (unitAt s i) 4) 7) = true ∧ servesU s (midU (consAt f i) (uS (consAt f i) (uS (consAt f i) (unitAt s i) 4) 7)) = true ∧ servesU s uE = true := by
  have hil : i < s.Units.length := by rw [h.2.2.2.1]; exact hi
  have hu : unitP (consAt f i) (unitAt s i) 3 = true := by
    have := h.unit hil hi
    rw [hkn] at this
    simpa [consAt, unitAt, List.getD, hil, hi] using this
  obtain ⟨hst, hc⟩ := unit_cases hu
  have hup : (unitAt s i).Up = true := by
    rcases hc with hc | hc
    · exact hc.1
    · simp only [servesU, hc.2, and_0] at hs; simp at hs
  obtain ⟨h1, h2, h3⟩ := hc.resolve_right fun q => by rw [hup] at q; cases q.1
  have h3 := h3 hlive
  have hsE : servesU s uE = true := serves23 hv (.inl rfl)
  have e1 : (unitAt s i).Stored = 1 → uS (consAt f i) (unitAt s i) 4 = ⟨true, bif (consAt f i).Dual then 3 else 2, bif (consAt f i).Dual then 3 else 2⟩ := fun e => by
    unfold uS
    rw [us4]
    simp only [Bool.true_and, e]
    rw [if_pos (by simp)]
    unfold fixU
    simp [hlive, hup]
  have e1' : (unitAt s i).Stored ≠ 1 → uS (consAt f i) (unitAt s i) 4 = unitAt s i := fun e => by
    unfold uS
    rw [us4, if_neg (by simpa using e)]
  have k1 : ∃ d : Int, (d = 2 ∨ d = 3) ∧ uS (consAt f i) (unitAt s i) 4 = ⟨true, d, d⟩ := by
    by_cases e : (unitAt s i).Stored = 1
    · refine ⟨bif (consAt f i).Dual then 3 else 2, ?_, e1 e⟩
      cases (consAt f i).Dual <;> simp
    · refine ⟨(unitAt s i).Stored, by omega, (e1' e).trans ?_⟩
      conv => lhs; rw [show unitAt s i = ⟨(unitAt s i).Up, (unitAt s i).Stored, (unitAt s i).Used⟩ from rfl]
      rw [hup, h3]
  obtain ⟨d, hd, k1⟩ := k1
  have k2 : uS (consAt f i) (uS (consAt f i) (unitAt s i) 4) 7 = uE := by
    rw [k1]
    unfold uS
    rw [us7]
    rcases hd with rfl | rfl
    · simp [uE]
    · simp [fixU, hlive, uE]
  have k3 : midU (consAt f i) uE = uE := by unfold midU; rw [if_neg (by simp [uE])]
  rw [k2, k3]
  exact ⟨by rw [k1]; exact serves23 hv hd, hsE, hsE, hsE⟩

theorem unitAt_get {s : api_Rotation} {i : Nat} (h : i < s.Units.length) : s.Units[i] = unitAt s i := by simp [unitAt, List.getD, h]
theorem in_pool {f : api_Fleet} (hf : FleetOk f) {p x : Int} : x ∈ unitsP f p ↔ ∃ i : Nat, x = (i : Int) ∧ i < f.Consumers.length ∧ poolAt f i = p := by
  rw [mem_unitsP]
  constructor
  · rintro ⟨_, i, rfl, h1, h2⟩; exact ⟨i, rfl, h1, by simpa [poolAt, List.getD, h1] using h2⟩
  · rintro ⟨i, rfl, h1, h2⟩; exact ⟨hf, i, rfl, h1, by simpa [poolAt, List.getD, h1] using h2⟩
theorem serving_ex {f : api_Fleet} {s0 : api_Rotation} {p : plan_planner} (h : Gd f s0 p) (q b : Int) :
    (∃ i : Nat, i < f.Consumers.length ∧ poolAt f i = q ∧ bAnd .i64 (unitAt p.state i).Used b ≠ 0 ∧ plan_planner_serving_o0_5 p q b = some ((i : Int), true, p)) ∨
    ((∀ i : Nat, i < f.Consumers.length → poolAt f i = q → bAnd .i64 (unitAt p.state i).Used b = 0) ∧ plan_planner_serving_o0_5 p q b = some (0, false, p)) := by
  have hf := h.right.1
  have hul := unitsP_len f q
  have hl := h.right.2.2.2.1
  unfold plan_planner_serving_o0_5
  rw [h.fl, funits_sp]
  simp only [Option.bind_some]
  have hgo : ∀ (i : Nat) (hi : i < (unitsP f q).length), plan_planner_serving_o0_5_l0 (unitsP f q) p b (i : Int) = some (if (bAnd .i64 (unitAt p.state ((unitsP f q)[i]).toNat).Used b != 0) = true then .out (.inr ((unitsP f q)[i], true, p)) else .go (((i + 1 : Nat) : Int))) := fun i hi => by
    obtain ⟨j, ej, h1, h2⟩ := (in_pool hf).1 (List.getElem_mem hi)
    unfold plan_planner_serving_o0_5_l0
    rw [if_pos (by simp; omega), idx_lt hi, w64 (by omega) (by omega)]
    simp only [Option.bind_some]
    rw [ej, idx_lt (by omega : j < p.state.Units.length), unitAt_get]
    simp only [Option.bind_some, Int.toNat_natCast]
    split <;> rfl
  have hend : plan_planner_serving_o0_5_l0 (unitsP f q) p b ((unitsP f q).length : Int) = some (.out (.inl ())) := by
    unfold plan_planner_serving_o0_5_l0
    rw [if_neg (by simp)]
  rcases iter_first (ε := Unit ⊕ (Int × Bool × plan_planner)) (unitsP f q) (fun x => bAnd .i64 (unitAt p.state x.toNat).Used b != 0) (fun x => .inr (x, true, p)) (.inl ()) hgo hend with ⟨x, hx, hp, e⟩ | ⟨hn, e⟩
  · obtain ⟨i, rfl, h1, h2⟩ := (in_pool hf).1 hx
    rw [e]
    exact .inl ⟨i, h1, h2, by simpa using hp, rfl⟩
  · rw [e]
    exact .inr ⟨fun i h1 h2 => by simpa using hn _ ((in_pool hf).2 ⟨i, rfl, h1, h2⟩), rfl⟩
theorem other_ex {l : List Int} (hl : l.length ≤ 1000) (b : Int) : (∃ k : Nat, ∃ h : k < l.length, l[k] ≠ b ∧ slices_IndexFunc_int_at_plan_planner_prepare_1_b l b = some ((k : Int), b)) ∨ ((∀ x, x ∈ l → x = b) ∧ slices_IndexFunc_int_at_plan_planner_prepare_1_b l b = some (-1, b)) := by
  have key : ∀ (m i : Nat), i + m = l.length → (∀ j (h : j < l.length), j < i → l[j] = b) →
      (∃ k : Nat, ∃ h : k < l.length, l[k] ≠ b ∧ iter (slices_IndexFunc_int_at_plan_planner_prepare_1_b_l0 l) ((i : Int), b) = some (.inr ((k : Int), b))) ∨ ((∀ x, x ∈ l → x = b) ∧ iter (slices_IndexFunc_int_at_plan_planner_prepare_1_b_l0 l) ((i : Int), b) = some (.inl b)) := fun m => by
    induction m with
    | zero =>
      intro i h hp
      refine .inr ⟨fun x hx => ?_, iter_out ?_⟩
      · obtain ⟨j, hj, rfl⟩ := List.getElem_of_mem hx
        exact hp j hj (by omega)
      · unfold slices_IndexFunc_int_at_plan_planner_prepare_1_b_l0
        rw [if_neg (by simp; omega)]
    | succ m ih =>
      intro i h hp
      have hi : i < l.length := by omega
      have hb : slices_IndexFunc_int_at_plan_planner_prepare_1_b_l0 l ((i : Int), b) = some (if l[i] ≠ b then .out (.inr ((i : Int), b)) else .go (((i + 1 : Nat) : Int), b)) := by
        unfold slices_IndexFunc_int_at_plan_planner_prepare_1_b_l0 plan_planner_prepare_1_cb
        rw [if_pos (by simp; omega), idx_lt hi, w64 (by simp; omega) (by simp; omega)]
        simp only [Option.bind_some]
        by_cases e : l[i] = b <;> simp [e]
      by_cases hq : l[i] ≠ b
      · rw [if_pos hq] at hb
        exact .inl ⟨i, hi, hq, iter_out hb⟩
      · rw [if_neg hq] at hb
        rw [iter_go hb]
        refine ih (i + 1) (by omega) fun j hj hji => ?_
        by_cases e : j = i
        · subst e; simpa using hq
        · exact hp j hj (by omega)
  unfold slices_IndexFunc_int_at_plan_planner_prepare_1_b
  rcases key l.length 0 (by omega) (fun j _ h => by omega) with ⟨k, hk, h1, h2⟩ | ⟨h1, h2⟩
  · rw [show ((0 : Int), b) = (((0 : Nat) : Int), b) from rfl, h2]
    exact .inl ⟨k, hk, h1, rfl⟩
  · rw [show ((0 : Int), b) = (((0 : Nat) : Int), b) from rfl, h2]
    exact .inr ⟨h1, rfl⟩

/-! Pools that fit -/
def fitP (f : api_Fleet) (q : Int) : Bool :=
  if (unitsP f q).length = 1 then (let c := consAt f ((unitsP f q).headD 0).toNat; c.Live && (c.Dual || f.Slots == 2)) else decide (1 < (unitsP f q).length)
theorem fit_sp (f : api_Fleet) (q : Int) : plan_Fit f q = some (fitP f q) := by
  unfold plan_Fit fitP
  rw [funits_sp]
  simp only [Option.bind_some]
  by_cases h1 : (unitsP f q).length = 1
  · rw [if_neg (by simp [h1]), if_pos h1]
    obtain ⟨x, hx⟩ := List.length_eq_one_iff.1 h1
    have hm : x ∈ unitsP f q := by rw [hx]; simp
    obtain ⟨_, i, rfl, hi, _⟩ := mem_unitsP.1 hm
    rw [hx]
    have : idx [(i : Int)] 0 = some (i : Int) := rfl
    rw [this]
    simp only [Option.bind_some, List.headD_cons, Int.toNat_natCast]
    rw [idx_lt hi]
    simp [consAt, List.getD, hi]
  · rw [if_pos (by simp; omega), if_neg h1]
    congr 1
    simp only [decide_eq_decide]
    omega
theorem fit_use {f : api_Fleet} (hf : FleetOk f) {i : Nat} (hi : i < f.Consumers.length) (h : fitP f (poolAt f i) = true) : (∃ j, j ≠ i ∧ j < f.Consumers.length ∧ poolAt f j = poolAt f i) ∨ ((consAt f i).Live = true ∧ ((consAt f i).Dual = true ∨ f.Slots = 2)) := by
  have hm : (i : Int) ∈ unitsP f (poolAt f i) := (in_pool hf).2 ⟨i, rfl, hi, rfl⟩
  unfold fitP at h
  by_cases h1 : (unitsP f (poolAt f i)).length = 1
  · rw [if_pos h1] at h
    obtain ⟨x, hx⟩ := List.length_eq_one_iff.1 h1
    rw [hx] at hm h
    have : x = (i : Int) := (List.mem_singleton.1 hm).symm
    subst this
    simp at h
    exact .inr h
  · rw [if_neg h1] at h
    left
    have h2 : 1 < (unitsP f (poolAt f i)).length := by simpa using h
    have hs : (unitsP f (poolAt f i)).Pairwise (· < ·) := by unfold unitsP; rw [if_pos hf]; exact range_sorted _ _
    have hlt := sorted_split hs (i := 0) (j := 1) (by omega) h2
    obtain ⟨a, ea, a1, a2⟩ := (in_pool hf).1 (List.getElem_mem (l := unitsP f (poolAt f i)) (n := 0) (by omega))
    obtain ⟨b, eb, b1, b2⟩ := (in_pool hf).1 (List.getElem_mem h2)
    by_cases e : a = i
    · exact ⟨b, by omega, b1, b2⟩
    · exact ⟨a, e, a1, a2⟩

/-! Preparing a pool where the new secret is not valid yet -/
theorem prepare_ex {f : api_Fleet} {s0 : api_Rotation} {p : plan_planner} {i0 : Nat} (h : Gd f s0 p) (hr : RightOk f s0) (hkn : p.state.Known = 3) (hv : p.state.Valid = 1) (hsl : f.Slots ≠ 2) (hi0 : i0 < f.Consumers.length) (hfit : ∀ i, i < f.Consumers.length → fitP f (poolAt f i) = true) :
    ∃ p', plan_planner_prepare_o0_5 p (poolAt f i0) = some p' ∧ Gd f s0 p' ∧ p'.state.Known = 3 ∧ p'.state.Valid = 1 ∧ (∃ j, j < f.Consumers.length ∧ poolAt f j = poolAt f i0 ∧ serves2 p'.state j) ∧ ∀ j, serves2 p.state j → serves2 p'.state j := by
  have hf := h.right.1
  have hl := h.right.2.2.2.1
  unfold plan_planner_prepare_o0_5
  rcases serving_ex h (poolAt f i0) 2 with ⟨i, h1, h2, h3, e⟩ | ⟨hn, e⟩
  · rw [e]
    simp only [Option.bind_some, if_true]
    exact ⟨p, rfl, h, hkn, hv, ⟨i, h1, h2, h3⟩, fun j hj => hj⟩
  rw [e]
  simp only [Option.bind_some]
  rw [if_neg (by simp)]
  rcases serving_ex h (poolAt f i0) 1 with ⟨a, a1, a2, a3, e⟩ | ⟨hn1, e⟩
  case inr =>
    obtain ⟨j, j1, j2, j3⟩ := h.ha i0 hi0
    unfold servesU at j3
    rw [hv, hn1 j j1 j2] at j3
    simp at j3
  rw [e]
  simp only [Option.bind_some, h.fl, funits_sp]
  have hul := unitsP_len f (poolAt f i0)
  have hsa : servesU p.state (unitAt p.state a) = true := by unfold servesU; rw [hv]; simpa using a3
  rcases other_ex (l := unitsP f (poolAt f i0)) (by omega) (a : Int) with ⟨k, hk, hne, e⟩ | ⟨hall, e⟩
  · rw [e]
    simp only [Option.bind_some]
    rw [if_pos (by simp), idx_lt hk]
    obtain ⟨x, ex, x1, x2⟩ := (in_pool hf).1 (List.getElem_mem hk)
    have hxa : a ≠ x := fun e => hne (by rw [ex, e])
    obtain ⟨p', m1, m2, m3⟩ := mend_ex (i := x) h hr hkn x1 (.inl ⟨a, hxa, a1, a2.trans x2.symm, hsa⟩)
    have hxl : x < p.state.Units.length := by omega
    simp only [Option.bind_some, ex, m1]
    refine ⟨p', rfl, m2, by rw [m3], by rw [m3]; exact hv, ⟨x, x1, x2, ?_⟩, fun j hj => ?_⟩
    · unfold serves2; rw [m3, unitAt_set hxl, if_pos rfl]; exact b_22
    · unfold serves2 at hj ⊢
      rw [m3, unitAt_set hxl]
      split
      · exact b_22
      · exact hj
  · rw [e]
    simp only [Option.bind_some]
    rw [if_neg (by simp), do_sp (h.len hr)]
    have hal : a < p.state.Units.length := by omega
    have hlive := (fit_use hf a1 (hfit a a1)).resolve_left fun ⟨j, j1, j2, j3⟩ => j1 (by
      have := hall _ ((in_pool hf).2 ⟨j, rfl, j2, j3.trans a2⟩)
      omega)
    have hdual : (consAt f a).Dual = true := hlive.2.resolve_right hsl
    have hu : unitP (consAt f a) (unitAt p.state a) 3 = true := by
      have := h.right.unit hal a1
      rw [hkn] at this
      simpa [consAt, unitAt, List.getD, hal, a1] using this
    obtain ⟨hst, hc⟩ := unit_cases hu
    have hc := hc.resolve_right fun q => a3 (by rw [q.2]; exact and_0 1)
    have hne2 := hn a a1 a2
    have hus : (unitAt p.state a).Used = 1 := by
      rcases hc.2.1 with q | q | q
      · exact q
      · rw [q] at hne2; exact absurd hne2 b_22
      · rw [q] at hne2; exact absurd hne2 b_32
    have hs1 : (unitAt p.state a).Stored = 1 := by rw [← hc.2.2 hlive.1]; exact hus
    have e4 : uS (consAt f a) (unitAt p.state a) 4 = ⟨true, 3, 3⟩ := by
      unfold uS
      rw [us4]
      simp only [Bool.true_and, hs1]
      rw [if_pos (by simp)]
      unfold fixU
      simp [hlive.1, hc.1, hdual]
    obtain ⟨g, eg⟩ := do_unit (k := 4) h hkn a1 (.inl rfl) (.inr (by rw [e4]; unfold servesU; rw [hv]; simpa using b_31))
    rw [e4] at eg
    refine ⟨_, rfl, g, by rw [eg], by rw [eg]; exact hv, ⟨a, a1, a2, ?_⟩, fun j hj => ?_⟩
    · unfold serves2; rw [eg, unitAt_set hal, if_pos rfl]; exact b_32
    · unfold serves2 at hj ⊢
      rw [eg, unitAt_set hal]
      split
      · exact b_32
      · exact hj

/-! Settling a pool -/
theorem settle_ex {f : api_Fleet} {s0 : api_Rotation} {p : plan_planner} {i0 : Nat} (h : Gd f s0 p) (hr : RightOk f s0) (hkn : p.state.Known = 3) (hv : p.state.Valid = 2 ∨ p.state.Valid = 3) (hi0 : i0 < f.Consumers.length) (hfit : ∀ i, i < f.Consumers.length → fitP f (poolAt f i) = true) :
    ∃ p', plan_planner_settle_o0_5 p (poolAt f i0) = some p' ∧ Gd f s0 p' ∧ p'.state.Known = 3 ∧ p'.state.Valid = p.state.Valid ∧ (∀ j, j < f.Consumers.length → poolAt f j = poolAt f i0 → unitAt p'.state j = uE) ∧ ∀ j, unitAt p.state j = uE → unitAt p'.state j = uE := by
  have hf := h.right.1
  have hul := unitsP_len f (poolAt f i0)
  unfold plan_planner_settle_o0_5
  rcases serving_ex h (poolAt f i0) p.state.Valid with ⟨a, a1, a2, a3, e⟩ | ⟨hn1, e⟩
  case inr =>
    obtain ⟨j, j1, j2, j3⟩ := h.ha i0 hi0
    unfold servesU at j3
    rw [hn1 j j1 j2] at j3
    simp at j3
  rw [e]
  simp only [Option.bind_some, h.fl, funits_sp]
  have hsa : servesU p.state (unitAt p.state a) = true := by unfold servesU; simpa using a3
  have key : ∀ (m k : Nat) (q : plan_planner), k + m = (unitsP f (poolAt f i0)).length → Gd f s0 q → q.state.Known = 3 → q.state.Valid = p.state.Valid → unitAt q.state a = unitAt p.state a → (∀ j, unitAt p.state j = uE → unitAt q.state j = uE) →
      (∀ (j x : Nat), (hj : j < (unitsP f (poolAt f i0)).length) → j < k → (unitsP f (poolAt f i0))[j] = (x : Int) → x ≠ a → unitAt q.state x = uE) →
      ∃ q', iter (plan_planner_settle_o0_5_l0 (unitsP f (poolAt f i0)) ((a : Int), true, p)) ((k : Int), q.fleet.Slots, q.fleet.Consumers, q.state.Known, q.state.Valid, q.state.Units, q.out) = some (q'.fleet.Slots, q'.fleet.Consumers, q'.state.Known, q'.state.Valid, q'.state.Units, q'.out) ∧
        Gd f s0 q' ∧ q'.state.Known = 3 ∧ q'.state.Valid = p.state.Valid ∧ unitAt q'.state a = unitAt p.state a ∧ (∀ j, unitAt p.state j = uE → unitAt q'.state j = uE) ∧ ∀ x, x < f.Consumers.length → poolAt f x = poolAt f i0 → x ≠ a → unitAt q'.state x = uE := fun m => by
    induction m with
    | zero =>
      intro k q hk g g1 g2 g3 g4 g5
      refine ⟨q, iter_out ?_, g, g1, g2, g3, g4, fun x x1 x2 x3 => ?_⟩
      · unfold plan_planner_settle_o0_5_l0
        rw [if_neg (by simp; omega)]
      · obtain ⟨j, hj, ej⟩ := List.getElem_of_mem ((in_pool hf).2 ⟨x, rfl, x1, x2⟩)
        exact g5 j x hj (by omega) ej x3
    | succ m ih =>
      intro k q hk g g1 g2 g3 g4 g5
      have hkl : k < (unitsP f (poolAt f i0)).length := by omega
      obtain ⟨x, ex, x1, x2⟩ := (in_pool hf).1 (List.getElem_mem hkl)
      have hxl : x < q.state.Units.length := by rw [g.right.2.2.2.1]; exact x1
      by_cases hxa : x = a
      · have hb : plan_planner_settle_o0_5_l0 (unitsP f (poolAt f i0)) ((a : Int), true, p) ((k : Int), q.fleet.Slots, q.fleet.Consumers, q.state.Known, q.state.Valid, q.state.Units, q.out) = some (.go (((k + 1 : Nat) : Int), q.fleet.Slots, q.fleet.Consumers, q.state.Known, q.state.Valid, q.state.Units, q.out)) := by
          unfold plan_planner_settle_o0_5_l0
          simp only
          rw [if_pos (by simp; omega), idx_lt hkl, w64 (by omega) (by omega)]
          simp only [Option.bind_some]
          rw [if_neg (by rw [ex, hxa]; simp)]
          rfl
        rw [iter_go hb]
        refine ih (k + 1) q (by omega) g g1 g2 g3 g4 fun j y hj hjk ey hya => ?_
        by_cases e : j = k
        · subst e
          rw [ex] at ey
          exact absurd (by omega : y = a) hya
        · exact g5 j y hj (by omega) ey hya
      · have hsq : servesU q.state (unitAt q.state a) = true := by rw [g3]; unfold servesU; rw [g2]; exact hsa
        obtain ⟨q', m1, m2, m3⟩ := mend_ex (i := x) g hr g1 x1 (.inl ⟨a, fun e => hxa e.symm, a1, a2.trans x2.symm, hsq⟩)
        have hb : plan_planner_settle_o0_5_l0 (unitsP f (poolAt f i0)) ((a : Int), true, p) ((k : Int), q.fleet.Slots, q.fleet.Consumers, q.state.Known, q.state.Valid, q.state.Units, q.out) = some (.go (((k + 1 : Nat) : Int), q'.fleet.Slots, q'.fleet.Consumers, q'.state.Known, q'.state.Valid, q'.state.Units, q'.out)) := by
          unfold plan_planner_settle_o0_5_l0
          simp only
          rw [if_pos (by simp; omega), idx_lt hkl, w64 (by omega) (by omega)]
          simp only [Option.bind_some]
          rw [if_pos (by rw [ex]; simp only [bne_iff_ne, ne_eq]; omega), ex]
          rw [show (⟨(⟨q.fleet.Slots, q.fleet.Consumers⟩ : api_Fleet), (⟨q.state.Known, q.state.Valid, q.state.Units⟩ : api_Rotation), q.out⟩ : plan_planner) = q from rfl, m1]
          rfl
        rw [iter_go hb]
        refine ih (k + 1) q' (by omega) m2 (by rw [m3]) (by rw [m3]; exact g2) ?_ (fun j hj => ?_) fun j y hj hjk ey hya => ?_
        · rw [m3, unitAt_set hxl, if_neg (fun e => hxa e.symm)]; exact g3
        · rw [m3, unitAt_set hxl]
          split
          · rfl
          · exact g4 j hj
        · rw [m3, unitAt_set hxl]
          split
          · rfl
          · rename_i hyx
            by_cases e : j = k
            · subst e
              rw [ex] at ey
              exact absurd (by omega : y = x) hyx
            · exact g5 j y hj (by omega) ey hya
  obtain ⟨q, k1, g, g1, g2, g3, g4, g5⟩ := key (unitsP f (poolAt f i0)).length 0 p (by omega) h hkn rfl rfl (fun j hj => hj) (fun j x _ hj => by omega)
  have k1' : iter (plan_planner_settle_o0_5_l0 (unitsP f (poolAt f i0)) ((a : Int), true, p)) (0, f.Slots, f.Consumers, p.state.Known, p.state.Valid, p.state.Units, p.out) = some (q.fleet.Slots, q.fleet.Consumers, q.state.Known, q.state.Valid, q.state.Units, q.out) := by
    rw [← k1, h.fl]; rfl
  rw [k1']
  simp only [Option.bind_some]
  rw [show (⟨(⟨q.fleet.Slots, q.fleet.Consumers⟩ : api_Fleet), (⟨q.state.Known, q.state.Valid, q.state.Units⟩ : api_Rotation), q.out⟩ : plan_planner) = q from rfl]
  have hal : a < q.state.Units.length := by rw [g.right.2.2.2.1]; exact a1
  have hvq : q.state.Valid = 2 ∨ q.state.Valid = 3 := by rw [g2]; exact hv
  obtain ⟨q', m1, m2, m3⟩ := mend_ex (i := a) g hr g1 a1 (by
    rcases fit_use hf a1 (hfit a a1) with ⟨j, j1, j2, j3⟩ | hlive
    · exact .inl ⟨j, j1, j2, j3, by rw [g5 j j2 (j3.trans a2) j1]; exact serves23 hvq (.inl rfl)⟩
    · exact .inr (sole_serves g.right g1 a1 hvq (by rw [g3]; unfold servesU; rw [g2]; exact hsa) hlive.1))
  rw [m1]
  refine ⟨q', rfl, m2, by rw [m3], by rw [m3]; exact g2, fun j j1 j2 => ?_, fun j hj => ?_⟩
  · rw [m3, unitAt_set hal]
    split
    · rfl
    · exact g5 j j1 j2 ‹_›
  · rw [m3, unitAt_set hal]
    split
    · rfl
    · exact g4 j hj

abbrev CP : Type := Int × (List api_Consumer) × Int × Int × (List api_Unit) × (List api_Step)
def comps (q : plan_planner) : CP := (q.fleet.Slots, q.fleet.Consumers, q.state.Known, q.state.Valid, q.state.Units, q.out)
theorem loop_pools {body : Int × CP → Option (Lp (Int × CP) CP)} {g : plan_planner → Int → Option plan_planner} (l : List Int) (Inv : Nat → plan_planner → Prop)
    (hb : ∀ (k : Nat) (hk : k < l.length) (q q' : plan_planner), g q l[k] = some q' → body ((k : Int), comps q) = some (.go (((k + 1 : Nat) : Int), comps q')))
    (he : ∀ q : plan_planner, body ((l.length : Int), comps q) = some (.out (comps q)))
    (hs : ∀ (k : Nat) (hk : k < l.length) (q : plan_planner), Inv k q → ∃ q', g q l[k] = some q' ∧ Inv (k + 1) q') {q0 : plan_planner} (h0 : Inv 0 q0) : ∃ q', iter body (0, comps q0) = some (comps q') ∧ Inv l.length q' := by
  have key : ∀ (m k : Nat) (q : plan_planner), k + m = l.length → Inv k q → ∃ q', iter body ((k : Int), comps q) = some (comps q') ∧ Inv l.length q' := fun m => by
    induction m with
    | zero =>
      intro k q h hi
      have : k = l.length := by omega
      subst this
      exact ⟨q, iter_out (he q), hi⟩
    | succ m ih =>
      intro k q h hi
      have hk : k < l.length := by omega
      obtain ⟨q', h1, h2⟩ := hs k hk q hi
      rw [iter_go (hb k hk q q' h1)]
      exact ih (k + 1) q' (by omega) h2
  exact key l.length 0 q0 (by omega) h0
theorem prep_body (l : List Int) (hl : l.length ≤ 1000) (k : Nat) (hk : k < l.length) (q q' : plan_planner) (h : plan_planner_prepare_o0_5 q l[k] = some q') : plan_From_l2 l ((k : Int), comps q) = some (.go (((k + 1 : Nat) : Int), comps q')) := by
  unfold plan_From_l2 comps
  simp only
  rw [if_pos (by simp; omega), idx_lt hk, w64 (by omega) (by omega)]
  simp only [Option.bind_some]
  rw [show (⟨(⟨q.fleet.Slots, q.fleet.Consumers⟩ : api_Fleet), (⟨q.state.Known, q.state.Valid, q.state.Units⟩ : api_Rotation), q.out⟩ : plan_planner) = q from rfl, h]
  rfl
theorem prep_end (l : List Int) (q : plan_planner) : plan_From_l2 l ((l.length : Int), comps q) = some (.out (comps q)) := by
  unfold plan_From_l2 comps
  rw [if_neg (by simp)]
theorem settle_body (l : List Int) (hl : l.length ≤ 1000) (k : Nat) (hk : k < l.length) (q q' : plan_planner) (h : plan_planner_settle_o0_5 q l[k] = some q') : plan_From_l1 l ((k : Int), comps q) = some (.go (((k + 1 : Nat) : Int), comps q')) := by
  unfold plan_From_l1 comps
  simp only
  rw [if_pos (by simp; omega), idx_lt hk, w64 (by omega) (by omega)]
  simp only [Option.bind_some]
  rw [show (⟨(⟨q.fleet.Slots, q.fleet.Consumers⟩ : api_Fleet), (⟨q.state.Known, q.state.Valid, q.state.Units⟩ : api_Rotation), q.out⟩ : plan_planner) = q from rfl, h]
  rfl
theorem settle_end (l : List Int) (q : plan_planner) : plan_From_l1 l ((l.length : Int), comps q) = some (.out (comps q)) := by
  unfold plan_From_l1 comps
  rw [if_neg (by simp)]
theorem pool_at {f : api_Fleet} {k : Nat} (hk : k < (poolsP f).length) : ∃ i, i < f.Consumers.length ∧ (poolsP f)[k] = poolAt f i := by
  obtain ⟨_, i, hi, e⟩ := mem_poolsP.1 (List.getElem_mem hk)
  exact ⟨i, hi, by rw [← e]; simp [poolAt, List.getD, hi]⟩
theorem at_pool {f : api_Fleet} (hf : FleetOk f) {i : Nat} (hi : i < f.Consumers.length) : ∃ k, ∃ h : k < (poolsP f).length, (poolsP f)[k] = poolAt f i :=
  List.getElem_of_mem (mem_poolsP.2 ⟨hf, i, hi, by simp [poolAt, List.getD, hi]⟩)
/-- HA looks at the valid secrets and the units alone -/
theorem HA_known {f : api_Fleet} {k k' v : Int} {us : List api_Unit} (h : HA f ⟨k, v, us⟩) : HA f ⟨k', v, us⟩ := h
theorem used_cases {f : api_Fleet} {s : api_Rotation} (h : RightOk f s) {j : Nat} (hj : j < f.Consumers.length) : (unitAt s j).Used = 0 ∨ (unitAt s j).Used = 1 ∨ (unitAt s j).Used = 2 ∨ (unitAt s j).Used = 3 := by
  have hl : j < s.Units.length := by rw [h.2.2.2.1]; exact hj
  have := (unit_cases (h.unit hl hj)).2
  rw [unitAt_get] at this
  rcases this with q | q
  · omega
  · exact .inl q.2
/-- steps at the issuer -/
theorem do_issuer {f : api_Fleet} {s0 : api_Rotation} {p : plan_planner} {k : Int} (h : Gd f s0 p) (hk : k = 1 ∨ k = 2 ∨ k = 3 ∨ k = 8)
    (hn : okStep f p.state ⟨k, 0⟩ = true → HA f (nextS f p.state ⟨k, 0⟩) ∧ Phi (nextS f p.state ⟨k, 0⟩) < Phi p.state) :
    Gd f s0 (doP p k 0) ∧ (doP p k 0).state = if okStep f p.state ⟨k, 0⟩ = true then nextS f p.state ⟨k, 0⟩ else p.state := by
  have h1 := h.right.1.2.1
  exact do_G (i := 0) h ⟨by simp only; omega, by simp only; omega, by simp, by simp; omega, fun _ => rfl⟩ hn
theorem from_ex {f : api_Fleet} {s0 : api_Rotation} (hr : RightOk f s0) (ha : HA f s0) (hfit : ∀ i, i < f.Consumers.length → fitP f (poolAt f i) = true) :
    ∃ p', plan_From f s0 = some p'.out ∧ Gd f s0 p' ∧ p'.state.Known = 3 ∧ p'.state.Valid = 2 ∧ ∀ j, j < f.Consumers.length → unitAt p'.state j = uE := by
  have hf := hr.1
  have h8 := hf.2.2.1
  have hpl := poolsP_len f
  have g0 : Gd f s0 ⟨f, s0, []⟩ := ⟨rfl, hr, ha, trivial, rfl, by simp⟩
  obtain ⟨g1, e1⟩ := do_issuer (k := 1) g0 (.inl rfl) fun hok => by
    have hk : s0.Known = 1 := by simpa [okStep] using hok
    have : nextS f s0 ⟨1, 0⟩ = ⟨3, s0.Valid, s0.Units⟩ := rfl
    simp only [this]
    refine ⟨HA_known ha, ?_⟩
    unfold Phi kap
    simp only [hk]
    simp
  have e1 : (doP ⟨f, s0, []⟩ 1 0).state = ⟨3, s0.Valid, s0.Units⟩ := by
    rw [e1]
    rcases hr.2.1 with hk | hk
    · rw [if_pos (by simp [okStep, hk])]; rfl
    · rw [if_neg (by simp [okStep, hk])]
      show s0 = _
      rw [← hk]
  generalize hp1 : doP ⟨f, s0, []⟩ 1 0 = p1 at g1 e1
  have hv := (bitsP_val hr.2.2.1).1
  obtain ⟨g2, e2⟩ := do_issuer (k := 2) g1 (.inr (.inl rfl)) fun hok => by
    have hk : s0.Valid = 1 ∧ f.Slots = 2 := by simpa [okStep, e1] using hok
    have : nextS f p1.state ⟨2, 0⟩ = ⟨3, 3, s0.Units⟩ := by rw [e1]; rfl
    rw [this, e1]
    refine ⟨fun i hi => ?_, ?_⟩
    · obtain ⟨j, j1, j2, j3⟩ := ha i hi
      refine ⟨j, j1, j2, ?_⟩
      have hu := used_cases hr j1
      unfold servesU at j3 ⊢
      rw [hk.1] at j3
      have eu : unitAt (⟨3, 3, s0.Units⟩ : api_Rotation) j = unitAt s0 j := rfl
      rw [eu]
      rcases hu with q | q | q | q <;> rw [q] at j3 ⊢
      · rw [and_0] at j3; simp at j3
      · exact (by decide : (bAnd .i64 1 3 != 0) = true)
      · exact (by decide : (bAnd .i64 2 3 != 0) = true)
      · exact (by decide : (bAnd .i64 3 3 != 0) = true)
    · unfold Phi kap kapV
      simp only [hk.1]
      simp
  have hv2 : (doP p1 2 0).state.Known = 3 ∧ (((doP p1 2 0).state.Valid = 1 ∧ f.Slots ≠ 2) ∨ (doP p1 2 0).state.Valid = 2 ∨ (doP p1 2 0).state.Valid = 3) := by
    rw [e2]
    by_cases hok : okStep f p1.state ⟨2, 0⟩ = true
    · rw [if_pos hok]
      refine ⟨by rw [e1]; rfl, .inr (.inr rfl)⟩
    · rw [if_neg hok, e1]
      refine ⟨rfl, ?_⟩
      have hok' : ¬ (s0.Valid = 1 ∧ f.Slots = 2) := by simpa [okStep, e1] using hok
      simp only
      rcases hv with q | q | q
      · exact .inl ⟨q, fun e => hok' ⟨q, e⟩⟩
      · exact .inr (.inl q)
      · exact .inr (.inr q)
  generalize hp2 : doP p1 2 0 = p2 at g2 hv2
  -- the second part
  have part2 : ∀ q : plan_planner, Gd f s0 q → q.state.Known = 3 → (q.state.Valid = 2 ∨ q.state.Valid = 3) → ∃ p', plan_From_j0 (poolsP f) (comps q) = some p'.out ∧ Gd f s0 p' ∧ p'.state.Known = 3 ∧ p'.state.Valid = 2 ∧ ∀ j, j < f.Consumers.length → unitAt p'.state j = uE := fun q gq kq vq => by
    obtain ⟨q', i1, i2, i3, i4, i5⟩ := loop_pools (body := plan_From_l1 (poolsP f)) (g := plan_planner_settle_o0_5) (poolsP f)
      (fun k q => Gd f s0 q ∧ q.state.Known = 3 ∧ (q.state.Valid = 2 ∨ q.state.Valid = 3) ∧ ∀ i, i < f.Consumers.length → (∃ k', ∃ h : k' < (poolsP f).length, k' < k ∧ (poolsP f)[k'] = poolAt f i) → unitAt q.state i = uE)
      (settle_body _ (by omega)) (settle_end _) (fun k hk q ⟨a1, a2, a3, a4⟩ => by
        obtain ⟨i, hi, e⟩ := pool_at hk
        obtain ⟨q', b1, b2, b3, b4, b5, b6⟩ := settle_ex a1 hr a2 a3 hi hfit
        refine ⟨q', by rw [e]; exact b1, b2, b3, by rw [b4]; exact a3, fun j hj ⟨k', hk', hlt, e'⟩ => ?_⟩
        by_cases hkk : k' = k
        · subst hkk
          exact b5 j hj (by rw [← e', e])
        · exact b6 j (a4 j hj ⟨k', hk', by omega, e'⟩)) (q0 := q) ⟨gq, kq, vq, fun i _ ⟨k', _, h, _⟩ => by omega⟩
    have hall : ∀ j, j < f.Consumers.length → unitAt q'.state j = uE := fun j hj => by
      obtain ⟨k, hk, e⟩ := at_pool hf hj
      exact i5 j hj ⟨k, hk, hk, e⟩
    obtain ⟨g3, e3⟩ := do_issuer (k := 8) i2 (.inr (.inr (.inr rfl))) fun hok => by
      have hk : q'.state.Valid = 3 := by simpa [okStep] using hok
      have : nextS f q'.state ⟨8, 0⟩ = ⟨q'.state.Known, 2, q'.state.Units⟩ := rfl
      rw [this]
      refine ⟨fun i hi => ⟨i, hi, rfl, ?_⟩, ?_⟩
      · have eu : unitAt (⟨q'.state.Known, 2, q'.state.Units⟩ : api_Rotation) i = unitAt q'.state i := rfl
        rw [eu, hall i hi]
        exact serves23 (.inl rfl) (.inl rfl)
      · unfold Phi kap kapV
        simp only [hk]
        simp
    unfold plan_From_j0
    have i1' : iter (plan_From_l1 (poolsP f)) (0, (comps q).1, (comps q).2.1, (comps q).2.2.1, (comps q).2.2.2.1, (comps q).2.2.2.2.1, (comps q).2.2.2.2.2) = some (comps q') := i1
    rw [i1']
    simp only [Option.bind_some]
    rw [show (⟨(⟨(comps q').1, (comps q').2.1⟩ : api_Fleet), (⟨(comps q').2.2.1, (comps q').2.2.2.1, (comps q').2.2.2.2.1⟩ : api_Rotation), (comps q').2.2.2.2.2⟩ : plan_planner) = q' from rfl, show (0 : Int) = ((0 : Nat) : Int) from rfl, do_sp (i2.len hr)]
    refine ⟨_, rfl, g3, ?_, ?_, fun j hj => ?_⟩
    · rw [e3]; split <;> exact i3
    · rw [e3]
      by_cases hok : okStep f q'.state ⟨8, 0⟩ = true
      · rw [if_pos hok]; rfl
      · rw [if_neg hok]
        have : q'.state.Valid ≠ 3 := by simpa [okStep] using hok
        exact i4.resolve_right this
    · rw [e3]
      split
      · exact hall j hj
      · exact hall j hj
  unfold plan_From
  rw [fpools_sp]
  simp only [Option.bind_some]
  rw [show (0 : Int) = ((0 : Nat) : Int) from rfl, do_sp (by simp), Option.bind_some, hp1, do_sp (g1.len hr), Option.bind_some, hp2]
  obtain ⟨kn2, hv2⟩ := hv2
  rcases hv2 with ⟨hv1, hsl⟩ | hv2
  · rw [if_pos (by simp [hv1])]
    obtain ⟨q', i1, i2, i3, i4, i5⟩ := loop_pools (body := plan_From_l2 (poolsP f)) (g := plan_planner_prepare_o0_5) (poolsP f)
      (fun k q => Gd f s0 q ∧ q.state.Known = 3 ∧ q.state.Valid = 1 ∧ ∀ i, i < f.Consumers.length → (∃ k', ∃ h : k' < (poolsP f).length, k' < k ∧ (poolsP f)[k'] = poolAt f i) → ∃ j, j < f.Consumers.length ∧ poolAt f j = poolAt f i ∧ serves2 q.state j)
      (prep_body _ (by omega)) (prep_end _) (fun k hk q ⟨a1, a2, a3, a4⟩ => by
        obtain ⟨i, hi, e⟩ := pool_at hk
        obtain ⟨q', b1, b2, b3, b4, b5, b6⟩ := prepare_ex a1 hr a2 a3 hsl hi hfit
        refine ⟨q', by rw [e]; exact b1, b2, b3, b4, fun j hj ⟨k', hk', hlt, e'⟩ => ?_⟩
        by_cases hkk : k' = k
        · subst hkk
          rw [show poolAt f j = poolAt f i by rw [← e', e]]
          exact b5
        · obtain ⟨x, x1, x2, x3⟩ := a4 j hj ⟨k', hk', by omega, e'⟩
          exact ⟨x, x1, x2, b6 x x3⟩) (q0 := p2) ⟨g2, kn2, hv1, fun i _ ⟨k', _, h, _⟩ => by omega⟩
    obtain ⟨g3, e3⟩ := do_issuer (k := 3) i2 (.inr (.inr (.inl rfl))) fun hok => by
      have : nextS f q'.state ⟨3, 0⟩ = ⟨q'.state.Known, 2, q'.state.Units⟩ := rfl
      rw [this]
      refine ⟨fun i hi => ?_, ?_⟩
      · obtain ⟨k, hk, e⟩ := at_pool hf hi
        obtain ⟨j, j1, j2, j3⟩ := i5 i hi ⟨k, hk, hk, e⟩
        exact ⟨j, j1, j2, by unfold servesU; exact bne_iff_ne.2 j3⟩
      · unfold Phi kap kapV
        simp only [i4]
        simp
    have e3 : (doP q' 3 0).state = ⟨3, 2, q'.state.Units⟩ := by
      rw [e3, if_pos (by simp [okStep, i3, i4])]
      show (⟨q'.state.Known, 2, q'.state.Units⟩ : api_Rotation) = _
      rw [i3]
    have i1' : iter (plan_From_l2 (poolsP f)) (((0 : Nat) : Int), p2.fleet.Slots, p2.fleet.Consumers, p2.state.Known, p2.state.Valid, p2.state.Units, p2.out) = some (comps q') := i1
    rw [i1']
    simp only [Option.bind_some]
    rw [show (⟨(⟨(comps q').1, (comps q').2.1⟩ : api_Fleet), (⟨(comps q').2.2.1, (comps q').2.2.2.1, (comps q').2.2.2.2.1⟩ : api_Rotation), (comps q').2.2.2.2.2⟩ : plan_planner) = q' from rfl, do_sp (i2.len hr)]
    simp only [Option.bind_some]
    exact part2 _ g3 (by rw [e3]) (.inl (by rw [e3]))
  · rw [if_neg (by rcases hv2 with q | q <;> simp [q])]
    exact part2 p2 g2 kn2 hv2

theorem iter_find1 {α ε : Type} {body : Int → Option (Lp Int ε)} (l : List α) (p : α → Bool) (A : α → ε) (B : ε)
    (hgo : ∀ (i : Nat) (h : i < l.length), body (i : Int) = some (if p l[i] = true then .out (A l[i]) else .go (((i + 1 : Nat) : Int))))
    (hend : body (l.length : Int) = some (.out B)) : iter body 0 = some (((l.find? p).map A).getD B) := by
  have key : ∀ (m i : Nat), i + m = l.length → iter body (i : Int) = some ((((l.drop i).find? p).map A).getD B) := fun m => by
    induction m with
    | zero =>
      intro i h
      have : i = l.length := by omega
      subst this
      rw [List.drop_length]
      exact iter_out hend
    | succ m ih =>
      intro i h
      have hi : i < l.length := by omega
      have hb := hgo i hi
      rw [List.drop_eq_getElem_cons hi, List.find?_cons]
      cases hp : p l[i] with
      | true =>
        rw [if_pos hp] at hb
        exact iter_out hb
      | false =>
        rw [if_neg (by simp [hp])] at hb
        rw [iter_go hb]
        exact ih (i + 1) (by omega)
  exact key l.length 0 (by omega)

/-! Which pool does not fit -/
def whyP (f : api_Fleet) : api_Hindrance × Bool := match (poolsP f).find? (fun p => !fitP f p) with | some p => (⟨p⟩, true) | none => (⟨0⟩, false)
theorem why_loop (f : api_Fleet) : iter (plan_Why_l0 (poolsP f) f) 0 = some ((((poolsP f).find? (fun p => !fitP f p)).map (fun p => Sum.inr ((⟨p⟩ : api_Hindrance), true))).getD (Sum.inl ())) := by
  have hpl := poolsP_len f
  refine iter_find1 (poolsP f) (fun p => !fitP f p) (fun p => Sum.inr ((⟨p⟩ : api_Hindrance), true)) (Sum.inl ()) (fun i hi => ?_) ?_
  · unfold plan_Why_l0
    rw [if_pos (by simp; omega), idx_lt hi, w64 (by omega) (by omega)]
    simp only [Option.bind_some, fit_sp]
    split <;> rfl
  · unfold plan_Why_l0
    rw [if_neg (by simp)]
theorem why_sp (f : api_Fleet) : plan_Why f = some (whyP f) := by
  unfold plan_Why whyP
  rw [fpools_sp]
  simp only [Option.bind_some]
  rw [why_loop]
  cases (poolsP f).find? (fun p => !fitP f p) <;> rfl
theorem why_fit {f : api_Fleet} : (whyP f).2 = false ↔ ∀ p, p ∈ poolsP f → fitP f p = true := by
  unfold whyP
  cases h : (poolsP f).find? (fun p => !fitP f p) with
  | none =>
    rw [List.find?_eq_none] at h
    simpa using h
  | some p =>
    simp only [Bool.true_eq_false, false_iff]
    intro hall
    have h1 := List.find?_some h
    have h2 := hall p (List.mem_of_find?_eq_some h)
    rw [h2] at h1; cases h1
theorem fits {f : api_Fleet} (hf : FleetOk f) (h : (whyP f).2 = false) (i : Nat) (hi : i < f.Consumers.length) : fitP f (poolAt f i) = true :=
  why_fit.1 h _ (mem_poolsP.2 ⟨hf, i, hi, by simp [poolAt, List.getD, hi]⟩)

/-! What holds -/
def holdP (f : api_Fleet) (s : api_Rotation) : Bool := decide (RightOk f s) && ((servedP f s).length == (poolsP f).length)
theorem hold_HA {f : api_Fleet} {s : api_Rotation} (hr : RightOk f s) : holdP f s = true ↔ HA f s := by
  unfold holdP
  rw [HA_pools hr, decide_eq_true hr, Bool.true_and, beq_iff_eq]
  constructor
  · intro h
    rw [← rserved_eq] at h ⊢
    unfold rservedP at h ⊢
    exact List.filter_eq_self.2 (List.length_filter_eq_length_iff.1 h)
  · intro h; rw [h]

/-! Checking a list of steps -/
theorem fault_safe {f : api_Fleet} : ∀ (l : List api_Step) (i : Int) (s : api_Rotation), (faultP f i s l).2 = 0 → safeRun f s l := fun l => by
  induction l with
  | nil => intro i s _; trivial
  | cons x l ih =>
    intro i s h
    rw [faultP_eq] at h
    by_cases h1 : (applyP f s x).2 ≠ 0
    · rw [if_pos h1] at h; exact absurd h h1
    · rw [if_neg h1] at h
      by_cases h2 : ¬ holdsP f s (applyP f s x).1
      · rw [if_pos h2] at h; cases h
      · rw [if_neg h2] at h
        refine ⟨?_, ih _ _ h⟩
        unfold safeP
        have h1 : (applyP f s x).2 = 0 := by omega
        have h2 := Classical.not_not.1 h2
        simp [h1, h2]
theorem endS_last {f : api_Fleet} : ∀ (l : List api_Step) (s : api_Rotation) (pre : List api_Rotation), RightOk f s → safeRun f s l → (pre ++ [s] ++ (runP f s l).1).getLast? = some (endS f s l) := fun l => by
  induction l with
  | nil => intro s pre _ _; simp [runP, endS]
  | cons x l ih =>
    intro s pre hr hs
    have h0 := safe_possible hs.1
    have r1 := (apply_right hr h0).1
    have q1 := (safeRun_run l _ r1 hs.2).1
    rw [runP_eq, if_neg (not_not_intro h0), if_neg (not_not_intro q1)]
    have := ih (applyP f s x).1 (pre ++ [s]) r1 hs.2
    rw [show pre ++ [s] ++ (applyP f s x).1 :: (runP f (applyP f s x).1 l).1 = pre ++ [s] ++ [(applyP f s x).1] ++ (runP f (applyP f s x).1 l).1 by simp]
    exact this
/-- the last state of a run -/
theorem run_last {f : api_Fleet} {s : api_Rotation} {l : List api_Step} (hr : RightOk f s) (hs : safeRun f s l) (hl : l.length ≤ 1000) (h0 : 0 < (runP f s l).1.length) :
    IntKind.i64.wrap (((runP f s l).1.length : Int) - 1) = ((runP f s l).1.length : Int) - 1 ∧ idx (runP f s l).1 (((runP f s l).1.length : Int) - 1) = some (endS f s l) := by
  have hlen := (runP_right l s hr (safeRun_run l s hr hs).1).1
  refine ⟨w64 (by omega) (by omega), ?_⟩
  have h1 := endS_last l s [] hr hs
  rw [idx_toNat (by omega) (by omega)]
  have e : (((runP f s l).1.length : Int) - 1).toNat = (runP f s l).1.length - 1 := by omega
  simp only [e]
  rw [List.nil_append, List.getLast?_eq_getElem?, List.length_append, List.length_singleton, List.getElem?_append_right (by simp; omega)] at h1
  simp only [List.length_singleton] at h1
  rw [show 1 + (runP f s l).1.length - 1 - 1 = (runP f s l).1.length - 1 by omega, List.getElem?_eq_getElem (by omega)] at h1
  exact h1
theorem run_nil {f : api_Fleet} {s : api_Rotation} {l : List api_Step} (hr : RightOk f s) (hs : safeRun f s l) (h0 : ¬ 0 < (runP f s l).1.length) : endS f s l = s := by
  have hlen := (runP_right l s hr (safeRun_run l s hr hs).1).1
  have : l = [] := List.eq_nil_of_length_eq_zero (by omega)
  subst this; rfl
def checkP (f : api_Fleet) (s : api_Rotation) (l : List api_Step) : Bool := decide (RightOk f s) && ((faultP f 0 s l).2 == 0 && endedP f (endS f s l))
/-! Fallback -/
def makeE (f : api_Fleet) (s : api_Rotation) : Int := if ¬ RightOk f s then 36 else if ((whyP f).2 || !holdP f s) = true then 38 else 0
/-- a good list of steps from s -/
structure Good (f : api_Fleet) (s : api_Rotation) (l : List api_Step) : Prop where
  run : safeRun f s l
  len : l.length ≤ 4 * f.Consumers.length + 3
  ended : endedP f (endS f s l) = true
  right : RightOk f (endS f s l)
  ha : HA f (endS f s l)
  kn : (endS f s l).Known = 3
  va : (endS f s l).Valid = 2
  allE : ∀ j, j < f.Consumers.length → unitAt (endS f s l) j = uE
theorem from_good {f : api_Fleet} {s : api_Rotation} (hr : RightOk f s) (ha : HA f s) (hw : (whyP f).2 = false) : ∃ l, plan_From f s = some l ∧ Good f s l := by
  obtain ⟨p', h1, h2, h3, h4, h5⟩ := from_ex hr ha (fits hr.1 hw)
  refine ⟨_, h1, h2.run, ?_, ?_, by rw [h2.en]; exact h2.right, by rw [h2.en]; exact h2.ha, by rw [h2.en]; exact h3, by rw [h2.en]; exact h4, by rw [h2.en]; exact h5⟩
  · have := h2.left
    have := Phi_le s
    have := hr.2.2.2.1
    omega
  · rw [h2.en]
    unfold endedP
    rw [decide_eq_true h2.right, h4]
    simp only [Bool.true_and, beq_self_eq_true, List.all_eq_true]
    intro u hu
    obtain ⟨i, hi, rfl⟩ := List.getElem_of_mem hu
    rw [unitAt_get, h5 i (by rw [← h2.right.2.2.2.1]; exact hi)]
    rfl
theorem good_check {f : api_Fleet} {s : api_Rotation} {l : List api_Step} (hr : RightOk f s) (h : Good f s l) : checkP f s l = true := by
  unfold checkP
  rw [decide_eq_true hr, safeRun_fault l 0 s h.run, h.ended]; rfl
/-! Forward -/
def forwardP (f : api_Fleet) (a b : api_Rotation) : Bool := decide (RightOk f a) && (decide (RightOk f b) && ((bAndNot .i64 a.Known b.Known == 0) && (((bAnd .i64 a.Valid 2 == 0) || (bAnd .i64 b.Valid 2 != 0)) && ((bAnd .i64 a.Valid 1 != 0) || (bAnd .i64 b.Valid 1 == 0)))))
def boundP (f : api_Fleet) : Int := if FleetOk f then 5 * (f.Consumers.length : Int) + 3 else 0
/-! Fleets that fit -/
theorem make_own_eq (m : make_Tape) (k : Int) : make_Fleet_own1 m k = make_Fleet m k := by
  have : make_Fleet_own1_l0 = make_Fleet_l0 := by funext s; rfl
  unfold make_Fleet_own1 make_Fleet
  rw [this]
/-- two fleets with the same pools have the same units -/
theorem units_same {f g : api_Fleet} (hs : f.Slots = g.Slots) (h : f.Consumers.map (·.Pool) = g.Consumers.map (·.Pool)) : (FleetOk f → FleetOk g) ∧ ∀ p, FleetOk f → unitsP f p = unitsP g p := by
  have hl : f.Consumers.length = g.Consumers.length := by simpa using congrArg List.length h
  have hp : ∀ i, (hi : i < f.Consumers.length) → (hi' : i < g.Consumers.length) → f.Consumers[i].Pool = g.Consumers[i].Pool := fun i hi hi' => by
    have := congrArg (fun l : List Int => l[i]?) h
    simpa [hi, hi'] using this
  have hok : FleetOk f → FleetOk g := fun hf => ⟨hs ▸ hf.1, by rw [← hl]; exact hf.2.1, by rw [← hl]; exact hf.2.2.1, fun i hi => by
    have := hf.2.2.2 i (by omega)
    unfold poolP at this ⊢
    rw [← hp i (by omega) hi]; exact this⟩
  refine ⟨hok, fun p hf => ?_⟩
  unfold unitsP
  rw [if_pos hf, if_pos (hok hf), hl]
  congr 1
  apply List.filter_congr
  intro i hi
  have hi' : i < g.Consumers.length := by simpa using hi
  have h2 := hp i (by omega) hi'
  simp only [List.getD, List.getElem?_eq_getElem hi', List.getElem?_eq_getElem (show i < f.Consumers.length by omega), Option.getD_some, h2]
theorem make_FitFleet_ex {m : make_Tape} (h : TOk m) {most : Int} (h1 : 1 ≤ most) (h8 : most ≤ 8) : ∃ f m', make_FitFleet m most = some (f, m') ∧ FleetOk f ∧ (f.Consumers.length : Int) ≤ most ∧ (whyP f).2 = false ∧ TOk m' := by
  unfold make_FitFleet
  rw [make_own_eq]
  obtain ⟨f, m1, e1, hf, hle, _, t1⟩ := make_Fleet_ex h h1 h8
  rw [e1]
  simp only [Option.bind_some]
  have c8 := hf.2.2.1
  let samep : List api_Consumer → Prop := fun cs => cs.map (·.Pool) = f.Consumers.map (·.Pool)
  let good : List api_Consumer → Nat → Prop := fun cs i => (unitsP f (poolAt f i)).length = 1 → (cs.getD i default).Live = true ∧ ((cs.getD i default).Dual = true ∨ f.Slots = 2)
  have key : ∀ (mm k : Nat) (cs : List api_Consumer), k + mm = f.Consumers.length → samep cs → (∀ i, i < k → good cs i) → ∃ cs', iter (make_FitFleet_l0 (f, m1)) ((k : Int), cs) = some cs' ∧ samep cs' ∧ ∀ i, i < f.Consumers.length → good cs' i := fun mm => by
    induction mm with
    | zero =>
      intro k cs hk hs hg
      refine ⟨cs, iter_out ?_, hs, fun i hi => hg i (by omega)⟩
      unfold make_FitFleet_l0
      rw [if_neg (by simp; omega)]
    | succ mm ih =>
      intro k cs hk hs hg
      have hcl : cs.length = f.Consumers.length := by simpa using congrArg List.length hs
      have hk' : k < cs.length := by omega
      have hkf : k < f.Consumers.length := by omega
      have hpk : cs[k].Pool = poolAt f k := by
        have := congrArg (fun l : List Int => l[k]?) hs
        simpa [hk', hkf, poolAt, List.getD] using this
      have hun : unitsP ⟨f.Slots, cs⟩ (poolAt f k) = unitsP f (poolAt f k) := ((units_same (f := f) (g := ⟨f.Slots, cs⟩) rfl hs.symm).2 _ hf).symm
      have hsame : ∀ c : api_Consumer, c.Pool = cs[k].Pool → samep (cs.set k c) := fun c hc => by
        show (cs.set k c).map (·.Pool) = _
        rw [List.map_set, hc, ← hs]
        apply List.ext_getElem?
        intro j
        rw [List.getElem?_set]
        split
        · rename_i e; subst e; simp [hk']
        · rfl
      by_cases hone : (unitsP f (poolAt f k)).length = 1
      · have hb : ∃ c : api_Consumer, c.Pool = cs[k].Pool ∧ c.Live = true ∧ (c.Dual = true ∨ f.Slots = 2) ∧ make_FitFleet_l0 (f, m1) ((k : Int), cs) = some (.go (((k + 1 : Nat) : Int), cs.set k c)) := by
          unfold make_FitFleet_l0
          simp only
          rw [if_pos (by simp; omega), ck_t (by simp; omega), idx_lt hk', w64 (by omega) (by omega)]
          simp only [Option.bind_some, units_sp]
          rw [hpk, hun, if_pos (by simp [hone])]
          simp only [Int.toNat_natCast]
          rw [ck_t (by simp; omega)]
          simp only [Option.bind_some]
          cases hd : cs[k].Dual with
          | true => exact ⟨⟨poolAt f k, true, true⟩, rfl, rfl, .inl rfl, by simp [List.length_set, hk', ck]⟩
          | false =>
            refine ⟨⟨poolAt f k, f.Slots == 1, true⟩, rfl, rfl, ?_, by simp [List.length_set, hk', ck]⟩
            rcases hf.1 with e | e
            · left; simp [e]
            · exact .inr e
        obtain ⟨c, c1, c2, c3, hb⟩ := hb
        rw [iter_go hb]
        refine ih (k + 1) _ (by omega) (hsame c c1) fun i hi => ?_
        intro hu
        by_cases e : i = k
        · subst e
          have : (cs.set i c).getD i default = c := by simp [List.getD, hk']
          rw [this]; exact ⟨c2, c3⟩
        · have : (cs.set k c).getD i default = cs.getD i default := by simp [List.getD, List.getElem?_set, show ¬ k = i from fun q => e q.symm]
          rw [this]
          exact hg i (by omega) hu
      · have hb : make_FitFleet_l0 (f, m1) ((k : Int), cs) = some (.go (((k + 1 : Nat) : Int), cs)) := by
          unfold make_FitFleet_l0
          simp only
          rw [if_pos (by simp; omega), ck_t (by simp; omega), idx_lt hk', w64 (by omega) (by omega)]
          simp only [Option.bind_some, units_sp]
          rw [hpk, hun, if_neg (by simp; omega)]; rfl
        rw [iter_go hb]
        refine ih (k + 1) _ (by omega) hs fun i hi => ?_
        intro hu
        by_cases e : i = k
        · subst e; exact absurd hu hone
        · exact hg i (by omega) hu
  obtain ⟨cs, i1, i2, i3⟩ := key f.Consumers.length 0 f.Consumers (by omega) rfl (fun i hi => by omega)
  have i1' : iter (make_FitFleet_l0 (f, m1)) (0, f.Consumers) = some cs := i1
  rw [i1']
  have hs := units_same (f := f) (g := ⟨f.Slots, cs⟩) rfl i2.symm
  have hg := hs.1 hf
  have hcl : cs.length = f.Consumers.length := by simpa using congrArg List.length i2
  refine ⟨_, _, rfl, hg, by simp only; omega, ?_, t1⟩
  rw [why_fit]
  intro p hp
  obtain ⟨_, i, hi, e⟩ := mem_poolsP.1 hp
  simp only at hi e
  have hif : i < f.Consumers.length := by omega
  have hpk : poolAt f i = p := by
    have := congrArg (fun l : List Int => l[i]?) i2
    have h2 : cs[i].Pool = poolAt f i := by simpa [hi, hif, poolAt, List.getD] using this
    rw [← h2, e]
  have hgi := i3 i hif
  simp only [good] at hgi
  rw [hpk] at hgi
  unfold fitP
  rw [← hs.2 p hf]
  by_cases hone : (unitsP f p).length = 1
  · rw [if_pos hone]
    obtain ⟨x, hx⟩ := List.length_eq_one_iff.1 hone
    have hm : (i : Int) ∈ unitsP f p := (in_pool hf).2 ⟨i, rfl, hif, hpk⟩
    rw [hx] at hm ⊢
    have ex : x = (i : Int) := (List.mem_singleton.1 hm).symm
    obtain ⟨g1, g2⟩ := hgi hone
    simp only [List.headD_cons, ex, Int.toNat_natCast, consAt]
    rw [g1, Bool.true_and]
    rcases g2 with g2 | g2
    · rw [g2]; rfl
    · simp [g2]
  · rw [if_neg hone]
    have hm : (i : Int) ∈ unitsP f p := (in_pool hf).2 ⟨i, rfl, hif, hpk⟩
    have := List.length_pos_of_mem hm
    simp; omega
/-! States that are held -/
theorem start_HA (f : api_Fleet) : HA f (startR f) := fun i hi => ⟨i, hi, rfl, by
  have : unitAt (startR f) i = ⟨true, 1, 1⟩ := by simp [unitAt, startR, List.getD, hi]
  rw [this]
  show (bAnd .i64 1 1 != 0) = true
  decide⟩
theorem holds_HA {f : api_Fleet} {s s' : api_Rotation} (hs : RightOk f s) (hr : RightOk f s') (ha : HA f s) (h : holdsP f s s') : HA f s' := fun i hi => by
  have : poolAt f i ∈ servedP f s := by rw [(servedP_ok hs).2, mem_raw hs.2.2.2.1]; exact ha i hi
  have := h _ this
  rwa [(servedP_ok hr).2, mem_raw hr.2.2.2.1] at this
theorem safe_HA {f : api_Fleet} {s : api_Rotation} {x : api_Step} (hs : RightOk f s) (ha : HA f s) (h : safeP f s x = true) : HA f (applyP f s x).1 := by
  have h0 := safe_possible h
  have hr := (apply_right hs h0).1
  refine holds_HA hs hr ha ?_
  unfold safeP at h
  simp only [Bool.and_eq_true, decide_eq_true_eq] at h
  exact h.2
theorem make_Held_ex {m : make_Tape} (h : TOk m) {f : api_Fleet} (hf : FleetOk f) : ∃ s m', make_Held m f = some (s, m') ∧ RightOk f s ∧ HA f s ∧ TOk m' := by
  unfold make_Held
  rw [rstart_sp, if_pos hf]
  simp only [Option.bind_some]
  obtain ⟨k, m1, e1, k1, k2, t1⟩ := next_ex h (n := 16) (by omega)
  rw [e1]
  simp only [Option.bind_some]
  have c8 := hf.2.2.1
  have key : ∃ e, iter (make_Held_l0 f) (k, m1.L, m1.at_, (startR f).Known, (startR f).Valid, (startR f).Units) = some e ∧ (match e with | .inl v => TOk ⟨v.1, v.2.1⟩ ∧ RightOk f ⟨v.2.2.1, v.2.2.2.1, v.2.2.2.2⟩ ∧ HA f ⟨v.2.2.1, v.2.2.2.1, v.2.2.2.2⟩ | .inr v => TOk v.2 ∧ RightOk f v.1 ∧ HA f v.1) := by
    refine iter_ex (body := make_Held_l0 f) (fun q : SR => 0 ≤ q.1 ∧ q.1 ≤ 16 ∧ TOk ⟨q.2.1, q.2.2.1⟩ ∧ RightOk f ⟨q.2.2.2.1, q.2.2.2.2.1, q.2.2.2.2.2⟩ ∧ HA f ⟨q.2.2.2.1, q.2.2.2.2.1, q.2.2.2.2.2⟩) (fun s => s.1.toNat) _ ?_ ⟨k1, by simp only; omega, t1, start_right hf, start_HA f⟩
    rintro ⟨j, L, at_, kn, va, us⟩ ⟨g1, g0, g2, g3, g4⟩
    simp only at g1 g0 g2 g3 g4 ⊢
    unfold make_Held_l0
    by_cases hj : 0 < j
    case neg =>
      right
      simp only
      rw [if_neg (by simpa using hj)]
      exact ⟨_, rfl, g2, g3, g4⟩
    simp only
    rw [if_pos (by simpa using hj), rchoices_sp (by omega)]
    simp only [Option.bind_some]
    have cl := choicesC_len (sf := safeP f ⟨kn, va, us⟩) c8
    by_cases hc : (choicesC (safeP f ⟨kn, va, us⟩) f.Consumers.length).length = 0
    · right
      rw [if_pos (by simp [hc])]
      exact ⟨_, rfl, g2, g3, g4⟩
    left
    rw [if_neg (by simpa using hc)]
    obtain ⟨v, m3, e3, v1, v2, t3⟩ := next_ex g2 (n := ((choicesC (safeP f ⟨kn, va, us⟩) f.Consumers.length).length : Int)) (by omega)
    rw [e3]
    simp only [Option.bind_some]
    rw [idx_toNat v1 (by omega)]
    have hw : IntKind.i64.wrap (j - 1) = j - 1 := w64 (by omega) (by omega)
    simp only [Option.bind_some, rapply_sp]
    rw [hw]
    have hm := mem_choicesC.1 (List.getElem_mem (l := choicesC (safeP f ⟨kn, va, us⟩) f.Consumers.length) (n := v.toNat) (by omega))
    obtain ⟨_, _, _, _, hx⟩ := hm
    exact ⟨_, rfl, ⟨by simp only; omega, by simp only; omega, t3, (apply_right g3 (safe_possible hx)).1, safe_HA g3 g4 hx⟩, by simp; omega⟩
  obtain ⟨e, he, hp⟩ := key
  rw [he]
  cases e with
  | inl v => exact ⟨_, _, rfl, hp.2.1, hp.2.2, hp.1⟩
  | inr v => exact ⟨_, _, rfl, hp.2.1, hp.2.2, hp.1⟩

/-! awake -/
def fC : api_Fleet := ⟨1, [⟨0, false, false⟩, ⟨0, false, false⟩]⟩
def sC : api_Rotation := ⟨3, 2, [⟨true, 2, 2⟩, ⟨true, 1, 1⟩]⟩
def fD : api_Fleet := ⟨2, [⟨4, false, false⟩]⟩
theorem fC_ok : FleetOk fC := by decide
theorem fD_ok : FleetOk fD := by decide
theorem unC : unitsP fC 0 = [0, 1] := by decide
theorem unD : unitsP fD 4 = [0] := by decide
theorem poC : poolsP fC = [0] := by decide
theorem poD : poolsP fD = [4] := by decide
theorem whyC : (whyP fC).2 = false := by
  rw [why_fit, poC]
  intro p hp
  have : p = 0 := by simpa using hp
  subst this
  unfold fitP
  rw [unC]; rfl
theorem whyD : whyP fD = (⟨4⟩, true) := by
  have : fitP fD 4 = false := by unfold fitP; rw [unD]; rfl
  unfold whyP
  rw [poD]
  simp [this]
theorem sC_right : RightOk fC sC := by
  refine ⟨fC_ok, .inr rfl, bits3, rfl, fun i h h' => ?_⟩
  have b1 : bitsP 1 3 false = true := bits13
  have b2 : bitsP 2 3 false = true := bits3
  have : i = 0 ∨ i = 1 := by simp [sC] at h; omega
  rcases this with rfl | rfl
  · show unitP ⟨0, false, false⟩ ⟨true, 2, 2⟩ 3 = true
    unfold unitP; simp [b2]
  · show unitP ⟨0, false, false⟩ ⟨true, 1, 1⟩ 3 = true
    unfold unitP; simp [b1]
theorem sC_HA : HA fC sC := fun i hi => by
  have : i = 0 ∨ i = 1 := by simp [fC] at hi; omega
  refine ⟨0, by decide, ?_, ?_⟩
  · rcases this with rfl | rfl <;> rfl
  · exact serves23 (.inl rfl) (.inl rfl)
/-! Plans -/
def planE (f : api_Fleet) : Int := if ¬ FleetOk f then 36 else if (whyP f).2 = true then 38 else 0
theorem plan_ex (f : api_Fleet) : ∃ l, plan_Make f = some (l, planE f) ∧ (planE f ≠ 0 → l = []) ∧ (planE f = 0 → FleetOk f ∧ Good f (startR f) l) := by
  unfold plan_Make planE
  rw [fstart_sp]
  by_cases hf : FleetOk f
  case neg => exact ⟨[], by simp [hf], fun _ => rfl, fun h => by simp [hf] at h⟩
  simp only [hf, if_true, Option.bind_some, not_true_eq_false, if_false]
  rw [if_neg (by simp), why_sp]
  simp only [Option.bind_some]
  cases hw : (whyP f).2 with
  | true => exact ⟨[], by simp, fun _ => rfl, fun h => by simp at h⟩
  | false =>
    have hsr : RightOk f (startR f) := start_right hf
    obtain ⟨l, h1, h2⟩ := from_good hsr (start_HA f) hw
    rw [h1]
    exact ⟨l, by simp, fun h => by simp at h, fun _ => ⟨trivial, h2⟩⟩
end Go.Vl
