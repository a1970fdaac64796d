/- Plain laws of calendars: counting, adding, the next tick. Conditions: none. -/
import Derived.Test.YtphnihphnboneaaCalP
set_option linter.unusedSimpArgs false
set_option linter.unusedVariables false
namespace Go.Vl
open Go

/-- the working ticks among n from a on -/
def cntC (c : api_Calendar) : Nat → Int → Int
  | 0, _ => 0
  | n + 1, a => (if wkC c a then 1 else 0) + cntC c n (a + 1)
theorem cntC_bd (c : api_Calendar) : ∀ (n : Nat) (a : Int), 0 ≤ cntC c n a ∧ cntC c n a ≤ n
  | 0, a => by simp [cntC]
  | n + 1, a => by have := cntC_bd c n (a + 1); simp only [cntC]; split <;> omega
theorem cntC_add (c : api_Calendar) : ∀ (n m : Nat) (a : Int), cntC c (n + m) a = cntC c n a + cntC c m (a + n)
  | 0, m, a => by simp [cntC]
  | n + 1, m, a => by
    rw [show n + 1 + m = (n + m) + 1 by omega]
    simp only [cntC]
    rw [cntC_add c n m (a + 1), show a + 1 + (n : Int) = a + ((n + 1 : Nat) : Int) by omega]
    omega

def maxT : Int := 1099511627776
def betw (c : api_Calendar) (a b : Int) : Int × Int :=
  if ¬ OkC c then (0, 42) else if ¬ (0 ≤ a ∧ a ≤ maxT ∧ 0 ≤ b ∧ b ≤ maxT ∧ a ≤ b) then (0, 2) else if 100000 < b - a then (0, 3) else (cntC c (b - a).toNat a, 0)

theorem betw_loop {c : api_Calendar} (hc : OkC c) {body : Int × Int → Option (Lp (Int × Int) Int)} {b : Int} (hb : b ≤ maxT)
    (h : ∀ s : Int × Int, 0 ≤ s.2 → s.2 ≤ maxT → body s = if (decide (s.2 < b)) = true then (if wkC c s.2 = true then some (.go (IntKind.i64.wrap (s.1 + 1), IntKind.i64.wrap (s.2 + 1))) else some (.go (s.1, IntKind.i64.wrap (s.2 + 1)))) else some (.out s.1))
    {a : Int} (ha : 0 ≤ a) (hab : a ≤ b) : iter body (0, a) = some (cntC c (b - a).toNat a) := by
  have key := iter_eq (body := body) (fun s => a ≤ s.2 ∧ s.2 ≤ b ∧ 0 ≤ s.1 ∧ s.1 ≤ s.2 - a) (fun s => (b - s.2).toNat) (fun s => s.1 + cntC c (b - s.2).toNat s.2) ?_ (s := (0, a)) ⟨by simp, by simpa using hab, by simp, by simp⟩
  · simpa using key
  · rintro ⟨x, t⟩ ⟨h1, h2, h3, h4⟩
    simp only at h1 h2 h3 h4
    unfold maxT at *
    rw [h (x, t) (by simp <;> omega) (by simp <;> omega)]
    by_cases hlt : t < b
    · left
      rw [if_pos (by simpa using hlt)]
      simp only
      have e : (b - t).toNat = (b - (t + 1)).toNat + 1 := by omega
      rw [w64 (by omega) (by omega), w64 (by omega) (by omega), e]
      simp only [cntC]
      cases hw : wkC c t with
      | true =>
        rw [if_pos rfl]
        exact ⟨_, rfl, ⟨by simp <;> omega, by simp <;> omega, by simp <;> omega, by simp <;> omega⟩, by simp <;> omega, by simp <;> omega⟩
      | false =>
        rw [if_neg (by simp)]
        exact ⟨_, rfl, ⟨by simp <;> omega, by simp <;> omega, by simp <;> omega, by simp <;> omega⟩, by simp <;> omega, by simp⟩
    · right
      rw [if_neg (by simpa using hlt), show (b - t).toNat = 0 by omega]
      simp [cntC]

theorem tick_sp (t : Int) : calendar_tick t = some (decide (0 ≤ t) && decide (t ≤ maxT)) := by unfold calendar_tick maxT; rw [among_sp]; rfl

theorem between_sp (c : api_Calendar) (a b : Int) : calendar_Between c a b = some (betw c a b) := by
  unfold calendar_Between betw
  rw [check_sp]
  by_cases hc : OkC c
  case neg => simp [hc]
  simp only [hc, if_true, Option.bind_some, tick_sp, not_true, if_false]
  rw [if_neg (by simp)]
  by_cases h1 : 0 ≤ a ∧ a ≤ maxT
  case neg =>
    rw [if_pos (by simp <;> omega)]
    simp only [Option.bind_some, if_true]
    rw [if_pos (by omega)]
  rw [if_neg (by simp <;> omega)]
  by_cases h2 : 0 ≤ b ∧ b ≤ maxT
  case neg =>
    rw [if_pos (by simp <;> omega)]
    simp only [Option.bind_some, if_true]
    rw [if_pos (by omega)]
  rw [if_neg (by simp <;> omega)]
  simp only [Option.bind_some]
  by_cases h3 : a ≤ b
  case neg => rw [if_pos (by simp <;> omega), if_pos (by omega)]
  rw [if_neg (by simp <;> omega), if_neg (show ¬ ¬ (0 ≤ a ∧ a ≤ maxT ∧ 0 ≤ b ∧ b ≤ maxT ∧ a ≤ b) by omega)]
  have hm : maxT = 1099511627776 := rfl
  rw [w64 (x := b - a) (by omega) (by omega)]
  by_cases h4 : 100000 < b - a
  · rw [if_pos (by simpa using h4), if_pos h4]
  · rw [if_neg (by simpa using h4), if_neg h4, betw_loop hc h2.2 ?_ h1.1 h3]
    · rfl
    · rintro ⟨x, t⟩ g1 g2
      unfold calendar_Between_l0
      simp only at g1 g2 ⊢
      rw [working_sp hc g1 (by omega)]; rfl
theorem refbetween_sp (c : api_Calendar) (a b : Int) : ref40_Between c a b = some (betw c a b) := by
  unfold ref40_Between betw
  rw [refvalid_sp]
  by_cases hc : OkC c
  case neg => simp [hc]
  simp only [hc, decide_true, Option.bind_some, in_sp, not_true, if_false]
  rw [if_neg (by simp)]
  have hm : maxT = 1099511627776 := rfl
  by_cases h1 : 0 ≤ a ∧ a ≤ maxT
  case neg =>
    rw [if_pos (by simp <;> omega)]
    simp only [Option.bind_some, if_true]
    rw [if_pos (by omega)]
  rw [if_neg (by simp <;> omega)]
  simp only [Option.bind_some]
  by_cases h2 : a ≤ b ∧ b ≤ maxT
  case neg =>
    rw [if_pos (by simp <;> omega)]
    rw [if_pos (by omega)]
  rw [if_neg (by simp <;> omega), if_neg (show ¬ ¬ (0 ≤ a ∧ a ≤ maxT ∧ 0 ≤ b ∧ b ≤ maxT ∧ a ≤ b) by omega)]
  rw [w64 (x := b - a) (by omega) (by omega)]
  by_cases h4 : 100000 < b - a
  · rw [if_pos (by simpa using h4), if_pos h4]
  · rw [if_neg (by simpa using h4), if_neg h4, betw_loop hc h2.2 ?_ h1.1 h2.1]
    · rfl
    · rintro ⟨x, t⟩ g1 g2
      unfold ref40_Between_l0
      simp only at g1 g2 ⊢
      rw [refworking_sp hc g1 (by omega)]; rfl

/-- the tick at which n working ticks from u on are over, if it is among the next f -/
def addC (c : api_Calendar) : Nat → Int → Int → Option Int
  | 0, _, _ => none
  | f + 1, n, u => if n = 0 then some u else addC c f (if wkC c u then n - 1 else n) (u + 1)
def limT (t : Int) : Int := if t + 100000 > maxT then maxT else t + 100000
def addS (c : api_Calendar) (t n : Int) : Int × Int :=
  if ¬ OkC c then (0, 42) else if ¬ (0 ≤ t ∧ t ≤ maxT ∧ 0 ≤ n ∧ n ≤ 1000) then (0, 2) else match addC c (limT t - t + 1).toNat n t with | some u => (u, 0) | none => (0, 41)

theorem add_sp (c : api_Calendar) (t n : Int) : calendar_Add c t n = some (addS c t n) := by
  unfold calendar_Add addS
  rw [check_sp]
  by_cases hc : OkC c
  case neg => simp [hc]
  simp only [hc, if_true, Option.bind_some, tick_sp, among_sp, not_true, if_false]
  rw [if_neg (by simp)]
  have hm : maxT = 1099511627776 := rfl
  by_cases h1 : 0 ≤ t ∧ t ≤ maxT
  case neg =>
    rw [if_pos (by simp <;> omega)]
    simp only [Option.bind_some, if_true]
    rw [if_pos (by omega)]
  rw [if_neg (by simp <;> omega)]
  simp only [Option.bind_some]
  by_cases h2 : 0 ≤ n ∧ n ≤ 1000
  case neg => rw [if_pos (by simp <;> omega), if_pos (by omega)]
  rw [if_neg (by simp <;> omega), if_neg (by omega)]
  have hl : (if 1099511627776 < IntKind.i64.wrap (t + 100000) then 1099511627776 else IntKind.i64.wrap (t + 100000)) = limT t := by
    rw [w64 (by omega) (by omega)]; rfl
  have hlim : t ≤ limT t ∧ limT t ≤ maxT ∧ limT t ≤ t + 100000 := by unfold limT; split <;> omega
  have key := iter_eq (body := calendar_Add_l0 t c) (fun s => t ≤ s.2 ∧ s.2 ≤ limT t + 1 ∧ 0 ≤ s.1 ∧ s.1 ≤ n) (fun s => (limT t + 1 - s.2).toNat)
    (fun s => match addC c (limT t - s.2 + 1).toNat s.1 s.2 with | some u => .inr (u, 0) | none => .inl ()) ?_ (s := (n, t)) ⟨by simp, by simp <;> omega, by simpa using h2.1, by simp⟩
  · rw [key]
    simp only [Option.bind_some]
    cases addC c (limT t - t + 1).toNat n t <;> rfl
  · rintro ⟨x, u⟩ ⟨g1, g2, g3, g4⟩
    simp only at g1 g2 g3 g4 ⊢
    unfold calendar_Add_l0
    rw [hl]
    by_cases b1 : u ≤ limT t
    · rw [if_pos (by simpa using b1)]
      have e : (limT t - u + 1).toNat = (limT t - (u + 1) + 1).toNat + 1 := by omega
      rw [e]
      simp only [addC]
      by_cases b2 : x = 0
      · right; rw [if_pos (by simpa using b2)]; simp [b2]
      · left
        rw [if_neg (by simpa using b2), if_neg b2, working_sp hc (by omega) (by omega)]
        simp only [Option.bind_some]
        rw [w64 (by omega) (by omega), w64 (by omega) (by omega)]
        cases hw : wkC c u with
        | true => rw [if_pos rfl]; exact ⟨_, rfl, by simp <;> omega, by simp <;> omega, by simp⟩
        | false => rw [if_neg (by simp)]; exact ⟨_, rfl, by simp <;> omega, by simp <;> omega, by simp⟩
    · right
      rw [if_neg (by simpa using b1), show (limT t - u + 1).toNat = 0 by omega]
      rfl
theorem refadd_sp (c : api_Calendar) (t n : Int) : ref40_Add c t n = some (addS c t n) := by
  unfold ref40_Add addS
  rw [refvalid_sp]
  by_cases hc : OkC c
  case neg => simp [hc]
  simp only [hc, decide_true, Option.bind_some, in_sp, not_true, if_false]
  rw [if_neg (by simp)]
  have hm : maxT = 1099511627776 := rfl
  by_cases h1 : 0 ≤ t ∧ t ≤ maxT
  case neg =>
    rw [if_pos (by simp <;> omega)]
    simp only [Option.bind_some, if_true]
    rw [if_pos (by omega)]
  rw [if_neg (by simp <;> omega)]
  simp only [Option.bind_some]
  by_cases h2 : 0 ≤ n ∧ n ≤ 1000
  case neg => rw [if_pos (by simp <;> omega), if_pos (by omega)]
  rw [if_neg (by simp <;> omega), if_neg (by omega)]
  have hlim : t ≤ limT t ∧ limT t ≤ maxT ∧ limT t ≤ t + 100000 ∧ (limT t = maxT ∨ limT t = t + 100000) := by unfold limT; split <;> omega
  have key := iter_eq (body := ref40_Add_l0 t c) (fun s => t ≤ s.2 ∧ s.2 ≤ limT t ∧ 0 ≤ s.1 ∧ s.1 ≤ n) (fun s => (limT t + 1 - s.2).toNat)
    (fun s => match addC c (limT t - s.2 + 1).toNat s.1 s.2 with | some u => .inl u | none => .inr (0, 41)) ?_ (s := (n, t)) ⟨by simp, by simp <;> omega, by simpa using h2.1, by simp⟩
  · rw [key]
    simp only [Option.bind_some]
    cases addC c (limT t - t + 1).toNat n t <;> rfl
  · rintro ⟨x, u⟩ ⟨g1, g2, g3, g4⟩
    simp only at g1 g2 g3 g4 ⊢
    unfold ref40_Add_l0
    have e : (limT t - u + 1).toNat = (limT t - u).toNat + 1 := by omega
    rw [e]
    simp only [addC, Option.bind_some]
    by_cases b2 : x = 0
    · right; rw [if_neg (by simp <;> omega)]; simp [b2]
    · rw [if_pos (by simp <;> omega), if_neg b2, w64 (x := t + 100000) (by omega) (by omega)]
      by_cases b3 : u = limT t
      · right
        rw [if_pos (by simp <;> omega), show (limT t - u).toNat = 0 by omega]
        rfl
      · left
        rw [if_neg (by simp <;> omega), refworking_sp hc (by omega) (by omega)]
        simp only [Option.bind_some]
        rw [w64 (by omega) (by omega), w64 (by omega) (by omega)]
        have e2 : (limT t - u).toNat = (limT t - (u + 1) + 1).toNat := by omega
        cases hw : wkC c u with
        | true => rw [if_pos rfl]; exact ⟨_, rfl, by simp <;> omega, by simp <;> omega, by simp [e2]⟩
        | false => rw [if_neg (by simp)]; exact ⟨_, rfl, by simp <;> omega, by simp <;> omega, by simp [e2]⟩

def nextC (c : api_Calendar) : Nat → Int → Option Int
  | 0, _ => none
  | f + 1, u => if wkC c u then some u else nextC c f (u + 1)
def nextS (c : api_Calendar) (t : Int) : Int × Int :=
  if ¬ OkC c then (0, 42) else if ¬ (0 ≤ t ∧ t ≤ maxT) then (0, 2) else match nextC c (limT t - t + 1).toNat t with | some u => (u, 0) | none => (0, 41)
theorem next_sp (c : api_Calendar) (t : Int) : calendar_Next c t = some (nextS c t) := by
  unfold calendar_Next nextS
  rw [check_sp]
  by_cases hc : OkC c
  case neg => simp [hc]
  simp only [hc, if_true, Option.bind_some, tick_sp, not_true, if_false]
  rw [if_neg (by simp)]
  have hm : maxT = 1099511627776 := rfl
  by_cases h1 : 0 ≤ t ∧ t ≤ maxT
  case neg => rw [if_pos (by simp <;> omega), if_pos (by omega)]
  rw [if_neg (by simp <;> omega), if_neg (by omega)]
  have hl : (if 1099511627776 < IntKind.i64.wrap (t + 100000) then 1099511627776 else IntKind.i64.wrap (t + 100000)) = limT t := by
    rw [w64 (by omega) (by omega)]; rfl
  have hlim : t ≤ limT t ∧ limT t ≤ maxT ∧ limT t ≤ t + 100000 := by unfold limT; split <;> omega
  have key := iter_eq (body := calendar_Next_l0 t c) (fun s => t ≤ s ∧ s ≤ limT t + 1) (fun s => (limT t + 1 - s).toNat)
    (fun s => match nextC c (limT t - s + 1).toNat s with | some u => .inr (u, 0) | none => .inl ()) ?_ (s := t) ⟨by simp, by omega⟩
  · rw [key]
    simp only [Option.bind_some]
    cases nextC c (limT t - t + 1).toNat t <;> rfl
  · rintro u ⟨g1, g2⟩
    unfold calendar_Next_l0
    rw [hl]
    by_cases b1 : u ≤ limT t
    · rw [if_pos (by simpa using b1), working_sp hc (by omega) (by omega)]
      simp only [Option.bind_some]
      have e : (limT t - u + 1).toNat = (limT t - (u + 1) + 1).toNat + 1 := by omega
      rw [e]
      simp only [nextC]
      cases hw : wkC c u with
      | true => right; simp
      | false =>
        left
        rw [if_neg (by simp), w64 (by omega) (by omega)]
        exact ⟨_, rfl, by omega, by omega, by simp⟩
    · right
      rw [if_neg (by simpa using b1), show (limT t - u + 1).toNat = 0 by omega]
      rfl
theorem refnext_sp (c : api_Calendar) (t : Int) : ref40_Next c t = some (nextS c t) := by
  unfold ref40_Next nextS
  rw [refvalid_sp]
  by_cases hc : OkC c
  case neg => simp [hc]
  simp only [hc, decide_true, Option.bind_some, in_sp, not_true, if_false]
  rw [if_neg (by simp)]
  have hm : maxT = 1099511627776 := rfl
  by_cases h1 : 0 ≤ t ∧ t ≤ maxT
  case neg => rw [if_pos (by simp <;> omega), if_pos (by omega)]
  rw [if_neg (by simp <;> omega), if_neg (by omega)]
  have hlim : t ≤ limT t ∧ limT t ≤ maxT ∧ limT t ≤ t + 100000 ∧ (limT t = maxT ∨ limT t = t + 100000) := by unfold limT; split <;> omega
  have key := iter_eq (body := ref40_Next_l0 t c) (fun s => t ≤ s ∧ s ≤ limT t + 1) (fun s => (limT t + 1 - s).toNat)
    (fun s => match nextC c (limT t - s + 1).toNat s with | some u => .inr (u, 0) | none => .inl ()) ?_ (s := t) ⟨by simp, by omega⟩
  · rw [key]
    simp only [Option.bind_some]
    cases nextC c (limT t - t + 1).toNat t <;> rfl
  · rintro u ⟨g1, g2⟩
    unfold ref40_Next_l0
    rw [w64 (x := t + 100000) (by omega) (by omega)]
    simp only [Option.bind_some]
    by_cases b1 : u ≤ limT t
    · rw [if_pos (by simp <;> omega), refworking_sp hc (by omega) (by omega)]
      simp only [Option.bind_some]
      have e : (limT t - u + 1).toNat = (limT t - (u + 1) + 1).toNat + 1 := by omega
      rw [e]
      simp only [nextC]
      cases hw : wkC c u with
      | true => right; simp
      | false =>
        left
        rw [if_neg (by simp), w64 (by omega) (by omega)]
        exact ⟨_, rfl, by omega, by omega, by simp⟩
    · right
      rw [if_neg (by simp <;> omega), show (limT t - u + 1).toNat = 0 by omega]
      rfl

def workS (c : api_Calendar) (t : Int) : Bool := decide (OkC c) && (decide (0 ≤ t) && decide (t ≤ maxT)) && wkC c t
theorem Working_sp (c : api_Calendar) (t : Int) : calendar_Working c t = some (workS c t) := by
  unfold calendar_Working workS
  rw [check_sp]
  have hm : maxT = 1099511627776 := rfl
  by_cases hc : OkC c
  case neg => simp [hc]
  simp only [hc, if_true, Option.bind_some, tick_sp]
  rw [if_pos (by simp)]
  by_cases h1 : 0 ≤ t ∧ t ≤ maxT
  · rw [if_pos (by simpa using h1), working_sp hc h1.1 (by omega)]; simp [h1]
  · rw [if_neg (by simpa using h1)]
    have : (decide (0 ≤ t) && decide (t ≤ maxT)) = false := by simp <;> omega
    simp [this]
theorem refWorking_sp (c : api_Calendar) (t : Int) : ref40_Working c t = some (workS c t) := by
  unfold ref40_Working workS
  rw [refvalid_sp]
  have hm : maxT = 1099511627776 := rfl
  by_cases hc : OkC c
  case neg => simp [hc]
  simp only [hc, decide_true, Option.bind_some, in_sp]
  rw [if_pos (by simp)]
  by_cases h1 : 0 ≤ t ∧ t ≤ maxT
  · rw [if_pos (by simp <;> omega), refworking_sp hc h1.1 (by omega)]; simp [h1]
  · rw [if_neg (by simp <;> omega)]
    have : (decide (0 ≤ t) && decide (t ≤ maxT)) = false := by simp <;> omega
    simp [this]

theorem awake40 : law40_awake = some true := by
  simp only [law40_awake, law40_week, Option.bind_some, add_sp, between_sp, next_sp, Working_sp]
  have e1 : addS ⟨24, 8, 16, 31, []⟩ 15 2 = (33, 0) := by decide +kernel
  have e2 : betw ⟨24, 8, 16, 31, []⟩ 15 33 = (2, 0) := by decide +kernel
  have e3 : nextS ⟨24, 8, 16, 31, []⟩ 16 = (32, 0) := by decide +kernel
  have e4 : workS ⟨24, 8, 16, 31, []⟩ 15 = true := by decide +kernel
  have e5 : workS ⟨24, 8, 16, 31, []⟩ 16 = false := by decide +kernel
  simp [e1, e2, e3, e4, e5]
end Go.Vl
