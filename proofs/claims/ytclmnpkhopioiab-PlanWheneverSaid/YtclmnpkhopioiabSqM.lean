/- Plain laws of the document's search: numbers of states, what is seen level by level, the least number of safe steps to the end; PlanWhenever. Conditions: none. -/
import Derived.Test.YtclmnpkhopioiabSpI
import Derived.Test.YtclmnpkhopioiabSpJ
set_option linter.unusedSimpArgs false
set_option linter.unusedVariables false
namespace Go.Vl
open Go

/-! Numbers -/
def digU (u : api_Unit) : Int := 4 * u.Stored + u.Used
def foldN (a : Int) (us : List api_Unit) : Int := us.foldl (fun a u => 16 * a + digU u) a
def numP (s : api_Rotation) : Int := foldN (4 * s.Known + s.Valid) s.Units
def DigOk (us : List api_Unit) : Prop := ∀ u ∈ us, 0 ≤ u.Stored ∧ u.Stored ≤ 3 ∧ 0 ≤ u.Used ∧ u.Used ≤ 3
theorem right_dig {f : api_Fleet} {s : api_Rotation} (h : RightOk f s) : DigOk s.Units := fun u hu => by
  obtain ⟨i, hi, rfl⟩ := List.getElem_of_mem hu
  have hi' : i < f.Consumers.length := by rw [← h.2.2.2.1]; exact hi
  obtain ⟨h1, h2⟩ := unit_cases (h.unit hi hi')
  omega
theorem foldN_lt : ∀ (us : List api_Unit) (a : Int) (B : Nat), DigOk us → 0 ≤ a → a < B → 0 ≤ foldN a us ∧ foldN a us < ((B * 16 ^ us.length : Nat) : Int)
  | [], a, B, _, h0, h1 => ⟨h0, by simpa [foldN] using h1⟩
  | u :: us, a, B, hd, h0, h1 => by
    have hu := hd u (List.mem_cons_self ..)
    have := foldN_lt us (16 * a + digU u) (B * 16) (fun v hv => hd v (List.mem_cons_of_mem _ hv)) (by unfold digU; omega) (by unfold digU; omega)
    refine ⟨this.1, ?_⟩
    have e : B * 16 ^ (u :: us).length = B * 16 * 16 ^ us.length := by rw [List.length_cons, Nat.pow_succ, Nat.mul_assoc, Nat.mul_comm 16]
    rw [e]
    exact this.2
theorem foldN_inj : ∀ (us vs : List api_Unit) (a b : Int), us.length = vs.length → DigOk us → DigOk vs → foldN a us = foldN b vs → a = b ∧ us.map (fun u => (u.Stored, u.Used)) = vs.map (fun u => (u.Stored, u.Used))
  | [], [], a, b, _, _, _, h => ⟨h, rfl⟩
  | [], _ :: _, _, _, hl, _, _, _ => by simp at hl
  | _ :: _, [], _, _, hl, _, _, _ => by simp at hl
  | u :: us, v :: vs, a, b, hl, hu, hv, h => by
    have h1 := hu u (List.mem_cons_self ..)
    have h2 := hv v (List.mem_cons_self ..)
    obtain ⟨e1, e2⟩ := foldN_inj us vs (16 * a + digU u) (16 * b + digU v) (by simpa using hl) (fun w hw => hu w (List.mem_cons_of_mem _ hw)) (fun w hw => hv w (List.mem_cons_of_mem _ hw)) h
    unfold digU at e1
    refine ⟨by omega, ?_⟩
    rw [List.map_cons, List.map_cons, e2]
    have a1 : u.Stored = v.Stored := by omega
    have a2 : u.Used = v.Used := by omega
    rw [a1, a2]
theorem num_inj {f : api_Fleet} {s t : api_Rotation} (hs : RightOk f s) (ht : RightOk f t) (h : numP s = numP t) : s = t := by
  have hl : s.Units.length = t.Units.length := by rw [hs.2.2.2.1, ht.2.2.2.1]
  obtain ⟨e1, e2⟩ := foldN_inj _ _ _ _ hl (right_dig hs) (right_dig ht) h
  have k1 := hs.2.1
  have k2 := ht.2.1
  have v1 := (bitsP_val hs.2.2.1).1
  have v2 := (bitsP_val ht.2.2.1).1
  have hk : s.Known = t.Known := by omega
  have hv : s.Valid = t.Valid := by omega
  have hu : s.Units = t.Units := by
    apply List.ext_getElem hl
    intro i h1 h2
    have hi : i < f.Consumers.length := by rw [← hs.2.2.2.1]; exact h1
    have e := congrArg (fun l : List (Int × Int) => l[i]?) e2
    simp only [List.getElem?_map, List.getElem?_eq_getElem h1, List.getElem?_eq_getElem h2, Option.map_some, Option.some.injEq, Prod.mk.injEq] at e
    have c1 := (unit_cases (hs.unit h1 hi)).2
    have c2 := (unit_cases (ht.unit h2 hi)).2
    have hup : s.Units[i].Up = t.Units[i].Up := by
      rcases c1 with ⟨a, b, _⟩ | ⟨a, b⟩ <;> rcases c2 with ⟨c, d, _⟩ | ⟨c, d⟩
      · rw [a, c]
      · omega
      · omega
      · rw [a, c]
    generalize s.Units[i] = x at *
    generalize t.Units[i] = y at *
    obtain ⟨x1, x2, x3⟩ := x
    obtain ⟨y1, y2, y3⟩ := y
    simp only at e hup
    rw [hup, e.1, e.2]
  obtain ⟨a, b, c⟩ := s
  obtain ⟨a', b', c'⟩ := t
  simp only at hk hv hu
  rw [hk, hv, hu]
theorem num_lt {f : api_Fleet} {s : api_Rotation} (h : RightOk f s) (h3 : f.Consumers.length ≤ 3) : 0 ≤ numP s ∧ numP s < 65536 := by
  have k1 := h.2.1
  have v1 := (bitsP_val h.2.2.1).1
  obtain ⟨a, b⟩ := foldN_lt s.Units (4 * s.Known + s.Valid) 16 (right_dig h) (by omega) (by omega)
  refine ⟨a, ?_⟩
  have hl : s.Units.length = 0 ∨ s.Units.length = 1 ∨ s.Units.length = 2 ∨ s.Units.length = 3 := by have := h.2.2.2.1; omega
  unfold numP
  rcases hl with e | e | e | e <;> rw [e] at b <;> simp at b <;> omega
theorem number_sp {f : api_Fleet} {s : api_Rotation} (h : RightOk f s) (h3 : f.Consumers.length ≤ 3) : ref34_number s = some (numP s) := by
  have k1 := h.2.1
  have v1 := (bitsP_val h.2.2.1).1
  have hd := right_dig h
  have hl := h.2.2.2.1
  unfold ref34_number
  rw [w64 (x := 4 * s.Known) (by omega) (by omega), w64 (by omega) (by omega)]
  have := iter_foldl2 (body := ref34_number_l0 s) s.Units (fun i a => (a, (i : Int))) (fun (a : Int) u => 16 * a + digU u) id (fun i a => 0 ≤ a ∧ a < ((16 * 16 ^ i : Nat) : Int)) (fun i hi a ha => ?_) (fun a ha => ?_) (4 * s.Known + s.Valid) ⟨by omega, by simp; omega⟩
  · rw [show (4 * s.Known + s.Valid, (0 : Int)) = (4 * s.Known + s.Valid, ((0 : Nat) : Int)) from rfl, this]; rfl
  · have hu := hd _ (List.getElem_mem hi)
    have hi3 : i = 0 ∨ i = 1 ∨ i = 2 := by omega
    have hb : a < 4096 := by
      have := ha.2
      rcases hi3 with e | e | e <;> rw [e] at this <;> simp at this <;> omega
    unfold ref34_number_l0
    simp only
    rw [if_pos (by simp; omega), idx_lt hi]
    simp only [Option.bind_some]
    rw [w64 (x := 16 * a) (by omega) (by omega), w64 (x := 4 * s.Units[i].Stored) (by omega) (by omega), w64 (x := 16 * a + 4 * s.Units[i].Stored) (by omega) (by omega), w64 (x := 16 * a + 4 * s.Units[i].Stored + s.Units[i].Used) (by omega) (by omega), w64 (by omega) (by omega)]
    refine ⟨by simp [digU, Int.add_assoc], by unfold digU; omega, ?_⟩
    have := ha.2
    unfold digU
    rw [Nat.pow_succ]
    push_cast at this ⊢
    omega
  · unfold ref34_number_l0
    rw [if_neg (by simp)]; rfl

/-! What is seen -/
def kvN (t : api_Rotation) : Int × Bool := (numP t, true)
theorem mfind_kv (x : Int) (t : api_Rotation) (A : List (Int × Bool)) : mfind inE x (kvN t :: A) = if x = numP t then some (0, true) else (mfind inE x A).map fun r => (r.1 + 1, r.2) := by
  have h0 : mfind inE x (kvN t :: A) = if inE x (kvN t).1 = true then some (0, (kvN t).2) else (mfind inE x A).map fun r => (r.1 + 1, r.2) := rfl
  rw [h0]
  by_cases h : x = numP t
  · rw [if_pos h, if_pos (by simp [inE, kvN, h])]; rfl
  · rw [if_neg h, if_neg (by simp [inE, kvN, h])]
theorem mget_kv (x : Int) : ∀ A : List api_Rotation, (mget inE (A.map kvN) x).getD false = decide (x ∈ A.map numP)
  | [] => rfl
  | t :: A => by
    have ih := mget_kv x A
    unfold mget at ih ⊢
    rw [List.map_cons, mfind_kv]
    by_cases h : x = numP t
    · simp [h]
    · rw [if_neg h, List.map_cons]
      simp only [Option.map_map, List.mem_cons, h, false_or]
      rw [← ih]
      rfl
theorem mset_kv {x : Int} {A : List api_Rotation} (h : x ∉ A.map numP) : mset inE (A.map kvN) x true = A.map kvN ++ [(x, true)] := by
  have : mfind inE x (A.map kvN) = none := by
    induction A with
    | nil => rfl
    | cons t A ih =>
      simp only [List.map_cons, List.mem_cons, not_or] at h
      rw [List.map_cons, mfind_kv, if_neg h.1, ih h.2]; rfl
  unfold mset
  rw [this]
def addA (A : List api_Rotation) (t : api_Rotation) : List api_Rotation := if numP t ∈ A.map numP then A else A ++ [t]
def succs (f : api_Fleet) (s : api_Rotation) : List api_Rotation := (choicesC (safeP f s) f.Consumers.length).map fun x => (applyP f s x).1
def expandA (f : api_Fleet) (A : List api_Rotation) (s : api_Rotation) : List api_Rotation := (succs f s).foldl addA A
theorem mem_succs {f : api_Fleet} {s t : api_Rotation} (hr : RightOk f s) : t ∈ succs f s ↔ ∃ x, safeP f s x = true ∧ t = (applyP f s x).1 := by
  unfold succs
  rw [List.mem_map]
  constructor
  · rintro ⟨x, hx, rfl⟩
    obtain ⟨_, _, _, _, h⟩ := mem_choicesC.1 hx
    exact ⟨x, h, rfl⟩
  · rintro ⟨x, hx, rfl⟩
    obtain ⟨_, hk, _, _⟩ := apply_right hr (safe_possible hx)
    exact ⟨x, mem_choicesC.2 ⟨hk.1, hk.2.1, hk.2.2.1, hk.2.2.2.1, hx⟩, rfl⟩
theorem succ_right {f : api_Fleet} {s t : api_Rotation} (hr : RightOk f s) (h : t ∈ succs f s) : RightOk f t := by
  obtain ⟨x, hx, rfl⟩ := (mem_succs hr).1 h
  exact (apply_right hr (safe_possible hx)).1
/-- what is seen is right, and each number but once -/
structure SeenOk (f : api_Fleet) (A : List api_Rotation) : Prop where
  right : ∀ t ∈ A, RightOk f t
  nodup : (A.map numP).Nodup
theorem addA_mem {f : api_Fleet} {A : List api_Rotation} (h : SeenOk f A) {t : api_Rotation} (ht : RightOk f t) : SeenOk f (addA A t) ∧ (∃ N, addA A t = A ++ N) ∧ t ∈ addA A t ∧ ∀ u ∈ addA A t, u ∈ A ∨ u = t := by
  unfold addA
  split
  · rename_i hm
    obtain ⟨u, hu, e⟩ := List.mem_map.1 hm
    have : u = t := num_inj (h.right u hu) ht e
    subst this
    exact ⟨h, ⟨[], by simp⟩, hu, fun u hu => .inl hu⟩
  · rename_i hm
    refine ⟨⟨fun u hu => ?_, ?_⟩, ⟨[t], rfl⟩, by simp, fun u hu => by simpa using hu⟩
    · rcases List.mem_append.1 hu with hu | hu
      · exact h.right u hu
      · rw [List.mem_singleton.1 hu]; exact ht
    · rw [List.map_append]
      refine List.nodup_append.2 ⟨h.nodup, by simp, fun a ha b hb => ?_⟩
      simp only [List.map_cons, List.map_nil, List.mem_singleton] at hb
      intro e
      exact hm (by rw [← hb, ← e]; exact ha)
theorem fold_add {f : api_Fleet} : ∀ (l : List api_Rotation) (A : List api_Rotation), SeenOk f A → (∀ t ∈ l, RightOk f t) → SeenOk f (l.foldl addA A) ∧ (∃ N, l.foldl addA A = A ++ N) ∧ (∀ t ∈ l, t ∈ l.foldl addA A) ∧ ∀ u ∈ l.foldl addA A, u ∈ A ∨ u ∈ l
  | [], A, h, _ => ⟨h, ⟨[], by simp⟩, (fun t ht => by cases ht), fun u hu => .inl hu⟩
  | t :: l, A, h, hl => by
    obtain ⟨h1, ⟨N1, e1⟩, h3, h4⟩ := addA_mem h (hl t (List.mem_cons_self ..))
    obtain ⟨g1, ⟨N2, e2⟩, g3, g4⟩ := fold_add l (addA A t) h1 (fun u hu => hl u (List.mem_cons_of_mem _ hu))
    simp only [List.foldl_cons]
    refine ⟨g1, ⟨N1 ++ N2, by rw [e2, e1, List.append_assoc]⟩, fun u hu => ?_, fun u hu => ?_⟩
    · rcases List.mem_cons.1 hu with rfl | hu
      · rw [e2]; exact List.mem_append_left _ h3
      · exact g3 u hu
    · rcases g4 u hu with hu | hu
      · rcases h4 u hu with hu | hu
        · exact .inl hu
        · exact .inr (by rw [hu]; exact List.mem_cons_self ..)
      · exact .inr (List.mem_cons_of_mem _ hu)
theorem expand_ok {f : api_Fleet} {A : List api_Rotation} {s : api_Rotation} (h : SeenOk f A) (hs : RightOk f s) : SeenOk f (expandA f A s) ∧ (∃ N, expandA f A s = A ++ N) ∧ (∀ t ∈ succs f s, t ∈ expandA f A s) ∧ ∀ u ∈ expandA f A s, u ∈ A ∨ u ∈ succs f s :=
  fold_add (succs f s) A h fun t ht => succ_right hs ht
theorem level_ok {f : api_Fleet} : ∀ (l : List api_Rotation) (A : List api_Rotation), SeenOk f A → (∀ t ∈ l, RightOk f t) → SeenOk f (l.foldl (expandA f) A) ∧ (∃ N, l.foldl (expandA f) A = A ++ N) ∧ (∀ s ∈ l, ∀ t ∈ succs f s, t ∈ l.foldl (expandA f) A) ∧ ∀ u ∈ l.foldl (expandA f) A, u ∈ A ∨ ∃ s ∈ l, u ∈ succs f s
  | [], A, h, _ => ⟨h, ⟨[], by simp⟩, (fun t ht => by cases ht), fun u hu => .inl hu⟩
  | s :: l, A, h, hl => by
    obtain ⟨h1, ⟨N1, e1⟩, h3, h4⟩ := expand_ok h (hl s (List.mem_cons_self ..))
    obtain ⟨g1, ⟨N2, e2⟩, g3, g4⟩ := level_ok l (expandA f A s) h1 (fun u hu => hl u (List.mem_cons_of_mem _ hu))
    simp only [List.foldl_cons]
    refine ⟨g1, ⟨N1 ++ N2, by rw [e2, e1, List.append_assoc]⟩, fun u hu t ht => ?_, fun u hu => ?_⟩
    · rcases List.mem_cons.1 hu with rfl | hu
      · rw [e2]; exact List.mem_append_left _ (h3 t ht)
      · exact g3 u hu t ht
    · rcases g4 u hu with hu | ⟨s', hs', hu⟩
      · rcases h4 u hu with hu | hu
        · exact .inl hu
        · exact .inr ⟨s, List.mem_cons_self .., hu⟩
      · exact .inr ⟨s', List.mem_cons_of_mem _ hs', hu⟩
/-- distinct numbers below a bound are no more than the bound -/
theorem nodup_le : ∀ (M : Nat) (l : List Int), l.Nodup → (∀ x ∈ l, 0 ≤ x ∧ x < M) → l.length ≤ M
  | 0, l, _, h => by
    cases l with
    | nil => simp
    | cons x l => have := h x (List.mem_cons_self ..); omega
  | M + 1, l, hn, h => by
    have h1 := nodup_le M (l.filter fun x => x != (M : Int)) (hn.filter _) (fun x hx => by
      obtain ⟨a, b⟩ := List.mem_filter.1 hx
      have := h x a
      simp only [bne_iff_ne, ne_eq] at b
      omega)
    have h2 : ∀ l : List Int, l.Nodup → l.length ≤ (l.filter fun x => x != (M : Int)).length + 1 := fun l => by
      induction l with
      | nil => intro _; simp
      | cons x l ih =>
        intro hn
        obtain ⟨hx, hn⟩ := List.nodup_cons.1 hn
        by_cases e : x = (M : Int)
        · have : (l.filter fun y => y != (M : Int)) = l := List.filter_eq_self.2 fun y hy => by
            simp only [bne_iff_ne, ne_eq]
            intro e2; exact hx (by rw [e, ← e2]; exact hy)
          rw [List.filter_cons, if_neg (by simp [e]), this]; simp
        · rw [List.filter_cons, if_pos (by simpa using e)]
          have := ih hn
          simp; omega
    have := h2 l hn
    omega
theorem seen_len {f : api_Fleet} {A : List api_Rotation} (h : SeenOk f A) (h3 : f.Consumers.length ≤ 3) : A.length ≤ 65536 := by
  have := nodup_le 65536 (A.map numP) h.nodup (fun x hx => by
    obtain ⟨t, ht, rfl⟩ := List.mem_map.1 hx
    exact num_lt (h.right t ht) h3)
  simpa using this
/-! The innermost loop: the steps from one state -/
theorem search_l3 {f : api_Fleet} (h3 : f.Consumers.length ≤ 3) {s : api_Rotation} (hs : RightOk f s) {a0 : Nat} : ∀ (m i : Nat) (A : List api_Rotation), i + m = (choicesC (safeP f s) f.Consumers.length).length → a0 ≤ A.length → SeenOk f A →
    iter (ref34_search_l3 (choicesC (safeP f s) f.Consumers.length) f s) ((i : Int), A.map kvN, A.drop a0) = some ((((succs f s).drop i).foldl addA A).map kvN, (((succs f s).drop i).foldl addA A).drop a0) := fun m => by
  have c8 := hs.1.2.2.1
  have cl := choicesC_len (sf := safeP f s) c8
  have hsl : (succs f s).length = (choicesC (safeP f s) f.Consumers.length).length := by unfold succs; simp
  induction m with
  | zero =>
    intro i A h _ _
    rw [show (succs f s).drop i = [] from List.drop_eq_nil_of_le (by omega)]
    refine iter_out ?_
    unfold ref34_search_l3
    rw [if_neg (by simp; omega)]
    rfl
  | succ m ih =>
    intro i A h ha hA
    have hi : i < (choicesC (safeP f s) f.Consumers.length).length := by omega
    have hi' : i < (succs f s).length := by omega
    have hx := (mem_choicesC.1 (List.getElem_mem hi)).2.2.2.2
    have et : (succs f s)[i] = (applyP f s (choicesC (safeP f s) f.Consumers.length)[i]).1 := by simp [succs]
    have hr := (apply_right hs (safe_possible hx)).1
    rw [← et] at hr
    have hAl := seen_len hA h3
    have hstep : ref34_search_l3 (choicesC (safeP f s) f.Consumers.length) f s ((i : Int), A.map kvN, A.drop a0) = some (.go (((i + 1 : Nat) : Int), (addA A (succs f s)[i]).map kvN, (addA A (succs f s)[i]).drop a0)) := by
      unfold ref34_search_l3
      simp only
      rw [if_pos (by simp; omega), idx_lt hi, w64 (by omega) (by omega)]
      simp only [Option.bind_some, rapply_sp]
      rw [← et, number_sp hr h3]
      simp only [Option.bind_some, mget_kv]
      unfold addA
      by_cases hm : numP (succs f s)[i] ∈ A.map numP
      · rw [if_pos hm, if_neg (by simpa using hm)]; rfl
      · rw [if_neg hm, if_pos (by simpa using hm), ck_t (by simp; omega), mset_kv hm]
        simp only [Option.bind_some, List.map_append, List.map_cons, List.map_nil, List.drop_append_of_le_length ha]
        rfl
    rw [iter_go hstep, ih (i + 1) _ (by omega) (by unfold addA; split; exact ha; rw [List.length_append]; omega) (addA_mem hA hr).1, List.drop_eq_getElem_cons hi', List.foldl_cons]

def dd (f : api_Fleet) (L d : Int) (l : List api_Rotation) : Int := if d < 0 ∧ l.any (endedP f) = true then L else d
theorem dd_cons {f : api_Fleet} {L d : Int} (hL : 0 ≤ L) (x : api_Rotation) (l : List api_Rotation) : dd f L (if d < 0 ∧ endedP f x = true then L else d) l = dd f L d (x :: l) := by
  unfold dd
  rw [List.any_cons]
  by_cases hd : d < 0
  · cases hx : endedP f x with
    | true =>
      simp only [hd, true_and, if_true, Bool.true_or]
      rw [if_neg (by omega)]
    | false => simp [hd]
  · simp [hd]
theorem search_l1 {f : api_Fleet} (h3 : f.Consumers.length ≤ 3) {cnt0 d0 L : Int} {A0 : List (Int × Bool)} {C : List api_Rotation} (hL : 0 ≤ L) (hC : ∀ t ∈ C, RightOk f t) (hCl : C.length ≤ 65536) {a0 : Nat} : ∀ (m i : Nat) (cnt d : Int) (A : List api_Rotation), i + m = C.length → a0 ≤ A.length → SeenOk f A → 0 ≤ cnt → cnt + m ≤ 1000000 →
    iter (ref34_search_l1 (cnt0, d0, L, A0, C) f) (cnt, d, (i : Int), A.map kvN, A.drop a0) = some (cnt + m, dd f L d (C.drop i), ((C.drop i).foldl (expandA f) A).map kvN, ((C.drop i).foldl (expandA f) A).drop a0) := fun m => by
  induction m with
  | zero =>
    intro i cnt d A h _ _ _ _
    rw [show C.drop i = [] from List.drop_eq_nil_of_le (by omega)]
    refine iter_out ?_
    unfold ref34_search_l1
    rw [if_neg (by simp; omega)]
    simp [dd]
  | succ m ih =>
    intro i cnt d A h ha hA h0 h1
    have hi : i < C.length := by omega
    have hs := hC _ (List.getElem_mem hi)
    have hl3 := search_l3 h3 hs (a0 := a0) (choicesC (safeP f C[i]) f.Consumers.length).length 0 A (by omega) ha hA
    rw [List.drop_zero] at hl3
    obtain ⟨e1, ⟨N, e2⟩, _, _⟩ := expand_ok hA hs
    have c8 := hs.1.2.2.1
    have hj : ∀ v : Int, ref34_search_j2 f C[i] (cnt, d, (i : Int), A.map kvN, A.drop a0) v = some (.go (cnt + 1, v, ((i + 1 : Nat) : Int), (expandA f A C[i]).map kvN, (expandA f A C[i]).drop a0)) := fun v => by
      unfold ref34_search_j2
      rw [rchoices_sp (by omega)]
      simp only [Option.bind_some]
      rw [show (0 : Int) = ((0 : Nat) : Int) from rfl, hl3, w64 (by omega) (by omega), w64 (by omega) (by omega)]
      rfl
    have hstep : ref34_search_l1 (cnt0, d0, L, A0, C) f (cnt, d, (i : Int), A.map kvN, A.drop a0) = some (.go (cnt + 1, (if d < 0 ∧ endedP f C[i] = true then L else d), ((i + 1 : Nat) : Int), (expandA f A C[i]).map kvN, (expandA f A C[i]).drop a0)) := by
      unfold ref34_search_l1
      simp only
      rw [if_pos (by simp; omega), ck_t (by simp; omega), idx_lt hi]
      simp only [Option.bind_some, rended_sp]
      by_cases hd : d < 0
      · rw [if_pos (by simpa using hd)]
        simp only [Option.bind_some]
        cases he : endedP f C[i] with
        | true => rw [if_pos rfl, hj]; simp [hd]
        | false => rw [if_neg (by simp), hj]; simp
      · rw [if_neg (by simpa using hd)]
        simp only [Option.bind_some]
        rw [if_neg (by simp), hj]; simp [hd]
    rw [iter_go hstep, ih (i + 1) (cnt + 1) _ _ (by omega) (by rw [e2, List.length_append]; omega) e1 (by omega) (by push_cast at h1 ⊢; omega), List.drop_eq_getElem_cons hi, List.foldl_cons, dd_cons hL]
    congr 2
    push_cast
    omega
/-! Reached -/
def reach (f : api_Fleet) (s0 : api_Rotation) (k : Nat) (t : api_Rotation) : Prop := ∃ l, safeRun f s0 l ∧ endS f s0 l = t ∧ l.length = k
theorem safeRun_split {f : api_Fleet} {x : api_Step} : ∀ (l : List api_Step) (s : api_Rotation), safeRun f s (l ++ [x]) → safeRun f s l ∧ safeP f (endS f s l) x = true := fun l => by
  induction l with
  | nil => intro s h; exact ⟨trivial, h.1⟩
  | cons y l ih =>
    intro s h
    obtain ⟨h1, h2⟩ := ih _ h.2
    exact ⟨⟨h.1, h1⟩, h2⟩
theorem reach_right {f : api_Fleet} {s0 t : api_Rotation} {k : Nat} (hr : RightOk f s0) (h : reach f s0 k t) : RightOk f t := by
  obtain ⟨l, h1, rfl, _⟩ := h
  exact (safeRun_run l s0 hr h1).2.1
theorem reach_succ {f : api_Fleet} {s0 t : api_Rotation} {k : Nat} (hr : RightOk f s0) (h : reach f s0 (k + 1) t) : ∃ t', reach f s0 k t' ∧ t ∈ succs f t' := by
  obtain ⟨l, h1, rfl, h3⟩ := h
  rcases List.eq_nil_or_concat l with rfl | ⟨l', x, rfl⟩
  · simp at h3
  · rw [List.concat_eq_append] at h1 h3 ⊢
    obtain ⟨a, b⟩ := safeRun_split l' s0 h1
    have hr' := (safeRun_run l' s0 hr a).2.1
    refine ⟨endS f s0 l', ⟨l', a, rfl, by simpa using h3⟩, (mem_succs hr').2 ⟨x, b, ?_⟩⟩
    exact (safeRun_snoc l' s0 a b).2
theorem reach_step {f : api_Fleet} {s0 t u : api_Rotation} {k : Nat} (hr : RightOk f s0) (h : reach f s0 k t) (hu : u ∈ succs f t) : reach f s0 (k + 1) u := by
  have ht := reach_right hr h
  obtain ⟨x, hx, rfl⟩ := (mem_succs ht).1 hu
  obtain ⟨l, h1, rfl, h3⟩ := h
  obtain ⟨a, b⟩ := safeRun_snoc l s0 h1 hx
  exact ⟨l ++ [x], a, b, by simp [h3]⟩
theorem reach_0 {f : api_Fleet} {s0 t : api_Rotation} (h : reach f s0 0 t) : t = s0 := by
  obtain ⟨l, _, rfl, h3⟩ := h
  rw [List.eq_nil_of_length_eq_zero h3]; rfl
/-- what holds ahead of a level -/
structure BfsOk (f : api_Fleet) (s0 : api_Rotation) (L : Nat) (d cnt : Int) (A : List api_Rotation) (c : Nat) : Prop where
  seen : SeenOk f A
  le : c ≤ A.length
  lv : L ≤ c
  cn : cnt = c
  ini : s0 ∈ A
  re : ∀ t ∈ A, ∃ k, reach f s0 k t
  clo : ∀ t ∈ A.take c, ∀ u ∈ succs f t, u ∈ A
  low : ∀ (k : Nat) (t : api_Rotation), reach f s0 k t → k < L → t ∈ A.take c
  dist : (d = -1 ∧ ∀ t ∈ A.take c, endedP f t = false) ∨ (0 ≤ d ∧ (∃ t ∈ A, endedP f t = true) ∧ ∀ (k : Nat) (t : api_Rotation), reach f s0 k t → endedP f t = true → d ≤ k)
def found (f : api_Fleet) (s0 : api_Rotation) (d : Int) : Prop := (d = -1 ∧ ∀ (k : Nat) (t : api_Rotation), reach f s0 k t → endedP f t = false) ∨ (0 ≤ d ∧ (∃ k t, reach f s0 k t ∧ endedP f t = true) ∧ ∀ (k : Nat) (t : api_Rotation), reach f s0 k t → endedP f t = true → d ≤ k)
theorem low_in {f : api_Fleet} {s0 : api_Rotation} (hr : RightOk f s0) {L : Nat} {d cnt : Int} {A : List api_Rotation} {c : Nat} (h : BfsOk f s0 L d cnt A c) {k : Nat} {t : api_Rotation} (ht : reach f s0 k t) (hk : k ≤ L) : t ∈ A := by
  cases k with
  | zero => rw [reach_0 ht]; exact h.ini
  | succ k =>
    obtain ⟨t', h1, h2⟩ := reach_succ hr ht
    exact h.clo t' (h.low k t' h1 (by omega)) t h2
theorem all_in {f : api_Fleet} {s0 : api_Rotation} (hr : RightOk f s0) {L : Nat} {d cnt : Int} {A : List api_Rotation} (h : BfsOk f s0 L d cnt A A.length) : ∀ (k : Nat) (t : api_Rotation), reach f s0 k t → t ∈ A := fun k => by
  have hc := h.clo
  rw [List.take_length] at hc
  induction k with
  | zero => intro t ht; rw [reach_0 ht]; exact h.ini
  | succ k ih =>
    intro t ht
    obtain ⟨t', h1, h2⟩ := reach_succ hr ht
    exact hc t' (ih t' h1) t h2
theorem bfs_step {f : api_Fleet} {s0 : api_Rotation} (hr : RightOk f s0) {L : Nat} {d cnt : Int} {A : List api_Rotation} {c : Nat} (h : BfsOk f s0 L d cnt A c) (hne : c < A.length) : BfsOk f s0 (L + 1) (dd f (L : Int) d (A.drop c)) (cnt + ((A.drop c).length : Nat)) ((A.drop c).foldl (expandA f) A) A.length ∧ ∃ N, (A.drop c).foldl (expandA f) A = A ++ N := by
  have hcr : ∀ t ∈ A.drop c, RightOk f t := fun t ht => h.seen.right t (List.mem_of_mem_drop ht)
  obtain ⟨g1, ⟨N, e⟩, g3, g4⟩ := level_ok (A.drop c) A h.seen hcr
  refine ⟨⟨g1, by rw [e, List.length_append]; omega, by have := h.lv; omega, ?_, by rw [e]; exact List.mem_append_left _ h.ini, fun t ht => ?_, fun t ht u hu => ?_, fun k t ht hk => ?_, ?_⟩, N, e⟩
  · have := h.cn; have := h.le; rw [List.length_drop]; omega
  · rcases g4 t ht with ht | ⟨s, hs, ht⟩
    · exact h.re t ht
    · obtain ⟨k, hk⟩ := h.re s (List.mem_of_mem_drop hs)
      exact ⟨k + 1, reach_step hr hk ht⟩
  · rw [e, List.take_left'] at ht
    · rw [← List.take_append_drop c A] at ht
      rcases List.mem_append.1 ht with ht | ht
      · rw [e]; exact List.mem_append_left _ (h.clo t ht u hu)
      · exact g3 t ht u hu
    · rfl
  · rw [e, List.take_left' rfl]
    exact low_in hr h ht (Nat.lt_succ_iff.1 hk)
  · unfold dd
    rcases h.dist with ⟨hd, hn⟩ | ⟨hd, ⟨t, ht, hte⟩, hm⟩
    · by_cases hany : (A.drop c).any (endedP f) = true
      · rw [if_pos ⟨by omega, hany⟩]
        right
        obtain ⟨t, ht, hte⟩ := List.any_eq_true.1 hany
        refine ⟨by omega, ⟨t, by rw [e]; exact List.mem_append_left _ (List.mem_of_mem_drop ht), hte⟩, fun k u hu hue => ?_⟩
        by_cases hk : k < L
        · have := hn u (h.low k u hu hk)
          rw [hue] at this; cases this
        · omega
      · rw [if_neg (fun q => hany q.2)]
        left
        refine ⟨hd, fun t ht => ?_⟩
        rw [e, List.take_left' rfl, ← List.take_append_drop c A] at ht
        rcases List.mem_append.1 ht with ht | ht
        · exact hn t ht
        · cases hte : endedP f t with
          | false => rfl
          | true => exact absurd (List.any_eq_true.2 ⟨t, ht, hte⟩) hany
    · rw [if_neg (fun q => by omega)]
      exact .inr ⟨hd, ⟨t, by rw [e]; exact List.mem_append_left _ ht, hte⟩, hm⟩
abbrev SS : Type := Int × Int × Int × (List (Int × Bool)) × (List api_Rotation)
theorem search_ex {f : api_Fleet} (h3 : f.Consumers.length ≤ 3) {s0 : api_Rotation} (hr : RightOk f s0) : ∃ cnt d, ref34_search f s0 = some (cnt, d) ∧ found f s0 d := by
  unfold ref34_search
  rw [number_sp hr h3]
  simp only [Option.bind_some]
  have := iter_ex (body := ref34_search_l0 f) (fun s : SS => ∃ (L c : Nat) (A : List api_Rotation) (d cnt : Int), s = (cnt, d, (L : Int), A.map kvN, A.drop c) ∧ BfsOk f s0 L d cnt A c) (fun s => 2 * (65536 - s.2.2.2.1.length) + (if s.2.2.2.2.length = 0 then 0 else 1)) (fun e => found f s0 e.2) ?_ (s := (0, -1, 0, mset inE [] (numP s0) true, [s0])) ?_
  · obtain ⟨e, h1, h2⟩ := this
    rw [h1]
    exact ⟨e.1, e.2, rfl, h2⟩
  · rintro s ⟨L, c, A, d, cnt, rfl, h⟩
    have hAl := seen_len h.seen h3
    have hle := h.le
    have hlv := h.lv
    have hcn := h.cn
    unfold ref34_search_l0
    simp only
    by_cases hne : c < A.length
    · left
      obtain ⟨g, N, e⟩ := bfs_step hr h hne
      rw [if_pos (by rw [decide_eq_true_eq, List.length_drop]; omega)]
      have hl1 := search_l1 (f := f) h3 (cnt0 := cnt) (d0 := d) (L := (L : Int)) (A0 := A.map kvN) (C := A.drop c) (by omega) (fun t ht => h.seen.right t (List.mem_of_mem_drop ht)) (by rw [List.length_drop]; omega) (a0 := A.length) (A.drop c).length 0 cnt d A (by omega) (Nat.le_refl _) h.seen (by omega) (by rw [List.length_drop]; omega)
      rw [List.drop_length, List.drop_zero] at hl1
      rw [show (0 : Int) = ((0 : Nat) : Int) from rfl, hl1]
      simp only [Option.bind_some]
      rw [w64 (x := (L : Int) + 1) (by omega) (by omega)]
      refine ⟨_, rfl, ⟨L + 1, A.length, _, _, _, by push_cast; rfl, g⟩, ?_⟩
      have hAl2 := seen_len g.seen h3
      rw [e] at hAl2 ⊢
      simp only [List.length_map, List.length_append, List.length_drop] at hAl2 ⊢
      have hcA : ¬ (A.length - c = 0) := by omega
      rw [if_neg hcA]
      split <;> omega
    · right
      have hc : c = A.length := by omega
      subst hc
      rw [if_neg (by rw [List.drop_length]; simp)]
      refine ⟨_, rfl, ?_⟩
      rcases h.dist with ⟨hd, hn⟩ | ⟨hd, ⟨t, ht, hte⟩, hm⟩
      · rw [List.take_length] at hn
        exact .inl ⟨hd, fun k t ht => hn t (all_in hr h k t ht)⟩
      · obtain ⟨k, hk⟩ := h.re t ht
        exact .inr ⟨hd, ⟨k, t, hk, hte⟩, hm⟩
  · refine ⟨0, 0, [s0], -1, 0, rfl, ⟨⟨fun t ht => by rw [List.mem_singleton.1 ht]; exact hr, by simp⟩, by simp, Nat.le_refl 0, rfl, by simp, fun t ht => ⟨0, [], trivial, (List.mem_singleton.1 ht).symm, rfl⟩, fun t ht => by simp at ht, fun k t _ hk => by omega, .inl ⟨rfl, fun t ht => by simp at ht⟩⟩⟩
theorem distance_ex {f : api_Fleet} (h3 : f.Consumers.length ≤ 3) {s0 : api_Rotation} (hr : RightOk f s0) : ∃ d, ref34_Distance f s0 = some ((if 0 > d then 0 else d), decide (0 ≤ d), 0) ∧ found f s0 d := by
  obtain ⟨cnt, d, h1, h2⟩ := search_ex h3 hr
  refine ⟨d, ?_, h2⟩
  unfold ref34_Distance ref34_check
  rw [rright_sp, decide_eq_true hr]
  simp only [Option.bind_some]
  rw [if_neg (by simp), if_neg (by simp; omega)]
  simp only [Option.bind_some]
  rw [if_neg (by simp), h1]
  rfl

/-- a pool that does not fit has one unit alone, not live, or with one slot for one secret -/
theorem unfit {f : api_Fleet} (hf : FleetOk f) {q : Int} (hq : q ∈ poolsP f) (h : fitP f q = false) : ∃ i, i < f.Consumers.length ∧ (∀ j, j < f.Consumers.length → poolAt f j = poolAt f i → j = i) ∧ ((consAt f i).Live = false ∨ ((consAt f i).Dual = false ∧ f.Slots = 1)) := by
  obtain ⟨_, i0, hi0, e0⟩ := mem_poolsP.1 hq
  have hm0 : (i0 : Int) ∈ unitsP f q := (in_pool hf).2 ⟨i0, rfl, hi0, by simpa [poolAt, List.getD, hi0] using e0⟩
  have hl0 := List.length_pos_of_mem hm0
  unfold fitP at h
  by_cases h1 : (unitsP f q).length = 1
  · rw [if_pos h1] at h
    obtain ⟨x, hx⟩ := List.length_eq_one_iff.1 h1
    have hm : x ∈ unitsP f q := by rw [hx]; simp
    obtain ⟨i, rfl, hi, hp⟩ := (in_pool hf).1 hm
    refine ⟨i, hi, fun j hj hpj => ?_, ?_⟩
    · have : (j : Int) ∈ unitsP f q := (in_pool hf).2 ⟨j, rfl, hj, hpj.trans hp⟩
      rw [hx] at this
      have := List.mem_singleton.1 this
      omega
    · rw [hx] at h
      simp only [List.headD_cons, Int.toNat_natCast] at h
      cases hl : (consAt f i).Live with
      | false => exact .inl rfl
      | true =>
        right
        rw [hl, Bool.true_and] at h
        simp only [Bool.or_eq_false_iff, beq_eq_false_iff_ne, ne_eq] at h
        exact ⟨h.1, hf.1.resolve_right h.2⟩
  · rw [if_neg h1] at h
    have : ¬ 1 < (unitsP f q).length := by simpa using h
    omega
/-- the sole unit goes on using the old secret -/
def oldU (f : api_Fleet) (i : Nat) (s : api_Rotation) : Prop := (unitAt s i).Up = true ∧ (unitAt s i).Used = 1 ∧ ((consAt f i).Live = true → (unitAt s i).Stored = 1 ∧ s.Valid = 1)
theorem bA21 : bAnd .i64 2 1 = 0 := by decide
theorem sole_HA {f : api_Fleet} {s : api_Rotation} {i : Nat} (hi : i < f.Consumers.length) (hs : ∀ j, j < f.Consumers.length → poolAt f j = poolAt f i → j = i) (h : HA f s) : servesU s (unitAt s i) = true := by
  obtain ⟨j, h1, h2, h3⟩ := h i hi
  rw [hs j h1 h2] at h3
  exact h3
theorem old_step {f : api_Fleet} {s : api_Rotation} {x : api_Step} {i : Nat} (hr : RightOk f s) (hi : i < f.Consumers.length) (hsole : ∀ j, j < f.Consumers.length → poolAt f j = poolAt f i → j = i) (hu : (consAt f i).Live = false ∨ ((consAt f i).Dual = false ∧ f.Slots = 1)) (ho : oldU f i s) (ha : HA f s) (hx : safeP f s x = true) : oldU f i (applyP f s x).1 := by
  have ha' := safe_HA hr ha hx
  obtain ⟨hr', hk, hok, e⟩ := apply_right hr (safe_possible hx)
  have hsv := sole_HA hi hsole ha'
  rw [e] at hsv hr' ⊢
  obtain ⟨o1, o2, o3⟩ := ho
  have hil : i < s.Units.length := by rw [hr.2.2.2.1]; exact hi
  obtain ⟨k1, k2, k3, k4, k5⟩ := hk
  unfold okStep at hok
  unfold nextS at hsv ⊢
  by_cases c1 : x.Kind = 1
  · rw [if_pos c1] at hsv ⊢
    exact ⟨o1, o2, o3⟩
  rw [if_neg c1] at hsv hok ⊢
  by_cases c2 : x.Kind = 2
  · rw [if_pos c2] at hsv hok ⊢
    refine ⟨o1, o2, fun hl => ?_⟩
    simp only [Bool.and_eq_true, beq_iff_eq] at hok
    rcases hu with hu | hu
    · rw [hl] at hu; cases hu
    · omega
  rw [if_neg c2] at hsv hok ⊢
  by_cases c3 : x.Kind = 3
  · rw [if_pos c3] at hsv
    exfalso
    have : servesU (⟨s.Known, 2, s.Units⟩ : api_Rotation) (unitAt (⟨s.Known, 2, s.Units⟩ : api_Rotation) i) = (bAnd .i64 (unitAt s i).Used 2 != 0) := rfl
    rw [this, o2] at hsv
    exact absurd hsv (by decide)
  rw [if_neg c3] at hsv hok ⊢
  by_cases c8 : x.Kind = 8
  · rw [if_pos c8] at hsv
    exfalso
    have : servesU (⟨s.Known, 2, s.Units⟩ : api_Rotation) (unitAt (⟨s.Known, 2, s.Units⟩ : api_Rotation) i) = (bAnd .i64 (unitAt s i).Used 2 != 0) := rfl
    rw [this, o2] at hsv
    exact absurd hsv (by decide)
  rw [if_neg c8] at hsv hok ⊢
  by_cases hxi : x.Unit.toNat = i
  · have e1 : f.Consumers.getD x.Unit.toNat default = consAt f i := by rw [hxi]; rfl
    have e2 : s.Units.getD x.Unit.toNat default = unitAt s i := by rw [hxi]; rfl
    rw [e1, e2] at hok
    rw [e1, e2, hxi] at hsv ⊢
    have e3 : unitAt (⟨s.Known, s.Valid, s.Units.set i (unitStep (consAt f i) (unitAt s i) x.Kind (s.Known == 3)).2⟩ : api_Rotation) i = (unitStep (consAt f i) (unitAt s i) x.Kind (s.Known == 3)).2 := by rw [unitAt_set hil, if_pos rfl]
    rw [e3] at hsv
    unfold oldU
    rw [e3]
    have k4567 : x.Kind = 4 ∨ x.Kind = 5 ∨ x.Kind = 6 ∨ x.Kind = 7 := by omega
    rcases k4567 with q | q | q | q
    · rw [q, us4] at hok hsv ⊢
      simp only at hsv ⊢
      cases hl : (consAt f i).Live with
      | false =>
        have : fixU (consAt f i) ⟨(unitAt s i).Up, bif (consAt f i).Dual then 3 else 2, (unitAt s i).Used⟩ = ⟨(unitAt s i).Up, bif (consAt f i).Dual then 3 else 2, (unitAt s i).Used⟩ := by unfold fixU; rw [hl]; rfl
        rw [this]
        exact ⟨o1, o2, fun h => by cases h⟩
      | true =>
        exfalso
        rcases hu with hu | hu
        · rw [hl] at hu; cases hu
        · have : fixU (consAt f i) ⟨(unitAt s i).Up, bif (consAt f i).Dual then 3 else 2, (unitAt s i).Used⟩ = ⟨true, 2, 2⟩ := by unfold fixU; rw [hl, o1, hu.1]; rfl
          rw [this] at hsv
          unfold servesU at hsv
          rw [(o3 hl).2] at hsv
          exact absurd hsv (by decide)
    · exfalso
      rw [q, us5] at hsv
      unfold servesU at hsv
      simp only [and_0] at hsv
      simp at hsv
    · exfalso
      rw [q, us6] at hok
      simp only [o1] at hok
      cases hok
    · rw [q, us7] at hok hsv ⊢
      simp only at hsv ⊢
      cases hl : (consAt f i).Live with
      | false =>
        have : fixU (consAt f i) ⟨(unitAt s i).Up, 2, (unitAt s i).Used⟩ = ⟨(unitAt s i).Up, 2, (unitAt s i).Used⟩ := by unfold fixU; rw [hl]; rfl
        rw [this]
        exact ⟨o1, o2, fun h => by cases h⟩
      | true =>
        exfalso
        have := (o3 hl).1
        simp only [beq_iff_eq] at hok
        omega
  · unfold oldU
    have e3 : ∀ u : api_Unit, unitAt (⟨s.Known, s.Valid, s.Units.set x.Unit.toNat u⟩ : api_Rotation) i = unitAt s i := fun u => by
      rw [unitAt_set (by have := hr.2.2.2.1; omega), if_neg (fun e => hxi e.symm)]
    rw [e3]
    exact ⟨o1, o2, o3⟩
theorem never_ended {f : api_Fleet} (hf : FleetOk f) (h : (whyP f).2 = true) : ∀ (k : Nat) (t : api_Rotation), reach f (startR f) k t → endedP f t = false := by
  obtain ⟨w1, w2, _⟩ := why_first h
  obtain ⟨i, hi, hsole, hu⟩ := unfit hf w1 w2
  have hr : RightOk f (startR f) := start_right hf
  have key : ∀ (l : List api_Step) (s : api_Rotation), RightOk f s → HA f s → oldU f i s → safeRun f s l → oldU f i (endS f s l) ∧ RightOk f (endS f s l) := fun l => by
    induction l with
    | nil => intro s h1 _ h3 _; exact ⟨h3, h1⟩
    | cons x l ih =>
      intro s h1 h2 h3 h4
      exact ih _ (apply_right h1 (safe_possible h4.1)).1 (safe_HA h1 h2 h4.1) (old_step h1 hi hsole hu h3 h2 h4.1) h4.2
  rintro k t ⟨l, h1, rfl, _⟩
  have h0 : oldU f i (startR f) := by
    have : unitAt (startR f) i = ⟨true, 1, 1⟩ := by simp [unitAt, startR, List.getD, hi]
    unfold oldU
    rw [this]
    exact ⟨rfl, rfl, fun _ => ⟨rfl, rfl⟩⟩
  obtain ⟨⟨_, o2, _⟩, hre⟩ := key l (startR f) hr (start_HA f) h0 h1
  cases he : endedP f (endS f (startR f) l) with
  | false => rfl
  | true =>
    unfold endedP at he
    simp only [Bool.and_eq_true, List.all_eq_true] at he
    have hil : i < (endS f (startR f) l).Units.length := by rw [hre.2.2.2.1]; exact hi
    have := he.2.2 _ (List.getElem_mem hil)
    rw [unitAt_get] at this
    unfold endedU at this
    rw [o2] at this
    simp at this
theorem PlanWhenever_law (a : List Int) : law35_PlanWhenever a = some true := by
  unfold law35_PlanWhenever
  by_cases h : 200 < (a.length : Int)
  · rw [if_pos (by simpa using h), awake35]; rfl
  rw [if_neg (by simpa using h)]
  obtain ⟨f, m1, e1, hf, hle, _, t1⟩ := make_Fleet_ex (tape0 (a := a) (by omega)) (most := 2) (by omega) (by omega)
  rw [e1]
  simp only [Option.bind_some]
  have hr : RightOk f (startR f) := start_right hf
  obtain ⟨d, hd, hfound⟩ := distance_ex (f := f) (by omega) hr
  obtain ⟨l, p1, p2, p3⟩ := plan_ex f
  rw [rstart_sp, if_pos hf]
  simp only [Option.bind_some]
  rw [hd, p1, why_sp]
  simp only [Option.bind_some]
  cases hw : (whyP f).2 with
  | true =>
    have hn := never_ended hf hw
    have hd1 : d = -1 := by
      rcases hfound with ⟨q, _⟩ | ⟨_, ⟨k, t, q1, q2⟩, _⟩
      · exact q
      · rw [hn k t q1] at q2; cases q2
    have he : planE f = 38 := by unfold planE; rw [if_neg (not_not_intro hf), hw]; rfl
    rw [he, hd1]
    simp [awake35]
  | false =>
    have he : planE f = 0 := by unfold planE; rw [if_neg (not_not_intro hf), hw]; rfl
    obtain ⟨_, hg⟩ := p3 he
    have hre : reach f (startR f) l.length (endS f (startR f) l) := ⟨l, hg.run, rfl, rfl⟩
    rcases hfound with ⟨_, q⟩ | ⟨q1, _, q3⟩
    · have := hg.ended
      rw [q _ _ hre] at this; cases this
    · have hmin := q3 _ _ hre hg.ended
      have hd0 : ¬ (0 > d) := by omega
      rw [he, decide_eq_true q1, if_neg hd0]
      simp [awake35]
      omega
end Go.Vl
