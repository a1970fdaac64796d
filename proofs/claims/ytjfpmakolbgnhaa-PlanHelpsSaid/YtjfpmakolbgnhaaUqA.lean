/- Plain laws of the given program's functions (texts laid into one). Conditions: none. -/
import Derived.Test.YtjfpmakolbgnhaaUpM
import Derived.Test.YtjfpmakolbgnhaaUpJ
import Derived.Test.YtjfpmakolbgnhaaUxA
set_option linter.unusedSimpArgs false
set_option linter.unusedVariables false
namespace Go.Vl
open Go

/-! Numbers -/
def digU (u : api_Unit) : Int := 4 * u.Stored + u.Used
def foldN (a : Int) (us : List api_Unit) : Int := us.foldl (fun a u => 16 * a + digU u) a
def numP (s : api_Rotation) : Int := foldN (4 * s.Known + s.Valid) s.Units
def DigOk (us : List api_Unit) : Prop := ∀ u ∈ us, 0 ≤ u.Stored ∧ u.Stored ≤ 3 ∧ 0 ≤ u.Used ∧ u.Used ≤ 3
theorem right_dig {f : api_Fleet} {s : api_Rotation} (h : RightOk f s) : DigOk s.Units := fun u hu => by
  obtain ⟨i, hi, rfl⟩ := List.getElem_of_mem hu
  have hi' : i < f.Consumers.length := by rw [← h.2.2.2.1]; exact hi
  obtain ⟨h1, h2⟩ := unit_cases (h.unit hi hi')
  omega
theorem foldN_lt : ∀ (us : List api_Unit) (a : Int) (B : Nat), DigOk us → 0 ≤ a → a < B → 0 ≤ foldN a us ∧ foldN a us < ((B * 16 ^ us.length : Nat) : Int)
  | [], a, B, _, h0, h1 => ⟨h0, by simpa [foldN] using h1⟩
  | u :: us, a, B, hd, h0, h1 => by
    have hu := hd u (List.mem_cons_self ..)
    have := foldN_lt us (16 * a + digU u) (B * 16) (fun v hv => hd v (List.mem_cons_of_mem _ hv)) (by unfold digU; omega) (by unfold digU; omega)
    refine ⟨this.1, ?_⟩
    have e : B * 16 ^ (u :: us).length = B * 16 * 16 ^ us.length := by rw [List.length_cons, Nat.pow_succ, Nat.mul_assoc, Nat.mul_comm 16]
    rw [e]
    exact this.2
theorem foldN_inj : ∀ (us vs : List api_Unit) (a b : Int), us.length = vs.length → DigOk us → DigOk vs → foldN a us = foldN b vs → a = b ∧ us.map (fun u => (u.Stored, u.Used)) = vs.map (fun u => (u.Stored, u.Used))
  | [], [], a, b, _, _, _, h => ⟨h, rfl⟩
  | [], _ :: _, _, _, hl, _, _, _ => by simp at hl
  | _ :: _, [], _, _, hl, _, _, _ => by simp at hl
  | u :: us, v :: vs, a, b, hl, hu, hv, h => by
    have h1 := hu u (List.mem_cons_self ..)
    have h2 := hv v (List.mem_cons_self ..)
    obtain ⟨e1, e2⟩ := foldN_inj us vs (16 * a + digU u) (16 * b + digU v) (by simpa using hl) (fun w hw => hu w (List.mem_cons_of_mem _ hw)) (fun w hw => hv w (List.mem_cons_of_mem _ hw)) h
    unfold digU at e1
    refine ⟨by omega, ?_⟩
    rw [List.map_cons, List.map_cons, e2]
    have a1 : u.Stored = v.Stored := by omega
    have a2 : u.Used = v.Used := by omega
    rw [a1, a2]
theorem num_inj {f : api_Fleet} {s t : api_Rotation} (hs : RightOk f s) (ht : RightOk f t) (h : numP s = numP t) : s = t := by
  have hl : s.Units.length = t.Units.length := by rw [hs.2.2.2.1, ht.2.2.2.1]
  obtain ⟨e1, e2⟩ := foldN_inj _ _ _ _ hl (right_dig hs) (right_dig ht) h
  have k1 := hs.2.1
  have k2 := ht.2.1
  have v1 := (bitsP_val hs.2.2.1).1
  have v2 := (bitsP_val ht.2.2.1).1
  have hk : s.Known = t.Known := by omega
  have hv : s.Valid = t.Valid := by omega
  have hu : s.Units = t.Units := by
    apply List.ext_getElem hl
    intro i h1 h2
    have hi : i < f.Consumers.length := by rw [← hs.2.2.2.1]; exact h1
    have e := congrArg (fun l : List (Int × Int) => l[i]?) e2
    simp only [List.getElem?_map, List.getElem?_eq_getElem h1, List.getElem?_eq_getElem h2, Option.map_some, Option.some.injEq, Prod.mk.injEq] at e
    have c1 := (unit_cases (hs.unit h1 hi)).2
    have c2 := (unit_cases (ht.unit h2 hi)).2
    have hup : s.Units[i].Up = t.Units[i].Up := by
      rcases c1 with ⟨a, b, _⟩ | ⟨a, b⟩ <;> rcases c2 with ⟨c, d, _⟩ | ⟨c, d⟩
      · rw [a, c]
      · omega
      · omega
      · rw [a, c]
    generalize s.Units[i] = x at *
    generalize t.Units[i] = y at *
    obtain ⟨x1, x2, x3⟩ := x
    obtain ⟨y1, y2, y3⟩ := y
    simp only at e hup
    rw [hup, e.1, e.2]
  obtain ⟨a, b, c⟩ := s
  obtain ⟨a', b', c'⟩ := t
  simp only at hk hv hu
  rw [hk, hv, hu]
theorem num_lt {f : api_Fleet} {s : api_Rotation} (h : RightOk f s) (h3 : f.Consumers.length ≤ 3) : 0 ≤ numP s ∧ numP s < 65536 := by
  have k1 := h.2.1
  have v1 := (bitsP_val h.2.2.1).1
  obtain ⟨a, b⟩ := foldN_lt s.Units (4 * s.Known + s.Valid) 16 (right_dig h) (by omega) (by omega)
  refine ⟨a, ?_⟩
  have hl : s.Units.length = 0 ∨ s.Units.length = 1 ∨ s.Units.length = 2 ∨ s.Units.length = 3 := by have := h.2.2.2.1; omega
  unfold numP
  rcases hl with e | e | e | e <;> rw [e] at b <;> simp at b <;> omega
theorem number_sp {f : api_Fleet} {s : api_Rotation} (h : RightOk f s) (h3 : f.Consumers.length ≤ 3) : ref34_number s = some (numP s) := by
  have k1 := h.2.1
  have v1 := (bitsP_val h.2.2.1).1
  have hd := right_dig h
  have hl := h.2.2.2.1
  unfold ref34_number
  rw [w64 (x := 4 * s.Known) (by omega) (by omega), w64 (by omega) (by omega)]
  have := iter_foldl2 (body := ref34_number_l0 s) s.Units (fun i a => (a, (i : Int))) (fun (a : Int) u => 16 * a + digU u) id (fun i a => 0 ≤ a ∧ a < ((16 * 16 ^ i : Nat) : Int)) (fun i hi a ha => ?_) (fun a ha => ?_) (4 * s.Known + s.Valid) ⟨by omega, by simp; omega⟩
  · rw [show (4 * s.Known + s.Valid, (0 : Int)) = (4 * s.Known + s.Valid, ((0 : Nat) : Int)) from rfl, this]; rfl
  · have hu := hd _ (List.getElem_mem hi)
    have hi3 : i = 0 ∨ i = 1 ∨ i = 2 := by omega
    have hb : a < 4096 := by
      have := ha.2
      rcases hi3 with e | e | e <;> rw [e] at this <;> simp at this <;> omega
    unfold ref34_number_l0
    simp only
    rw [if_pos (by simp; omega), idx_lt hi]
    simp only [Option.bind_some]
    rw [w64 (x := 16 * a) (by omega) (by omega), w64 (x := 4 * s.Units[i].Stored) (by omega) (by omega), w64 (x := 16 * a + 4 * s.Units[i].Stored) (by omega) (by omega), w64 (x := 16 * a + 4 * s.Units[i].Stored + s.Units[i].Used) (by omega) (by omega), w64 (by omega) (by omega)]
    refine ⟨by simp [digU, Int.add_assoc], by unfold digU; omega, ?_⟩
    have := ha.2
    unfold digU
    rw [Nat.pow_succ]
    push_cast at this ⊢
    omega
  · unfold ref34_number_l0
    rw [if_neg (by simp)]; rfl

/-! What is seen -/
def kvN (t : api_Rotation) : Int × Bool := (numP t, true)
theorem mfind_kv (x : Int) (t : api_Rotation) (A : List (Int × Bool)) : mfind inE x (kvN t :: A) = if x = numP t then some (0, true) else (mfind inE x A).map fun r => (r.1 + 1, r.2) := by
  have h0 : mfind inE x (kvN t :: A) = if inE x (kvN t).1 = true then some (0, (kvN t).2) else (mfind inE x A).map fun r => (r.1 + 1, r.2) := rfl
  rw [h0]
  by_cases h : x = numP t
  · rw [if_pos h, if_pos (by simp [inE, kvN, h])]; rfl
  · rw [if_neg h, if_neg (by simp [inE, kvN, h])]
theorem mget_kv (x : Int) : ∀ A : List api_Rotation, (mget inE (A.map kvN) x).getD false = decide (x ∈ A.map numP)
  | [] => rfl
  | t :: A => by
    have ih := mget_kv x A
    unfold mget at ih ⊢
    rw [List.map_cons, mfind_kv]
    by_cases h : x = numP t
    · simp [h]
    · rw [if_neg h, List.map_cons]
      simp only [Option.map_map, List.mem_cons, h, false_or]
      rw [← ih]
      rfl
theorem mset_kv {x : Int} {A : List api_Rotation} (h : x ∉ A.map numP) : mset inE (A.map kvN) x true = A.map kvN ++ [(x, true)] := by
  have : mfind inE x (A.map kvN) = none := by
    induction A with
    | nil => rfl
    | cons t A ih =>
      simp only [List.map_cons, List.mem_cons, not_or] at h
      rw [List.map_cons, mfind_kv, if_neg h.1, ih h.2]; rfl
  unfold mset
  rw [this]
def addA (A : List api_Rotation) (t : api_Rotation) : List api_Rotation := if numP t ∈ A.map numP then A else A ++ [t]
def succs (f : api_Fleet) (s : api_Rotation) : List api_Rotation := (choicesC (safeP f s) f.Consumers.length).map fun x => (applyP f s x).1
def expandA (f : api_Fleet) (A : List api_Rotation) (s : api_Rotation) : List api_Rotation := (succs f s).foldl addA A
theorem mem_succs {f : api_Fleet} {s t : api_Rotation} (hr : RightOk f s) : t ∈ succs f s ↔ ∃ x, safeP f s x = true ∧ t = (applyP f s x).1 := by
  unfold succs
  rw [List.mem_map]
  constructor
  · rintro ⟨x, hx, rfl⟩
    obtain ⟨_, _, _, _, h⟩ := mem_choicesC.1 hx
    exact ⟨x, h, rfl⟩
  · rintro ⟨x, hx, rfl⟩
    obtain ⟨_, hk, _, _⟩ := apply_right hr (safe_possible hx)
    exact ⟨x, mem_choicesC.2 ⟨hk.1, hk.2.1, hk.2.2.1, hk.2.2.2.1, hx⟩, rfl⟩
theorem succ_right {f : api_Fleet} {s t : api_Rotation} (hr : RightOk f s) (h : t ∈ succs f s) : RightOk f t := by
  obtain ⟨x, hx, rfl⟩ := (mem_succs hr).1 h
  exact (apply_right hr (safe_possible hx)).1
/-- what is seen is right, and each number but once -/
structure SeenOk (f : api_Fleet) (A : List api_Rotation) : Prop where
  right : ∀ t ∈ A, RightOk f t
  nodup : (A.map numP).Nodup
theorem addA_mem {f : api_Fleet} {A : List api_Rotation} (h : SeenOk f A) {t : api_Rotation} (ht : RightOk f t) : SeenOk f (addA A t) ∧ (∃ N, addA A t = A ++ N) ∧ t ∈ addA A t ∧ ∀ u ∈ addA A t, u ∈ A ∨ u = t := by
  unfold addA
  split
  · rename_i hm
    obtain ⟨u, hu, e⟩ := List.mem_map.1 hm
    have : u = t := num_inj (h.right u hu) ht e
    subst this
    exact ⟨h, ⟨[], by simp⟩, hu, fun u hu => .inl hu⟩
  · rename_i hm
    refine ⟨⟨fun u hu => ?_, ?_⟩, ⟨[t], rfl⟩, by simp, fun u hu => by simpa using hu⟩
    · rcases List.mem_append.1 hu with hu | hu
      · exact h.right u hu
      · rw [List.mem_singleton.1 hu]; exact ht
    · rw [List.map_append]
      refine List.nodup_append.2 ⟨h.nodup, by simp, fun a ha b hb => ?_⟩
      simp only [List.map_cons, List.map_nil, List.mem_singleton] at hb
      intro e
      exact hm (by rw [← hb, ← e]; exact ha)
theorem fold_add {f : api_Fleet} : ∀ (l : List api_Rotation) (A : List api_Rotation), SeenOk f A → (∀ t ∈ l, RightOk f t) → SeenOk f (l.foldl addA A) ∧ (∃ N, l.foldl addA A = A ++ N) ∧ (∀ t ∈ l, t ∈ l.foldl addA A) ∧ ∀ u ∈ l.foldl addA A, u ∈ A ∨ u ∈ l
  | [], A, h, _ => ⟨h, ⟨[], by simp⟩, (fun t ht => by cases ht), fun u hu => .inl hu⟩
  | t :: l, A, h, hl => by
    obtain ⟨h1, ⟨N1, e1⟩, h3, h4⟩ := addA_mem h (hl t (List.mem_cons_self ..))
    obtain ⟨g1, ⟨N2, e2⟩, g3, g4⟩ := fold_add l (addA A t) h1 (fun u hu => hl u (List.mem_cons_of_mem _ hu))
    simp only [List.foldl_cons]
    refine ⟨g1, ⟨N1 ++ N2, by rw [e2, e1, List.append_assoc]⟩, fun u hu => ?_, fun u hu => ?_⟩
    · rcases List.mem_cons.1 hu with rfl | hu
      · rw [e2]; exact List.mem_append_left _ h3
      · exact g3 u hu
    · rcases g4 u hu with hu | hu
      · rcases h4 u hu with hu | hu
        · exact .inl hu
        · exact .inr (by rw [hu]; exact List.mem_cons_self ..)
      · exact .inr (List.mem_cons_of_mem _ hu)
theorem expand_ok {f : api_Fleet} {A : List api_Rotation} {s : api_Rotation} (h : SeenOk f A) (hs : RightOk f s) : SeenOk f (expandA f A s) ∧ (∃ N, expandA f A s = A ++ N) ∧ (∀ t ∈ succs f s, t ∈ expandA f A s) ∧ ∀ u ∈ expandA f A s, u ∈ A ∨ u ∈ succs f s :=
  fold_add (succs f s) A h fun t ht => succ_right hs ht
theorem level_ok {f : api_Fleet} : ∀ (l : List api_Rotation) (A : List api_Rotation), SeenOk f A → (∀ t ∈ l, RightOk f t) → SeenOk f (l.foldl (expandA f) A) ∧ (∃ N, l.foldl (expandA f) A = A ++ N) ∧ (∀ s ∈ l, ∀ t ∈ succs f s, t ∈ l.foldl (expandA f) A) ∧ ∀ u ∈ l.foldl (expandA f) A, u ∈ A ∨ ∃ s ∈ l, u ∈ succs f s
  | [], A, h, _ => ⟨h, ⟨[], by simp⟩, (fun t ht => by cases ht), fun u hu => .inl hu⟩
  | s :: l, A, h, hl => by
    obtain ⟨h1, ⟨N1, e1⟩, h3, h4⟩ := expand_ok h (hl s (List.mem_cons_self ..))
    obtain ⟨g1, ⟨N2, e2⟩, g3, g4⟩ := level_ok l (expandA f A s) h1 (fun u hu => hl u (List.mem_cons_of_mem _ hu))
    simp only [List.foldl_cons]
    refine ⟨g1, ⟨N1 ++ N2, by rw [e2, e1, List.append_assoc]⟩, fun u hu t ht => ?_, fun u hu => ?_⟩
    · rcases List.mem_cons.1 hu with rfl | hu
      · rw [e2]; exact List.mem_append_left _ (h3 t ht)
      · exact g3 u hu t ht
    · rcases g4 u hu with hu | ⟨s', hs', hu⟩
      · rcases h4 u hu with hu | hu
        · exact .inl hu
        · exact .inr ⟨s, List.mem_cons_self .., hu⟩
      · exact .inr ⟨s', List.mem_cons_of_mem _ hs', hu⟩
/-- distinct numbers below a bound are no more than the bound -/
theorem nodup_le : ∀ (M : Nat) (l : List Int), l.Nodup → (∀ x ∈ l, 0 ≤ x ∧ x < M) → l.length ≤ M
  | 0, l, _, h => by
    cases l with
    | nil => simp
    | cons x l => have := h x (List.mem_cons_self ..); omega
  | M + 1, l, hn, h => by
    have h1 := nodup_le M (l.filter fun x => x != (M : Int)) (hn.filter _) (fun x hx => by
      obtain ⟨a, b⟩ := List.mem_filter.1 hx
      have := h x a
      simp only [bne_iff_ne, ne_eq] at b
      omega)
    have h2 : ∀ l : List Int, l.Nodup → l.length ≤ (l.filter fun x => x != (M : Int)).length + 1 := fun l => by
      induction l with
      | nil => intro _; simp
      | cons x l ih =>
        intro hn
        obtain ⟨hx, hn⟩ := List.nodup_cons.1 hn
        by_cases e : x = (M : Int)
        · have : (l.filter fun y => y != (M : Int)) = l := List.filter_eq_self.2 fun y hy => by
            simp only [bne_iff_ne, ne_eq]
            intro e2; exact hx (by rw [e, ← e2]; exact hy)
          rw [List.filter_cons, if_neg (by simp [e]), this]; simp
        · rw [List.filter_cons, if_pos (by simpa using e)]
          have := ih hn
          simp; omega
    have := h2 l hn
    omega
theorem seen_len {f : api_Fleet} {A : List api_Rotation} (h : SeenOk f A) (h3 : f.Consumers.length ≤ 3) : A.length ≤ 65536 := by
  have := nodup_le 65536 (A.map numP) h.nodup (fun x hx => by
    obtain ⟨t, ht, rfl⟩ := List.mem_map.1 hx
    exact num_lt (h.right t ht) h3)
  simpa using this
/-! The innermost loop: the steps from one state -/
theorem search_l3 {f : api_Fleet} (h3 : f.Consumers.length ≤ 3) {s : api_Rotation} (hs : RightOk f s) {a0 : Nat} : ∀ (m i : Nat) (A : List api_Rotation), i + m = (choicesC (safeP f s) f.Consumers.length).length → a0 ≤ A.length → SeenOk f A →
    iter (ref34_search_l3 (choicesC (safeP f s) f.Consumers.length) f s) ((i : Int), A.map kvN, A.drop a0) = some ((((succs f s).drop i).foldl addA A).map kvN, (((succs f s).drop i).foldl addA A).drop a0) := fun m => by
  have c8 := hs.1.2.2.1
  have cl := choicesC_len (sf := safeP f s) c8
  have hsl : (succs f s).length = (choicesC (safeP f s) f.Consumers.length).length := by unfold succs; simp
  induction m with
  | zero =>
    intro i A h _ _
    rw [show (succs f s).drop i = [] from List.drop_eq_nil_of_le (by omega)]
    refine iter_out ?_
    unfold ref34_search_l3
    rw [if_neg (by simp; omega)]
    rfl
  | succ m ih =>
    intro i A h ha hA
    have hi : i < (choicesC (safeP f s) f.Consumers.length).length := by omega
    have hi' : i < (succs f s).length := by omega
    have hx := (mem_choicesC.1 (List.getElem_mem hi)).2.2.2.2
    have et : (succs f s)[i] = (applyP f s (choicesC (safeP f s) f.Consumers.length)[i]).1 := by simp [succs]
    have hr := (apply_right hs (safe_possible hx)).1
    rw [← et] at hr
    have hAl := seen_len hA h3
    have hstep : ref34_search_l3 (choicesC (safeP f s) f.Consumers.length) f s ((i : Int), A.map kvN, A.drop a0) = some (.go (((i + 1 : Nat) : Int), (addA A (succs f s)[i]).map kvN, (addA A (succs f s)[i]).drop a0)) := by
      unfold ref34_search_l3
      simp only
      rw [if_pos (by simp; omega), idx_lt hi, w64 (by omega) (by omega)]
      simp only [Option.bind_some, rapply_sp]
      rw [← et, number_sp hr h3]
      simp only [Option.bind_some, mget_kv]
      unfold addA
      by_cases hm : numP (succs f s)[i] ∈ A.map numP
      · rw [if_pos hm, if_neg (by simpa using hm)]; rfl
      · rw [if_neg hm, if_pos (by simpa using hm), ck_t (by simp; omega), mset_kv hm]
        simp only [Option.bind_some, List.map_append, List.map_cons, List.map_nil, List.drop_append_of_le_length ha]
        rfl
    rw [iter_go hstep, ih (i + 1) _ (by omega) (by unfold addA; split; exact ha; rw [List.length_append]; omega) (addA_mem hA hr).1, List.drop_eq_getElem_cons hi', List.foldl_cons]

def dd (f : api_Fleet) (L d : Int) (l : List api_Rotation) : Int := if d < 0 ∧ l.any (endedP f) = true then L else d
theorem dd_cons {f : api_Fleet} {L d : Int} (hL : 0 ≤ L) (x : api_Rotation) (l : List api_Rotation) : dd f L (if d < 0 ∧ endedP f x = true then L else d) l = dd f L d (x :: l) := by
  unfold dd
  rw [List.any_cons]
  by_cases hd : d < 0
  · cases hx : endedP f x with
    | true =>
      simp only [hd, true_and, if_true, Bool.true_or]
      rw [if_neg (by omega)]
    | false => simp [hd]
  · simp [hd]
theorem search_l1 {f : api_Fleet} (h3 : f.Consumers.length ≤ 3) {cnt0 d0 L : Int} {A0 : List (Int × Bool)} {C : List api_Rotation} (hL : 0 ≤ L) (hC : ∀ t ∈ C, RightOk f t) (hCl : C.length ≤ 65536) {a0 : Nat} : ∀ (m i : Nat) (cnt d : Int) (A : List api_Rotation), i + m = C.length → a0 ≤ A.length → SeenOk f A → 0 ≤ cnt → cnt + m ≤ 1000000 →
    iter (ref34_search_l1 (cnt0, d0, L, A0, C) f) (cnt, d, (i : Int), A.map kvN, A.drop a0) = some (cnt + m, dd f L d (C.drop i), ((C.drop i).foldl (expandA f) A).map kvN, ((C.drop i).foldl (expandA f) A).drop a0) := fun m => by
  induction m with
  | zero =>
    intro i cnt d A h _ _ _ _
    rw [show C.drop i = [] from List.drop_eq_nil_of_le (by omega)]
    refine iter_out ?_
    unfold ref34_search_l1
    rw [if_neg (by simp; omega)]
    simp [dd]
  | succ m ih =>
    intro i cnt d A h ha hA h0 h1
    have hi : i < C.length := by omega
    have hs := hC _ (List.getElem_mem hi)
    have hl3 := search_l3 h3 hs (a0 := a0) (choicesC (safeP f C[i]) f.Consumers.length).length 0 A (by omega) ha hA
    rw [List.drop_zero] at hl3
    obtain ⟨e1, ⟨N, e2⟩, _, _⟩ := expand_ok hA hs
    have c8 := hs.1.2.2.1
    have hj : ∀ v : Int, ref34_search_j2 f C[i] (cnt, d, (i : Int), A.map kvN, A.drop a0) v = some (.go (cnt + 1, v, ((i + 1 : Nat) : Int), (expandA f A C[i]).map kvN, (expandA f A C[i]).drop a0)) := fun v => by
      unfold ref34_search_j2
      rw [rchoices_sp (by omega)]
      simp only [Option.bind_some]
      rw [show (0 : Int) = ((0 : Nat) : Int) from rfl, hl3, w64 (by omega) (by omega), w64 (by omega) (by omega)]
      rfl
    have hstep : ref34_search_l1 (cnt0, d0, L, A0, C) f (cnt, d, (i : Int), A.map kvN, A.drop a0) = some (.go (cnt + 1, (if d < 0 ∧ endedP f C[i] = true then L else d), ((i + 1 : Nat) : Int), (expandA f A C[i]).map kvN, (expandA f A C[i]).drop a0)) := by
      unfold ref34_search_l1
      simp only
      rw [if_pos (by simp; omega), ck_t (by simp; omega), idx_lt hi]
      simp only [Option.bind_some, rended_sp]
      by_cases hd : d < 0
      · rw [if_pos (by simpa using hd)]
        simp only [Option.bind_some]
        cases he : endedP f C[i] with
        | true => rw [if_pos rfl, hj]; simp [hd]
        | false => rw [if_neg (by simp), hj]; simp
      · rw [if_neg (by simpa using hd)]
        simp only [Option.bind_some]
        rw [if_neg (by simp), hj]; simp [hd]
    rw [iter_go hstep, ih (i + 1) (cnt + 1) _ _ (by omega) (by rw [e2, List.length_append]; omega) e1 (by omega) (by push_cast at h1 ⊢; omega), List.drop_eq_getElem_cons hi, List.foldl_cons, dd_cons hL]
    congr 2
    push_cast
    omega
/-! Reached -/
def reach (f : api_Fleet) (s0 : api_Rotation) (k : Nat) (t : api_Rotation) : Prop := ∃ l, safeRun f s0 l ∧ endS f s0 l = t ∧ l.length = k
theorem safeRun_split {f : api_Fleet} {x : api_Step} : ∀ (l : List api_Step) (s : api_Rotation), safeRun f s (l ++ [x]) → safeRun f s l ∧ safeP f (endS f s l) x = true := fun l => by
  induction l with
  | nil => intro s h; exact ⟨trivial, h.1⟩
  | cons y l ih =>
    intro s h
    obtain ⟨h1, h2⟩ := ih _ h.2
    exact ⟨⟨h.1, h1⟩, h2⟩
theorem reach_right {f : api_Fleet} {s0 t : api_Rotation} {k : Nat} (hr : RightOk f s0) (h : reach f s0 k t) : RightOk f t := by
  obtain ⟨l, h1, rfl, _⟩ := h
  exact (safeRun_run l s0 hr h1).2.1
theorem reach_succ {f : api_Fleet} {s0 t : api_Rotation} {k : Nat} (hr : RightOk f s0) (h : reach f s0 (k + 1) t) : ∃ t', reach f s0 k t' ∧ t ∈ succs f t' := by
  obtain ⟨l, h1, rfl, h3⟩ := h
  rcases List.eq_nil_or_concat l with rfl | ⟨l', x, rfl⟩
  · simp at h3
  · rw [List.concat_eq_append] at h1 h3 ⊢
    obtain ⟨a, b⟩ := safeRun_split l' s0 h1
    have hr' := (safeRun_run l' s0 hr a).2.1
    refine ⟨endS f s0 l', ⟨l', a, rfl, by simpa using h3⟩, (mem_succs hr').2 ⟨x, b, ?_⟩⟩
    exact (safeRun_snoc l' s0 a b).2
theorem reach_step {f : api_Fleet} {s0 t u : api_Rotation} {k : Nat} (hr : RightOk f s0) (h : reach f s0 k t) (hu : u ∈ succs f t) : reach f s0 (k + 1) u := by
  have ht := reach_right hr h
  obtain ⟨x, hx, rfl⟩ := (mem_succs ht).1 hu
  obtain ⟨l, h1, rfl, h3⟩ := h
  obtain ⟨a, b⟩ := safeRun_snoc l s0 h1 hx
  exact ⟨l ++ [x], a, b, by simp [h3]⟩
theorem reach_0 {f : api_Fleet} {s0 t : api_Rotation} (h : reach f s0 0 t) : t = s0 := by
  obtain ⟨l, _, rfl, h3⟩ := h
  rw [List.eq_nil_of_length_eq_zero h3]; rfl
/-- what holds ahead of a level -/
structure BfsOk (f : api_Fleet) (s0 : api_Rotation) (L : Nat) (d cnt : Int) (A : List api_Rotation) (c : Nat) : Prop where
  seen : SeenOk f A
  le : c ≤ A.length
  lv : L ≤ c
  cn : cnt = c
  ini : s0 ∈ A
  re : ∀ t ∈ A, ∃ k, reach f s0 k t
  clo : ∀ t ∈ A.take c, ∀ u ∈ succs f t, u ∈ A
  low : ∀ (k : Nat) (t : api_Rotation), reach f s0 k t → k < L → t ∈ A.take c
  lvl : ∀ t ∈ A.drop c, reach f s0 L t
  dist : (d = -1 ∧ ∀ t ∈ A.take c, endedP f t = false) ∨ (0 ≤ d ∧ (∃ t, reach f s0 d.toNat t ∧ endedP f t = true) ∧ ∀ (k : Nat) (t : api_Rotation), reach f s0 k t → endedP f t = true → d ≤ k)
def found (f : api_Fleet) (s0 : api_Rotation) (d : Int) : Prop := (d = -1 ∧ ∀ (k : Nat) (t : api_Rotation), reach f s0 k t → endedP f t = false) ∨ (0 ≤ d ∧ (∃ t, reach f s0 d.toNat t ∧ endedP f t = true) ∧ ∀ (k : Nat) (t : api_Rotation), reach f s0 k t → endedP f t = true → d ≤ k)
theorem low_in {f : api_Fleet} {s0 : api_Rotation} (hr : RightOk f s0) {L : Nat} {d cnt : Int} {A : List api_Rotation} {c : Nat} (h : BfsOk f s0 L d cnt A c) {k : Nat} {t : api_Rotation} (ht : reach f s0 k t) (hk : k ≤ L) : t ∈ A := by
  cases k with
  | zero => rw [reach_0 ht]; exact h.ini
  | succ k =>
    obtain ⟨t', h1, h2⟩ := reach_succ hr ht
    exact h.clo t' (h.low k t' h1 (by omega)) t h2
theorem all_in {f : api_Fleet} {s0 : api_Rotation} (hr : RightOk f s0) {L : Nat} {d cnt : Int} {A : List api_Rotation} (h : BfsOk f s0 L d cnt A A.length) : ∀ (k : Nat) (t : api_Rotation), reach f s0 k t → t ∈ A := fun k => by
  have hc := h.clo
  rw [List.take_length] at hc
  induction k with
  | zero => intro t ht; rw [reach_0 ht]; exact h.ini
  | succ k ih =>
    intro t ht
    obtain ⟨t', h1, h2⟩ := reach_succ hr ht
    exact hc t' (ih t' h1) t h2
theorem bfs_step {f : api_Fleet} {s0 : api_Rotation} (hr : RightOk f s0) {L : Nat} {d cnt : Int} {A : List api_Rotation} {c : Nat} (h : BfsOk f s0 L d cnt A c) (hne : c < A.length) : BfsOk f s0 (L + 1) (dd f (L : Int) d (A.drop c)) (cnt + ((A.drop c).length : Nat)) ((A.drop c).foldl (expandA f) A) A.length ∧ ∃ N, (A.drop c).foldl (expandA f) A = A ++ N := by
  have hcr : ∀ t ∈ A.drop c, RightOk f t := fun t ht => h.seen.right t (List.mem_of_mem_drop ht)
  obtain ⟨g1, ⟨N, e⟩, g3, g4⟩ := level_ok (A.drop c) A h.seen hcr
  refine ⟨⟨g1, by rw [e, List.length_append]; omega, by have := h.lv; omega, ?_, by rw [e]; exact List.mem_append_left _ h.ini, fun t ht => ?_, fun t ht u hu => ?_, fun k t ht hk => ?_, fun t ht => ?_, ?_⟩, N, e⟩
  · have := h.cn; have := h.le; rw [List.length_drop]; omega
  · rcases g4 t ht with ht | ⟨s, hs, ht⟩
    · exact h.re t ht
    · obtain ⟨k, hk⟩ := h.re s (List.mem_of_mem_drop hs)
      exact ⟨k + 1, reach_step hr hk ht⟩
  · rw [e, List.take_left'] at ht
    · rw [← List.take_append_drop c A] at ht
      rcases List.mem_append.1 ht with ht | ht
      · rw [e]; exact List.mem_append_left _ (h.clo t ht u hu)
      · exact g3 t ht u hu
    · rfl
  · rw [e, List.take_left' rfl]
    exact low_in hr h ht (Nat.lt_succ_iff.1 hk)
  · have hnd := g1.nodup
    rw [e, List.drop_left'  rfl] at ht
    have hin : t ∈ (A.drop c).foldl (expandA f) A := by rw [e]; exact List.mem_append_right _ ht
    rcases g4 t hin with hA | ⟨s, hs, ht2⟩
    · rw [e, List.map_append] at hnd
      exact absurd rfl ((List.nodup_append.1 hnd).2.2 (numP t) (List.mem_map_of_mem hA) (numP t) (List.mem_map_of_mem ht))
    · exact reach_step hr (h.lvl s hs) ht2
  · unfold dd
    rcases h.dist with ⟨hd, hn⟩ | ⟨hd, ⟨t, ht, hte⟩, hm⟩
    · by_cases hany : (A.drop c).any (endedP f) = true
      · rw [if_pos ⟨by omega, hany⟩]
        right
        obtain ⟨t, ht, hte⟩ := List.any_eq_true.1 hany
        refine ⟨by omega, ⟨t, by rw [Int.toNat_natCast]; exact h.lvl t ht, hte⟩, fun k u hu hue => ?_⟩
        by_cases hk : k < L
        · have := hn u (h.low k u hu hk)
          rw [hue] at this; cases this
        · omega
      · rw [if_neg (fun q => hany q.2)]
        left
        refine ⟨hd, fun t ht => ?_⟩
        rw [e, List.take_left' rfl, ← List.take_append_drop c A] at ht
        rcases List.mem_append.1 ht with ht | ht
        · exact hn t ht
        · cases hte : endedP f t with
          | false => rfl
          | true => exact absurd (List.any_eq_true.2 ⟨t, ht, hte⟩) hany
    · rw [if_neg (fun q => by omega)]
      exact .inr ⟨hd, ⟨t, ht, hte⟩, hm⟩
abbrev SS : Type := Int × Int × Int × (List (Int × Bool)) × (List api_Rotation)
theorem search_ex {f : api_Fleet} (h3 : f.Consumers.length ≤ 3) {s0 : api_Rotation} (hr : RightOk f s0) : ∃ (A : List api_Rotation) (d : Int), ref34_search f s0 = some ((A.length : Int), d) ∧ found f s0 d ∧ SeenOk f A ∧ (∀ t ∈ A, ∃ k, reach f s0 k t) ∧ ∀ (k : Nat) (t : api_Rotation), reach f s0 k t → t ∈ A := by
  unfold ref34_search
  rw [number_sp hr h3]
  simp only [Option.bind_some]
  have := iter_ex (body := ref34_search_l0 f) (fun s : SS => ∃ (L c : Nat) (A : List api_Rotation) (d cnt : Int), s = (cnt, d, (L : Int), A.map kvN, A.drop c) ∧ BfsOk f s0 L d cnt A c) (fun s => 2 * (65536 - s.2.2.2.1.length) + (if s.2.2.2.2.length = 0 then 0 else 1)) (fun e => ∃ A : List api_Rotation, e.1 = (A.length : Int) ∧ found f s0 e.2 ∧ SeenOk f A ∧ (∀ t ∈ A, ∃ k, reach f s0 k t) ∧ ∀ (k : Nat) (t : api_Rotation), reach f s0 k t → t ∈ A) ?_ (s := (0, -1, 0, mset inE [] (numP s0) true, [s0])) ?_
  · obtain ⟨e, h1, A, h2, h3⟩ := this
    rw [h1]
    refine ⟨A, e.2, ?_, h3⟩
    rw [← h2]; rfl
  · rintro s ⟨L, c, A, d, cnt, rfl, h⟩
    have hAl := seen_len h.seen h3
    have hle := h.le
    have hlv := h.lv
    have hcn := h.cn
    unfold ref34_search_l0
    simp only
    by_cases hne : c < A.length
    · left
      obtain ⟨g, N, e⟩ := bfs_step hr h hne
      rw [if_pos (by rw [decide_eq_true_eq, List.length_drop]; omega)]
      have hl1 := search_l1 (f := f) h3 (cnt0 := cnt) (d0 := d) (L := (L : Int)) (A0 := A.map kvN) (C := A.drop c) (by omega) (fun t ht => h.seen.right t (List.mem_of_mem_drop ht)) (by rw [List.length_drop]; omega) (a0 := A.length) (A.drop c).length 0 cnt d A (by omega) (Nat.le_refl _) h.seen (by omega) (by rw [List.length_drop]; omega)
      rw [List.drop_length, List.drop_zero] at hl1
      rw [show (0 : Int) = ((0 : Nat) : Int) from rfl, hl1]
      simp only [Option.bind_some]
      rw [w64 (x := (L : Int) + 1) (by omega) (by omega)]
      refine ⟨_, rfl, ⟨L + 1, A.length, _, _, _, by push_cast; rfl, g⟩, ?_⟩
      have hAl2 := seen_len g.seen h3
      rw [e] at hAl2 ⊢
      simp only [List.length_map, List.length_append, List.length_drop] at hAl2 ⊢
      have hcA : ¬ (A.length - c = 0) := by omega
      rw [if_neg hcA]
      split <;> omega
    · right
      have hc : c = A.length := by omega
      subst hc
      rw [if_neg (by rw [List.drop_length]; simp)]
      refine ⟨_, rfl, A, by simp only; rw [h.cn], ?_, h.seen, h.re, all_in hr h⟩
      rcases h.dist with ⟨hd, hn⟩ | ⟨hd, ⟨t, ht, hte⟩, hm⟩
      · rw [List.take_length] at hn
        exact .inl ⟨hd, fun k t ht => hn t (all_in hr h k t ht)⟩
      · exact .inr ⟨hd, ⟨t, ht, hte⟩, hm⟩
  · refine ⟨0, 0, [s0], -1, 0, rfl, ⟨⟨fun t ht => by rw [List.mem_singleton.1 ht]; exact hr, by simp⟩, by simp, Nat.le_refl 0, rfl, by simp, fun t ht => ⟨0, [], trivial, (List.mem_singleton.1 ht).symm, rfl⟩, fun t ht => by simp at ht, fun k t _ hk => by omega, fun t ht => ⟨[], trivial, (List.mem_singleton.1 ht).symm, rfl⟩, .inl ⟨rfl, fun t ht => by simp at ht⟩⟩⟩
theorem distance_ex {f : api_Fleet} (h3 : f.Consumers.length ≤ 3) {s0 : api_Rotation} (hr : RightOk f s0) : ∃ d, ref34_Distance f s0 = some ((if 0 > d then 0 else d), decide (0 ≤ d), 0) ∧ found f s0 d := by
  obtain ⟨A, d, h1, h2, _⟩ := search_ex h3 hr
  refine ⟨d, ?_, h2⟩
  unfold ref34_Distance ref34_check
  rw [rright_sp, decide_eq_true hr]
  simp only [Option.bind_some]
  rw [if_neg (by simp), if_neg (by simp; omega)]
  simp only [Option.bind_some]
  rw [if_neg (by simp), h1]
  rfl

/-- a pool that does not fit has one unit alone, not live, or with one slot for one secret -/
theorem unfit {f : api_Fleet} (hf : FleetOk f) {q : Int} (hq : q ∈ poolsP f) (h : fitP f q = false) : ∃ i, i < f.Consumers.length ∧ (∀ j, j < f.Consumers.length → poolAt f j = poolAt f i → j = i) ∧ ((consAt f i).Live = false ∨ ((consAt f i).Dual = false ∧ f.Slots = 1)) := by
  obtain ⟨_, i0, hi0, e0⟩ := mem_poolsP.1 hq
  have hm0 : (i0 : Int) ∈ unitsP f q := (in_pool hf).2 ⟨i0, rfl, hi0, by simpa [poolAt, List.getD, hi0] using e0⟩
  have hl0 := List.length_pos_of_mem hm0
  unfold fitP at h
  by_cases h1 : (unitsP f q).length = 1
  · rw [if_pos h1] at h
    obtain ⟨x, hx⟩ := List.length_eq_one_iff.1 h1
    have hm : x ∈ unitsP f q := by rw [hx]; simp
    obtain ⟨i, rfl, hi, hp⟩ := (in_pool hf).1 hm
    refine ⟨i, hi, fun j hj hpj => ?_, ?_⟩
    · have : (j : Int) ∈ unitsP f q := (in_pool hf).2 ⟨j, rfl, hj, hpj.trans hp⟩
      rw [hx] at this
      have := List.mem_singleton.1 this
      omega
    · rw [hx] at h
      simp only [List.headD_cons, Int.toNat_natCast] at h
      cases hl : (consAt f i).Live with
      | false => exact .inl rfl
      | true =>
        right
        rw [hl, Bool.true_and] at h
        simp only [Bool.or_eq_false_iff, beq_eq_false_iff_ne, ne_eq] at h
        exact ⟨h.1, hf.1.resolve_right h.2⟩
  · rw [if_neg h1] at h
    have : ¬ 1 < (unitsP f q).length := by simpa using h
    omega
/-- the sole unit goes on using the old secret -/
def oldU (f : api_Fleet) (i : Nat) (s : api_Rotation) : Prop := (unitAt s i).Up = true ∧ (unitAt s i).Used = 1 ∧ ((consAt f i).Live = true → (unitAt s i).Stored = 1 ∧ s.Valid = 1)
theorem bA21 : bAnd .i64 2 1 = 0 := by decide
theorem sole_HA {f : api_Fleet} {s : api_Rotation} {i : Nat} (hi : i < f.Consumers.length) (hs : ∀ j, j < f.Consumers.length → poolAt f j = poolAt f i → j = i) (h : HA f s) : servesU s (unitAt s i) = true := by
  obtain ⟨j, h1, h2, h3⟩ := h i hi
  rw [hs j h1 h2] at h3
  exact h3
theorem old_step {f : api_Fleet} {s : api_Rotation} {x : api_Step} {i : Nat} (hr : RightOk f s) (hi : i < f.Consumers.length) (hsole : ∀ j, j < f.Consumers.length → poolAt f j = poolAt f i → j = i) (hu : (consAt f i).Live = false ∨ ((consAt f i).Dual = false ∧ f.Slots = 1)) (ho : oldU f i s) (ha : HA f s) (hx : safeP f s x = true) : oldU f i (applyP f s x).1 := by
  have ha' := safe_HA hr ha hx
  obtain ⟨hr', hk, hok, e⟩ := apply_right hr (safe_possible hx)
  have hsv := sole_HA hi hsole ha'
  rw [e] at hsv hr' ⊢
  obtain ⟨o1, o2, o3⟩ := ho
  have hil : i < s.Units.length := by rw [hr.2.2.2.1]; exact hi
  obtain ⟨k1, k2, k3, k4, k5⟩ := hk
  unfold okStep at hok
  unfold nextS at hsv ⊢
  by_cases c1 : x.Kind = 1
  · rw [if_pos c1] at hsv ⊢
    exact ⟨o1, o2, o3⟩
  rw [if_neg c1] at hsv hok ⊢
  by_cases c2 : x.Kind = 2
  · rw [if_pos c2] at hsv hok ⊢
    refine ⟨o1, o2, fun hl => ?_⟩
    simp only [Bool.and_eq_true, beq_iff_eq] at hok
    rcases hu with hu | hu
    · rw [hl] at hu; cases hu
    · omega
  rw [if_neg c2] at hsv hok ⊢
  by_cases c3 : x.Kind = 3
  · rw [if_pos c3] at hsv
    exfalso
    have : servesU (⟨s.Known, 2, s.Units⟩ : api_Rotation) (unitAt (⟨s.Known, 2, s.Units⟩ : api_Rotation) i) = (bAnd .i64 (unitAt s i).Used 2 != 0) := rfl
    rw [this, o2] at hsv
    exact absurd hsv (by decide)
  rw [if_neg c3] at hsv hok ⊢
  by_cases c8 : x.Kind = 8
  · rw [if_pos c8] at hsv
    exfalso
    have : servesU (⟨s.Known, 2, s.Units⟩ : api_Rotation) (unitAt (⟨s.Known, 2, s.Units⟩ : api_Rotation) i) = (bAnd .i64 (unitAt s i).Used 2 != 0) := rfl
    rw [this, o2] at hsv
    exact absurd hsv (by decide)
  rw [if_neg c8] at hsv hok ⊢
  by_cases hxi : x.Unit.toNat = i
  · have e1 : f.Consumers.getD x.Unit.toNat default = consAt f i := by rw [hxi]; rfl
    have e2 : s.Units.getD x.Unit.toNat default = unitAt s i := by rw [hxi]; rfl
    rw [e1, e2] at hok
    rw [e1, e2, hxi] at hsv ⊢
    have e3 : unitAt (⟨s.Known, s.Valid, s.Units.set i (unitStep (consAt f i) (unitAt s i) x.Kind (s.Known == 3)).2⟩ : api_Rotation) i = (unitStep (consAt f i) (unitAt s i) x.Kind (s.Known == 3)).2 := by rw [unitAt_set hil, if_pos rfl]
    rw [e3] at hsv
    unfold oldU
    rw [e3]
    have k4567 : x.Kind = 4 ∨ x.Kind = 5 ∨ x.Kind = 6 ∨ x.Kind = 7 := by omega
    rcases k4567 with q | q | q | q
    · rw [q, us4] at hok hsv ⊢
      simp only at hsv ⊢
      cases hl : (consAt f i).Live with
      | false =>
        have : fixU (consAt f i) ⟨(unitAt s i).Up, bif (consAt f i).Dual then 3 else 2, (unitAt s i).Used⟩ = ⟨(unitAt s i).Up, bif (consAt f i).Dual then 3 else 2, (unitAt s i).Used⟩ := by unfold fixU; rw [hl]; rfl
        rw [this]
        exact ⟨o1, o2, fun h => by cases h⟩
      | true =>
        exfalso
        rcases hu with hu | hu
        · rw [hl] at hu; cases hu
        · have : fixU (consAt f i) ⟨(unitAt s i).Up, bif (consAt f i).Dual then 3 else 2, (unitAt s i).Used⟩ = ⟨true, 2, 2⟩ := by unfold fixU; rw [hl, o1, hu.1]; rfl
          rw [this] at hsv
          unfold servesU at hsv
          rw [(o3 hl).2] at hsv
          exact absurd hsv (by decide)
    · exfalso
      rw [q, us5] at hsv
      unfold servesU at hsv
      simp only [and_0] at hsv
      simp at hsv
    · exfalso
      rw [q, us6] at hok
      simp only [o1] at hok
      cases hok
    · rw [q, us7] at hok hsv ⊢
      simp only at hsv ⊢
      cases hl : (consAt f i).Live with
      | false =>
        have : fixU (consAt f i) ⟨(unitAt s i).Up, 2, (unitAt s i).Used⟩ = ⟨(unitAt s i).Up, 2, (unitAt s i).Used⟩ := by unfold fixU; rw [hl]; rfl
        rw [this]
        exact ⟨o1, o2, fun h => by cases h⟩
      | true =>
        exfalso
        have := (o3 hl).1
        simp only [beq_iff_eq] at hok
        omega
  · unfold oldU
    have e3 : ∀ u : api_Unit, unitAt (⟨s.Known, s.Valid, s.Units.set x.Unit.toNat u⟩ : api_Rotation) i = unitAt s i := fun u => by
      rw [unitAt_set (by have := hr.2.2.2.1; omega), if_neg (fun e => hxi e.symm)]
    rw [e3]
    exact ⟨o1, o2, o3⟩
theorem never_ended {f : api_Fleet} (hf : FleetOk f) (h : (whyP f).2 = true) : ∀ (k : Nat) (t : api_Rotation), reach f (startR f) k t → endedP f t = false := by
  obtain ⟨w1, w2, _⟩ := why_first h
  obtain ⟨i, hi, hsole, hu⟩ := unfit hf w1 w2
  have hr : RightOk f (startR f) := start_right hf
  have key : ∀ (l : List api_Step) (s : api_Rotation), RightOk f s → HA f s → oldU f i s → safeRun f s l → oldU f i (endS f s l) ∧ RightOk f (endS f s l) := fun l => by
    induction l with
    | nil => intro s h1 _ h3 _; exact ⟨h3, h1⟩
    | cons x l ih =>
      intro s h1 h2 h3 h4
      exact ih _ (apply_right h1 (safe_possible h4.1)).1 (safe_HA h1 h2 h4.1) (old_step h1 hi hsole hu h3 h2 h4.1) h4.2
  rintro k t ⟨l, h1, rfl, _⟩
  have h0 : oldU f i (startR f) := by
    have : unitAt (startR f) i = ⟨true, 1, 1⟩ := by simp [unitAt, startR, List.getD, hi]
    unfold oldU
    rw [this]
    exact ⟨rfl, rfl, fun _ => ⟨rfl, rfl⟩⟩
  obtain ⟨⟨_, o2, _⟩, hre⟩ := key l (startR f) hr (start_HA f) h0 h1
  cases he : endedP f (endS f (startR f) l) with
  | false => rfl
  | true =>
    unfold endedP at he
    simp only [Bool.and_eq_true, List.all_eq_true] at he
    have hil : i < (endS f (startR f) l).Units.length := by rw [hre.2.2.2.1]; exact hi
    have := he.2.2 _ (List.getElem_mem hil)
    rw [unitAt_get] at this
    unfold endedU at this
    rw [o2] at this
    simp at this

/-! Keys -/
def upI (u : api_Unit) : Int := bif u.Up then 1 else 0
def keyP (s : api_Rotation) : List Int := [s.Known, s.Valid, (unitAt s 0).Stored, (unitAt s 0).Used, upI (unitAt s 0), (unitAt s 1).Stored, (unitAt s 1).Used, upI (unitAt s 1), (unitAt s 2).Stored, (unitAt s 2).Used, upI (unitAt s 2)]
def setU (arr : List Int) (i : Nat) (u : api_Unit) : List Int := bif u.Up then ((arr.set (2 + 3 * i) u.Stored).set (3 + 3 * i) u.Used).set (4 + 3 * i) 1 else (arr.set (2 + 3 * i) u.Stored).set (3 + 3 * i) u.Used
theorem setU_len {arr : List Int} {i : Nat} {u : api_Unit} : (setU arr i u).length = arr.length := by unfold setU; cases u.Up <;> simp
theorem key_step {x : search_found} {i : Nat} (hi : i < x.Rotation.Units.length) (h3 : i < 3) {arr : List Int} (ha : arr.length = 11) : search_found_key_l0 x ((i : Int), arr) = some (.go (((i + 1 : Nat) : Int), setU arr i x.Rotation.Units[i])) := by
  unfold search_found_key_l0
  simp only
  rw [if_pos (by simp; omega), idx_lt hi, w64 (x := 3 * (i : Int)) (by omega) (by omega), w64 (x := 2 + 3 * (i : Int)) (by omega) (by omega), w64 (x := 3 + 3 * (i : Int)) (by omega) (by omega), w64 (x := 4 + 3 * (i : Int)) (by omega) (by omega), w64 (x := (i : Int) + 1) (by omega) (by omega)]
  have e2 : (2 + 3 * (i : Int)).toNat = 2 + 3 * i := by omega
  have e3 : (3 + 3 * (i : Int)).toNat = 3 + 3 * i := by omega
  have e4 : (4 + 3 * (i : Int)).toNat = 4 + 3 * i := by omega
  simp only [Option.bind_some, e2, e3, e4]
  rw [ck_t (by omega)]
  simp only [Option.bind_some]
  rw [ck_t (by omega)]
  simp only [Option.bind_some]
  rw [ck_t (by omega)]
  simp only [Option.bind_some]
  rw [ck_t (by simp; omega)]
  simp only [Option.bind_some]
  unfold setU
  cases x.Rotation.Units[i].Up with
  | false => rw [if_neg (by simp)]; rfl
  | true =>
    rw [if_pos rfl, ck_t (by omega)]
    simp only [Option.bind_some]
    rw [ck_t (by simp; omega)]
    rfl
theorem key_out {x : search_found} {i : Nat} (hi : i = x.Rotation.Units.length) {arr : List Int} : search_found_key_l0 x ((i : Int), arr) = some (.out arr) := by
  unfold search_found_key_l0
  rw [if_neg (by simp; omega)]
theorem key_sp {x : search_found} (h3 : x.Rotation.Units.length ≤ 3) : search_found_key x = some (keyP x.Rotation) := by
  have key : iter (search_found_key_l0 x) (0, ([x.Rotation.Known, x.Rotation.Valid, 0, 0, 0, 0, 0, 0, 0, 0, 0] : List Int)) = some (keyP x.Rotation) := by
    have hs := fun (i : Nat) (arr : List Int) (hi : i < x.Rotation.Units.length) (ha : arr.length = 11) => key_step (x := x) hi (by omega) ha
    have ho := fun (i : Nat) (arr : List Int) (hi : i = x.Rotation.Units.length) => key_out (x := x) hi (arr := arr)
    obtain ⟨⟨kn, va, us⟩, fa, st, be⟩ := x
    simp only at h3 hs ho ⊢
    match us, h3 with
    | [], _ => exact iter_out (ho 0 _ rfl)
    | [a], _ =>
      rw [show (0 : Int) = ((0 : Nat) : Int) from rfl, iter_go (hs 0 _ (by simp) rfl), iter_out (ho 1 _ rfl)]
      obtain ⟨a1, a2, a3⟩ := a
      cases a1 <;> rfl
    | [a, b], _ =>
      rw [show (0 : Int) = ((0 : Nat) : Int) from rfl, iter_go (hs 0 _ (by simp) rfl), iter_go (hs 1 _ (by simp) (by rw [setU_len]; rfl)), iter_out (ho 2 _ rfl)]
      obtain ⟨a1, a2, a3⟩ := a
      obtain ⟨b1, b2, b3⟩ := b
      cases a1 <;> cases b1 <;> rfl
    | [a, b, c], _ =>
      rw [show (0 : Int) = ((0 : Nat) : Int) from rfl, iter_go (hs 0 _ (by simp) rfl), iter_go (hs 1 _ (by simp) (by rw [setU_len]; rfl)), iter_go (hs 2 _ (by simp) (by rw [setU_len, setU_len]; rfl)), iter_out (ho 3 _ rfl)]
      obtain ⟨a1, a2, a3⟩ := a
      obtain ⟨b1, b2, b3⟩ := b
      obtain ⟨c1, c2, c3⟩ := c
      cases a1 <;> cases b1 <;> cases c1 <;> rfl
    | _ :: _ :: _ :: _ :: _, h => simp at h
  unfold search_found_key
  rw [key]
  rfl
theorem key_num {s t : api_Rotation} (hl : s.Units.length = t.Units.length) (h3 : s.Units.length ≤ 3) (h : keyP s = keyP t) : numP s = numP t := by
  obtain ⟨kn, va, us⟩ := s
  obtain ⟨kn', va', us'⟩ := t
  simp only at hl h3
  unfold keyP unitAt at h
  simp only [List.cons.injEq] at h
  obtain ⟨rfl, rfl, h⟩ := h
  unfold numP foldN digU
  match us, us', hl, h3 with
  | [], [], _, _ => rfl
  | [a], [b], _, _ => simp at h ⊢; rw [h.1, h.2.1]
  | [a, b], [c, d], _, _ => simp at h ⊢; rw [h.1, h.2.1, h.2.2.2.1, h.2.2.2.2.1]
  | [a, b, c], [d, e, g], _, _ => simp at h ⊢; rw [h.1, h.2.1, h.2.2.2.1, h.2.2.2.2.1, h.2.2.2.2.2.2.1, h.2.2.2.2.2.2.2.1]
  | _ :: _ :: _ :: _ :: _, _, _, h => simp at h
theorem key_inj {f : api_Fleet} {s t : api_Rotation} (hs : RightOk f s) (ht : RightOk f t) (h3 : f.Consumers.length ≤ 3) (h : keyP s = keyP t) : s = t :=
  num_inj hs ht (key_num (by rw [hs.2.2.2.1, ht.2.2.2.1]) (by rw [hs.2.2.2.1]; exact h3) h)
theorem arE_eq {a b : List Int} (ha : a.length = 11) (hb : b.length = 11) : arE 11 a b = decide (a = b) := by
  match a, b, ha, hb with
  | [a0, a1, a2, a3, a4, a5, a6, a7, a8, a9, a10], [b0, b1, b2, b3, b4, b5, b6, b7, b8, b9, b10], _, _ =>
    have : arE 11 [a0, a1, a2, a3, a4, a5, a6, a7, a8, a9, a10] [b0, b1, b2, b3, b4, b5, b6, b7, b8, b9, b10] = ((a0 == b0) && ((a1 == b1) && ((a2 == b2) && ((a3 == b3) && ((a4 == b4) && ((a5 == b5) && ((a6 == b6) && ((a7 == b7) && ((a8 == b8) && ((a9 == b9) && ((a10 == b10) && true))))))))))) := rfl
    rw [this]
    have hb : ∀ a b : Int, (a == b) = decide (a = b) := fun a b => by cases h : (a == b) <;> simp_all
    simp only [hb, Bool.decide_and, List.cons.injEq, Bool.and_true, and_true]
theorem keyP_len (s : api_Rotation) : (keyP s).length = 11 := rfl
def kvK (t : api_Rotation) : List Int × Bool := (keyP t, true)
theorem mfind_kvK (u t : api_Rotation) (A : List (List Int × Bool)) : mfind (arE 11) (keyP u) (kvK t :: A) = if keyP u = keyP t then some (0, true) else (mfind (arE 11) (keyP u) A).map fun r => (r.1 + 1, r.2) := by
  have h0 : mfind (arE 11) (keyP u) (kvK t :: A) = if arE 11 (keyP u) (kvK t).1 = true then some (0, (kvK t).2) else (mfind (arE 11) (keyP u) A).map fun r => (r.1 + 1, r.2) := rfl
  rw [h0, show (kvK t).1 = keyP t from rfl, arE_eq (keyP_len _) (keyP_len t)]
  simp only [decide_eq_true_eq]
  rfl
theorem mget_kvK (u : api_Rotation) : ∀ A : List api_Rotation, (mget (arE 11) (A.map kvK) (keyP u)).getD false = decide (keyP u ∈ A.map keyP)
  | [] => rfl
  | t :: A => by
    have ih := mget_kvK u A
    unfold mget at ih ⊢
    rw [List.map_cons, mfind_kvK]
    by_cases h : keyP u = keyP t
    · simp [h]
    · rw [if_neg h, List.map_cons]
      simp only [Option.map_map, List.mem_cons, h, false_or]
      rw [← ih]
      rfl
theorem mset_kvK {u : api_Rotation} {A : List api_Rotation} (h : keyP u ∉ A.map keyP) : mset (arE 11) (A.map kvK) (keyP u) true = A.map kvK ++ [kvK u] := by
  have : mfind (arE 11) (keyP u) (A.map kvK) = none := by
    induction A with
    | nil => rfl
    | cons t A ih =>
      simp only [List.map_cons, List.mem_cons, not_or] at h
      rw [List.map_cons, mfind_kvK, if_neg h.1, ih h.2]; rfl
  unfold mset
  rw [this]
  rfl
theorem key_mem {f : api_Fleet} {A : List api_Rotation} {u : api_Rotation} (h : ∀ t ∈ A, RightOk f t) (hu : RightOk f u) (h3 : f.Consumers.length ≤ 3) : keyP u ∈ A.map keyP ↔ u ∈ A := by
  rw [List.mem_map]
  constructor
  · rintro ⟨t, ht, e⟩
    rw [← key_inj (h t ht) hu h3 e]; exact ht
  · intro hm; exact ⟨u, hm, rfl⟩

/-! The queue -/
structure QI (f : api_Fleet) (s0 : api_Rotation) (E : List search_found) (i k : Nat) : Prop where
  seen : SeenOk f (E.map (·.Rotation))
  hd : E[0]? = some ⟨s0, 0, ⟨0, 0⟩, -1⟩
  le : i ≤ E.length
  par : ∀ (j : Nat) (x : search_found), E[j]? = some x → (j = 0 ∧ x = ⟨s0, 0, ⟨0, 0⟩, -1⟩) ∨ ∃ (b : Nat) (y : search_found), x.before = (b : Int) ∧ b < j ∧ E[b]? = some y ∧ x.far = y.far + 1 ∧ safeP f y.Rotation x.step = true ∧ x.Rotation = (applyP f y.Rotation x.step).1
  fb : ∀ (j : Nat) (x : search_found), E[j]? = some x → 0 ≤ x.far ∧ x.far ≤ (j : Int)
  mono : ∀ (j l : Nat) (x y : search_found), j ≤ l → E[j]? = some x → E[l]? = some y → x.far ≤ y.far
  near : ∀ (j : Nat) (x y : search_found), E[j]? = some x → E[i]? = some y → x.far ≤ y.far + 1
  clo : ∀ (j : Nat) (x : search_found), j < i → E[j]? = some x → ∀ u ∈ succs f x.Rotation, ∃ y ∈ E, y.Rotation = u ∧ y.far ≤ x.far + 1
  clk : ∀ (x : search_found), E[i]? = some x → ∀ (m : Nat) (u : api_Rotation), m < k → (succs f x.Rotation)[m]? = some u → ∃ y ∈ E, y.Rotation = u ∧ y.far ≤ x.far + 1
theorem qi_start {f : api_Fleet} {s0 : api_Rotation} (hr : RightOk f s0) : QI f s0 [⟨s0, 0, ⟨0, 0⟩, -1⟩] 0 0 := by
  have one : ∀ (j : Nat) (x : search_found), [(⟨s0, 0, ⟨0, 0⟩, -1⟩ : search_found)][j]? = some x → j = 0 ∧ x = ⟨s0, 0, ⟨0, 0⟩, -1⟩ := fun j x h => by
    cases j with
    | zero => exact ⟨rfl, by simpa using h.symm⟩
    | succ j => simp at h
  refine ⟨⟨fun t ht => ?_, by simp⟩, rfl, by simp, fun j x h => .inl (one j x h), fun j x h => ?_, fun j l x y _ h1 h2 => ?_, fun j x y h1 h2 => ?_, fun j x h => by omega, fun x _ m u h => by omega⟩
  · simp at ht; rw [ht]; exact hr
  · obtain ⟨rfl, rfl⟩ := one j x h; simp
  · rw [(one j x h1).2, (one l y h2).2]; simp
  · rw [(one j x h1).2, (one 0 y h2).2]; simp
theorem qi_next {f : api_Fleet} {s0 : api_Rotation} {E : List search_found} {i : Nat} {x : search_found} (h : QI f s0 E i (succs f x.Rotation).length) (hx : E[i]? = some x) : QI f s0 E (i + 1) 0 := by
  have hi : i < E.length := (List.getElem?_eq_some_iff.1 hx).1
  refine ⟨h.seen, h.hd, hi, h.par, h.fb, h.mono, fun j y z h1 h2 => ?_, fun j y hj h1 u hu => ?_, fun _ _ m u hm => by omega⟩
  · have := h.near j y x h1 hx
    have := h.mono i (i + 1) x z (by omega) hx h2
    omega
  · by_cases hji : j < i
    · exact h.clo j y hji h1 u hu
    · have : j = i := by omega
      subst this
      rw [hx] at h1
      obtain rfl := Option.some.inj h1
      obtain ⟨m, hm, rfl⟩ := List.getElem_of_mem hu
      exact h.clk x hx m _ hm (List.getElem?_eq_getElem hm)
open Classical in
noncomputable def addE (E : List search_found) (y : search_found) : List search_found := if y.Rotation ∈ E.map (·.Rotation) then E else E ++ [y]
theorem qi_add {f : api_Fleet} {s0 : api_Rotation} {E : List search_found} {i k : Nat} {x : search_found} {st : api_Step} (h : QI f s0 E i k) (hx : E[i]? = some x) (hs : safeP f x.Rotation st = true) (hk : (succs f x.Rotation)[k]? = some (applyP f x.Rotation st).1) : QI f s0 (addE E ⟨(applyP f x.Rotation st).1, x.far + 1, st, (i : Int)⟩) i (k + 1) ∧ (addE E ⟨(applyP f x.Rotation st).1, x.far + 1, st, (i : Int)⟩)[i]? = some x := by
  have hi : i < E.length := (List.getElem?_eq_some_iff.1 hx).1
  have hxr : RightOk f x.Rotation := h.seen.right _ (List.mem_map_of_mem (List.mem_of_getElem? hx))
  have hur := (apply_right hxr (safe_possible hs)).1
  unfold addE
  by_cases hm : (applyP f x.Rotation st).1 ∈ E.map (·.Rotation)
  · rw [if_pos hm]
    refine ⟨⟨h.seen, h.hd, h.le, h.par, h.fb, h.mono, h.near, h.clo, fun x' hx' m u hmk hu => ?_⟩, hx⟩
    by_cases hmk2 : m < k
    · exact h.clk x' hx' m u hmk2 hu
    · have : m = k := by omega
      subst this
      rw [hx] at hx'
      obtain rfl := Option.some.inj hx'
      rw [hk] at hu
      obtain rfl := Option.some.inj hu
      obtain ⟨y, hy, e⟩ := List.mem_map.1 hm
      obtain ⟨j, hj⟩ := List.getElem?_of_mem hy
      exact ⟨y, hy, e, h.near j y x hj hx⟩
  · rw [if_neg hm]
    generalize hn : (⟨(applyP f x.Rotation st).1, x.far + 1, st, (i : Int)⟩ : search_found) = n
    have old : ∀ (j : Nat) (y : search_found), (E ++ [n])[j]? = some y → (E[j]? = some y) ∨ (j = E.length ∧ y = n) := fun j y hy => by
      by_cases hj : j < E.length
      · rw [List.getElem?_append_left hj] at hy; exact .inl hy
      · rw [List.getElem?_append_right (by omega)] at hy
        have : j - E.length = 0 := by
          cases hd : j - E.length with
          | zero => rfl
          | succ q => rw [hd] at hy; simp at hy
        rw [this] at hy
        exact .inr ⟨by omega, by simpa using hy.symm⟩
    have keep : ∀ (j : Nat) (y : search_found), E[j]? = some y → (E ++ [n])[j]? = some y := fun j y hy => by
      rw [List.getElem?_append_left (List.getElem?_eq_some_iff.1 hy).1]; exact hy
    have nfar : n.far = x.far + 1 := by rw [← hn]
    have back : ∀ (j : Nat) (y : search_found), (E ++ [n])[j]? = some y → j < E.length → E[j]? = some y := fun j y hy hj => by
      rw [List.getElem?_append_left hj] at hy; exact hy
    have xfb := h.fb i x hx
    refine ⟨⟨?_, keep 0 _ h.hd, by rw [List.length_append]; omega, fun j y hy => ?_, fun j y hy => ?_, fun j l y z hjl hy hz => ?_, fun j y z hy hz => ?_, fun j y hj hy u hu => ?_, fun x' hx' m u hmk hu => ?_⟩, keep i x hx⟩
    · have := (addA_mem h.seen hur).1
      unfold addA at this
      rw [if_neg (fun hc => hm (by
        obtain ⟨t, ht, e⟩ := List.mem_map.1 hc
        rw [← num_inj (h.seen.right t ht) hur e]; exact ht))] at this
      rw [List.map_append, ← hn]
      exact this
    · rcases old j y hy with hy | ⟨rfl, rfl⟩
      · rcases h.par j y hy with h1 | ⟨b, z, h1, h2, h3, h4⟩
        · exact .inl h1
        · exact .inr ⟨b, z, h1, h2, keep b z h3, h4⟩
      · right
        refine ⟨i, x, by rw [← hn], hi, keep i x hx, nfar, by rw [← hn]; exact hs, by rw [← hn]⟩
    · rcases old j y hy with hy | ⟨rfl, rfl⟩
      · exact h.fb j y hy
      · omega
    · rcases old j y hy with hy1 | ⟨hy1, hy2⟩
      · rcases old l z hz with hz1 | ⟨hz1, hz2⟩
        · exact h.mono j l y z hjl hy1 hz1
        · have := h.near j y x hy1 hx
          rw [hz2]; omega
      · rcases old l z hz with hz1 | ⟨hz1, hz2⟩
        · have := (List.getElem?_eq_some_iff.1 hz1).1; omega
        · rw [hy2, hz2]; omega
    · have hz' := back i z hz hi
      rw [hx] at hz'
      have hzx := Option.some.inj hz'
      rw [← hzx]
      rcases old j y hy with hy | ⟨rfl, rfl⟩
      · exact h.near j y x hy hx
      · omega
    · obtain ⟨z, h1, h2, h3⟩ := h.clo j y hj (back j y hy (by omega)) u hu
      exact ⟨z, List.mem_append_left _ h1, h2, h3⟩
    · have hx'' := back i x' hx' hi
      rw [hx] at hx''
      obtain rfl := Option.some.inj hx''
      by_cases hmk2 : m < k
      · obtain ⟨z, h1, h2, h3⟩ := h.clk x hx m u hmk2 hu
        exact ⟨z, List.mem_append_left _ h1, h2, h3⟩
      · have : m = k := by omega
        subst this
        rw [hk] at hu
        obtain rfl := Option.some.inj hu
        exact ⟨n, by simp, by rw [← hn], by omega⟩
abbrev S9 : Type := Int × (List search_found) × (List ((List Int) × Bool))
theorem all_l1 {f : api_Fleet} (h3 : f.Consumers.length ≤ 3) {s0 : api_Rotation} {x : search_found} {i : Nat} {s5 : S9} (h5 : s5.1 = (i : Int)) (hr : RightOk f x.Rotation) : ∀ (m k : Nat) (E : List search_found), k + m = (choicesC (safeP f x.Rotation) f.Consumers.length).length → QI f s0 E i k → E[i]? = some x →
    ∃ E', iter (search_all_l1 (choicesC (safeP f x.Rotation) f.Consumers.length) f x s5) ((k : Int), E, E.map fun y => kvK y.Rotation) = some (E', E'.map fun y => kvK y.Rotation) ∧ QI f s0 E' i (choicesC (safeP f x.Rotation) f.Consumers.length).length ∧ E'[i]? = some x := fun m => by
  have c8 := hr.1.2.2.1
  have cl := choicesC_len (sf := safeP f x.Rotation) c8
  induction m with
  | zero =>
    intro k E h hq hx
    have hk : k = (choicesC (safeP f x.Rotation) f.Consumers.length).length := by omega
    refine ⟨E, ?_, by rw [← hk]; exact hq, hx⟩
    refine iter_out ?_
    unfold search_all_l1
    rw [if_neg (by simp; omega)]
  | succ m ih =>
    intro k E h hq hx
    have hk : k < (choicesC (safeP f x.Rotation) f.Consumers.length).length := by omega
    have hst := (mem_choicesC.1 (List.getElem_mem hk)).2.2.2.2
    have hsk : (succs f x.Rotation)[k]? = some (applyP f x.Rotation (choicesC (safeP f x.Rotation) f.Consumers.length)[k]).1 := by
      unfold succs
      rw [List.getElem?_map, List.getElem?_eq_getElem hk]; rfl
    have hur := (apply_right hr (safe_possible hst)).1
    obtain ⟨q1, q2⟩ := qi_add hq hx hst hsk
    have fx := hq.fb i x hx
    have hEl : E.length ≤ 65536 := by simpa using seen_len hq.seen h3
    have hi : i < E.length := (List.getElem?_eq_some_iff.1 hx).1
    have hstep : search_all_l1 (choicesC (safeP f x.Rotation) f.Consumers.length) f x s5 ((k : Int), E, E.map fun y => kvK y.Rotation) = some (.go (((k + 1 : Nat) : Int), addE E ⟨(applyP f x.Rotation (choicesC (safeP f x.Rotation) f.Consumers.length)[k]).1, x.far + 1, (choicesC (safeP f x.Rotation) f.Consumers.length)[k], (i : Int)⟩, (addE E ⟨(applyP f x.Rotation (choicesC (safeP f x.Rotation) f.Consumers.length)[k]).1, x.far + 1, (choicesC (safeP f x.Rotation) f.Consumers.length)[k], (i : Int)⟩).map fun y => kvK y.Rotation)) := by
      unfold search_all_l1
      simp only
      rw [if_pos (by simp; omega), idx_lt hk]
      simp only [Option.bind_some, apply_sp]
      rw [w64 (x := x.far + 1) (by omega) (by omega), h5, w64 (x := (k : Int) + 1) (by omega) (by omega)]
      generalize hst2 : (choicesC (safeP f x.Rotation) f.Consumers.length)[k] = st at *
      rw [key_sp (by simp only; rw [hur.2.2.2.1]; exact h3)]
      simp only [Option.bind_some]
      rw [ck_t (keyP_len _)]
      simp only [Option.bind_some]
      rw [show (E.map fun y => kvK y.Rotation) = (E.map (·.Rotation)).map kvK by rw [List.map_map]; rfl, mget_kvK]
      have km := key_mem hq.seen.right hur h3
      unfold addE
      by_cases hm : (applyP f x.Rotation st).1 ∈ E.map (·.Rotation)
      · rw [if_pos hm, decide_eq_true (km.2 hm), if_neg (by simp), List.map_map]; rfl
      · rw [if_neg hm, decide_eq_false (fun h => hm (km.1 h)), if_pos (by rfl), ck_t (by simp; omega)]
        simp only [Option.bind_some]
        rw [mset_kvK (fun h => hm (km.1 h))]
        simp [List.map_append]
    rw [iter_go hstep]
    exact ih (k + 1) _ (by omega) q1 q2
theorem all_ex {f : api_Fleet} (h3 : f.Consumers.length ≤ 3) {s0 : api_Rotation} (hr : RightOk f s0) : ∃ E, search_all f s0 = some E ∧ QI f s0 E E.length 0 := by
  unfold search_all
  rw [ck_t (by simp)]
  simp only [Option.bind_some]
  rw [show idx [(⟨s0, 0, (⟨0, 0⟩ : api_Step), (-1)⟩ : search_found)] 0 = some ⟨s0, 0, ⟨0, 0⟩, -1⟩ from rfl]
  simp only [Option.bind_some]
  rw [key_sp (by simp only; rw [hr.2.2.2.1]; exact h3)]
  simp only [Option.bind_some]
  rw [ck_t (keyP_len _)]
  simp only [Option.bind_some]
  have key : ∃ E, iter (search_all_l0 f) (0, [⟨s0, 0, ⟨0, 0⟩, -1⟩], mset (arE 11) [] (keyP s0) true) = some E ∧ QI f s0 E E.length 0 := by
    refine iter_ex (fun s : S9 => ∃ (i : Nat) (E : List search_found), s = ((i : Int), E, E.map fun y => kvK y.Rotation) ∧ QI f s0 E i 0) (fun s => 65536 - s.1.toNat) (fun E => QI f s0 E E.length 0) (fun s hs => ?_) ⟨0, _, rfl, qi_start hr⟩
    obtain ⟨i, E, rfl, h⟩ := hs
    have hEl : E.length ≤ 65536 := by simpa using seen_len h.seen h3
    unfold search_all_l0
    simp only
    by_cases hi : i < E.length
    · left
      have hx : E[i]? = some E[i] := List.getElem?_eq_getElem hi
      have hxr : RightOk f E[i].Rotation := h.seen.right _ (List.mem_map_of_mem (List.getElem_mem hi))
      have c8 := hxr.1.2.2.1
      obtain ⟨E', g1, g2, g3⟩ := all_l1 h3 (s0 := s0) (x := E[i]) (i := i) (s5 := ((i : Int), E, E.map fun y => kvK y.Rotation)) rfl hxr (choicesC (safeP f E[i].Rotation) f.Consumers.length).length 0 E (by omega) h hx
      rw [if_pos (by simp; omega), ck_t (by omega), idx_lt hi]
      simp only [Option.bind_some]
      rw [choices_sp (by rw [hxr.2.2.2.1]; omega), hxr.2.2.2.1]
      simp only [Option.bind_some]
      rw [show ((0 : Int), E, E.map fun y => kvK y.Rotation) = (((0 : Nat) : Int), E, E.map fun y => kvK y.Rotation) from rfl, g1, w64 (by omega) (by omega)]
      refine ⟨_, rfl, ⟨i + 1, E', rfl, qi_next (by unfold succs; rw [List.length_map]; exact g2) g3⟩, ?_⟩
      simp only
      omega
    · right
      rw [if_neg (by simp; omega)]
      have := h.le
      have e : i = E.length := by omega
      subst e
      exact ⟨E, rfl, h⟩
  obtain ⟨E, h1, h2⟩ := key
  refine ⟨E, ?_, h2⟩
  rw [h1]
  rfl
theorem q_reach {f : api_Fleet} {s0 : api_Rotation} (hr : RightOk f s0) {E : List search_found} {i k : Nat} (h : QI f s0 E i k) : ∀ (n j : Nat) (x : search_found), j < n → E[j]? = some x → reach f s0 x.far.toNat x.Rotation := fun n => by
  induction n with
  | zero => intro j x hj; omega
  | succ n ih =>
    intro j x hj hx
    rcases h.par j x hx with ⟨_, rfl⟩ | ⟨b, y, h1, h2, h3, h4, h5, h6⟩
    · exact ⟨[], trivial, rfl, rfl⟩
    · have hy := ih b y (by omega) h3
      have := h.fb b y h3
      have hyr := h.seen.right _ (List.mem_map_of_mem (List.mem_of_getElem? h3))
      rw [h4, show (y.far + 1).toNat = y.far.toNat + 1 by omega]
      exact reach_step hr hy ((mem_succs hyr).2 ⟨x.step, h5, h6⟩)
theorem q_all {f : api_Fleet} {s0 : api_Rotation} (hr : RightOk f s0) {E : List search_found} (h : QI f s0 E E.length 0) : ∀ (k : Nat) (t : api_Rotation), reach f s0 k t → ∃ x ∈ E, x.Rotation = t ∧ x.far ≤ (k : Int) := fun k => by
  induction k with
  | zero =>
    intro t ht
    exact ⟨_, List.mem_of_getElem? h.hd, (reach_0 ht).symm, by simp⟩
  | succ k ih =>
    intro t ht
    obtain ⟨t', h1, h2⟩ := reach_succ hr ht
    obtain ⟨x, hx, rfl, hf⟩ := ih t' h1
    obtain ⟨j, hj⟩ := List.getElem?_of_mem hx
    obtain ⟨y, a, b, c⟩ := h.clo j x (List.getElem?_eq_some_iff.1 hj).1 hj t h2
    exact ⟨y, a, b, by omega⟩
theorem nodup_of_map {α β : Type} {g : α → β} : ∀ {l : List α}, (l.map g).Nodup → l.Nodup
  | [], _ => List.nodup_nil
  | x :: l, h => by
    rw [List.map_cons, List.nodup_cons] at h
    exact List.nodup_cons.2 ⟨fun hx => h.1 (List.mem_map_of_mem hx), nodup_of_map h.2⟩
theorem nodup_len {α : Type} [DecidableEq α] : ∀ {l m : List α}, l.Nodup → (∀ x ∈ l, x ∈ m) → l.length ≤ m.length
  | [], m, _, _ => by simp
  | x :: l, m, hn, h => by
    obtain ⟨h1, h2⟩ := List.nodup_cons.1 hn
    have hx := h x (List.mem_cons_self ..)
    have := nodup_len (m := m.erase x) h2 (fun y hy => (List.mem_erase_of_ne (fun e => h1 (by rw [← e]; exact hy))).2 (h y (List.mem_cons_of_mem _ hy)))
    rw [List.length_erase_of_mem hx] at this
    have := List.length_pos_of_mem hx
    rw [List.length_cons]; omega
/-- the states that are reached: as many as the search counts -/
theorem q_len {f g : api_Fleet} {A B : List api_Rotation} (hA : SeenOk f A) (h : ∀ t ∈ A, t ∈ B) : A.length ≤ B.length := by
  have := nodup_len (l := A.map numP) (m := B.map numP) hA.nodup (fun x hx => by
    obtain ⟨t, ht, rfl⟩ := List.mem_map.1 hx
    exact List.mem_map_of_mem (h t ht))
  simpa using this

theorem rrun_loop {f : api_Fleet} {l : List api_Step} (hl : l.length ≤ 1000) : ∀ (m i : Nat) (s : api_Rotation) (acc : List api_Rotation), i + m = l.length → acc.length = i →
    iter (ref33_Run_l0 l f) ((i : Int), s.Known, s.Valid, s.Units, acc) = some (runE acc (runP f s (l.drop i))) := fun m => by
  induction m with
  | zero =>
    intro i s acc h ha
    have : i = l.length := by omega
    subst this
    rw [List.drop_length]
    refine iter_out ?_
    unfold ref33_Run_l0
    simp only
    rw [if_neg (by simp)]
    simp [runE, runP]
  | succ m ih =>
    intro i s acc h ha
    have hi : i < l.length := by omega
    rw [List.drop_eq_getElem_cons hi]
    by_cases h0 : (applyP f s l[i]).2 = 0
    · have hgo : ref33_Run_l0 l f ((i : Int), s.Known, s.Valid, s.Units, acc) = some (.go (((i + 1 : Nat) : Int), (applyP f s l[i]).1.Known, (applyP f s l[i]).1.Valid, (applyP f s l[i]).1.Units, acc ++ [(applyP f s l[i]).1])) := by
        unfold ref33_Run_l0
        simp only
        rw [if_pos (by simp; omega), idx_lt hi]
        simp only [Option.bind_some, rapply_sp]
        rw [if_neg (by simpa using h0), ck_t (by simp; omega), w64 (by omega) (by omega)]
        rfl
      rw [iter_go hgo, ih (i + 1) _ _ (by omega) (by simp; omega)]
      rw [runP, if_neg (not_not_intro h0)]
      by_cases h1 : (runP f (applyP f s l[i]).1 (l.drop (i + 1))).2 = 0
      · rw [if_neg (not_not_intro h1)]
        simp [runE, h1]
      · rw [if_pos h1]
        simp [runE, h1]
    · refine iter_out ?_
      unfold ref33_Run_l0
      simp only
      rw [if_pos (by simp; omega), idx_lt hi]
      simp only [Option.bind_some, rapply_sp]
      rw [if_pos (by simpa using h0), runP, if_pos h0]
      simp [runE, h0]
theorem rrun_sp {f : api_Fleet} {s : api_Rotation} {l : List api_Step} (hr : RightOk f s) (hl : l.length ≤ 120) : ref33_Run f s l = some (runP f s l) := by
  unfold ref33_Run
  rw [rright_sp, decide_eq_true hr]
  simp only [Option.bind_some]
  rw [if_neg (by simp), if_neg (by simp; omega)]
  have := rrun_loop (f := f) (l := l) (by omega) l.length 0 s [] (by omega) rfl
  rw [List.drop_zero] at this
  rw [show (0 : Int) = ((0 : Nat) : Int) from rfl, this]
  simp only [Option.bind_some, runE]
  by_cases h : (runP f s l).2 = 0
  · rw [if_pos h]
    simp only [List.nil_append]
    rw [show ((0 : Nat) : Int) = (runP f s l).2 from h.symm]
  · rw [if_neg h]
    simp only
    rw [← runP_err l s h]
theorem rfault_loop {f : api_Fleet} {l : List api_Step} (hl : l.length ≤ 1000) : ∀ (m i : Nat) (s : api_Rotation), i + m = l.length →
    iter (ref33_Fault_l0 l f) ((i : Int), s.Known, s.Valid, s.Units) = some (faultE l.length (faultP f i s (l.drop i))) := fun m => by
  induction m with
  | zero =>
    intro i s h
    have : i = l.length := by omega
    subst this
    rw [List.drop_length]
    refine iter_out ?_
    unfold ref33_Fault_l0
    simp only
    rw [if_neg (by simp)]
    simp [faultE, faultP]
  | succ m ih =>
    intro i s h
    have hi : i < l.length := by omega
    rw [List.drop_eq_getElem_cons hi, faultP_eq]
    by_cases h0 : (applyP f s l[i]).2 = 0
    · rw [if_neg (not_not_intro h0)]
      by_cases h1 : holdsP f s (applyP f s l[i]).1
      · rw [if_neg (not_not_intro h1)]
        have hgo : ref33_Fault_l0 l f ((i : Int), s.Known, s.Valid, s.Units) = some (.go (((i + 1 : Nat) : Int), (applyP f s l[i]).1.Known, (applyP f s l[i]).1.Valid, (applyP f s l[i]).1.Units)) := by
          unfold ref33_Fault_l0
          simp only
          rw [if_pos (by simp; omega), idx_lt hi]
          simp only [Option.bind_some, rapply_sp, rsafe0_sp]
          rw [if_neg (by simpa using h0), if_neg (by simpa using h1), w64 (by omega) (by omega)]
          rfl
        rw [iter_go hgo, ih (i + 1) _ (by omega)]
        rfl
      · rw [if_pos h1]
        refine iter_out ?_
        unfold ref33_Fault_l0
        simp only
        rw [if_pos (by simp; omega), idx_lt hi]
        simp only [Option.bind_some, rapply_sp, rsafe0_sp]
        rw [if_neg (by simpa using h0), if_pos (by simpa using h1)]
        simp [faultE]
    · rw [if_pos h0]
      refine iter_out ?_
      unfold ref33_Fault_l0
      simp only
      rw [if_pos (by simp; omega), idx_lt hi]
      simp only [Option.bind_some, rapply_sp]
      rw [if_pos (by simpa using h0)]
      simp [faultE, h0]
theorem rfault_sp {f : api_Fleet} {s : api_Rotation} {l : List api_Step} (hr : RightOk f s) (hl : l.length ≤ 120) : ref33_Fault f s l = some (faultP f 0 s l) := by
  unfold ref33_Fault
  rw [rright_sp, decide_eq_true hr]
  simp only [Option.bind_some]
  rw [if_neg (by simp), if_neg (by simp; omega)]
  have := rfault_loop (f := f) (l := l) (by omega) l.length 0 s (by omega)
  rw [List.drop_zero] at this
  rw [show (0 : Int) = ((0 : Nat) : Int) from rfl, this]
  simp only [Option.bind_some, faultE]
  by_cases h : (faultP f ((0 : Nat) : Int) s l).2 = 0
  · rw [if_pos h]
    have := faultP_0 l _ s h
    rw [this]; simp
  · rw [if_neg h]
theorem rcheck35_sp (f : api_Fleet) (s : api_Rotation) {l : List api_Step} (hl : l.length ≤ 120) : ref35_Check f s l = some (checkP f s l) := by
  unfold ref35_Check checkP
  by_cases hr : RightOk f s
  case neg =>
    have : ref33_Fault f s l = some (0, 36) := by unfold ref33_Fault; rw [rright_sp]; simp [hr]
    rw [this]; simp [hr]
  rw [rfault_sp hr hl, rrun_sp hr hl]
  simp only [Option.bind_some, hr, decide_true, Bool.true_and]
  by_cases h0 : (faultP f 0 s l).2 = 0
  · have hfp := faultP_0 l 0 s h0
    have hs := fault_safe l 0 s h0
    rw [if_neg (by rw [hfp]; simp)]
    by_cases hn : 0 < (runP f s l).1.length
    · obtain ⟨k1, k2⟩ := run_last hr hs (by omega) hn
      rw [if_pos (by simpa using hn), k1, k2]
      simp only [Option.bind_some, ref35_Check_j0, rended_sp, h0]
      simp
    · rw [if_neg (by simpa using hn)]
      simp only [ref35_Check_j0, rended_sp, Option.bind_some, h0, run_nil hr hs hn]
      simp
  · rw [if_pos (by simp [h0])]
    simp [h0]
theorem awake35 : law35_awake = some true := by
  unfold law35_awake
  rw [show (⟨1, [(⟨0, false, false⟩ : api_Consumer), (⟨0, false, false⟩ : api_Consumer)]⟩ : api_Fleet) = fC from rfl, show (⟨2, [(⟨4, false, false⟩ : api_Consumer)]⟩ : api_Fleet) = fD from rfl]
  obtain ⟨l1, a1, _, _⟩ := plan_ex fD
  obtain ⟨l2, b1, _, b3⟩ := plan_ex fC
  have eD : planE fD = 38 := by unfold planE; rw [if_neg (not_not_intro fD_ok), whyD]; rfl
  have eC : planE fC = 0 := by unfold planE; rw [if_neg (not_not_intro fC_ok), whyC]; rfl
  obtain ⟨_, hg⟩ := b3 eC
  have hlen : l2.length ≤ 120 := Nat.le_trans hg.len (by decide)
  have hr : RightOk fC (startR fC) := start_right fC_ok
  rw [a1, why_sp, rstart_sp, if_pos fC_ok, b1, eD, eC, whyD]
  simp only [Option.bind_some]
  rw [rcheck35_sp fC (startR fC) hlen, good_check hr hg]
  rfl
theorem helps_j0 {f : api_Fleet} (hf : FleetOk f) {m : make_Tape} (ht : TOk m) : law35_PlanHelps_j0 (f, m) () = some true := by
  have h1 := hf.2.1
  have c8 := hf.2.2.1
  unfold law35_PlanHelps_j0
  rw [ck_t (by simp only; omega)]
  simp only [Option.bind_some]
  obtain ⟨v, m1, e1, v0, v1, t1⟩ := next_ex ht (n := (f.Consumers.length : Int)) (by omega)
  rw [e1]
  simp only [Option.bind_some]
  have hv : v.toNat < f.Consumers.length := by omega
  rw [ck_t ⟨v0, hv⟩, idx_toNat v0 hv]
  simp only [Option.bind_some]
  have hA : ∃ (m2 : make_Tape) (c : api_Consumer), TOk m2 ∧ c.Pool = f.Consumers[v.toNat].Pool ∧ (f.Consumers[v.toNat].Live = true → c.Live = true) ∧ (if f.Consumers[v.toNat].Live = true then
      some (m1.L, m1.at_, (f.Consumers.set (Int.toNat v) (⟨f.Consumers[v.toNat].Pool, f.Consumers[v.toNat].Dual, true⟩ : api_Consumer)))
    else
    (make_Tape_Next m1 2).bind fun y18 =>
    some (y18.2.L, y18.2.at_, (f.Consumers.set (Int.toNat v) (⟨f.Consumers[v.toNat].Pool, f.Consumers[v.toNat].Dual, (y18.1 == 1)⟩ : api_Consumer)))) = some (m2.L, m2.at_, f.Consumers.set v.toNat c) := by
    by_cases hl : f.Consumers[v.toNat].Live = true
    · rw [if_pos hl]; exact ⟨m1, _, t1, by rfl, fun _ => by rfl, rfl⟩
    · rw [if_neg hl]
      obtain ⟨w, m2, e2, _, _, t2⟩ := next_ex t1 (n := 2) (by omega)
      rw [e2]
      exact ⟨m2, _, t2, by rfl, fun h => absurd h hl, rfl⟩
  obtain ⟨m2, c, t2, c1, c2, hA⟩ := hA
  rw [hA]
  simp only [Option.bind_some]
  have hv2 : v.toNat < (f.Consumers.set v.toNat c).length := by simpa using hv
  rw [ck_t ⟨v0, hv2⟩, idx_toNat v0 hv2]
  simp only [Option.bind_some, List.getElem_set_self]
  have hB : ∃ (c' : api_Consumer), c'.Pool = f.Consumers[v.toNat].Pool ∧ (f.Consumers[v.toNat].Live = true → c'.Live = true) ∧ (if c.Dual = true then
      some ((f.Consumers.set v.toNat c).set (Int.toNat v) (⟨c.Pool, true, c.Live⟩ : api_Consumer))
    else
    (make_Tape_Next (⟨m2.L, m2.at_⟩ : make_Tape) 2).bind fun y16 =>
    some ((f.Consumers.set v.toNat c).set (Int.toNat v) (⟨c.Pool, (y16.1 == 1), c.Live⟩ : api_Consumer))) = some (f.Consumers.set v.toNat c') := by
    by_cases hd : c.Dual = true
    · rw [if_pos hd, List.set_set]; exact ⟨⟨c.Pool, true, c.Live⟩, c1, c2, rfl⟩
    · rw [if_neg hd]
      obtain ⟨w, m3, e3, _, _, t3⟩ := next_ex t2 (n := 2) (by omega)
      rw [show (⟨m2.L, m2.at_⟩ : make_Tape) = m2 from rfl, e3]
      simp only [Option.bind_some, List.set_set]
      exact ⟨⟨c.Pool, w == 1, c.Live⟩, c1, c2, rfl⟩
  obtain ⟨c', d1, d2, hB⟩ := hB
  rw [hB]
  simp only [Option.bind_some]
  rw [helps_loop (fun p hp => helps_set hf hv d1 d2 hp)]
  simp only [Option.bind_some, awake35]
theorem PlanHelps_law (a : List Int) : law35_PlanHelps a = some true := by
  unfold law35_PlanHelps
  by_cases h : 200 < (a.length : Int)
  · rw [if_pos (by simpa using h), awake35]; rfl
  rw [if_neg (by simpa using h)]
  obtain ⟨f, m1, e1, hf, hle, _, t1⟩ := make_Fleet_ex (tape0 (a := a) (by omega)) (most := 5) (by omega) (by omega)
  rw [e1]
  simp only [Option.bind_some, why_sp]
  by_cases hw : (whyP f).2 = true
  · obtain ⟨w1, w2, _⟩ := why_first hw
    rw [if_pos hw, ck_t (by omega), Option.bind_some, ck_t (by simp; omega), Option.bind_some]
    simp only [fit_sp, Option.bind_some, w2, helps_more hf (by omega) w1]
    rw [if_neg (by simp)]
    simp only [Option.bind_some]
    rw [if_neg (by simp)]
    exact helps_j0 hf t1
  · rw [if_neg hw]
    exact helps_j0 hf t1

theorem idx_end {f : api_Fleet} {E : List search_found} (hE : E.length ≤ 65536) : ∃ d, slices_IndexFunc_search_found_at_search_end_1_b E f = some (d, f) ∧ ((d = -1 ∧ ∀ x ∈ E, endedP f x.Rotation = false) ∨ ∃ (i : Nat) (x : search_found), d = (i : Int) ∧ E[i]? = some x ∧ endedP f x.Rotation = true ∧ ∀ (j : Nat) (y : search_found), j < i → E[j]? = some y → endedP f y.Rotation = false) := by
  have key : ∀ (m i : Nat), i + m = E.length → (∀ (j : Nat) (y : search_found), j < i → E[j]? = some y → endedP f y.Rotation = false) →
      ∃ e, iter (slices_IndexFunc_search_found_at_search_end_1_b_l0 E) ((i : Int), f.Slots, f.Consumers) = some e ∧ ((e = .inl (f.Slots, f.Consumers) ∧ ∀ x ∈ E, endedP f x.Rotation = false) ∨ ∃ (i : Nat) (x : search_found), e = .inr ((i : Int), f) ∧ E[i]? = some x ∧ endedP f x.Rotation = true ∧ ∀ (j : Nat) (y : search_found), j < i → E[j]? = some y → endedP f y.Rotation = false) := fun m => by
    induction m with
    | zero =>
      intro i h hn
      refine ⟨_, iter_out (e := .inl (f.Slots, f.Consumers)) ?_, .inl ⟨rfl, fun x hx => ?_⟩⟩
      · unfold slices_IndexFunc_search_found_at_search_end_1_b_l0
        rw [if_neg (by simp; omega)]
      · obtain ⟨j, hj⟩ := List.getElem?_of_mem hx
        exact hn j x (by have := (List.getElem?_eq_some_iff.1 hj).1; omega) hj
    | succ m ih =>
      intro i h hn
      have hi : i < E.length := by omega
      have hstep : slices_IndexFunc_search_found_at_search_end_1_b_l0 E ((i : Int), f.Slots, f.Consumers) = some (if endedP f E[i].Rotation = true then .out (.inr ((i : Int), f)) else .go (((i + 1 : Nat) : Int), f.Slots, f.Consumers)) := by
        unfold slices_IndexFunc_search_found_at_search_end_1_b_l0 search_end_1_cb
        simp only
        rw [if_pos (by simp; omega), idx_lt hi]
        simp only [Option.bind_some, fended_sp]
        rw [w64 (by omega) (by omega)]
        by_cases he : endedP f E[i].Rotation = true
        · rw [if_pos he, if_pos he]
        · rw [if_neg he, if_neg he]; rfl
      by_cases he : endedP f E[i].Rotation = true
      · rw [if_pos he] at hstep
        exact ⟨_, iter_out hstep, .inr ⟨i, E[i], rfl, List.getElem?_eq_getElem hi, he, hn⟩⟩
      · rw [if_neg he] at hstep
        rw [iter_go hstep]
        refine ih (i + 1) (by omega) fun j y hj hy => ?_
        by_cases hji : j < i
        · exact hn j y hji hy
        · have : j = i := by omega
          subst this
          rw [List.getElem?_eq_getElem hi] at hy
          obtain rfl := Option.some.inj hy
          exact Bool.eq_false_iff.2 he
  obtain ⟨e, h1, h2⟩ := key E.length 0 (by omega) (fun j y h => by omega)
  unfold slices_IndexFunc_search_found_at_search_end_1_b
  rw [show (0 : Int) = ((0 : Nat) : Int) from rfl, h1]
  simp only [Option.bind_some]
  rcases h2 with ⟨rfl, h⟩ | ⟨i, x, rfl, h⟩
  · exact ⟨-1, rfl, .inl ⟨rfl, h⟩⟩
  · exact ⟨(i : Int), rfl, .inr ⟨i, x, rfl, h⟩⟩
theorem scheck_sp (f : api_Fleet) (s : api_Rotation) : search_check f s = some (if ¬ RightOk f s then 36 else if 3 < (f.Consumers.length : Int) then 3 else 0) := by
  unfold search_check
  rw [right_sp]
  by_cases h : RightOk f s
  · simp only [h, decide_true, Option.bind_some, not_true_eq_false, if_false]
    rw [if_neg (by simp)]
    by_cases h3 : 3 < (f.Consumers.length : Int) <;> simp [h3]
  · simp [h]
theorem rcheck_sp (f : api_Fleet) (s : api_Rotation) : ref34_check f s = some (if ¬ RightOk f s then 36 else if 3 < (f.Consumers.length : Int) then 3 else 0) := by
  unfold ref34_check
  rw [rright_sp]
  by_cases h : RightOk f s
  · simp only [h, decide_true, Option.bind_some, not_true_eq_false, if_false]
    rw [if_neg (by simp)]
    by_cases h3 : 3 < (f.Consumers.length : Int) <;> simp [h3]
  · simp [h]
theorem check0 {f : api_Fleet} {s : api_Rotation} (h3 : f.Consumers.length ≤ 3) (hr : RightOk f s) : (if ¬ RightOk f s then (36 : Int) else if 3 < (f.Consumers.length : Int) then 3 else 0) = 0 := by
  rw [if_neg (not_not_intro hr), if_neg (by omega)]
theorem count_ex {f : api_Fleet} {s : api_Rotation} (h3 : f.Consumers.length ≤ 3) (hr : RightOk f s) : ∃ E, search_Count f s = some ((E.length : Int), 0) ∧ QI f s E E.length 0 := by
  obtain ⟨E, h1, h2⟩ := all_ex h3 hr
  refine ⟨E, ?_, h2⟩
  unfold search_Count
  rw [scheck_sp, check0 h3 hr]
  simp only [Option.bind_some]
  rw [if_neg (by simp), h1]
  rfl
/-- the queue and the first end in it -/
theorem end_ex {f : api_Fleet} {s : api_Rotation} (h3 : f.Consumers.length ≤ 3) (hr : RightOk f s) : ∃ E d, search_end f s = some (E, d, 0) ∧ QI f s E E.length 0 ∧ ((d = -1 ∧ found f s (-1)) ∨ ∃ (i : Nat) (x : search_found), d = (i : Int) ∧ E[i]? = some x ∧ endedP f x.Rotation = true ∧ found f s x.far) := by
  obtain ⟨E, h1, h2⟩ := all_ex h3 hr
  have hEl : E.length ≤ 65536 := by simpa using seen_len h2.seen h3
  obtain ⟨d, g1, g2⟩ := idx_end (f := f) hEl
  refine ⟨E, d, ?_, h2, ?_⟩
  · unfold search_end
    rw [scheck_sp, check0 h3 hr]
    simp only [Option.bind_some]
    rw [if_neg (by simp), h1]
    simp only [Option.bind_some, g1]
  · rcases g2 with ⟨rfl, g⟩ | ⟨i, x, rfl, hx, he, hn⟩
    · left
      refine ⟨rfl, .inl ⟨rfl, fun k t ht => ?_⟩⟩
      obtain ⟨x, hx, rfl, _⟩ := q_all hr h2 k t ht
      exact g x hx
    · right
      refine ⟨i, x, rfl, hx, he, .inr ⟨(h2.fb i x hx).1, ⟨x.Rotation, q_reach hr h2 (i + 1) i x (by omega) hx, he⟩, fun k t ht hte => ?_⟩⟩
      obtain ⟨y, hy, rfl, hk⟩ := q_all hr h2 k t ht
      obtain ⟨j, hj⟩ := List.getElem?_of_mem hy
      have hij : i ≤ j := Nat.le_of_not_lt fun hlt => by
        have := hn j y hlt hj
        rw [hte] at this; cases this
      have := h2.mono i j x y hij hx hj
      omega
theorem found_far {f : api_Fleet} {s : api_Rotation} {d e : Int} (h1 : found f s d) (h2 : found f s e) : d = e := by
  rcases h1 with ⟨rfl, a⟩ | ⟨a0, ⟨t, a1, a2⟩, a3⟩ <;> rcases h2 with ⟨rfl, b⟩ | ⟨b0, ⟨u, b1, b2⟩, b3⟩
  · rfl
  · rw [a _ u b1] at b2; cases b2
  · rw [b _ t a1] at a2; cases a2
  · have := a3 _ u b1 b2
    have := b3 _ t a1 a2
    omega

theorem dist_ex {f : api_Fleet} {s : api_Rotation} (h3 : f.Consumers.length ≤ 3) (hr : RightOk f s) : ∃ d, search_Distance f s = some ((if 0 > d then 0 else d), decide (0 ≤ d), 0) ∧ found f s d := by
  obtain ⟨E, d, h1, h2, h4⟩ := end_ex h3 hr
  unfold search_Distance
  rw [h1]
  simp only [Option.bind_some]
  rcases h4 with ⟨rfl, hf⟩ | ⟨i, x, rfl, hx, he, hf⟩
  · exact ⟨-1, rfl, hf⟩
  · have := (h2.fb i x hx).1
    refine ⟨x.far, ?_, hf⟩
    rw [if_neg (by simp), idx_nat, hx]
    simp only [Option.bind_some]
    rw [if_neg (by omega), decide_eq_true this]
/-! Turned around -/
theorem rev_sp {l : List api_Step} (hl : l.length ≤ 1000000) : slices_Reverse_api_Step_vec0 l = some l.reverse := by
  unfold slices_Reverse_api_Step_vec0
  rw [ck_t (by omega)]; rfl
theorem path_loop {f : api_Fleet} {s0 : api_Rotation} {E : List search_found} {d e : Int} (h : QI f s0 E E.length 0) (hE : E.length ≤ 65536) : ∀ (n i : Nat) (x : search_found) (acc : List api_Step), i < n → E[i]? = some x → acc.length + i ≤ 65536 →
    ∃ l, iter (search_Shortest_l0 (E, d, e)) ((i : Int), acc) = some (acc ++ l) ∧ (l.length : Int) = x.far ∧ safeRun f s0 l.reverse ∧ endS f s0 l.reverse = x.Rotation := fun n => by
  induction n with
  | zero => intro i x acc hi; omega
  | succ n ih =>
    intro i x acc hi hx ha
    rcases h.par i x hx with ⟨_, rfl⟩ | ⟨b, y, h1, h2, h3, h4, h5, h6⟩
    · refine ⟨[], ?_, rfl, trivial, rfl⟩
      rw [List.append_nil]
      refine iter_out ?_
      unfold search_Shortest_l0
      simp only
      rw [idx_nat, hx]
      rfl
    · obtain ⟨l, g1, g2, g3, g4⟩ := ih b y (acc ++ [x.step]) (by omega) h3 (by simp; omega)
      have hstep : search_Shortest_l0 (E, d, e) ((i : Int), acc) = some (.go ((b : Int), acc ++ [x.step])) := by
        unfold search_Shortest_l0
        simp only
        rw [idx_nat, hx]
        simp only [Option.bind_some]
        rw [if_pos (by rw [h1]; simp), ck_t (by simp; omega), h1]
        rfl
      obtain ⟨k1, k2⟩ := safeRun_snoc l.reverse s0 g3 (x := x.step) (by rw [g4]; exact h5)
      refine ⟨x.step :: l, ?_, by rw [h4, ← g2, List.length_cons]; push_cast; rfl, by rw [List.reverse_cons]; exact k1, by rw [List.reverse_cons, k2, g4, h6]⟩
      rw [iter_go hstep, g1, List.append_assoc]
      rfl
theorem short_ex {f : api_Fleet} {s : api_Rotation} (h3 : f.Consumers.length ≤ 3) (hr : RightOk f s) : ∃ l d, search_Shortest f s = some (l, decide (0 ≤ d), 0) ∧ found f s d ∧ (d < 0 → l = []) ∧ (0 ≤ d → (l.length : Int) = d ∧ safeRun f s l ∧ endedP f (endS f s l) = true) := by
  obtain ⟨E, d, h1, h2, h4⟩ := end_ex h3 hr
  have hEl : E.length ≤ 65536 := by simpa using seen_len h2.seen h3
  unfold search_Shortest
  rw [h1]
  simp only [Option.bind_some]
  rcases h4 with ⟨rfl, hf⟩ | ⟨i, x, rfl, hx, he, hf⟩
  · exact ⟨[], -1, rfl, hf, fun _ => rfl, fun h => absurd h (by decide)⟩
  · have h0 := (h2.fb i x hx).1
    have hi := (List.getElem?_eq_some_iff.1 hx).1
    obtain ⟨l, g1, g2, g3, g4⟩ := path_loop (d := (i : Int)) (e := 0) h2 hEl (i + 1) i x [] (by omega) hx (by simp; omega)
    have hll := (h2.fb i x hx).2
    refine ⟨l.reverse, x.far, ?_, hf, fun h => by omega, fun _ => ⟨by rw [List.length_reverse]; exact g2, g3, by rw [g4]; exact he⟩⟩
    rw [if_neg (by simp), g1, List.nil_append]
    simp only [Option.bind_some]
    rw [rev_sp (by omega)]
    simp only [Option.bind_some]
    rw [decide_eq_true h0]
/-! How a measure bounds the distance -/
theorem pot {f : api_Fleet} {s0 : api_Rotation} (μ : api_Rotation → Nat) (hr : RightOk f s0) (hs : ∀ s x, RightOk f s → safeP f s x = true → μ s ≤ μ (applyP f s x).1 + 1) : ∀ (k : Nat) (t : api_Rotation), reach f s0 k t → μ s0 ≤ μ t + k := fun k => by
  induction k with
  | zero => intro t ht; rw [reach_0 ht]; omega
  | succ k ih =>
    intro t ht
    obtain ⟨u, h1, h2⟩ := reach_succ hr ht
    have hu := reach_right hr h1
    obtain ⟨x, hx, rfl⟩ := (mem_succs hu).1 h2
    have := ih u h1
    have := hs u x hu hx
    omega
theorem reach_cons {f : api_Fleet} {s t : api_Rotation} {x : api_Step} {k : Nat} (hx : safeP f s x = true) (h : reach f (applyP f s x).1 k t) : reach f s (k + 1) t := by
  obtain ⟨l, h1, h2, h3⟩ := h
  exact ⟨x :: l, ⟨hx, h1⟩, h2, by simp [h3]⟩
theorem found_is {f : api_Fleet} {s t : api_Rotation} {d : Nat} (h1 : reach f s d t) (h2 : endedP f t = true) (h3 : ∀ (k : Nat) (u : api_Rotation), reach f s k u → endedP f u = true → d ≤ k) : found f s (d : Int) :=
  .inr ⟨by omega, ⟨t, by rw [Int.toNat_natCast]; exact h1, h2⟩, fun k u a b => by have := h3 k u a b; omega⟩
/-! The law of what is reached -/
theorem SearchLess_in {f : api_Fleet} {s : api_Rotation} (h3 : f.Consumers.length ≤ 3) (hr : RightOk f s) {E : List search_found} (h : QI f s E E.length 0) : 1 ≤ E.length ∧ (E.length = 1 ↔ (choicesC (safeP f s) f.Consumers.length) = []) := by
  have h0 : 0 < E.length := (List.getElem?_eq_some_iff.1 h.hd).1
  refine ⟨h0, fun h1 => ?_, fun hc => ?_⟩
  · cases hc : choicesC (safeP f s) f.Consumers.length with
    | nil => rfl
    | cons x l =>
      exfalso
      have hx : safeP f s x = true := (mem_choicesC.1 (by rw [hc]; exact List.mem_cons_self ..)).2.2.2.2
      obtain ⟨_, hk, hok, e⟩ := apply_right hr (safe_possible hx)
      obtain ⟨y, hy, e2, _⟩ := h.clo 0 _ h0 h.hd (applyP f s x).1 ((mem_succs hr).2 ⟨x, hx, rfl⟩)
      obtain ⟨j, hj⟩ := List.getElem?_of_mem hy
      have : j = 0 := by have := (List.getElem?_eq_some_iff.1 hj).1; omega
      subst this
      rw [h.hd] at hj
      obtain rfl := Option.some.inj hj
      exact next_ne hr hk hok (by rw [← e]; exact e2)
  · apply Nat.le_antisymm _ h0
    apply Nat.le_of_not_lt
    intro h1
    have hx : E[1]? = some E[1] := List.getElem?_eq_getElem h1
    rcases h.par 1 _ hx with ⟨a, _⟩ | ⟨b, y, _, a2, a3, _, a5, _⟩
    · cases a
    · have : b = 0 := by omega
      subst this
      rw [h.hd] at a3
      obtain rfl := Option.some.inj a3
      obtain ⟨_, hk, _⟩ := apply_right hr (safe_possible a5)
      have := mem_choicesC.2 ⟨hk.1, hk.2.1, hk.2.2.1, hk.2.2.2.1, a5⟩
      rw [hc] at this
      cases this

/-! The example: four steps -/
def fS : api_Fleet := ⟨2, [⟨0, true, true⟩]⟩
def sS (k v st us : Int) : api_Rotation := ⟨k, v, [⟨true, st, us⟩]⟩
theorem fS_ok : FleetOk fS := by decide
theorem sS_right {k v st us : Int} (h : (k = 1 ∧ v = 1 ∧ st = 1 ∧ us = 1) ∨ (k = 3 ∧ (v = 1 ∨ v = 2) ∧ (st = 1 ∨ st = 2 ∨ st = 3) ∧ us = st)) : RightOk fS (sS k v st us) := by
  refine ⟨fS_ok, ?_, ?_, rfl, fun i h1 h2 => ?_⟩
  · rcases h with ⟨rfl, _⟩ | ⟨rfl, _⟩ <;> simp [sS]
  · rcases h with ⟨rfl, rfl, _⟩ | ⟨rfl, rfl | rfl, _⟩
    · exact (by decide : bitsP 1 1 true = true)
    · exact (by decide : bitsP 1 3 true = true)
    · exact (by decide : bitsP 2 3 true = true)
  · have : i = 0 := by simp [fS] at h2; omega
    subst this
    have q1 : unitP ⟨0, true, true⟩ ⟨true, 1, 1⟩ 3 = true := by decide
    have q2 : unitP ⟨0, true, true⟩ ⟨true, 2, 2⟩ 3 = true := by decide
    have q3 : unitP ⟨0, true, true⟩ ⟨true, 3, 3⟩ 3 = true := by decide
    rcases h with ⟨rfl, rfl, rfl, rfl⟩ | ⟨rfl, rfl | rfl, rfl | rfl | rfl, rfl⟩
    · exact (by decide : unitP ⟨0, true, true⟩ ⟨true, 1, 1⟩ 1 = true)
    · exact q1
    · exact q2
    · exact q3
    · exact q1
    · exact q2
    · exact q3
theorem sS_safe {k v st us k' v' st' us' kind : Int} (h : RightOk fS (sS k v st us)) (h' : RightOk fS (sS k' v' st' us')) (hk : kindOk fS ⟨kind, 0⟩) (ho : okStep fS (sS k v st us) ⟨kind, 0⟩ = true) (hn : nextS fS (sS k v st us) ⟨kind, 0⟩ = sS k' v' st' us') (hw : servedRaw fS (sS k' v' st' us') = [0]) (hw0 : servedRaw fS (sS k v st us) = [0]) : safeP fS (sS k v st us) ⟨kind, 0⟩ = true ∧ (applyP fS (sS k v st us) ⟨kind, 0⟩).1 = sS k' v' st' us' := by
  have e := apply_eq h hk ho
  rw [hn] at e
  refine ⟨?_, by rw [e]⟩
  unfold safeP
  rw [e]
  simp only [beq_self_eq_true, Bool.true_and, decide_eq_true_eq]
  intro p hp
  rw [(servedP_ok h).2, hw0] at hp
  rw [(servedP_ok h').2, hw]
  exact hp
theorem fS_reach : reach fS (startR fS) 4 (sS 3 2 2 2) := by
  have r0 : RightOk fS (sS 1 1 1 1) := sS_right (by simp)
  have r1 : RightOk fS (sS 3 1 1 1) := sS_right (by simp)
  have r2 : RightOk fS (sS 3 1 3 3) := sS_right (by simp)
  have r3 : RightOk fS (sS 3 2 3 3) := sS_right (by simp)
  have r4 : RightOk fS (sS 3 2 2 2) := sS_right (by simp)
  obtain ⟨a1, b1⟩ := sS_safe (kind := 1) r0 r1 (by unfold kindOk; decide) (by decide) rfl (by decide) (by decide)
  obtain ⟨a2, b2⟩ := sS_safe (kind := 4) r1 r2 (by unfold kindOk; decide) (by decide) rfl (by decide) (by decide)
  obtain ⟨a3, b3⟩ := sS_safe (kind := 3) r2 r3 (by unfold kindOk; decide) (by decide) rfl (by decide) (by decide)
  obtain ⟨a4, b4⟩ := sS_safe (kind := 7) r3 r4 (by unfold kindOk; decide) (by decide) rfl (by decide) (by decide)
  refine reach_cons (x := ⟨1, 0⟩) a1 ?_
  rw [show (applyP fS (startR fS) ⟨1, 0⟩).1 = sS 3 1 1 1 from b1]
  refine reach_cons a2 ?_
  rw [b2]
  refine reach_cons a3 ?_
  rw [b3]
  refine reach_cons a4 ?_
  rw [b4]
  exact ⟨[], trivial, rfl, rfl⟩
def muS (s : api_Rotation) : Nat := (if s.Known = 3 then 0 else 1) + (if s.Valid = 2 then 0 else 1) + (if (unitAt s 0).Stored = 2 then 0 else if (unitAt s 0).Stored = 3 then 1 else 2)
theorem muS_step (s : api_Rotation) (x : api_Step) (hr : RightOk fS s) (hx : safeP fS s x = true) : muS s ≤ muS (applyP fS s x).1 + 1 := by
  obtain ⟨hr', hk, hok, e⟩ := apply_right hr (safe_possible hx)
  rw [e]
  have hl : s.Units.length = 1 := hr.2.2.2.1
  have hst := unitP_stored (hr.unit (i := 0) (by omega) (by simp [fS]))
  rw [unitAt_get (by omega)] at hst
  obtain ⟨k1, k2, k3, k4, k5⟩ := hk
  have hx0 : x.Unit.toNat = 0 := by simp [fS] at k4; omega
  have hc : fS.Consumers.getD x.Unit.toNat default = ⟨0, true, true⟩ := by rw [hx0]; rfl
  have hu : s.Units.getD x.Unit.toNat default = unitAt s 0 := by rw [hx0]; rfl
  have hset : ∀ u : api_Unit, unitAt (⟨s.Known, s.Valid, s.Units.set x.Unit.toNat u⟩ : api_Rotation) 0 = u := fun u => by rw [hx0, unitAt_set (by omega), if_pos rfl]
  have hsame : ∀ k v : Int, unitAt (⟨k, v, s.Units⟩ : api_Rotation) 0 = unitAt s 0 := fun _ _ => rfl
  unfold okStep at hok
  unfold nextS muS
  by_cases c1 : x.Kind = 1
  · rw [if_pos c1]; simp only [hsame]; split <;> split <;> split <;> omega
  rw [if_neg c1] at hok ⊢
  by_cases c2 : x.Kind = 2
  · rw [if_pos c2]; simp only [hsame]; split <;> split <;> split <;> omega
  rw [if_neg c2] at hok ⊢
  by_cases c3 : x.Kind = 3
  · rw [if_pos c3]; simp only [hsame]; split <;> split <;> split <;> omega
  rw [if_neg c3] at hok ⊢
  by_cases c8 : x.Kind = 8
  · rw [if_pos c8]; simp only [hsame]; split <;> split <;> split <;> omega
  rw [if_neg c8] at hok ⊢
  rw [hc, hu] at hok ⊢
  rw [hset]
  have hf : ∀ u : api_Unit, (fixU ⟨0, true, true⟩ u).Stored = u.Stored := fun u => by unfold fixU; cases u.Up <;> rfl
  have k4567 : x.Kind = 4 ∨ x.Kind = 5 ∨ x.Kind = 6 ∨ x.Kind = 7 := by omega
  rcases k4567 with q | q | q | q
  · rw [q, us4] at hok ⊢
    simp only [hf, Bool.and_eq_true, beq_iff_eq] at hok ⊢
    rw [hok.2]; simp
  · rw [q, us5]; simp only; split <;> split <;> split <;> omega
  · rw [q, us6]; simp only; split <;> split <;> split <;> omega
  · rw [q, us7] at hok ⊢
    simp only [hf, beq_iff_eq] at hok ⊢
    rw [hok]; simp
theorem awake34 : law34_awake = some true := by
  unfold law34_awake
  rw [show (⟨2, [(⟨0, true, true⟩ : api_Consumer)]⟩ : api_Fleet) = fS from rfl, rstart_sp, if_pos fS_ok]
  simp only [Option.bind_some]
  have hr : RightOk fS (startR fS) := start_right fS_ok
  obtain ⟨d, hd, hf⟩ := dist_ex (f := fS) (by decide) hr
  have h4 : found fS (startR fS) ((4 : Nat) : Int) := by
    refine found_is fS_reach ?_ fun k u hk hu => ?_
    · unfold endedP; rw [decide_eq_true (sS_right (by simp) : RightOk fS (sS 3 2 2 2))]; rfl
    · have h1 := pot muS hr muS_step k u hk
      have hur := reach_right hr hk
      have h2 : muS u = 0 := by
        unfold endedP at hu
        simp only [Bool.and_eq_true, List.all_eq_true, beq_iff_eq] at hu
        have hl : u.Units.length = 1 := hur.2.2.2.1
        have h3 := hu.2.2 _ (List.getElem_mem (show 0 < u.Units.length by omega))
        rw [unitAt_get (by omega)] at h3
        unfold endedU at h3
        simp only [Bool.and_eq_true, beq_iff_eq] at h3
        have hv := hu.2.1
        have hkn : u.Known = 3 := by
          rcases hur.2.1 with hkn | hkn
          · have := (bitsP_val hur.2.2.1).2.1
            rw [hkn, hv] at this
            exact absurd this (by decide)
          · exact hkn
        unfold muS
        rw [hkn, hv, h3.2.1]; rfl
      have h3 : muS (startR fS) = 4 := by decide
      omega
  have : d = 4 := found_far hf h4
  rw [hd, this]
  rfl
theorem SearchLess_law (a : List Int) : law34_SearchLess a = some true := by
  unfold law34_SearchLess
  by_cases h : 200 < (a.length : Int)
  · rw [if_pos (by simpa using h), awake34]; rfl
  rw [if_neg (by simpa using h)]
  obtain ⟨f, m1, e1, hf, hle, _, t1⟩ := make_Fleet_ex (tape0 (a := a) (by omega)) (most := 2) (by omega) (by omega)
  rw [e1]
  simp only [Option.bind_some]
  obtain ⟨s, m2, e2, hr, t2⟩ := make_State_ex t1 hf
  rw [e2]
  simp only [Option.bind_some]
  obtain ⟨E, c1, c2⟩ := count_ex (f := f) (s := s) (by omega) hr
  obtain ⟨l1, l2⟩ := SearchLess_in (by omega) hr c2
  rw [c1, rchoices_sp (by omega)]
  simp only [Option.bind_some]
  generalize hC : choicesC (safeP f s) f.Consumers.length = C at *
  have hg : (((0 : Int) != 0) || ((decide ((E.length : Int) < 1)) || (((E.length : Int) == 1) != ((C.length : Int) == 0)))) = false := by
    cases C with
    | nil => rw [l2.2 rfl]; rfl
    | cons x l =>
      have q : E.length ≠ 1 := fun e => by cases l2.1 e
      have h1 : ((E.length : Int) == 1) = false := by simp; omega
      have h2 : (((x :: l).length : Int) == 0) = false := by simp; omega
      rw [h1, h2]
      simp
      omega
  rw [hg, if_neg (by simp)]
  by_cases h0 : C = []
  · subst h0; rw [if_pos (by rfl), awake34]; rfl
  rw [if_neg (by cases C with | nil => exact absurd rfl h0 | cons x l => simp; omega)]
  have hlen : 0 < C.length := List.length_pos_iff.2 h0
  obtain ⟨v, m3, e3, v0, v1, _⟩ := next_ex t2 (n := (C.length : Int)) (by omega)
  rw [e3]
  simp only [Option.bind_some]
  rw [idx_toNat v0 (by omega)]
  simp only [Option.bind_some, rapply_sp]
  have hx := (mem_choicesC.1 (by rw [hC]; exact List.getElem_mem (show v.toNat < C.length by omega))).2.2.2.2
  generalize C[v.toNat]'(by omega) = x at *
  have hr' := (apply_right hr (safe_possible hx)).1
  obtain ⟨E', d1, d2⟩ := count_ex (f := f) (s := (applyP f s x).1) (by omega) hr'
  obtain ⟨k1, _⟩ := SearchLess_in (by omega) hr' d2
  have hle2 : E'.length ≤ E.length := by
    have := q_len (f := f) (g := f) (A := E'.map (·.Rotation)) (B := E.map (·.Rotation)) d2.seen (fun t ht => by
      obtain ⟨y, hy, rfl⟩ := List.mem_map.1 ht
      obtain ⟨j, hj⟩ := List.getElem?_of_mem hy
      have := q_reach hr' d2 (j + 1) j y (by omega) hj
      obtain ⟨z, hz, e, _⟩ := q_all hr c2 _ _ (reach_cons hx this)
      rw [← e]
      exact List.mem_map_of_mem hz)
    simpa using this
  rw [d1]
  simp only [Option.bind_some]
  rw [if_pos (by rfl), if_pos (by simp; omega), if_pos (by simp; omega), awake34]
  rfl
end Go.Vl
