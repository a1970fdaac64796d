/- The value logic, part 13: a call of a function by its contract. Conditions: none. -/
import Derived.Test.YtnnipdjbiblekaaVmL
set_option linter.unusedSimpArgs false
set_option linter.unusedVariables false
namespace Go.Vl
open Go Go.RowKit

/- what a callee sees of a value: the rows τ are handed on, the rows vs are seen as data -/
mutual
def AV.view (vs : List (Nat × VS)) (τ σ : List Nat) : AV → AV
  | .nilS => .d (.slice [])
  | .full rows => .d (.slice rows)
  | .vec n => match idxOf τ n with | some i => .vec (InV i) | none => match get vs n with | some s => if s.isM = true then .undef else .d (.slice s.rows) | none => .undef
  | .ptr n o => match idxOf σ n with | some i => .ptr (InO i) o | none => .undef
  | .vptr n z i o => match idxOf τ n with | some j => .vptr (InV j) z i o | none => .undef
  | .cut _ _ _ _ => .undef
  | .agg l => .agg (AV.viewL vs τ σ l)
  | .tup l => .tup (AV.viewL vs τ σ l)
  | .fn f l => .fn f (AV.viewL vs τ σ l)
  | x => x
def AV.viewL (vs : List (Nat × VS)) (τ σ : List Nat) : List AV → List AV
  | [] => []
  | x :: l => AV.view vs τ σ x :: AV.viewL vs τ σ l
end
theorem viewL_eq (vs : List (Nat × VS)) (τ σ : List Nat) : ∀ l : List AV, AV.viewL vs τ σ l = l.map (AV.view vs τ σ)
  | [] => rfl
  | x :: l => by simp [AV.viewL, viewL_eq vs τ σ l]
/- what a result is to the caller -/
mutual
def AV.back (υ σ : List Nat) : AV → AV
  | .ptr n o => match σ[n - 1000000]? with | some m => .ptr m o | none => .undef
  | .vec n => match υ[n - 2000000]? with | some m => .vec m | none => .undef
  | .vptr _ _ _ _ => .undef
  | .cut _ _ _ _ => .undef
  | .agg l => .agg (AV.backL υ σ l)
  | .tup l => .tup (AV.backL υ σ l)
  | .fn f l => .fn f (AV.backL υ σ l)
  | x => x
def AV.backL (υ σ : List Nat) : List AV → List AV
  | [] => []
  | x :: l => AV.back υ σ x :: AV.backL υ σ l
end
theorem backL_eq (υ σ : List Nat) : ∀ l : List AV, AV.backL υ σ l = l.map (AV.back υ σ)
  | [] => rfl
  | x :: l => by simp [AV.backL, backL_eq υ σ l]
/- no address is in it -/
mutual
def AV.flat : AV → Bool
  | .d (.int _ _) | .d (.bool _) | .d (.str _) => true
  | .agg l => AV.flatL l
  | .tup l => AV.flatL l
  | _ => false
def AV.flatL : List AV → Bool
  | [] => true
  | x :: l => AV.flat x && AV.flatL l
end
/- of what may share memory with owned rows: what needs no memory -/
mutual
def AV.dry : AV → AV
  | .d (.int k n) => .d (.int k n)
  | .d (.bool b) => .d (.bool b)
  | .d (.str s) => .d (.str s)
  | .d (.slice rows) => .slen rows.length
  | .agg l => .agg (AV.dryL l)
  | .tup l => .tup (AV.dryL l)
  | _ => .undef
def AV.dryL : List AV → List AV
  | [] => []
  | x :: l => AV.dry x :: AV.dryL l
end
theorem dryL_eq : ∀ l : List AV, AV.dryL l = l.map AV.dry
  | [] => rfl
  | x :: l => by simp [AV.dryL, dryL_eq l]
theorem RA.dry {w w' : World} {ok ok' : Nat → Prop} {p p' : Pl} {x : AV} {v : Value} (h : RA w ok p x v) : RA w' ok' p' x.dry v := by
  induction h with
  | d h =>
    cases h with
    | int => exact .d .int
    | bool => exact .d .bool
    | str => exact .d .str
    | nilp => exact .undef
    | snil => exact .slen
    | slice => exact .slen
  | agg hl _ h1 ih =>
    simp only [AV.dry, dryL_eq]
    refine .agg (by simpa using hl) (fun i a v ha hv' => ?_) h1
    simp only [List.getElem?_map, Option.map_eq_some_iff] at ha
    obtain ⟨q, hq, rfl⟩ := ha
    exact ih i q v hq hv'
  | tup hl _ ih =>
    simp only [AV.dry, dryL_eq]
    refine .tup (by simpa using hl) (fun i a v ha hv' => ?_)
    simp only [List.getElem?_map, Option.map_eq_some_iff] at ha
    obtain ⟨q, hq, rfl⟩ := ha
    exact ih i q v hq hv'
  | _ => simp only [AV.dry]; exact .undef
theorem flatL_get : ∀ {l : List AV}, AV.flatL l = true → ∀ {i : Nat} {x : AV}, l[i]? = some x → x.flat = true
  | [], _, i, x, h => by simp at h
  | y :: l, hl, i, x, h => by
    simp only [AV.flatL, Bool.and_eq_true] at hl
    cases i with
    | zero => simp at h; subst h; exact hl.1
    | succ i => exact flatL_get hl.2 (by simpa using h)

theorem RA.flat {w w' : World} {ok ok' : Nat → Prop} {p p' : Pl} {x : AV} {v : Value} (h : RA w ok p x v) : x.flat = true → RA w' ok' p' x v := by
  induction h with
  | d h => intro hf; cases h <;> first | (simp [AV.flat] at hf; done) | exact .d .int | exact .d .bool | exact .d .str
  | agg hl _ h1 ih => intro hf; exact .agg hl (fun i a v ha hv => ih i a v ha hv (flatL_get (by simpa [AV.flat] using hf) ha)) h1
  | tup hl _ ih => intro hf; exact .tup hl (fun i a v ha hv => ih i a v ha hv (flatL_get (by simpa [AV.flat] using hf) ha))
  | _ => intro hf; simp [AV.flat] at hf

theorem RA.view {w : World} {ok ok' : Nat → Prop} {p : Pl} {vs : List (Nat × VS)} {τ σ : List Nat} (ho : ∀ b, ok b → ok' b) (hv : ∀ n s, get vs n = some s → p.lv n → s.isM = false → RD w ok' (.slice s.rows) (p.rw n)) {x : AV} {v : Value} (h : RA w ok p x v) :
    RA w ok' (ioPl (σ.map p.bx) (τ.map p.rw)) (x.view vs τ σ) v := by
  induction h with
  | undef => simp only [AV.view]; exact .undef
  | d h => simp only [AV.view]; exact .d (h.mono (fun _ _ => rfl) ho)
  | nilS => simp only [AV.view]; exact .d .snil
  | full h => simp only [AV.view]; exact .d (h.mono (fun _ _ => rfl) ho)
  | agg hl _ h1 ih =>
    simp only [AV.view, viewL_eq]
    refine .agg (by simpa using hl) (fun i a v ha hv' => ?_) h1
    simp only [List.getElem?_map, Option.map_eq_some_iff] at ha
    obtain ⟨q, hq, rfl⟩ := ha
    exact ih i q v hq hv'
  | tup hl _ ih =>
    simp only [AV.view, viewL_eq]
    refine .tup (by simpa using hl) (fun i a v ha hv' => ?_)
    simp only [List.getElem?_map, Option.map_eq_some_iff] at ha
    obtain ⟨q, hq, rfl⟩ := ha
    exact ih i q v hq hv'
  | ptr hm =>
    rename_i n o
    simp only [AV.view]
    cases hi : idxOf σ n with
    | none => exact .undef
    | some i =>
      have h1 := idxOf_some hi
      have h2 : (σ.map p.bx)[i]? = some (p.bx n) := by simp [h1]
      refine RA.ptr_at (io_lb.2 (List.getElem?_eq_some_iff.1 h2).1) (io_bx h2)
  | cptr us h1 h2 h3 => simp only [AV.view]; exact .cptr us (ho _ h1) h2 (fun j x hx => (h3 j x hx).mono (fun _ _ => rfl) ho)
  | vec hm =>
    rename_i n
    simp only [AV.view]
    cases hi : idxOf τ n with
    | some i =>
      have h1 := idxOf_some hi
      have h2 : (τ.map p.rw)[i]? = some (p.rw n) := by simp [h1]
      exact RA.vec_at (io_lv.2 (List.getElem?_eq_some_iff.1 h2).1) (io_rw h2)
    | none =>
      simp only
      cases hs : get vs n with
      | none => exact .undef
      | some s =>
        simp only
        split
        · exact .undef
        · exact .d (hv n s hs hm (by simpa using ‹¬ s.isM = true›))
  | vptr hm he =>
    rename_i n z i o g c len
    simp only [AV.view]
    cases hi : idxOf τ n with
    | some j =>
      have h1 := idxOf_some hi
      have h2 : (τ.map p.rw)[j]? = some (p.rw n) := by simp [h1]
      exact .vptr (io_lv.2 (List.getElem?_eq_some_iff.1 h2).1) ((io_rw h2).trans he)
    | none => exact .undef
  | cut _ _ _ _ => simp only [AV.view]; exact .undef
  | cut0 _ _ => simp only [AV.view]; exact .undef
  | slen => simp only [AV.view]; exact .slen
  | fn hl _ ih =>
    simp only [AV.view, viewL_eq]
    refine .fn (by simpa using hl) (fun i a v ha hv' => ?_)
    simp only [List.getElem?_map, Option.map_eq_some_iff] at ha
    obtain ⟨q, hq, rfl⟩ := ha
    exact ih i q v hq hv'

theorem RA.back {w : World} {ok ok' : Nat → Prop} {p' : Pl} {σ υ : List Nat} {bxs : List Nat} {iv' : List Value} (ho : ∀ b, ok b → ok' b) (hb : ∀ (i n : Nat), σ[i]? = some n → p'.lb n ∧ bxs[i]? = some (p'.bx n)) (hv : ∀ (i n : Nat), υ[i]? = some n → p'.lv n ∧ iv'[i]? = some (p'.rw n))
    {x : AV} {v : Value} (h : RA w ok (ioPl bxs iv') x v) : RA w ok' p' (x.back υ σ) v := by
  induction h with
  | undef => simp only [AV.back]; exact .undef
  | d h => simp only [AV.back]; exact .d (h.mono (fun _ _ => rfl) ho)
  | nilS => simp only [AV.back]; exact .nilS
  | full h => simp only [AV.back]; exact .full (h.mono (fun _ _ => rfl) ho)
  | agg hl _ h1 ih =>
    simp only [AV.back, backL_eq]
    refine .agg (by simpa using hl) (fun i a v ha hv' => ?_) h1
    simp only [List.getElem?_map, Option.map_eq_some_iff] at ha
    obtain ⟨q, hq, rfl⟩ := ha
    exact ih i q v hq hv'
  | tup hl _ ih =>
    simp only [AV.back, backL_eq]
    refine .tup (by simpa using hl) (fun i a v ha hv' => ?_)
    simp only [List.getElem?_map, Option.map_eq_some_iff] at ha
    obtain ⟨q, hq, rfl⟩ := ha
    exact ih i q v hq hv'
  | ptr hm =>
    rename_i n o
    simp only [AV.back]
    cases hi : σ[n - 1000000]? with
    | none => exact .undef
    | some m =>
      obtain ⟨h1, h2⟩ := hb _ _ hi
      have h3 : (ioPl bxs iv').bx n = p'.bx m := by simp [ioPl, h2]
      rw [h3]
      exact .ptr h1
  | cptr us h1 h2 h3 => simp only [AV.back]; exact .cptr us (ho _ h1) h2 (fun j x hx => (h3 j x hx).mono (fun _ _ => rfl) ho)
  | vec hm =>
    rename_i n
    simp only [AV.back]
    cases hi : υ[n - 2000000]? with
    | none => exact .undef
    | some m =>
      obtain ⟨h1, h2⟩ := hv _ _ hi
      have h3 : (ioPl bxs iv').rw n = p'.rw m := by simp [ioPl, h2]
      rw [h3]
      exact .vec h1
  | vptr h1 h2 => simp only [AV.back]; exact .undef
  | cut _ _ _ _ => simp only [AV.back]; exact .undef
  | cut0 _ _ => simp only [AV.back]; exact .undef
  | slen => simp only [AV.back]; exact .slen
  | fn hl _ ih =>
    simp only [AV.back, backL_eq]
    refine .fn (by simpa using hl) (fun i a v ha hv' => ?_)
    simp only [List.getElem?_map, Option.map_eq_some_iff] at ha
    obtain ⟨q, hq, rfl⟩ := ha
    exact ih i q v hq hv'

/-- the caller's boxes that are handed on hold what the contract asks -/
def boxesIn (st : St) (τ σ0 : List Nat) : List Nat → List (List AV) → Prop
  | [], [] => True
  | n :: σ, cs :: bx => (∃ cs0, get st.box n = some cs0 ∧ AV.viewL [] τ σ0 cs0 = cs) ∧ boxesIn st τ σ0 σ bx
  | _, _ => False
def boxesOut (υ σ0 : List Nat) : List Nat → List (List AV) → List (Nat × List AV) → List (Nat × List AV)
  | n :: σ, cs :: bx, l => (n, AV.backL υ σ0 cs) :: boxesOut υ σ0 σ bx l
  | _, _, l => l
def zipV : List Nat → List VS → List (Nat × VS) → List (Nat × VS)
  | n :: υ, s :: vx, l => (n, s) :: zipV υ vx l
  | _, _, l => l
def delV : List Nat → List (Nat × VS) → List (Nat × VS)
  | [], l => l
  | n :: τ, l => delV τ (del l n)
/-- what names a row of τ is forgotten -/
def AV.scrubs (τ : List Nat) (x : AV) : AV := if x.wf (fun _ => true) (fun m => !τ.contains m) then x else .undef
def scrubE : List Nat → List (Nat × AV) → List (Nat × AV)
  | [], l => l
  | n :: τ, l => mapv (AV.scrubs (n :: τ)) l
def scrubB : List Nat → List (Nat × List AV) → List (Nat × List AV)
  | [], l => l
  | n :: τ, l => mapv (List.map (AV.scrubs (n :: τ))) l

section
variable {P : Program} {K : Ctx} {st : St} {a : Act} {w : World} {p : Pl} {ops : Array Oper} {Q : Exit → St → Prop}

theorem boxesIn_get {st : St} {τ σ0 : List Nat} : ∀ {σ : List Nat} {bx : List (List AV)}, boxesIn st τ σ0 σ bx → σ.length = bx.length ∧ ∀ (i : Nat) (n : Nat) (cs : List AV), σ[i]? = some n → bx[i]? = some cs → ∃ cs0, get st.box n = some cs0 ∧ AV.viewL [] τ σ0 cs0 = cs
  | [], [], _ => ⟨rfl, fun i n cs h => by simp at h⟩
  | n :: σ, cs :: bx, h => by
    obtain ⟨h1, h2⟩ := boxesIn_get h.2
    refine ⟨by simp [h1], fun i m c hm hc => ?_⟩
    cases i with
    | zero => simp at hm hc; subst hm; subst hc; exact h.1
    | succ i => exact h2 i m c (by simpa using hm) (by simpa using hc)
  | [], _ :: _, h => h.elim
  | _ :: _, [], h => h.elim

theorem boxesOut_get (υ σ0 : List Nat) : ∀ {σ : List Nat} {bx : List (List AV)} {l : List (Nat × List AV)} {n : Nat} {cs : List AV}, σ.length = bx.length → σ.Nodup → get (boxesOut υ σ0 σ bx l) n = some cs →
    (∃ (i : Nat) (c : List AV), σ[i]? = some n ∧ bx[i]? = some c ∧ cs = AV.backL υ σ0 c) ∨ (n ∉ σ ∧ get l n = some cs)
  | [], [], l, n, cs, _, _, h => .inr ⟨by simp, h⟩
  | m :: σ, c :: bx, l, n, cs, hl, hn, h => by
    simp only [boxesOut, get] at h
    split at h
    · rename_i e; subst e; cases h; exact .inl ⟨0, c, rfl, rfl, rfl⟩
    · rename_i e
      rcases boxesOut_get υ σ0 (by simpa using hl) (List.nodup_cons.1 hn).2 h with ⟨i, c', h1, h2, h3⟩ | ⟨h1, h2⟩
      · exact .inl ⟨i + 1, c', by simpa using h1, by simpa using h2, h3⟩
      · exact .inr ⟨by simp [h1]; exact fun e' => e e'.symm, h2⟩
  | [], _ :: _, _, _, _, hl, _, _ => by simp at hl
  | _ :: _, [], _, _, _, hl, _, _ => by simp at hl

theorem boxesOut_dom (υ σ0 : List Nat) : ∀ {σ : List Nat} {bx : List (List AV)} {l : List (Nat × List AV)}, σ.length = bx.length → ∀ n, (get (boxesOut υ σ0 σ bx l) n).isSome = true ↔ (n ∈ σ ∨ (get l n).isSome = true)
  | [], [], l, _, n => by simp [boxesOut]
  | m :: σ, c :: bx, l, hl, n => by
    simp only [boxesOut, get]
    split
    · rename_i e; subst e; simp
    · rename_i e
      rw [boxesOut_dom υ σ0 (by simpa using hl) n]
      simp [Ne.symm e]
  | [], _ :: _, _, hl, _ => by simp at hl
  | _ :: _, [], _, hl, _ => by simp at hl

theorem zipV_get : ∀ {υ : List Nat} {vx : List VS} {l : List (Nat × VS)} {n : Nat}, υ.length = vx.length → υ.Nodup → (∀ (i : Nat), υ[i]? = some n → get (zipV υ vx l) n = vx[i]?) ∧ (n ∉ υ → get (zipV υ vx l) n = get l n)
  | [], [], l, n, _, _ => ⟨fun i h => by simp at h, fun _ => rfl⟩
  | m :: υ, s :: vx, l, n, hl, hn => by
    have hn' := List.nodup_cons.1 hn
    obtain ⟨h1, h2⟩ := zipV_get (υ := υ) (vx := vx) (l := l) (n := n) (by simpa using hl) hn'.2
    refine ⟨fun i hi => ?_, fun hni => ?_⟩
    · simp only [zipV, get]
      cases i with
      | zero => simp at hi; rw [if_pos hi]; rfl
      | succ i =>
        have hi' : υ[i]? = some n := by simpa using hi
        rw [if_neg (fun e => hn'.1 (by rw [e]; exact List.mem_of_getElem? hi')), h1 i hi']; rfl
    · simp only [zipV, get]
      rw [if_neg (fun e => hni (by simp [e])), h2 (fun h => hni (by simp [h]))]
  | [], _ :: _, _, _, hl, _ => by simp at hl
  | _ :: _, [], _, _, hl, _ => by simp at hl
theorem get_delV : ∀ (τ : List Nat) (l : List (Nat × VS)) (n : Nat), get (delV τ l) n = if n ∈ τ then none else get l n
  | [], l, n => by simp [delV]
  | m :: τ, l, n => by
    simp only [delV, get_delV τ, get_del, List.mem_cons]
    by_cases h : n ∈ τ
    · simp [h]
    · by_cases h2 : m = n
      · simp [h2]
      · simp [h, h2, Ne.symm h2]
theorem scrubs_spec (τ : List Nat) (x : AV) : x.scrubs τ = .undef ∨ (x.scrubs τ = x ∧ x.wf (fun _ => true) (fun m => !τ.contains m) = true) := by
  unfold AV.scrubs; split
  · exact .inr ⟨rfl, ‹_›⟩
  · exact .inl rfl
theorem wf_nil (x : AV) : x.wf (fun _ => true) (fun m => !([] : List Nat).contains m) = true := by
  have : (fun m : Nat => !([] : List Nat).contains m) = fun _ => true := by funext m; rfl
  rw [this]; exact wf_true x
theorem scrubE_get {τ : List Nat} {l : List (Nat × AV)} {t : Nat} {y : AV} (h : get (scrubE τ l) t = some y) : ∃ x, get l t = some x ∧ (y = .undef ∨ (y = x ∧ x.wf (fun _ => true) (fun m => !τ.contains m) = true)) := by
  cases τ with
  | nil => exact ⟨y, h, .inr ⟨rfl, wf_nil y⟩⟩
  | cons n τ =>
    obtain ⟨x, hx, rfl⟩ := get_map_some h
    refine ⟨x, hx, ?_⟩
    rcases scrubs_spec (n :: τ) x with h0 | ⟨h0, hw⟩
    · exact .inl h0
    · exact .inr ⟨h0, hw⟩
theorem scrubB_get {τ : List Nat} {l : List (Nat × List AV)} {t : Nat} {cs' : List AV} (h : get (scrubB τ l) t = some cs') : ∃ cs, get l t = some cs ∧ cs'.length = cs.length ∧ ∀ (i : Nat) (c : AV), cs'[i]? = some c → c = .undef ∨ (cs[i]? = some c ∧ c.wf (fun _ => true) (fun m => !τ.contains m) = true) := by
  cases τ with
  | nil => exact ⟨cs', h, rfl, fun i c hc => .inr ⟨hc, wf_nil c⟩⟩
  | cons n τ =>
    obtain ⟨cs, hcs, rfl⟩ := get_map_some h
    refine ⟨cs, hcs, by simp, fun i c hc => ?_⟩
    rw [List.getElem?_map] at hc
    cases hq : cs[i]? with
    | none => rw [hq] at hc; cases hc
    | some q =>
      rw [hq] at hc; cases hc
      rcases scrubs_spec (n :: τ) q with h0 | ⟨h0, hw⟩
      · exact .inl h0
      · exact .inr ⟨by rw [h0], by rw [h0]; exact hw⟩
theorem scrubB_dom (τ : List Nat) (l : List (Nat × List AV)) (n : Nat) : (get (scrubB τ l) n).isSome = (get l n).isSome := by
  cases τ with
  | nil => rfl
  | cons m τ => simp [scrubB, get_mapv]

/-- the state behind a call -/
def calledSt (st : St) (σ τ υ : List Nat) (bx' : List (List AV)) (vx' : List VS) : St :=
  { nt := st.nt, env := scrubE τ st.env, box := boxesOut υ σ σ bx' (scrubB τ st.box), vec := zipV υ vx' (delV τ st.vec) }

/-- behind a call: the boxes and rows that were handed on are turned, all else stays -/
theorem Rel.calledV (R : Rel K st a w p) {σ τ υ : List Nat} {bx' : List (List AV)} {vx' : List VS} {iv' : List Value} {w' : World} (hn : σ.Nodup) (hσ : ∀ n ∈ σ, p.lb n) (hl : σ.length = bx'.length) (hτ : ∀ n ∈ τ, p.lv n) (hυ : υ.Nodup) (hυl : υ.length = vx'.length)
    (hυf : ∀ n ∈ υ, n ∈ τ ∨ ¬ p.lv n) (hf : Frm (σ.map p.bx) (τ.map p.rw) w w') (hpre : FnPre w' (okn (okc K w p) (τ.map p.rw) iv' w w') (σ.map p.bx) iv' bx' vx') (hown : ∀ u ∈ iv', ∀ g, u.blk = some g → w.heap.size ≤ g ∨ ∃ v ∈ τ.map p.rw, v.blk = some g) :
    ∃ p', Rel K (calledSt st σ τ υ bx' vx') a w' p' ∧ (∀ b, okn (okc K w p) (τ.map p.rw) iv' w w' b → okc K w' p' b) ∧ (∀ (i n : Nat), σ[i]? = some n → p'.lb n ∧ (σ.map p.bx)[i]? = some (p'.bx n)) ∧ (∀ (i n : Nat), υ[i]? = some n → p'.lv n ∧ iv'[i]? = some (p'.rw n)) := by
  let p' : Pl := ⟨p.bx, fun n => match idxOf υ n with | some i => (iv'[i]?).getD undef | none => p.rw n, p.lb, fun n => n ∈ υ ∨ (n ∉ τ ∧ p.lv n)⟩
  have hivl : iv'.length = υ.length := by rw [hpre.lenv, hυl]
  have rwo : ∀ n, n ∉ υ → p'.rw n = p.rw n := fun n h => by show (match idxOf υ n with | some i => (iv'[i]?).getD undef | none => p.rw n) = _; rw [idxOf_none.2 h]
  have rwn : ∀ (i n : Nat), υ[i]? = some n → iv'[i]? = some (p'.rw n) := fun i n h => by
    have hi : i < iv'.length := by rw [hivl]; exact (List.getElem?_eq_some_iff.1 h).1
    show _ = some (match idxOf υ n with | some i => (iv'[i]?).getD undef | none => p.rw n)
    rw [idxOf_nodup hυ h]; simp [List.getElem?_eq_getElem hi]
  have mem' : ∀ n ∈ υ, p'.rw n ∈ iv' := fun n h => by
    obtain ⟨i, hi⟩ := List.mem_iff_getElem?.1 h
    exact List.mem_of_getElem? (rwn i n hi)
  have nu : ∀ n, n ∉ τ → p.lv n → n ∉ υ := fun n h1 h2 h3 => (hυf n h3).elim h1 (fun h => h h2)
  have hnot : ∀ {b : Nat}, b ∈ σ.map p.bx → ∃ n ∈ σ, p.bx n = b := fun h => by simpa using h
  have hnotv : ∀ {v : Value}, v ∈ τ.map p.rw → ∃ n ∈ τ, p.rw n = v := fun h => by simpa using h
  have hokn : ∀ b, okn (okc K w p) (τ.map p.rw) iv' w w' b → okc K w' p' b := fun b h => by
    obtain ⟨h1, h2, h3⟩ := h
    refine ⟨h2, ?_, fun n hn' e => ?_, fun n hn' e => ?_⟩
    · rcases h1 with h1 | h1 | ⟨v, hv, he⟩
      · exact h1.2.1
      · exact .inr (.inl (Nat.le_trans R.size h1))
      · obtain ⟨n, hn', rfl⟩ := hnotv hv
        exact .inr (R.vlt (hτ n hn') he).1
    · rcases h1 with h1 | h1 | ⟨v, hv, he⟩
      · exact h1.2.2.1 n hn' e
      · have := R.blt hn'; have e' : b = p.bx n := e; omega
      · obtain ⟨m, hm, rfl⟩ := hnotv hv
        exact R.dbv n m hn' (hτ m hm) (by rw [he]; congr 1)
    · rcases hn' with hn' | ⟨hn1, hn2⟩
      · exact h3 _ (mem' n hn') e
      · rw [rwo n (nu n hn1 hn2)] at e
        rcases h1 with h1 | h1 | ⟨v, hv, he⟩
        · exact h1.2.2.2 n hn2 e
        · have := (R.vlt hn2 e).2; omega
        · obtain ⟨m, hm, rfl⟩ := hnotv hv
          have hnm : n ≠ m := fun e' => hn1 (e' ▸ hm)
          rcases R.dvv n m hn2 (hτ m hm) hnm with h0 | h0
          · rw [h0] at e; cases e
          · exact h0 (by rw [e, he])
  have hoko : ∀ b, okc K w p b → okn (okc K w p) (τ.map p.rw) iv' w w' b := fun b h => ⟨.inl h, Nat.lt_of_lt_of_le h.1 hf.size, fun u hu e => by
    rcases hown u hu b e with h1 | ⟨v, hv, he⟩
    · have := h.1; omega
    · obtain ⟨m, hm, rfl⟩ := hnotv hv
      exact h.2.2.2 m (hτ m hm) he⟩
  have hτb : ∀ b, (∀ m ∈ τ, (p.rw m).blk ≠ some b) → ∀ v ∈ τ.map p.rw, v.blk ≠ some b := fun b h v hv => by
    obtain ⟨m, hm, rfl⟩ := hnotv hv; exact h m hm
  have E : Evo K w w' p p' (fun _ => true) (fun m => !τ.contains m) :=
    ⟨hf.size, hf.os, hf.tape, hf.output, fun b hb hi => hf.block b (Nat.lt_of_lt_of_le hb R.size) (fun h => by
        obtain ⟨n, hn', rfl⟩ := hnot h
        obtain ⟨cs, hcs⟩ := Option.isSome_iff_exists.1 ((R.lbi n).1 (hσ n hn'))
        rcases (R.box n cs hcs).mine with h0 | h0
        · omega
        · exact hi h0) (hτb b fun m hm e => by
        rcases (R.vlt (hτ m hm) e).1 with h0 | h0
        · omega
        · exact hi (.inr h0)),
      fun q hq => World.cell?_of_block (hf.block _ hq.1 (fun h => by obtain ⟨n, hn', e⟩ := hnot h; exact hq.2.2.1 n (hσ n hn') e.symm) (hτb _ fun m hm e => hq.2.2.2 m (hτ m hm) e)),
      fun b h => hokn b (hoko b h), fun _ _ h => ⟨h, rfl⟩, fun m hm h => by
        have hm' : m ∉ τ := by simpa using hm
        exact ⟨.inr ⟨hm', h⟩, rwo m (nu m hm' h)⟩⟩
  have hback : ∀ (i n : Nat), σ[i]? = some n → p'.lb n ∧ (σ.map p.bx)[i]? = some (p'.bx n) := fun i n h => ⟨hσ n (List.mem_of_getElem? h), by simp [h]; rfl⟩
  have hbackv : ∀ (i n : Nat), υ[i]? = some n → p'.lv n ∧ iv'[i]? = some (p'.rw n) := fun i n h => ⟨.inl (List.mem_of_getElem? h), rwn i n h⟩
  have hvd : ∀ n, p.lb n → ∀ u ∈ iv', u.blk ≠ some (p.bx n) := fun n hn' u hu e => by
    rcases hown u hu _ e with h1 | ⟨v, hv, he⟩
    · have := R.blt hn'; omega
    · obtain ⟨m, hm, rfl⟩ := hnotv hv
      exact R.dbv n m hn' (hτ m hm) he
  have hvo : ∀ n, n ∉ τ → p.lv n → ∀ u ∈ iv', ∀ g, u.blk = some g → (p.rw n).blk ≠ some g := fun n hn1 hn2 u hu g hg e => by
    rcases hown u hu g hg with h1 | ⟨v, hv, he⟩
    · have := (R.vlt hn2 e).2; omega
    · obtain ⟨m, hm, rfl⟩ := hnotv hv
      have hnm : n ≠ m := fun e' => hn1 (e' ▸ hm)
      rcases R.dvv n m hn2 (hτ m hm) hnm with h0 | h0
      · rw [h0] at e; cases e
      · exact h0 (by rw [e, he])
  refine ⟨p', ?_, hokn, hback, hbackv⟩
  exact {
    lb := by
      funext m
      simp only [calledSt, St.lb, eq_iff_iff]
      rw [boxesOut_dom υ σ hl m, scrubB_dom]
      have := R.lbi m
      simp only [St.lb] at this
      rw [← this]
      exact ⟨.inr, fun h => h.elim (hσ m) id⟩
    lv := by
      funext m
      simp only [calledSt, St.lv, eq_iff_iff]
      show (m ∈ υ ∨ (m ∉ τ ∧ p.lv m)) ↔ _
      by_cases hm : m ∈ υ
      · obtain ⟨i, hi⟩ := List.mem_iff_getElem?.1 hm
        rw [(zipV_get hυl hυ).1 i hi]
        have : i < vx'.length := by rw [← hυl]; exact (List.getElem?_eq_some_iff.1 hi).1
        simp [hm, List.getElem?_eq_getElem this]
      · rw [(zipV_get hυl hυ).2 hm, get_delV]
        have := R.lvi m
        simp only [St.lv] at this
        by_cases ht : m ∈ τ
        · simp [hm, ht]
        · simp [hm, ht, this]
    dfr := R.dfr
    nt := R.nt
    ntl := R.ntl
    ion := R.ion
    size := Nat.le_trans R.size E.size
    os := E.os.trans R.os
    tape := E.tape.trans R.tape
    output := E.output.trans R.output
    old := fun b hb hi => (E.old b hb hi).trans (R.old b hb hi)
    env := fun t y h => by
      obtain ⟨x, hx, h0⟩ := scrubE_get h
      rcases h0 with rfl | ⟨rfl, hw⟩
      · exact .undef
      · exact E.ra (R.env t y hx) hw
    box := fun m cs h => by
      rcases boxesOut_get υ σ hl hn h with ⟨i, c, h1, h2, rfl⟩ | ⟨h1, h2⟩
      · have hm : m ∈ σ := List.mem_of_getElem? h1
        obtain ⟨cs0, hcs0⟩ := Option.isSome_iff_exists.1 ((R.lbi m).1 (hσ m hm))
        obtain ⟨⟨vs, ty, g1, g2, g3, g4⟩⟩ := hpre.at_ i (p.bx m) c (by simp [h1]) h2
        refine ⟨⟨vs, ty, g1, by rw [backL_eq]; simpa using g2, fun j x v hx hv => ?_, g4⟩, (R.box m cs0 hcs0).mine⟩
        rw [backL_eq] at hx
        simp only [List.getElem?_map, Option.map_eq_some_iff] at hx
        obtain ⟨q, hq, rfl⟩ := hx
        exact (g3 j q v hq hv).back hokn hback hbackv
      · obtain ⟨cs0, k1, k2, k3⟩ := scrubB_get h2
        have hm : p.lb m := (R.lbi m).2 (by simp [St.lb, k1])
        exact E.box (R.box m cs0 k1) rfl (hf.block _ (R.blt hm) (fun h => by
          obtain ⟨n, hn', e⟩ := hnot h
          exact R.dbb n m (hσ n hn') hm (fun e' => h1 (e' ▸ hn')) e) (hτb _ fun k hk e => R.dbv m k hm (hτ k hk) e)) k2 k3
    vec := fun m s h => by
      by_cases hm : m ∈ υ
      · obtain ⟨i, hi⟩ := List.mem_iff_getElem?.1 hm
        have hs : vx'[i]? = some s := by rw [← h]; exact ((zipV_get hυl hυ).1 i hi).symm
        obtain ⟨g1, g3⟩ := hpre.vat i (p'.rw m) s (rwn i m hi) hs
        refine ⟨g1.mono (fun _ _ => rfl) hokn (fun _ _ => rfl), g3, fun g hg => ?_⟩
        rcases hown _ (mem' m hm) g hg with h1 | ⟨v, hv, he⟩
        · exact .inl (Nat.le_trans R.size h1)
        · obtain ⟨k, hk, rfl⟩ := hnotv hv
          exact (R.vlt (hτ k hk) he).1
      · have h' : get (delV τ st.vec) m = some s := by rw [← h]; exact ((zipV_get hυl hυ).2 hm).symm
        rw [get_delV] at h'
        split at h'
        · cases h'
        · rename_i ht
          have hml : p.lv m := (R.lvi m).2 (by simp [St.lv, h'])
          exact E.vec (R.vec m s h') (rwo m hm) (fun g hg => hf.block _ (R.vlt hml hg).2 (fun h' => by
            obtain ⟨n, hn', e⟩ := hnot h'
            exact R.dbv n m (hσ n hn') hml (by rw [hg, e])) (hτb _ fun k hk e => by
            have hmk : m ≠ k := fun e' => ht (e' ▸ hk)
            rcases R.dvv m k hml (hτ k hk) hmk with h0 | h0
            · rw [h0] at hg; cases hg
            · exact h0 (by rw [hg, e])))
    dbb := R.dbb
    dbv := fun n m hn' hm => by
      rcases hm with hm | ⟨h1, h2⟩
      · exact hvd n hn' _ (mem' m hm)
      · rw [rwo m (nu m h1 h2)]; exact R.dbv n m hn' h2
    dvv := fun n m hn' hm hnm => by
      rcases hn' with hn' | ⟨a1, a2⟩ <;> rcases hm with hm | ⟨b1, b2⟩
      · obtain ⟨i, hi⟩ := List.mem_iff_getElem?.1 hn'
        obtain ⟨j, hj⟩ := List.mem_iff_getElem?.1 hm
        exact hpre.vdis i j _ _ (rwn i n hi) (rwn j m hj) (fun e => hnm (by subst e; rw [hi] at hj; cases hj; rfl))
      · rw [rwo m (nu m b1 b2)]
        cases hg : (p'.rw n).blk with
        | none => exact .inl rfl
        | some g => exact .inr (fun e => hvo m b1 b2 _ (mem' n hn') g hg e.symm)
      · rw [rwo n (nu n a1 a2)]
        cases hg : (p.rw n).blk with
        | none => exact .inl rfl
        | some g => exact .inr (fun e => hvo n a1 a2 _ (mem' m hm) g e.symm hg)
      · rw [rwo n (nu n a1 a2), rwo m (nu m b1 b2)]; exact R.dvv n m a2 b2 hnm }

theorem enter_run {f : FuncId} {o : Oper} {c : Call} {y : Operand} {cs : Array Value} (ho : o.op = .call c) (hc : c.callee = .value y) (hy : a.eval y = .func (.func f) #[] cs) (hcall : ∀ (args : Array Value) (w : World), (callFunc f args).run P w = .ok (.enter f args) w) :
    (execOp a.eval o).run P w = .ok (.enter f (c.args.map a.eval ++ cs)) w := by
  simp [execOp, ho, resolve, hc, hy, Deferred.ofValue, invoke, hcall]

theorem map_on_live {α β : Type} {f : α → β} {l : List α} (h : l.Nodup) (hf : ∀ n ∈ l, ∀ m ∈ l, f n = f m → n = m) : (l.map f).Nodup := by
  induction l with
  | nil => simp
  | cons x l ih =>
    rw [List.nodup_cons] at h
    rw [List.map_cons, List.nodup_cons]
    refine ⟨fun hm => ?_, ih h.2 (fun n hn m hm => hf n (by simp [hn]) m (by simp [hm]))⟩
    obtain ⟨y, hy, e⟩ := List.mem_map.1 hm
    exact h.1 (hf y (by simp [hy]) x (by simp) e ▸ hy)

/-- what is asked of a call: boxes σ and rows τ are handed on, rows υ come back -/
structure CallOK (st : St) (ops : Array Oper) (o : Oper) (c : Call) (y : Operand) (f : FuncId) (σ τ υ : List Nat) (bx : List (List AV)) (vx : List VS) (cargs : List AV) (bx' : List (List AV)) (vx' : List VS) (d : Nat) : Prop where
  gd : gdA ops st o = some true
  dn : d < st.nt
  ndσ : σ.Nodup
  ndτ : τ.Nodup
  ndυ : υ.Nodup
  fn : ∃ caps, opd st y = .fn f caps ∧ (c.args.toList.map (opd st) ++ caps).map (AV.view [] τ σ) = cargs
  bxs : boxesIn st τ σ σ bx
  vxs : vecsAre st τ vx
  len : bx.length = bx'.length
  lenυ : υ.length = vx'.length
  fresh : ∀ n ∈ υ, n ∈ τ ∨ get st.vec n = none

theorem eval_fn (R : Rel K st a w p) {y : Operand} {f : FuncId} {caps : List AV} (h : opd st y = .fn f caps) : ∃ cs : Array Value, a.eval y = .func (.func f) #[] cs ∧ cs.size = caps.length ∧ ∀ (i : Nat) (x : AV) (v : Value), caps[i]? = some x → cs[i]? = some v → RA w (okc K w p) p x v := by
  have hy := R.opd y
  rw [h] at hy
  generalize a.eval y = v at hy ⊢
  cases hy with
  | fn hl hh => exact ⟨_, rfl, hl, hh⟩
theorem args_ra (R : Rel K st a w p) {args : Array Operand} {caps : List AV} {cs : Array Value} (hl : cs.size = caps.length) (h : ∀ (i : Nat) (x : AV) (v : Value), caps[i]? = some x → cs[i]? = some v → RA w (okc K w p) p x v) :
    (args.map a.eval ++ cs).size = (args.toList.map (opd st) ++ caps).length ∧ ∀ (i : Nat) (x : AV) (v : Value), (args.toList.map (opd st) ++ caps)[i]? = some x → (args.map a.eval ++ cs)[i]? = some v → RA w (okc K w p) p x v := by
  refine ⟨by simp [hl], fun i x v hx hv => ?_⟩
  rw [List.getElem?_append] at hx
  rw [Array.getElem?_append] at hv
  simp only [List.length_map, Array.length_toList, Array.size_map] at hx hv
  split at hx
  · rw [if_pos ‹_›] at hv
    simp only [List.getElem?_map, Option.map_eq_some_iff, Array.getElem?_toList] at hx
    obtain ⟨q, hq, rfl⟩ := hx
    rw [Array.getElem?_map, hq] at hv
    cases hv
    exact R.opd q
  · rw [if_neg ‹_›] at hv
    exact h _ x v hx hv

/-- a contract that tells more of where the rows lie that are handed back -/
def FnOKg (G : List Value → List Value → Prop) (P : Program) (f : FuncId) (bx : List (List AV)) (vx : List VS) (args : List AV) (res : AV) (bx' : List (List AV)) (vx' : List VS) : Prop :=
  ∀ (w : World) (ok : Nat → Prop) (io : List Nat) (iv : List Value) (vs : Array Value), FnPre w ok io iv bx vx → vs.size = args.length → (∀ (i : Nat) (x : AV) (v : Value), args[i]? = some x → vs[i]? = some v → RA w ok (ioPl io iv) x v) →
    Calls P f vs w fun e w' => ∃ v iv', e = .returned v ∧ RA w' (okn ok iv iv' w w') (ioPl io iv') res v ∧ FnPre w' (okn ok iv iv' w w') io iv' bx' vx' ∧ (∀ u ∈ iv', ∀ g, u.blk = some g → w.heap.size ≤ g ∨ ∃ v ∈ iv, v.blk = some g) ∧ Frm io iv w w' ∧ G iv iv'
theorem FnOKv.g {f : FuncId} {bx : List (List AV)} {vx : List VS} {cargs : List AV} {res : AV} {bx' : List (List AV)} {vx' : List VS} (C : FnOKv P f bx vx cargs res bx' vx') : FnOKg (fun _ _ => True) P f bx vx cargs res bx' vx' :=
  fun w ok io iv vs h1 h2 h3 => (C w ok io iv vs h1 h2 h3).mono fun e w' ⟨v, iv', a, b, c, d, e⟩ => ⟨v, iv', a, b, c, d, e, trivial⟩
theorem FnOKg.v {G : List Value → List Value → Prop} {f : FuncId} {bx : List (List AV)} {vx : List VS} {cargs : List AV} {res : AV} {bx' : List (List AV)} {vx' : List VS} (C : FnOKg G P f bx vx cargs res bx' vx') : FnOKv P f bx vx cargs res bx' vx' :=
  fun w ok io iv vs h1 h2 h3 => (C w ok io iv vs h1 h2 h3).mono fun e w' ⟨v, iv', a, b, c, d, e, _⟩ => ⟨v, iv', a, b, c, d, e⟩
theorem call_coreG {G : List Value → List Value → Prop} {f : FuncId} {bx : List (List AV)} {vx : List VS} {cargs : List AV} {res : AV} {bx' : List (List AV)} {vx' : List VS} (C : FnOKg G P f bx vx cargs res bx' vx') (R : Rel K st a w p) {o : Oper} {c : Call} {y : Operand} {σ τ υ : List Nat} {d : Nat}
    (H : CallOK st ops o c y f σ τ υ bx vx cargs bx' vx' d) {cs : Array Value} (hcs : ∃ caps : List AV, cs.size = caps.length ∧ (∀ (i : Nat) (x : AV) (v : Value), caps[i]? = some x → cs[i]? = some v → RA w (okc K w p) p x v) ∧ (c.args.toList.map (opd st) ++ caps).map (AV.view [] τ σ) = cargs) :
    Calls P f (c.args.map a.eval ++ cs) w fun e w' => ∃ v p', e = .returned v ∧ Rel K (calledSt st σ τ υ bx' vx') a w' p' ∧ RA w' (okc K w' p') p' (res.back υ σ) v ∧ ∃ iv', G (τ.map p.rw) iv' ∧ ∀ (i n : Nat), υ[i]? = some n → p'.lv n ∧ iv'[i]? = some (p'.rw n) := by
  obtain ⟨caps, hl, hh, hargs⟩ := hcs
  obtain ⟨hsz, hra⟩ := args_ra (args := c.args) R hl hh
  obtain ⟨hlen, hget⟩ := boxesIn_get H.bxs
  obtain ⟨hvl, hvg⟩ := vecsAre_get H.vxs
  have hlive : ∀ n ∈ σ, p.lb n := fun n hn => by
    obtain ⟨i, hi, rfl⟩ := List.getElem_of_mem hn
    obtain ⟨cs0, h1, _⟩ := hget i σ[i] _ (List.getElem?_eq_getElem hi) (List.getElem?_eq_getElem (by omega))
    exact (R.lbi _).2 (by simp [St.lb, h1])
  have hτ : ∀ n ∈ τ, p.lv n := fun n hn => by
    obtain ⟨i, hi, rfl⟩ := List.getElem_of_mem hn
    exact (R.lvi _).2 (by simp [St.lv, hvg (List.getElem?_eq_getElem hi) (List.getElem?_eq_getElem (by omega))])
  have hview : ∀ {x : AV} {v : Value}, RA w (okc K w p) p x v → RA w (okc K w p) (ioPl (σ.map p.bx) (τ.map p.rw)) (x.view [] τ σ) v := fun h => h.view (fun _ h => h) (fun n s hs => by simp [get] at hs)
  have hpre : FnPre w (okc K w p) (σ.map p.bx) (τ.map p.rw) bx vx := {
    len := by simpa using hlen
    nodup := map_on_live H.ndσ (fun n hn m hm e => Classical.byContradiction fun hne => R.dbb n m (hlive n hn) (hlive m hm) hne e)
    okb := fun b hb => ⟨hb.1, fun hm => by obtain ⟨n, hn, rfl⟩ := List.mem_map.1 hm; exact hb.2.2.1 n (hlive n hn) rfl, fun v hv e => by obtain ⟨n, hn, rfl⟩ := List.mem_map.1 hv; exact hb.2.2.2 n (hτ n hn) e⟩
    at_ := fun i b cs hb hcs => by
      rw [List.getElem?_map] at hb
      simp only [Option.map_eq_some_iff] at hb
      obtain ⟨n, hn, rfl⟩ := hb
      obtain ⟨cs0, h1, h2⟩ := hget i n cs hn hcs
      obtain ⟨⟨vs, ty, g1, g2, g3, g4⟩, _⟩ := R.box n cs0 h1
      refine ⟨⟨vs, ty, g1, by rw [g2, ← h2, viewL_eq]; simp, fun j x v hx hv => ?_, g4⟩⟩
      rw [← h2, viewL_eq] at hx
      simp only [List.getElem?_map, Option.map_eq_some_iff] at hx
      obtain ⟨q, hq, rfl⟩ := hx
      exact hview (g3 j q v hq hv)
    lenv := by simpa using hvl
    vat := fun i v s hv hs => by
      rw [List.getElem?_map] at hv
      simp only [Option.map_eq_some_iff] at hv
      obtain ⟨n, hn, rfl⟩ := hv
      obtain ⟨a1, a3, _⟩ := R.vec n s (hvg hn hs)
      exact ⟨a1, a3⟩
    vdis := fun i j v u hv hu hij => by
      rw [List.getElem?_map] at hv hu
      simp only [Option.map_eq_some_iff] at hv hu
      obtain ⟨n, hn, rfl⟩ := hv
      obtain ⟨m, hm, rfl⟩ := hu
      refine R.dvv n m (hτ n (List.mem_of_getElem? hn)) (hτ m (List.mem_of_getElem? hm)) (fun e => hij ?_)
      subst e
      exact (List.getElem?_inj (List.getElem?_eq_some_iff.1 hn).1 H.ndτ).1 (hn.trans hm.symm)
    vio := fun v hv b hb => by
      obtain ⟨n, hn, rfl⟩ := List.mem_map.1 hv
      obtain ⟨m, hm, rfl⟩ := List.mem_map.1 hb
      exact R.dbv m n (hlive m hm) (hτ n hn) }
  refine (C w (okc K w p) (σ.map p.bx) (τ.map p.rw) (c.args.map a.eval ++ cs) hpre (by rw [← hargs, hsz, List.length_map]) (fun i x v hx hv => ?_)).mono fun e w' he => ?_
  · rw [← hargs, List.getElem?_map] at hx
    simp only [Option.map_eq_some_iff] at hx
    obtain ⟨q, hq, rfl⟩ := hx
    exact hview (hra i q v hq hv)
  · obtain ⟨v, iv', rfl, hres, hpre', hown, hfrm, hG⟩ := he
    obtain ⟨p', R', hok, hbk, hvk⟩ := R.calledV H.ndσ hlive (hlen.trans H.len) hτ H.ndυ H.lenυ (fun n hn => (H.fresh n hn).imp id (fun h h' => by
      have := (R.lvi n).1 h'
      simp [St.lv, h] at this)) hfrm hpre' hown
    exact ⟨v, p', rfl, R', hres.back hok hbk hvk, iv', hG, hvk⟩
theorem call_core {f : FuncId} {bx : List (List AV)} {vx : List VS} {cargs : List AV} {res : AV} {bx' : List (List AV)} {vx' : List VS} (C : FnOKv P f bx vx cargs res bx' vx') (R : Rel K st a w p) {o : Oper} {c : Call} {y : Operand} {σ τ υ : List Nat} {d : Nat}
    (H : CallOK st ops o c y f σ τ υ bx vx cargs bx' vx' d) {cs : Array Value} (hcs : ∃ caps : List AV, cs.size = caps.length ∧ (∀ (i : Nat) (x : AV) (v : Value), caps[i]? = some x → cs[i]? = some v → RA w (okc K w p) p x v) ∧ (c.args.toList.map (opd st) ++ caps).map (AV.view [] τ σ) = cargs) :
    Calls P f (c.args.map a.eval ++ cs) w fun e w' => ∃ v p', e = .returned v ∧ Rel K (calledSt st σ τ υ bx' vx') a w' p' ∧ RA w' (okc K w' p') p' (res.back υ σ) v :=
  (call_coreG C.g R H hcs).mono fun e w' ⟨v, p', a, b, c, _⟩ => ⟨v, p', a, b, c⟩

/-- A CALL: the boxes σ and the rows τ are handed on, the rows υ come back -/
theorem tops_callV {f : FuncId} {bx : List (List AV)} {vx : List VS} {cargs : List AV} {res : AV} {bx' : List (List AV)} {vx' : List VS} {o : Oper} {c : Call} {y : Operand} {l : List Oper} {d : Nat} (σ τ υ : List Nat) (C : FnOKv P f bx vx cargs res bx' vx') (ho : o.op = .call c) (hc : c.callee = .value y) (hd : o.dst = some d)
    (hcall : ∀ (args : Array Value) (w : World), (callFunc f args).run P w = .ok (.enter f args) w) (H : CallOK st ops o c y f σ τ υ bx vx cargs bx' vx' d)
    (h : TOps P K ops l ((calledSt st σ τ υ bx' vx').put d (res.back υ σ)) Q) : TOps P K ops (o :: l) st Q := by
  intro a w p R
  unfold wpList
  rw [gd_sound R H.gd, if_pos rfl]
  refine .inl ?_
  unfold Oper.wp
  obtain ⟨caps, hf, hargs⟩ := H.fn
  obtain ⟨cs, hy, hl, hh⟩ := eval_fn R hf
  rw [enter_run ho hc hy hcall]
  show Calls P f (c.args.map a.eval ++ cs) w _
  refine (call_core C R H ⟨caps, hl, hh, hargs⟩).mono fun e w' ⟨v, p', he, R', hv⟩ => ?_
  subst he
  show wpList P ops (Pst K Q) l (a.put o.dst v) w'
  rw [hd]
  exact h _ _ _ (R'.put hv H.dn)
/-- the same, no owned rows -/
theorem tops_call {f : FuncId} {bx : List (List AV)} {cargs : List AV} {res : AV} {bx' : List (List AV)} {o : Oper} {c : Call} {l : List Oper} {d : Nat} (σ : List Nat) (C : FnOK P f bx cargs res bx') (hg : gdA ops st o = some true) (ho : o.op = .call c) (hc : c.callee = .value (.func f)) (hd : o.dst = some d)
    (hcall : ∀ (args : Array Value) (w : World), (callFunc f args).run P w = .ok (.enter f args) w) (hdn : d < st.nt) (hσ : σ.Nodup) (hargs : (c.args.toList.map (opd st)).map (AV.view [] [] σ) = cargs) (hbx : boxesIn st [] σ σ bx) (hl : bx.length = bx'.length)
    (h : TOps P K ops l ({ st with box := boxesOut [] σ σ bx' st.box }.put d (res.back [] σ)) Q) : TOps P K ops (o :: l) st Q :=
  tops_callV σ [] [] C ho hc hd hcall ⟨hg, hdn, hσ, List.nodup_nil, List.nodup_nil, ⟨[], rfl, by rw [List.append_nil]; exact hargs⟩, hbx, trivial, hl, rfl, fun n hn => by simp at hn⟩ h

/-- A CALL that sees owned rows; of its result only what bears no address is kept. -/
theorem tops_callv {f : FuncId} {cargs : List AV} {res : AV} {o : Oper} {c : Call} {y : Operand} {l : List Oper} {d : Nat} (C : FnOK P f [] cargs res []) (hg : gdA ops st o = some true) (ho : o.op = .call c) (hc : c.callee = .value y) (hd : o.dst = some d)
    (hcall : ∀ (args : Array Value) (w : World), (callFunc f args).run P w = .ok (.enter f args) w) (hdn : d < st.nt) (hargs : ∃ caps, opd st y = .fn f caps ∧ (c.args.toList.map (opd st) ++ caps).map (AV.view st.vec [] []) = cargs)
    (h : TOps P K ops l (st.put d res.dry) Q) : TOps P K ops (o :: l) st Q := by
  intro a w p R
  unfold wpList
  rw [gd_sound R hg, if_pos rfl]
  refine .inl ?_
  unfold Oper.wp
  obtain ⟨caps, hf, hargs⟩ := hargs
  obtain ⟨cs, hy, hl, hh⟩ := eval_fn R hf
  rw [enter_run ho hc hy hcall]
  show Calls P f (c.args.map a.eval ++ cs) w _
  obtain ⟨hsz, hra⟩ := args_ra (args := c.args) R hl hh
  let ok' : Nat → Prop := fun b => okc K w p b ∨ ∃ n, p.lv n ∧ (p.rw n).blk = some b
  have hview : ∀ {x : AV} {v : Value}, RA w (okc K w p) p x v → RA w ok' (ioPl [] []) (x.view st.vec [] []) v := fun h => h.view (τ := []) (σ := []) (fun _ h => .inl h) (fun n s hs hn hM => by
    obtain ⟨hat, hz, _⟩ := R.vec n s hs
    obtain ⟨xs, hown, hrd⟩ := hat.row hM
    exact own_rd hown hz hrd (fun _ h => .inl h) (fun g hg => .inr ⟨n, hn, hg⟩))
  have hpre : FnPre w ok' [] [] [] [] := {
    len := rfl
    nodup := List.nodup_nil
    okb := fun b hb => ⟨by rcases hb with hb | ⟨n, hn, hb⟩; exact hb.1; exact (R.vlt hn hb).2, by simp, by simp⟩
    at_ := fun i b cs hb => by simp at hb
    lenv := rfl
    vat := fun i b cs hb => by simp at hb
    vdis := fun i j v u hb => by simp at hb
    vio := fun v hv => by simp at hv }
  refine (C w ok' [] [] (c.args.map a.eval ++ cs) hpre (by rw [← hargs, hsz, List.length_map]) (fun i x v hx hv => ?_)).mono fun e w' he => ?_
  · rw [← hargs, List.getElem?_map] at hx
    simp only [Option.map_eq_some_iff] at hx
    obtain ⟨q, hq, rfl⟩ := hx
    exact hview (hra i q v hq hv)
  · obtain ⟨v, iv', rfl, hres', hpre', hown, hfrm⟩ := he
    have hiv : iv' = [] := List.eq_nil_of_length_eq_zero hpre'.lenv
    subst hiv
    obtain ⟨p', R', _⟩ := R.calledV (σ := []) (τ := []) (υ := []) (bx' := []) (vx' := []) (iv' := []) List.nodup_nil (fun n hn => by simp at hn) rfl (fun n hn => by simp at hn) List.nodup_nil rfl (fun n hn => by simp at hn) hfrm
      ⟨rfl, List.nodup_nil, fun b hb => ⟨hb.2.1, by simp, by simp⟩, fun i b cs hb => by simp at hb, rfl, fun i v s hv => by simp at hv, fun i j v u hv => by simp at hv, fun v hv => by simp at hv⟩ (fun u hu => by simp at hu)
    show wpList P ops (Pst K Q) l (a.put o.dst v) w'
    rw [hd]
    exact h _ _ _ (Rel.put (st := st) R' hres'.dry hdn)
end
end Go.Vl
