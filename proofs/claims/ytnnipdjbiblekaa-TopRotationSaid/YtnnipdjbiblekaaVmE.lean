/- The value logic, part 5: the step of an operation that writes nothing, whole. Conditions: none. -/
import Derived.Test.YtnnipdjbiblekaaVmD
set_option linter.unusedSimpArgs false
set_option linter.unusedVariables false
namespace Go.Vl
open Go

def rowsOf (st : St) : AV → Option (List (List D))
  | .d (.slice rows) => some rows
  | .full rows => some rows
  | .nilS => some []
  | .vec n => (get st.vec n).bind fun s => if s.isM = true then none else some s.rows
  | .cut n z lo k => (get st.vec n).bind fun s => if s.isM = true then none else if lo + k ≤ s.rows.length ∧ z = s.z then some ((s.rows.drop lo).take k) else none
  | _ => none

theorem rowsOf_len {K : Ctx} {st : St} {a : Act} {w : World} {p : Pl} (R : Rel K st a w p) {x : AV} {rows : List (List D)} (h : rowsOf st x = some rows) {v : Value} (hv : RA w (okc K w p) p x v) :
    ∃ b c, v = .slice b rows.length c := by
  cases hv with
  | d hd =>
    cases hd with
    | snil => simp [rowsOf] at h; subst h; exact ⟨_, _, rfl⟩
    | slice => simp [rowsOf] at h; subst h; exact ⟨_, _, rfl⟩
    | _ => simp [rowsOf] at h
  | nilS => simp [rowsOf] at h; subst h; exact ⟨_, _, rfl⟩
  | full hd => simp [rowsOf] at h; subst h; exact ⟨_, _, rfl⟩
  | vec hn =>
    rename_i n
    simp only [rowsOf] at h
    cases hs : get st.vec n with
    | none => simp [hs] at h
    | some s =>
      simp only [hs, Option.bind_some] at h
      split at h
      · cases h
      rename_i hM
      cases h
      obtain ⟨xs, hown, _⟩ := (R.vec n s hs).at_.row (by simpa using hM)
      rcases hown.2 with ⟨h0, h1⟩ | ⟨g, cap, cur, h0, _⟩
      · exact ⟨none, 0, by rw [h0, h1]⟩
      · exact ⟨_, _, h0⟩
  | cut hn hv ho hle =>
    rename_i n z lo k o g c len
    simp only [rowsOf] at h
    cases hs : get st.vec n with
    | none => simp [hs] at h
    | some s =>
      simp only [hs, Option.bind_some] at h
      split at h
      · cases h
      split at h
      case isFalse => cases h
      rename_i hh
      cases h
      have e : ((s.rows.drop lo).take k).length = k := by rw [List.length_take, List.length_drop, Nat.min_eq_left (by omega)]
      rw [e]
      exact ⟨_, _, rfl⟩
  | cut0 hn hv =>
    rename_i n z
    simp only [rowsOf] at h
    cases hs : get st.vec n with
    | none => simp [hs] at h
    | some s =>
      simp only [hs, Option.bind_some] at h
      split at h
      · cases h
      split at h
      case isFalse => cases h
      cases h
      exact ⟨none, 0, by simp⟩
  | _ => simp [rowsOf] at h

def lenA (P : Program) (st : St) (t : TypeId) (x : AV) : Option Int :=
  match P.underlying t with
  | some (.slice _) => match x with | .cut _ _ _ k => some (k : Int) | .slen k => some (k : Int) | x => (rowsOf st x).map fun r => (r.length : Int)
  | some .string => match x with | .d (.str s) => some (s.size : Int) | _ => none
  | some (.array n _) => some (n : Int)
  | some (.pointer e) => match P.underlying e with | some (.array n _) => some (n : Int) | _ => none
  | _ => none

theorem lenA_sound {K : Ctx} {st : St} {a : Act} {w : World} {p : Pl} (R : Rel K st a w p) {P : Program} {t ty : TypeId} {x : AV} {n : Int} (h : lenA P st t x = some n) {v : Value} (hv : RA w (okc K w p) p x v) :
    ∀ w' : World, (Builtin.len_ #[t] ty #[v]).run P w' = .ok (.int .i64 n) w' := by
  intro w'
  unfold lenA at h
  split at h
  · rename_i e hu
    split at h
    · cases h
      cases hv with
      | cut hn hv ho hle => simp [Builtin.len_, run_underlying hu, goInt]
      | cut0 hn hv => simp [Builtin.len_, run_underlying hu, goInt]
    · cases h
      cases hv with
      | slen => simp [Builtin.len_, run_underlying hu, goInt]
    cases hr : rowsOf st x with
    | none => simp [hr] at h
    | some rows =>
      simp [hr] at h; subst h
      obtain ⟨b, c, rfl⟩ := rowsOf_len R hr hv
      simp [Builtin.len_, run_underlying hu, goInt]
  · rename_i hu
    split at h
    · cases hv with | d hd => cases hd with | str => cases h; simp [Builtin.len_, run_underlying hu, goInt]
    · cases h
  · rename_i m e hu
    cases h; simp [Builtin.len_, run_underlying hu, goInt]
  · rename_i e hu
    split at h
    · rename_i m e' hu'
      cases h; simp [Builtin.len_, run_underlying hu, run_underlying hu', goInt]
    · cases h
  · cases h

/-! Cutting a slice or a string -/
def bndA : Option AV → Option (Option Int)
  | none => some none
  | some (.d (.int _ n)) => some (some n)
  | _ => none
/-- a part of an owned row -/
def cutV (P : Program) (st : St) (e : TypeId) (n lo0 k0 : Nat) (lo hi mx : Option Int) : Option AV :=
  (get st.vec n).bind fun s => if s.isM = true then none else if szOf P e = some s.z ∧ mx = none then
    let l := lo.getD 0
    let h := hi.getD k0
    if 0 ≤ l ∧ l ≤ h ∧ h ≤ k0 ∧ lo0 + k0 ≤ s.rows.length then some (.cut n s.z (lo0 + l.toNat) (h.toNat - l.toNat)) else none else none
def cutA (P : Program) (st : St) (t : TypeId) (x : AV) (lo hi mx : Option Int) : Option AV :=
  match P.underlying t with
  | some (.slice e) => match x with
    | .vec n => (get st.vec n).bind fun s => cutV P st e n 0 s.rows.length lo hi mx
    | .cut n z lo0 k0 => (get st.vec n).bind fun s => if z = s.z then cutV P st e n lo0 k0 lo hi mx else none
    | x => (rowsOf st x).bind fun rows => (szOf P e).bind fun z => if ∀ r ∈ rows, r.length = z then
      let l := lo.getD 0
      let h := hi.getD rows.length
      if 0 ≤ l ∧ l ≤ h ∧ h ≤ rows.length then match mx with
        | none => some (.d (.slice ((rows.take h.toNat).drop l.toNat)))
        | some m => if hi.isSome ∧ m = h then some (.full ((rows.take h.toNat).drop l.toNat)) else none
      else none else none
  | some .string => match x, mx with
    | .d (.str s), none =>
      let l := lo.getD 0
      let h := hi.getD s.size
      if 0 ≤ l ∧ l ≤ h ∧ h ≤ s.size then some (.d (.str (s.extract l.toNat h.toNat))) else none
    | _, _ => none
  | _ => none

theorem bounds_run {P : Program} {w : World} {isS : Bool} {len cap : Nat} {lo hi : Option Int} {vl vh : Option Value} (hl : (vl = none ∧ lo = none) ∨ ∃ k n, vl = some (.int k n) ∧ lo = some n) (hh : (vh = none ∧ hi = none) ∨ ∃ k n, vh = some (.int k n) ∧ hi = some n)
    (h0 : 0 ≤ lo.getD 0) (h1 : lo.getD 0 ≤ hi.getD len) (h2 : hi.getD len ≤ len) (h3 : len ≤ cap) :
    (Instr.sliceBounds isS len cap vl vh none).run P w = .ok ((lo.getD 0).toNat, (hi.getD len).toNat, cap) w := by
  have e : ((len : Int)).toNat = len := Int.toNat_natCast len
  rcases hl with ⟨rfl, rfl⟩ | ⟨k, n, rfl, rfl⟩ <;> rcases hh with ⟨rfl, rfl⟩ | ⟨k', n', rfl, rfl⟩
  · simp [Instr.sliceBounds]
  · simp only [Option.getD_some, Option.getD_none] at *
    simp only [Instr.sliceBounds, Sem.run_bind, Sem.run_pure, Result.andThen_ok]
    rw [run_sliceBound (h0 := by omega) (h1 := by omega)]
    simp
  · simp only [Option.getD_some, Option.getD_none] at *
    simp only [Instr.sliceBounds, Sem.run_bind, Sem.run_pure, Result.andThen_ok]
    rw [run_sliceBound (h0 := by omega) (h1 := by omega)]
    simp
  · simp only [Option.getD_some] at *
    simp only [Instr.sliceBounds, Sem.run_bind, Sem.run_pure, Result.andThen_ok]
    rw [run_sliceBound (h0 := by omega) (h1 := by omega)]
    simp only [Result.andThen_ok]
    rw [run_sliceBound (h0 := by omega) (h1 := by omega)]
    simp

theorem bounds_run3 {P : Program} {w : World} {len cap : Nat} {lo : Option Int} {vl : Option Value} {k k' : IntKind} {h m : Int} (hl : (vl = none ∧ lo = none) ∨ ∃ k n, vl = some (.int k n) ∧ lo = some n)
    (h0 : 0 ≤ lo.getD 0) (h1 : lo.getD 0 ≤ h) (h2 : h ≤ m) (h3 : m ≤ cap) :
    (Instr.sliceBounds true len cap vl (some (.int k h)) (some (.int k' m))).run P w = .ok ((lo.getD 0).toNat, h.toNat, m.toNat) w := by
  rcases hl with ⟨rfl, rfl⟩ | ⟨k, n, rfl, rfl⟩
  · simp only [Option.getD_none] at *
    simp only [Instr.sliceBounds, Sem.run_bind, Sem.run_pure, Result.andThen_ok]
    rw [run_sliceBound (h0 := by omega) (h1 := by omega)]
    simp only [Result.andThen_ok]
    rw [run_sliceBound (h0 := by omega) (h1 := by omega)]
    simp
  · simp only [Option.getD_some] at *
    simp only [Instr.sliceBounds, Sem.run_bind, Sem.run_pure, Result.andThen_ok]
    rw [run_sliceBound (h0 := by omega) (h1 := by omega)]
    simp only [Result.andThen_ok]
    rw [run_sliceBound (h0 := by omega) (h1 := by omega)]
    simp only [Result.andThen_ok]
    rw [run_sliceBound (h0 := by omega) (h1 := by omega)]
    simp

theorem RD.cut {w : World} {ok : Nat → Prop} {rows : List (List D)} {a : Option Addr} {c z l h m : Nat} (hd : RD w ok (.slice rows) (.slice a rows.length c)) (hz : ∀ r ∈ rows, r.length = z)
    (h1 : l ≤ h) (h2 : h ≤ rows.length) (h3 : h ≤ m) (h4 : m ≤ c) : RD w ok (.slice ((rows.take h).drop l)) (.slice (if m = l then a else a.map (·.add (l * z))) (h - l) (m - l)) := by
  by_cases hlh : l = h
  · subst hlh
    have : (rows.take l).drop l = [] := List.drop_eq_nil_of_le (by simp; omega)
    rw [this, Nat.sub_self]
    exact .snil
  · rw [if_neg (by omega)]
    cases hd with
    | snil => simp at h2; omega
    | slice z' vs hz' hok hc hcell hdd =>
      rename_i b
      have hne : rows ≠ [] := fun e => by subst e; simp at h2; omega
      obtain ⟨r, hr⟩ := List.exists_mem_of_ne_nil _ hne
      have hzz : z' = z := (hz' r hr).symm.trans (hz r hr)
      subst hzz
      have hlen : ((rows.take h).drop l).length = h - l := by simp; omega
      have hfl : ((rows.take h).drop l).flatten = (rows.flatten.take (h * z')).drop (l * z') := by
        rw [flat_drop (z := z') (fun r hr => hz r (List.mem_of_mem_take hr)), flat_take hz]
      have := RD.slice (w := w) (ok := ok) (rows := (rows.take h).drop l) (a := b.add (l * z')) (c := m - l) z' (fun j => vs (l * z' + j)) (fun r hr => hz r (List.mem_of_mem_take (List.mem_of_mem_drop hr)))
        (by rw [block_add]; exact hok) (by rw [hlen]; omega) (fun j hj => by
          rw [add_add]
          refine hcell _ ?_
          rw [hfl] at hj
          simp only [List.length_drop, List.length_take] at hj
          omega) (fun j d hj => by
          rw [hfl, List.getElem?_drop, List.getElem?_take] at hj
          split at hj
          · exact hdd _ _ hj
          · cases hj)
      rw [hlen] at this
      exact this

theorem RA.cutOf {w : World} {ok : Nat → Prop} {p : Pl} {n z lo0 k0 o g c len l h : Nat} (hn : p.lv n) (hv : p.rw n = .slice (some ⟨g, 0, none⟩) len c) (ho : (k0 = 0 ∨ o = lo0 * z) ∧ (lo0 = 0 → o = 0)) (hle : lo0 + k0 ≤ len) (hlc : len ≤ c) (h1 : l ≤ h) (h2 : h ≤ k0) :
    RA w ok p (.cut n z (lo0 + l) (h - l)) (.slice (if c - lo0 = l then some ⟨g, o, none⟩ else some ((⟨g, o, none⟩ : Addr).add (l * z))) (h - l) (c - lo0 - l)) := by
  rw [add_blk, Nat.sub_sub]
  split
  · rename_i e
    refine .cut hn hv ⟨.inl (by omega), fun e0 => ho.2 (by omega)⟩ (by omega)
  · rename_i e
    refine .cut hn hv ⟨?_, fun e0 => ?_⟩ (by omega)
    · rcases ho.1 with h0 | h0
      · left; omega
      · right; rw [h0, Nat.add_mul]
    · have : l = 0 := by omega
      rw [ho.2 (by omega), this]; simp
theorem cutV_sound {K : Ctx} {st : St} {a : Act} {w : World} {p : Pl} (R : Rel K st a w p) {P : Program} {t e : TypeId} (hu : P.underlying t = some (.slice e)) {n lo0 k0 : Nat} {y : AV} {lo hi mx : Option Int} {vl vh vm : Option Value}
    (hl : (vl = none ∧ lo = none) ∨ ∃ k n, vl = some (.int k n) ∧ lo = some n) (hh : (vh = none ∧ hi = none) ∨ ∃ k n, vh = some (.int k n) ∧ hi = some n) (hm : (vm = none ∧ mx = none) ∨ ∃ k n, vm = some (.int k n) ∧ mx = some n)
    (h : cutV P st e n lo0 k0 lo hi mx = some y) {s : VS} (hs : get st.vec n = some s) {v : Value}
    (hv : (∃ g len c o, p.rw n = .slice (some ⟨g, 0, none⟩) len c ∧ v = .slice (some ⟨g, o, none⟩) k0 (c - lo0) ∧ ((k0 = 0 ∨ o = lo0 * s.z) ∧ (lo0 = 0 → o = 0)) ∧ lo0 + k0 ≤ len) ∨ (p.rw n = .slice none 0 0 ∧ v = .slice none 0 0 ∧ lo0 = 0 ∧ k0 = 0)) (hn : p.lv n) :
    ∃ r, (∀ w' : World, (Instr.sliceAt t v vl vh vm).run P w' = .ok r w') ∧ RA w (okc K w p) p y r := by
  unfold cutV at h
  simp only [hs, Option.bind_some] at h
  split at h
  · cases h
  rename_i hM
  split at h
  case isFalse => cases h
  rename_i hz
  obtain ⟨hz, rfl⟩ := hz
  split at h
  case isFalse => cases h
  rename_i hb
  obtain ⟨hb0, hb1, hb2, hb3⟩ := hb
  cases h
  rcases hm with ⟨rfl, _⟩ | ⟨_, _, _, hm⟩
  case inr => cases hm
  rcases hv with ⟨g, len, c, o, hrw, rfl, ho, hle⟩ | ⟨hrw, rfl, rfl, rfl⟩
  · have hlc : len ≤ c := by
      obtain ⟨xs, hown, _⟩ := (R.vec n s hs).at_.row (by simpa using hM)
      rw [hrw] at hown
      rcases hown.2 with ⟨h0, _⟩ | ⟨g', cap, cur, h0, _, _, h2, _⟩
      · cases h0
      · injection h0 with e1 e2 e3; omega
    refine ⟨_, ?_, RA.cutOf hn hrw ho hle hlc (l := (lo.getD 0).toNat) (h := (hi.getD k0).toNat) (by omega) (by omega)⟩
    intro w'
    simp only [Instr.sliceAt, Instr.slice, Sem.run_bind, run_underlying hu, Result.andThen_ok, bounds_run (P := P) (w := w') (isS := true) (len := k0) (cap := c - lo0) hl hh hb0 hb1 hb2 (by omega), run_szOf hz, Sem.run_pure]
    split <;> rfl
  · have e1 : (lo.getD 0).toNat = 0 := by omega
    have e2 : (hi.getD ((0 : Nat) : Int)).toNat = 0 := by omega
    rw [e1, e2]
    refine ⟨.slice none 0 0, ?_, .cut0 hn hrw⟩
    intro w'
    have hb := bounds_run (P := P) (w := w') (isS := true) (len := 0) (cap := 0) hl hh hb0 hb1 hb2 (Nat.le_refl _)
    rw [e1, e2] at hb
    simp only [Instr.sliceAt, Instr.slice, Sem.run_bind, run_underlying hu, Result.andThen_ok, hb, run_szOf hz, Sem.run_pure]
    rfl
theorem cutA_sound {K : Ctx} {st : St} {a : Act} {w : World} {p : Pl} (R : Rel K st a w p) {P : Program} {t : TypeId} {x y : AV} {lo hi mx : Option Int} {v : Value} {vl vh vm : Option Value}
    (hl : (vl = none ∧ lo = none) ∨ ∃ k n, vl = some (.int k n) ∧ lo = some n) (hh : (vh = none ∧ hi = none) ∨ ∃ k n, vh = some (.int k n) ∧ hi = some n) (hm : (vm = none ∧ mx = none) ∨ ∃ k n, vm = some (.int k n) ∧ mx = some n)
    (h : cutA P st t x lo hi mx = some y) (hv : RA w (okc K w p) p x v) :
    ∃ r, (∀ w' : World, (Instr.sliceAt t v vl vh vm).run P w' = .ok r w') ∧ RA w (okc K w p) p y r := by
  unfold cutA at h
  split at h
  · rename_i e hu
    split at h
    · rename_i n
      cases hs : get st.vec n with
      | none => simp [hs] at h
      | some s =>
        simp only [hs, Option.bind_some] at h
        have hM : s.isM = false := by
          unfold cutV at h
          simp only [hs, Option.bind_some] at h
          split at h
          · cases h
          · simpa using ‹¬ s.isM = true›
        cases hv with
        | vec hn =>
          obtain ⟨xs, hown, _⟩ := (R.vec n s hs).at_.row hM
          refine cutV_sound R hu hl hh hm h hs ?_ hn
          rcases hown.2 with ⟨h0, h1⟩ | ⟨g, cap, cur, h0, _⟩
          · exact .inr ⟨h0, h0, rfl, h1⟩
          · exact .inl ⟨g, _, cap, 0, h0, by simpa using h0, ⟨.inr (by simp), fun _ => rfl⟩, by omega⟩
    · rename_i n z lo0 k0
      cases hs : get st.vec n with
      | none => simp [hs] at h
      | some s =>
        simp only [hs, Option.bind_some] at h
        split at h
        case isFalse => cases h
        rename_i hz
        subst hz
        cases hv with
        | cut hn hv ho hle => exact cutV_sound R hu hl hh hm h hs (.inl ⟨_, _, _, _, hv, rfl, ho, hle⟩) hn
        | cut0 hn hv => exact cutV_sound R hu hl hh hm h hs (.inr ⟨hv, rfl, rfl, rfl⟩) hn
    rename_i hnv hnw
    cases hr' : rowsOf st x with
    | none => rw [hr'] at h; cases h
    | some rows =>
      rw [hr'] at h
      simp only [Option.bind_some] at h
      cases hz : szOf P e with
      | none => simp [hz] at h
      | some z =>
        simp only [hz, Option.bind_some] at h
        split at h
        case isFalse => cases h
        rename_i hzs
        split at h
        case isFalse => cases h
        rename_i hb
        obtain ⟨hb0, hb1, hb2⟩ := hb
        obtain ⟨b, c, rfl⟩ := rowsOf_len R hr' hv
        have hd : RD w (okc K w p) (.slice rows) (.slice b rows.length c) := by
          cases x with
          | d x => cases hv with | d hv => simp only [rowsOf] at hr'; cases x <;> simp at hr'; subst hr'; exact hv
          | nilS => simp [rowsOf] at hr'; subst hr'; exact .snil
          | full rows' => simp [rowsOf] at hr'; subst hr'; cases hv with | full hv => exact hv
          | vec n => exact absurd rfl (hnv n)
          | cut n z lo k => exact absurd rfl (hnw n z lo k)
          | _ => simp [rowsOf] at hr'
        have hc : rows.length ≤ c := by cases hd with | snil => simp | slice _ _ _ _ hc => exact hc
        split at h
        · cases h
          rcases hm with ⟨rfl, _⟩ | ⟨_, _, _, hm⟩
          case inr => cases hm
          refine ⟨.slice (if c = (lo.getD 0).toNat then b else b.map (·.add ((lo.getD 0).toNat * z))) ((hi.getD rows.length).toNat - (lo.getD 0).toNat) (c - (lo.getD 0).toNat), ?_, .d (hd.cut hzs (by omega) (by omega) (by omega) (Nat.le_refl _))⟩
          intro w'
          simp only [Instr.sliceAt, Instr.slice, Sem.run_bind, run_underlying hu, Result.andThen_ok, bounds_run (P := P) (w := w') (isS := true) hl hh hb0 hb1 hb2 hc, run_szOf hz, Sem.run_pure]
        · rename_i m
          split at h
          case isFalse => cases h
          rename_i hmm
          obtain ⟨his, rfl⟩ := hmm
          cases h
          rcases hm with ⟨_, hm⟩ | ⟨k, n, rfl, hm⟩
          case inl => cases hm
          injection hm with hm
          subst hm
          rcases hh with ⟨rfl, rfl⟩ | ⟨k', n', rfl, rfl⟩
          case inl => cases his
          simp only [Option.getD_some] at *
          have hcut := hd.cut (l := (lo.getD 0).toNat) (h := n'.toNat) (m := n'.toNat) hzs (by omega) (by omega) (Nat.le_refl _) (by omega)
          have hln : ((rows.take n'.toNat).drop (lo.getD 0).toNat).length = n'.toNat - (lo.getD 0).toNat := by simp; omega
          refine ⟨.slice (if n'.toNat = (lo.getD 0).toNat then b else b.map (·.add ((lo.getD 0).toNat * z))) (n'.toNat - (lo.getD 0).toNat) (n'.toNat - (lo.getD 0).toNat), ?_, ?_⟩
          · intro w'
            simp only [Instr.sliceAt, Instr.slice, Sem.run_bind, run_underlying hu, Result.andThen_ok, bounds_run3 (P := P) (w := w') (len := rows.length) (cap := c) hl hb0 hb1 (Int.le_refl _) (by omega), run_szOf hz, Sem.run_pure]
          · rw [← hln] at hcut ⊢
            exact .full hcut
  · rename_i hu
    split at h
    · rename_i s
      dsimp only at h
      split at h
      case isFalse => cases h
      rename_i hb
      obtain ⟨hb0, hb1, hb2⟩ := hb
      cases h
      rcases hm with ⟨rfl, _⟩ | ⟨_, _, _, hm⟩
      case inr => cases hm
      cases hv with | d hd => cases hd with | str =>
      refine ⟨.string (s.extract (lo.getD 0).toNat (hi.getD s.size).toNat), ?_, .d .str⟩
      intro w'
      simp [Instr.sliceAt, Instr.slice, run_underlying hu, bounds_run (P := P) (w := w') (isS := false) hl hh hb0 hb1 hb2 (Nat.le_refl _)]
    · cases h
  · cases h


/-! The step -/
def fieldVA (P : Program) (s : TypeId) (f : Nat) (y : AV) : Option AV :=
  match P.underlying s, y with
  | some (.struct fs), .agg l => (fs[f]?).bind fun fd => partA P fd.type l fd.offset
  | _, _ => none
def indexVA (P : Program) (t : TypeId) (y : AV) (i : Int) : Option AV :=
  match P.underlying t, y with
  | some (.array len e), .agg l => if 0 ≤ i ∧ i < len then (szOf P e).bind fun z => partA P e l (i.toNat * z) else none
  | some .string, .d (.str s) => if 0 ≤ i then s[i.toNat]?.map fun b => .d (.int .u8 b.toNat) else none
  | _, _ => none
def unA (op : UnOp) (x : AV) : Option AV :=
  match op, x with
  | .not, .d (.bool b) => some (.d (.bool !b))
  | .neg, .d (.int k n) => some (.d (.int k (k.wrap (0 - n))))
  | .xor, .d (.int k n) => (intBin .xor k (if k.signed then -1 else k.max) n).map .d
  | _, _ => none
def convA (P : Program) (src dst : TypeId) (x : AV) : Option AV :=
  match P.underlying src, P.underlying dst, x with
  | some _, some (.int k), .d (.int _ n) => some (.d (.int k (k.wrap n)))
  | some .string, some .string, .d (.str s) => some (.d (.str s))
  | _, _, _ => none
def pickA (c x y : AV) : Option AV :=
  match c with
  | .d (.bool b) => match x, y with
    | .d (.bool p), .d (.bool q) => some (.d (.bool (bif b then p else q)))
    | x, y => some (if b then x else y)
  | _ => none
def okPtr : AV → Bool
  | .ptr _ _ | .cptr _ _ | .vptr _ _ _ _ | .fn _ _ => true
  | _ => false
def minA : List AV → Option Int
  | [.d (.int .i64 a), .d (.int .i64 b)] => some (if b < a then b else a)
  | _ => none
def maxA : List AV → Option Int
  | [.d (.int .i64 a), .d (.int .i64 b)] => some (if b > a then b else a)
  | _ => none
def intOfA : AV → Option Int
  | .d (.int _ n) => some n
  | _ => none

def bstep (P : Program) (st : St) (c : Call) : Option AV :=
  match c.callee, c.args.toList, c.argTypes.toList with
  | .builtin .len, [x], [t] => (lenA P st t (opd st x)).map fun n => .d (.int .i64 n)
  | .builtin .min, l, _ => (minA (l.map (opd st))).map fun n => .d (.int .i64 n)
  | .builtin .max, l, _ => (maxA (l.map (opd st))).map fun n => .d (.int .i64 n)
  | _, _, _ => none

def vstep (P : Program) (st : St) (o : Oper) : Option AV :=
  match o.op with
  | .move x => some (opd st x)
  | .assign x => some (opd st x)
  | .pick c a b => pickA (opd st c) (opd st a) (opd st b)
  | .nilCheck x => if okPtr (opd st x) then some (opd st x) else none
  | .load t x => loadA P st t (opd st x)
  | .fieldAddr s x f => fieldA P s f (opd st x)
  | .field s x f => fieldVA P s f (opd st x)
  | .indexAddr t x i => (intOfA (opd st i)).bind fun i => indexPA P t (opd st x) i st
  | .index t x i => (intOfA (opd st i)).bind fun i => indexVA P t (opd st x) i
  | .extract x i => match opd st x with | .tup l => l[i]? | _ => none
  | .binOp op t x y _ => binA P op t (opd st x) (opd st y)
  | .unOp op _ x => unA op (opd st x)
  | .convert s d x => convA P s d (opd st x)
  | .build t parts => (buildA P t (parts.toList.map fun (i, x) => (i, opd st x))).map .agg
  | .slice t x lo hi mx => (bndA (lo.map (opd st))).bind fun lo => (bndA (hi.map (opd st))).bind fun hi => (bndA (mx.map (opd st))).bind fun mx => cutA P st t (opd st x) lo hi mx
  | .call c => bstep P st c
  | .makeFunc fn first caps => match fn, first.toList with
    | .func f, [] => some (.fn f (caps.toList.map (opd st)))
    | _, _ => none
  | _ => none

theorem Rel.rwone {K : Ctx} {st : St} {a : Act} {w : World} {p : Pl} (R : Rel K st a w p) : ∀ n, p.lv n → (p.rw n).oneCell' = true := by
  intro n hn
  rw [R.lv] at hn
  obtain ⟨s, hs⟩ := Option.isSome_iff_exists.1 hn
  exact (R.vec n s hs).at_.one

theorem intOfA_some {w : World} {ok : Nat → Prop} {p : Pl} {x : AV} {n : Int} (h : intOfA x = some n) {v : Value} (hv : RA w ok p x v) : ∃ k, v = .int k n := by
  unfold intOfA at h
  split at h
  · cases h; cases hv with | d hd => cases hd with | int => exact ⟨_, rfl⟩
  · cases h

theorem bndA_some {K : Ctx} {st : St} {a : Act} {w : World} {p : Pl} (R : Rel K st a w p) {o : Option Operand} {r : Option Int} (h : bndA (o.map (opd st)) = some r) :
    (o.map a.eval = none ∧ r = none) ∨ ∃ k n, o.map a.eval = some (.int k n) ∧ r = some n := by
  cases o with
  | none => simp [bndA] at h; subst h; exact .inl ⟨rfl, rfl⟩
  | some x =>
    simp only [Option.map_some] at h ⊢
    have := R.opd x
    unfold bndA at h
    split at h
    · rename_i hh; cases hh
    · rename_i k n hh
      cases h
      injection hh with hh
      rw [hh] at this
      generalize a.eval x = v at this ⊢
      cases this with | d hd => cases hd with | int => exact .inr ⟨_, _, rfl, rfl⟩
    · cases h

theorem vstep_sound {K : Ctx} {st : St} {a : Act} {w : World} {p : Pl} (R : Rel K st a w p) {P : Program} {o : Oper} {x : AV} (h : vstep P st o = some x) :
    ∃ v, (execOp a.eval o).run P w = .ok (.value v) w ∧ RA w (okc K w p) p x v := by
  have close : ∀ {s : Sem Value} {x : AV}, (∃ v, s.run P w = .ok v w ∧ RA w (okc K w p) p x v) → ∃ v, (do pure (Next.value (← s)) : Sem Next).run P w = .ok (.value v) w ∧ RA w (okc K w p) p x v := fun ⟨v, h1, h2⟩ => ⟨v, by simp [h1], h2⟩
  unfold vstep at h
  unfold execOp
  split at h <;> rename_i ho <;> simp only [ho]
  · cases h; exact ⟨_, rfl, R.opd _⟩
  · cases h; exact ⟨_, rfl, R.opd _⟩
  · rename_i c b1 b2
    have hc := R.opd c
    have h1 := R.opd b1
    have h2 := R.opd b2
    generalize opd st c = cc at *
    generalize opd st b1 = c1 at *
    generalize opd st b2 = c2 at *
    unfold pickA at h
    split at h
    · rename_i b
      generalize a.eval c = v at *
      cases hc with | d hd => cases hd with | bool =>
      refine ⟨if b then a.eval b1 else a.eval b2, by simp [asBool], ?_⟩
      split at h
      · cases h
        cases b
        · simpa using h2
        · simpa using h1
      · cases h
        cases b
        · simpa using h2
        · simpa using h1
    · cases h
  · rename_i y
    split at h
    case isFalse => cases h
    rename_i hp
    cases h
    have hy := R.opd y
    generalize opd st y = yy at *
    generalize a.eval y = v at *
    cases hy with
    | ptr hn => exact ⟨_, rfl, .ptr hn⟩
    | cptr vs h1 h2 h3 => exact ⟨_, rfl, .cptr vs h1 h2 h3⟩
    | vptr h1 h2 => exact ⟨_, rfl, .vptr h1 h2⟩
    | fn q1 q2 => exact ⟨_, rfl, .fn q1 q2⟩
    | _ => simp [okPtr] at hp
  · exact close (loadA_sound R h (R.opd _))
  · exact close (fieldA_sound h (R.opd _))
  · rename_i s y f
    unfold fieldVA at h
    split at h
    case h_2 => cases h
    rename_i fs l hu hl
    have hy := R.opd y
    rw [hl] at hy
    generalize a.eval y = v at *
    cases hf : fs[f]? with
    | none => simp [hf] at h
    | some fd =>
      simp only [hf, Option.bind_some] at h
      cases hy with | agg hsz hr h1 =>
      rename_i cs
      obtain ⟨v, h3, h4⟩ := partA_part h hsz hr h1 (w := w)
      exact ⟨v, by simp [Instr.field, run_underlying hu, hf, asAgg, h3], h4⟩
  · rename_i t y i
    cases hi : intOfA (opd st i) with
    | none => simp [hi] at h
    | some n =>
      simp only [hi, Option.bind_some] at h
      obtain ⟨k, hk⟩ := intOfA_some hi (R.opd i)
      rw [hk]
      exact close (indexPA_sound R h (R.opd _))
  · rename_i t y i
    cases hi : intOfA (opd st i) with
    | none => simp [hi] at h
    | some n =>
      simp only [hi, Option.bind_some] at h
      obtain ⟨k, hk⟩ := intOfA_some hi (R.opd i)
      rw [hk]
      have hy := R.opd y
      unfold indexVA at h
      split at h
      · rename_i len e l hu hl
        rw [hl] at hy
        generalize a.eval y = v at *
        split at h
        case isFalse => cases h
        rename_i hb
        cases hz : szOf P e with
        | none => simp [hz] at h
        | some z =>
          simp only [hz, Option.bind_some] at h
          cases hy with | agg hsz hr h1 =>
          obtain ⟨v, h3, h4⟩ := partA_part h hsz hr h1 (w := w)
          exact ⟨v, by simp [Instr.index, asIntOf, run_underlying hu, hb, run_szOf hz, h3], h4⟩
      · rename_i s hu hl
        rw [hl] at hy
        generalize a.eval y = v at *
        split at h
        case isFalse => cases h
        rename_i hb
        cases hs : s[n.toNat]? with
        | none => simp [hs] at h
        | some b =>
          simp [hs] at h; subst h
          cases hy with | d hd => cases hd with | str =>
          exact ⟨_, (by simp [Instr.index, asIntOf, run_underlying hu, hb, hs] <;> rfl), .d .int⟩
      · cases h
  · rename_i y i
    have hy := R.opd y
    split at h
    case h_2 => cases h
    rename_i l hl
    rw [hl] at hy
    generalize a.eval y = v at *
    cases hy with | tup hsz hr =>
    rename_i cs
    have hi : i < cs.size := by have := (List.getElem?_eq_some_iff.1 h).1; omega
    exact ⟨cs[i], by simp [Instr.extract, hi], hr i _ _ h (by simp [hi])⟩
  · exact close (binA_sound h (R.opd _) (R.opd _) _ _)
  · rename_i op t y
    have hy := R.opd y
    generalize a.eval y = v at *
    unfold unA at h
    split at h
    · rename_i hl; rw [hl] at hy; cases h; cases hy with | d hd => cases hd with | bool => exact ⟨_, (by simp [Op.unary] <;> rfl), .d .bool⟩
    · rename_i hl; rw [hl] at hy; cases h; cases hy with | d hd => cases hd with | int => exact ⟨_, (by simp [Op.unary, Op.intArith] <;> rfl), .d .int⟩
    · rename_i hl; rw [hl] at hy; simp [intBin] at h; subst h; cases hy with | d hd => cases hd with | int => exact ⟨_, (by simp [Op.unary, Op.intBits] <;> rfl), .d .int⟩
    · cases h
  · rename_i s d y
    have hy := R.opd y
    generalize a.eval y = v at *
    unfold convA at h
    split at h
    · rename_i hs hd' hl; rw [hl] at hy; cases h; cases hy with | d hd => cases hd with | int => exact ⟨_, (by simp [convert, run_underlying hs, run_underlying hd', Conv.intToInt] <;> rfl), .d .int⟩
    · rename_i hs hd' hl; rw [hl] at hy; cases h; cases hy with | d hd => cases hd with | str => exact ⟨_, (by simp [convert, run_underlying hs, run_underlying hd'] <;> rfl), .d .str⟩
    · cases h
  · rename_i t parts
    cases hb : buildA P t (parts.toList.map fun (i, x) => (i, opd st x)) with
    | none => rw [hb] at h; cases h
    | some r =>
      rw [hb] at h; cases h
      exact close (buildA_sound (f := opd st) (g := a.eval) R.rwone (fun x => R.opd x) hb)
  · rename_i t y lo hi mx
    cases h1 : bndA (lo.map (opd st)) with
    | none => simp [h1] at h
    | some lo' =>
      cases h2 : bndA (hi.map (opd st)) with
      | none => simp [h1, h2] at h
      | some hi' =>
        cases h3 : bndA (mx.map (opd st)) with
        | none => simp [h1, h2, h3] at h
        | some mx' =>
          simp only [h1, h2, h3, Option.bind_some] at h
          obtain ⟨r, g1, g2⟩ := cutA_sound R (bndA_some R h1) (bndA_some R h2) (bndA_some R h3) h (R.opd _)
          exact close ⟨r, g1 w, g2⟩
  · rename_i c
    obtain ⟨callee, ⟨args⟩, ⟨tys⟩⟩ := c
    unfold bstep at h
    dsimp only at h
    split at h
    · rename_i y t
      cases hn : lenA P st t (opd st y) with
      | none => simp [hn] at h
      | some n =>
        simp [hn] at h; subst h
        exact ⟨_, (by simp [resolve, invoke, builtin, lenA_sound R hn (R.opd y) w] <;> rfl), .d .int⟩
    · unfold minA at h
      cases hl : args.map (opd st) with
      | nil => simp [hl] at h
      | cons x l =>
        rw [hl] at h
        split at h
        case h_2 => cases h
        rename_i u v hx
        cases h
        cases hx
        have hlen : args.length = 2 := by have := congrArg List.length hl; simpa using this
        match args, hlen, hl with
        | [a1, a2], _, hl =>
          simp only [List.map_cons, List.map_nil, List.cons.injEq, and_true] at hl
          have g1 := R.opd a1
          have g2 := R.opd a2
          rw [hl.1] at g1; rw [hl.2] at g2
          refine ⟨.int .i64 (if v < u then v else u), ?_, .d .int⟩
          simp only [resolve, invoke, builtin, List.map_toArray, List.map_cons, List.map_nil]
          generalize a.eval a1 = v1 at *
          generalize a.eval a2 = v2 at *
          cases g1 with | d g1 => cases g1 with | int => cases g2 with | d g2 => cases g2 with | int =>
          simp [Builtin.min_, Builtin.min2]
    · unfold maxA at h
      cases hl : args.map (opd st) with
      | nil => simp [hl] at h
      | cons x l =>
        rw [hl] at h
        split at h
        case h_2 => cases h
        rename_i u v hx
        cases h
        cases hx
        have hlen : args.length = 2 := by have := congrArg List.length hl; simpa using this
        match args, hlen, hl with
        | [a1, a2], _, hl =>
          simp only [List.map_cons, List.map_nil, List.cons.injEq, and_true] at hl
          have g1 := R.opd a1
          have g2 := R.opd a2
          rw [hl.1] at g1; rw [hl.2] at g2
          refine ⟨.int .i64 (if v > u then v else u), ?_, .d .int⟩
          simp only [resolve, invoke, builtin, List.map_toArray, List.map_cons, List.map_nil]
          generalize a.eval a1 = v1 at *
          generalize a.eval a2 = v2 at *
          cases g1 with | d g1 => cases g1 with | int => cases g2 with | d g2 => cases g2 with | int =>
          simp [Builtin.max_, Builtin.max2]
    · cases h
  · rename_i fn first caps
    split at h
    · rename_i f hf
      cases h
      have e : first = #[] := by cases first; simpa using hf
      subst e
      refine ⟨.func (.func f) #[] (caps.map a.eval), by simp [Instr.makeFunc], .fn (by simp) (fun i x v hx hv => ?_)⟩
      simp only [List.getElem?_map, Array.getElem?_toList, Option.map_eq_some_iff] at hx
      simp only [Array.getElem?_map, Option.map_eq_some_iff] at hv
      obtain ⟨q, hq, rfl⟩ := hx
      obtain ⟨q', hq', rfl⟩ := hv
      rw [hq] at hq'; cases hq'
      exact R.opd q
    · cases h
  · cases h

end Go.Vl
