/- The value logic, part 9b: maps: keys, entries, and the operations on them. Conditions: none. -/
import Derived.Test.YtnnipdjbiblekaaVmI
import Derived.MapKept
import Derived.WideKeyRuns
set_option linter.unusedSimpArgs false
set_option linter.unusedVariables false
namespace Go.Vl
open Go Go.RowKit

section
variable {K : Ctx} {st : St} {a : Act} {w : World} {p : Pl} {P : Program} {ok : Nat → Prop}

/-! Keys -/
theorem isIntD_some {x : AV} (h : isIntD x = true) : ∃ (k : IntKind) (n : Int), x = .d (.int k n) := by
  cases x with
  | d d => cases d <;> simp [isIntD] at h; exact ⟨_, _, rfl⟩
  | _ => simp [isIntD] at h
theorem part_int {e : TypeId} {k : IntKind} (hu : P.underlying e = some (.int k)) {cs : Array Value} {o : Nat} {z : Value} (hz : cs[o]? = some z) : (part e cs o).run P w = .ok z w := by
  simp [part, isAgg, run_underlying hu, hz]
theorem checkKey_ok {kt : TypeId} {ka : Bool} {k : AV} {v : Value} (h : keyB P kt ka k = true) (hr : RA w ok p k v) (e : Bool) : (Instr.checkKey e 10000 kt v).run P w = .ok () w := by
  unfold keyB at h
  split at h
  · split at h
    case h_2 => cases h
    rename_i n el l hu
    simp only [Bool.and_eq_true, decide_eq_true_eq, List.all_eq_true] at h
    obtain ⟨⟨⟨h1, h2⟩, h3⟩, h4⟩ := h
    split at h3
    case h_2 => cases h3
    rename_i kk hue
    cases hr with
    | agg hl hx h1 =>
      rename_i cs
      have hi : ∃ i, P.info? el = some i ∧ i.size = 1 := by
        unfold szOf at h2
        cases hi : P.info? el with
        | none => simp [hi] at h2
        | some i => exact ⟨i, rfl, by simpa [hi] using h2⟩
      obtain ⟨i, hi, hsz⟩ := hi
      rw [show (10000 : Nat) = 9999 + 1 from rfl, Instr.checkKey]
      simp only [Sem.run_bind, run_underlying hu, Result.andThen_ok]
      simp only [Std.Legacy.Range.forIn_eq_forIn_range', Std.Legacy.Range.size, Nat.sub_zero, Nat.add_one_sub_one, Nat.div_one]
      have hcl : P.cellsOf el = 1 := by simp [Program.cellsOf, hi, hsz]
      have each : ∀ j ∈ List.range' 0 n, ∃ z : Value, cs[j * P.cellsOf el]? = some z ∧ ∃ (k0 : IntKind) (m : Int), z = Value.int k0 m := fun j hj => by
        have hj' : j < n := by simpa using hj
        rw [hcl, Nat.mul_one]
        have hjc : j < cs.size := by omega
        obtain ⟨k0, m, e0⟩ := isIntD_some (h4 l[j] (List.getElem_mem (by omega)))
        have := hx j l[j] cs[j] (List.getElem?_eq_getElem (by omega)) (by simp [hjc])
        rw [e0] at this
        refine ⟨cs[j], by simp [hjc], k0, m, ?_⟩
        generalize cs[j] = u at this
        cases this with | d hd => cases hd; rfl
      generalize List.range' 0 n = is at each
      induction is with
      | nil => simp
      | cons j is ih =>
        obtain ⟨z, hz, k0, m, rfl⟩ := each j (by simp)
        have p1 := part_int (w := w) hue hz
        have p2 : (Instr.checkKey e 9999 el (.int k0 m)).run P w = .ok () w := by
          rw [show (9999 : Nat) = 9998 + 1 from rfl, Instr.checkKey]
          simp only [Sem.run_bind, run_underlying hue, Result.andThen_ok]
          rfl
        simp only [List.forIn_cons, Sem.run_bind, run_sizeOf w hi, Result.andThen_ok, p1, p2, Sem.run_pure]
        exact ih (fun y hy => each y (by simp [hy]))
  · split at h
    · rename_i k0 k1 n hu
      cases hr with | d hd => cases hd with | int =>
      rw [show (10000 : Nat) = 9999 + 1 from rfl, Instr.checkKey]
      simp only [Sem.run_bind, run_underlying hu, Result.andThen_ok]; rfl
    · rename_i s hu
      cases hr with | d hd => cases hd with | str =>
      rw [show (10000 : Nat) = 9999 + 1 from rfl, Instr.checkKey]
      simp only [Sem.run_bind, run_underlying hu, Result.andThen_ok]; rfl
    · rename_i b hu
      cases hr with | d hd => cases hd with | bool =>
      rw [show (10000 : Nat) = 9999 + 1 from rfl, Instr.checkKey]
      simp only [Sem.run_bind, run_underlying hu, Result.andThen_ok]; rfl
    · cases h
theorem packRA {ds : List D} {v : Value} (h : PackD w ok true ds v) : RA w ok p (.agg (ds.map .d)) v := by
  unfold PackD at h
  rw [if_pos rfl] at h
  obtain ⟨cs, rfl, h1, h2⟩ := h
  have key : ∀ (i : Nat) (v : Value), cs[i]? = some v → ∃ d, ds[i]? = some d ∧ RD w ok d v := fun i v hv => by
    have hi : i < cs.size := (Array.getElem?_eq_some_iff.1 hv).1
    have hd : ds[i]? = some (ds[i]'(by omega)) := List.getElem?_eq_getElem (by omega)
    exact ⟨_, hd, h2 i _ v hd hv⟩
  refine .agg (by simpa using h1) (fun i a v ha hv => ?_) fun i v hv => ?_
  · obtain ⟨d, hd, hr⟩ := key i v hv
    simp only [List.getElem?_map, hd, Option.map_some, Option.some.injEq] at ha
    subst ha
    exact .d hr
  · obtain ⟨d, _, hr⟩ := key i v hv
    exact hr.one
theorem eqA_equal {t : TypeId} {l l' : List AV} {r : Bool} (h : eqA P t l l' = some r) {u v : Value} (hu : RA w ok p (.agg l) u) (hv : RA w ok p (.agg l') v) : (Op.equal t u v).run P w = .ok r w := by
  cases hu with
  | agg hl hx hx1 =>
    rename_i xs
    cases hv with
    | agg hl' hy hy1 =>
      rename_i ys
      have hx' : ∀ (i : Nat) (a : AV), l[i]? = some a → ∃ v, xs[0 + i]? = some v ∧ RA w ok p a v := fun i a ha => by
        have hi : i < xs.size := by have := (List.getElem?_eq_some_iff.1 ha).1; omega
        exact ⟨xs[i], by simp [hi], hx i a _ ha (by simp [hi])⟩
      have hy' : ∀ (i : Nat) (a : AV), l'[i]? = some a → ∃ v, ys[0 + i]? = some v ∧ RA w ok p a v := fun i a ha => by
        have hi : i < ys.size := by have := (List.getElem?_eq_some_iff.1 ha).1; omega
        exact ⟨ys[i], by simp [hi], hy i a _ ha (by simp [hi])⟩
      unfold eqA at h
      split at h
      · cases h
      split at h
      · rename_i fs hs
        split at h
        · cases h
        rename_i hp
        have hfs : P.fieldsOf t = fs := by simp [Program.fieldsOf, hs]
        have := run_equalIn_struct (P := P) w 9999 t xs ys (by rw [hfs]; exact hs) (by simpa using hp)
        rw [hfs] at this
        exact this.trans (eqFs2_sound 9997 fs.toList 0 l l' r h hx' hy')
      · rename_i n e hs
        split at h
        case isFalse => cases h
        rename_i hh
        obtain ⟨hz, hn⟩ := hh
        have hi : ∃ i, P.info? e = some i := by
          unfold szOf at hz
          cases hi : P.info? e with
          | none => simp [hi] at hz
          | some i => exact ⟨i, rfl⟩
        obtain ⟨i, hi⟩ := hi
        have hc : P.cellsOf e = 1 := by simp [szOf, hi] at hz; simp [Program.cellsOf, hi, hz]
        have := run_equalIn_array (P := P) w 9999 xs ys hs hi
        rw [hc, List.range_eq_range', ← hn] at this
        exact this.trans (eqEs_sound 9998 l l' 0 r h hx' hy')
      · cases h
theorem sameNow_ok {kt : TypeId} {kd : TypeDesc} (hu : P.underlying kt = some kd) {k : AV} {d : D} {b : Bool} (h : eqCell P kt k (.d d) = some b) {v u : Value} (hv : RA w ok p k v) (hd : RD w ok d u) : Instr.sameNow kd v u = some b := by
  unfold eqCell at h
  rw [hu] at h
  split at h
  · rename_i q0 q a q' b' e1 e2
    split at h
    case isFalse => cases h
    rename_i hk
    cases h
    cases e1
    cases e2
    subst hk
    cases hv with | d hv => cases hv with | int => cases hd with | int => simp [Instr.sameNow]
  · rename_i a b' e1 e2
    cases h; cases e1; cases e2
    cases hv with | d hv => cases hv with | bool => cases hd with | bool => rfl
  · rename_i a b' e1 e2
    cases h; cases e1; cases e2
    cases hv with | d hv => cases hv with | str => cases hd with | str => simp [Instr.sameNow, beq_toListBytes]
  · cases h
/-- what was found, and where -/
def FoundR (P : Program) (kt : TypeId) (ka : Bool) (kz : Nat) (k : AV) (rows : List (List D)) (es : List MapEntry) (i : Nat) (o : Option (Nat × List D)) (r : Option (Nat × Value)) : Prop :=
  match o with
  | none => r = none
  | some q => ∃ (e : MapEntry) (row : List D), es[q.1]? = some e ∧ rows[q.1]? = some row ∧ q.2 = row.drop kz ∧ kEqA P kt ka k (row.take kz) = some true ∧ r = some (i + q.1, e.val)
theorem FoundR.cons {kt : TypeId} {ka : Bool} {kz : Nat} {k : AV} {rows : List (List D)} {es : List MapEntry} {i : Nat} {o : Option (Nat × List D)} {r : Option (Nat × Value)} (h : FoundR P kt ka kz k rows es (i + 1) o r) (row : List D) (e : MapEntry) : FoundR P kt ka kz k (row :: rows) (e :: es) i (o.map fun q => (q.1 + 1, q.2)) r := by
  cases o with
  | none => exact h
  | some q =>
    obtain ⟨e', row', h1, h2, h3, h4, h5⟩ := h
    exact ⟨e', row', by simpa using h1, by simpa using h2, h3, h4, by rw [h5]; congr 2; simp only; omega⟩
theorem findKey_ok {kt : TypeId} {ka : Bool} {kz : Nat} {k : AV} {v : Value} (hkb : keyB P kt ka k = true) (hv : RA w ok p k v) {rows : List (List D)} {es : List MapEntry} (hl : es.length = rows.length)
    (hr : ∀ (j : Nat) (row : List D) (e : MapEntry), rows[j]? = some row → es[j]? = some e → PackD w ok ka (row.take kz) e.key) {o : Option (Nat × List D)} (h : findM P kt ka kz k rows = some o) :
    ∃ r, (Instr.findKey kt v es).run P w = .ok r w ∧ FoundR P kt ka kz k rows es 0 o r := by
  cases ka with
  | true =>
    have hwide : (match P.underlying kt with | some (.array _ _) | some (.struct _) => true | _ => false) = true := by
      unfold keyB at hkb
      rw [if_pos rfl] at hkb
      split at hkb
      · rename_i n e l hu; rw [hu]
      · cases hkb
    rw [run_findKey_eq w hwide]
    have key : ∀ (rows : List (List D)) (es : List MapEntry) (i : Nat) (o : Option (Nat × List D)), es.length = rows.length → (∀ (j : Nat) (row : List D) (e : MapEntry), rows[j]? = some row → es[j]? = some e → PackD w ok true (row.take kz) e.key) → findM P kt true kz k rows = some o →
        ∃ r, (Instr.findAsking kt v es i).run P w = .ok r w ∧ FoundR P kt true kz k rows es i o r := fun rows => by
      induction rows with
      | nil =>
        intro es i o hl _ h
        have : es = [] := List.eq_nil_of_length_eq_zero (by simpa using hl)
        subst this
        simp only [findM, Option.some.injEq] at h
        subst h
        exact ⟨none, by simp [Instr.findAsking], rfl⟩
      | cons row rows ih =>
        intro es i o hl hr h
        cases es with
        | nil => simp at hl
        | cons e es =>
          simp only [findM] at h
          cases hb : kEqA P kt true k (row.take kz) with
          | none => simp [hb] at h
          | some b =>
            simp only [hb, Option.bind_some] at h
            have hk := packRA (p := p) (hr 0 row e rfl rfl)
            have he : (Op.equal kt v e.key).run P w = .ok b w := by
              have hb' := hb
              unfold kEqA at hb'
              rw [if_pos rfl] at hb'
              cases k with
              | agg l => exact eqA_equal hb' hv hk
              | _ => simp at hb'
            cases b with
            | true =>
              rw [if_pos rfl] at h
              cases h
              exact ⟨some (i, e.val), by simp [Instr.findAsking, he, Result.andThen], e, row, rfl, rfl, rfl, hb, rfl⟩
            | false =>
              rw [if_neg (by decide)] at h
              cases ho : findM P kt true kz k rows with
              | none => simp [ho] at h
              | some o' =>
                simp only [ho, Option.map_some, Option.some.injEq] at h
                subst h
                obtain ⟨r, h1, h2⟩ := ih es (i + 1) o' (by simpa using hl) (fun j row' e' h1 h2 => hr (j + 1) row' e' (by simpa using h1) (by simpa using h2)) ho
                exact ⟨r, by simp [Instr.findAsking, he, Result.andThen, h1], h2.cons row e⟩
    exact key rows es 0 o hl hr h
  | false =>
    obtain ⟨kd, hu⟩ : ∃ kd, P.underlying kt = some kd := by
      unfold keyB at hkb
      rw [if_neg (by decide)] at hkb
      split at hkb
      · rename_i hu; exact ⟨_, hu⟩
      · rename_i hu; exact ⟨_, hu⟩
      · rename_i hu; exact ⟨_, hu⟩
      · cases hkb
    have key : ∀ (rows : List (List D)) (es : List MapEntry) (i : Nat) (o : Option (Nat × List D)), es.length = rows.length → (∀ (j : Nat) (row : List D) (e : MapEntry), rows[j]? = some row → es[j]? = some e → PackD w ok false (row.take kz) e.key) → findM P kt false kz k rows = some o →
        ∃ r, Instr.findNow kd v es i = some r ∧ FoundR P kt false kz k rows es i o r := fun rows => by
      induction rows with
      | nil =>
        intro es i o hl _ h
        have : es = [] := List.eq_nil_of_length_eq_zero (by simpa using hl)
        subst this
        simp only [findM, Option.some.injEq] at h
        subst h
        exact ⟨none, rfl, rfl⟩
      | cons row rows ih =>
        intro es i o hl hr h
        cases es with
        | nil => simp at hl
        | cons e es =>
          simp only [findM] at h
          cases hb : kEqA P kt false k (row.take kz) with
          | none => simp [hb] at h
          | some b =>
            simp only [hb, Option.bind_some] at h
            have hk := hr 0 row e rfl rfl
            have he : Instr.sameNow kd v e.key = some b := by
              have hb' := hb
              unfold kEqA at hb'
              rw [if_neg (by decide)] at hb'
              unfold PackD at hk
              rw [if_neg (by decide)] at hk
              obtain ⟨d, hd, hrd⟩ := hk
              rw [hd] at hb'
              exact sameNow_ok hu hb' hv hrd
            cases b with
            | true =>
              rw [if_pos rfl] at h
              cases h
              exact ⟨some (i, e.val), by simp [Instr.findNow, he], e, row, rfl, rfl, rfl, hb, rfl⟩
            | false =>
              rw [if_neg (by decide)] at h
              cases ho : findM P kt false kz k rows with
              | none => simp [ho] at h
              | some o' =>
                simp only [ho, Option.map_some, Option.some.injEq] at h
                subst h
                obtain ⟨r, h1, h2⟩ := ih es (i + 1) o' (by simpa using hl) (fun j row' e' h1 h2 => hr (j + 1) row' e' (by simpa using h1) (by simpa using h2)) ho
                exact ⟨r, by simp [Instr.findNow, he, h1], h2.cons row e⟩
    obtain ⟨r, h1, h2⟩ := key rows es 0 o hl hr h
    exact ⟨r, MapKept.run_findKey hu h1, h2⟩
/-! Keys that are one are the same in all bits -/
theorem eqEs_same {e : TypeId} : ∀ (l : List AV) (ds : List D), (∀ x ∈ l, isIntD x = true) → eqEs P e l (ds.map .d) = some true → l = ds.map .d
  | [], [], _, _ => rfl
  | [], d :: ds, _, h => by simp [eqEs] at h
  | x :: l, [], _, h => by simp [eqEs] at h
  | x :: l, d :: ds, hi, h => by
    simp only [List.map_cons, eqEs] at h
    cases hb : eqCell P e x (.d d) with
    | none => simp [hb] at h
    | some b =>
      cases hr : eqEs P e l (ds.map .d) with
      | none => simp [hb, hr] at h
      | some r =>
        simp only [hb, hr, Option.bind_some, Option.map_some, Option.some.injEq, Bool.and_eq_true] at h
        obtain ⟨rfl, rfl⟩ := h
        have ih := eqEs_same l ds (fun x hx => hi x (List.mem_cons_of_mem _ hx)) hr
        obtain ⟨k, n, rfl⟩ := isIntD_some (hi x (List.mem_cons_self ..))
        unfold eqCell at hb
        split at hb
        · rename_i k0 k1 a k2 b e1 e2 e3
          split at hb
          case isFalse => cases hb
          rename_i hk
          simp only [AV.d.injEq, D.int.injEq] at e2 e3
          obtain ⟨rfl, rfl⟩ := e2
          simp only [Option.some.injEq, beq_iff_eq] at hb
          rw [List.map_cons, ih, e3, hk, hb]
        · rename_i e2 _; cases e2
        · rename_i e2 _; cases e2
        · cases hb
theorem kEq_same {kt : TypeId} {ka : Bool} {k : AV} {ds : List D} (hkb : keyB P kt ka k = true) (h : kEqA P kt ka k ds = some true) {v u : Value} (hv : RA w ok p k v) (hu : PackD w ok ka ds u) : Instr.sameBits 10000 u v = true := by
  cases ka with
  | true =>
    unfold keyB at hkb
    rw [if_pos rfl] at hkb
    unfold kEqA at h
    rw [if_pos rfl] at h
    split at hkb
    case h_2 => cases hkb
    rename_i n el l hut
    simp only [Bool.and_eq_true, decide_eq_true_eq, List.all_eq_true] at hkb
    obtain ⟨⟨⟨h1, h2⟩, h3⟩, h4⟩ := hkb
    simp only at h
    unfold eqA at h
    split at h
    · cases h
    rw [hut] at h
    simp only [h2, h1, true_and, if_true] at h
    have hl := eqEs_same l ds h4 h
    unfold PackD at hu
    rw [if_pos rfl] at hu
    obtain ⟨cs, rfl, c1, c2⟩ := hu
    cases hv with
    | agg e1 e2 e3 =>
      rename_i cs2
      have hll : l.length = ds.length := by rw [hl]; simp
      have hsz : cs.size = cs2.size := by omega
      rw [show (10000 : Nat) = 9999 + 1 from rfl]
      simp only [Instr.sameBits, hsz, beq_self_eq_true, Bool.true_and, List.all_eq_true]
      rintro ⟨a, b⟩ hm
      obtain ⟨i, hi, e⟩ := List.getElem_of_mem hm
      simp only [List.length_zip, Array.length_toList] at hi
      rw [List.getElem_zip, Prod.mk.injEq] at e
      obtain ⟨rfl, rfl⟩ := e
      have hi1 : i < cs.size := by omega
      have hi2 : i < cs2.size := by omega
      have hil : i < l.length := by omega
      have hid : i < ds.length := by omega
      obtain ⟨k0, m, e0⟩ := isIntD_some (h4 l[i] (List.getElem_mem hil))
      have ed : l[i] = .d ds[i] := by simp [hl]
      have r1 := e2 i l[i] cs2[i] (List.getElem?_eq_getElem hil) (by simp [hi2])
      have r2 := c2 i ds[i] cs[i] (List.getElem?_eq_getElem hid) (by simp [hi1])
      rw [ed] at e0 r1
      simp only [AV.d.injEq] at e0
      rw [e0] at r1 r2
      simp only [Array.getElem_toList]
      generalize cs[i] = x at r2 ⊢
      generalize cs2[i] = y at r1 ⊢
      cases r2
      cases r1 with | d r1 => cases r1; simp [Instr.sameBits]
  | false =>
    unfold kEqA at h
    rw [if_neg (by decide)] at h
    unfold PackD at hu
    rw [if_neg (by decide)] at hu
    obtain ⟨d, rfl, hrd⟩ := hu
    simp only at h
    unfold eqCell at h
    split at h
    · rename_i q0 q a q' b' e1 e2 e3
      split at h
      case isFalse => cases h
      rename_i hk
      simp only [Option.some.injEq, beq_iff_eq] at h
      cases e3
      subst hk h
      cases hv with | d hv => cases hv with | int => cases hrd with | int => simp [Instr.sameBits]
    · rename_i a b' e1 e2 e3
      simp only [Option.some.injEq, beq_iff_eq] at h
      cases e3
      subst h
      cases hv with | d hv => cases hv with | bool => cases hrd with | bool => simp [Instr.sameBits]
    · rename_i e1 e2 e3
      simp only [Option.some.injEq] at h
      cases e3
      rw [← beq_toListBytes] at h
      have := (MapKept.bytes_beq _ _).1 h
      subst this
      cases hv with | d hv => cases hv with | str => cases hrd with | str => exact h
    · cases h
/-! Packs -/
theorem packMA_ra {ag : Bool} {ds : List D} {x : AV} (h : packMA ag ds = some x) {v : Value} (hv : PackD w ok ag ds v) : RA w ok p x v := by
  unfold packMA at h
  cases ag with
  | true =>
    rw [if_pos rfl] at h
    cases h
    exact packRA hv
  | false =>
    rw [if_neg (by decide)] at h
    unfold PackD at hv
    rw [if_neg (by decide)] at hv
    obtain ⟨d, rfl, hd⟩ := hv
    cases h
    exact .d hd
theorem unpackMA_pd {ag : Bool} {x : AV} {ds : List D} (h : unpackMA ag x = some ds) {v : Value} (hv : RA w ok p x v) : PackD w ok ag ds v := by
  unfold unpackMA at h
  unfold PackD
  cases ag with
  | true =>
    rw [if_pos rfl] at h ⊢
    split at h
    case h_2 => cases h
    obtain ⟨t1, t2⟩ := toDs_get h
    cases hv with
    | agg e1 e2 e3 =>
      refine ⟨_, rfl, by omega, fun i d u hd hu => ?_⟩
      obtain ⟨y, hy, hyd⟩ := t2 i d hd
      exact toD_rd hyd (e2 i y u hy hu)
  | false =>
    rw [if_neg (by decide)] at h ⊢
    have : ∃ d, x.toD = some d ∧ ds = [d] := by
      split at h
      · cases h
      · cases h
      · cases hd : x.toD with
        | none => simp [hd] at h
        | some d => simp only [hd, Option.map_some, Option.some.injEq] at h; exact ⟨d, rfl, h.symm⟩
    obtain ⟨d, h1, h2⟩ := this
    exact ⟨d, h2, toD_rd h1 hv⟩
theorem zeroV_ok {t : TypeId} {x : AV} (h : zeroV P t = some x) : ∃ z, (zeroValue t).run P w = .ok z w ∧ RA w ok p x z := by
  unfold zeroV at h
  cases hi : P.info? t with
  | none => simp [hi] at h
  | some i =>
    cases hz : i.zero with
    | none => simp [hi, hz] at h
    | some z =>
      simp only [hi, hz, Option.bind_some, Option.map_some, Option.some.injEq] at h
      subst h
      exact ⟨z, by simp [zeroValue, typeInfo, hi, hz], (ofConst_ra _ _ _ z).fin0⟩
/-! The operations -/
theorem mapSet (R : Rel K st a w p) {n : Nat} {s s' : VS} (hn : get st.vec n = some s) (hM : s.isM = true) (he : s'.e = s.e) {b : Nat} {es es' : Array MapEntry} {clock clock' : Nat} (hv : p.rw n = .map (some b)) (hb : w.heap[b]? = some (.map es clock))
    (hz : ∀ r ∈ s'.rows, r.length = s'.z) (hm : MapR w (okc K w p) s' es' clock') :
    Rel K { st with vec := (n, s') :: st.vec } a { w with heap := w.heap.setIfInBounds b (.map es' clock') } p := by
  have hlt : b < w.heap.size := (Array.getElem?_eq_some_iff.1 hb).1
  refine R.setIn hn (g := b) (by rw [hv]; rfl) ⟨rfl, rfl, rfl, by simp, fun k hk hne => ?_⟩ hz fun ok' h1 h2 => ?_
  · have : ¬ b = k := fun e => hne (by rw [e])
    simp [Array.getElem?_setIfInBounds, this]
  · refine .ofM (by unfold VS.isM at hM ⊢; rw [he]; exact hM) ⟨b, es', clock', hv, by simp [hlt], hm.mono h1 h2⟩
theorem vec_map (R : Rel K st a w p) {x : Operand} {n : Nat} {s : VS} (hx : opd st x = .vec n) (hn : get st.vec n = some s) (hM : s.isM = true) : ∃ (b : Nat) (es : Array MapEntry) (clock : Nat), a.eval x = .map (some b) ∧ p.rw n = .map (some b) ∧ w.heap[b]? = some (.map es clock) ∧ MapR w (okc K w p) s es clock := by
  have h1 := R.opd x
  rw [hx] at h1
  obtain ⟨hat, hz, _⟩ := R.vec n s hn
  obtain ⟨b, es, clock, e1, e2, e3⟩ := hat.map hM
  refine ⟨b, es, clock, ?_, e1, e2, e3⟩
  generalize a.eval x = v at h1
  cases h1
  exact e1
theorem MapR.key {s : VS} {es : Array MapEntry} {clock : Nat} (h : MapR w ok s es clock) : es.toList.length = s.rows.length ∧ ∀ (j : Nat) (row : List D) (e : MapEntry), s.rows[j]? = some row → es.toList[j]? = some e → PackD w ok s.ka (row.take s.kz) e.key :=
  ⟨by simpa using h.size, fun j row e h1 h2 => (h.row j row e h1 (by simpa using h2)).1⟩
attribute [local irreducible] VS.kz VS.va VS.ka
theorem pack_val (f g : VS → Bool) (k : VS → Nat) (s : VS) {r : List D} {u v : Value} (h : PackD w ok (f s) (r.take (k s)) u ∧ PackD w ok (g s) (r.drop (k s)) v) : PackD w ok (g s) (r.drop (k s)) v := h.2
theorem MapR.val {s : VS} {es : Array MapEntry} {clock : Nat} (h : MapR w ok s es clock) {j : Nat} {row : List D} {e : MapEntry} (h1 : s.rows[j]? = some row) (h2 : es.toList[j]? = some e) : PackD w ok s.va (row.drop s.kz) e.val := by
  have h2' : es[j]? = some e := by rw [← Array.getElem?_toList]; exact h2
  exact pack_val VS.ka VS.va VS.kz s (h.row j row e h1 h2')
theorem look_sound (R : Rel K st a w p) {o : Oper} {t : TypeId} {x k : Operand} {okb : Bool} (ho : o.op = .lookup t x k okb) {st' : St} (h : ((lookA P st t (opd st x) (opd st k) okb).bind fun v => putO st o.dst v) = some st') : Stepped P K st' o a w := by
  cases hl : lookA P st t (opd st x) (opd st k) okb with
  | none => simp [hl] at h
  | some v =>
    simp only [hl, Option.bind_some] at h
    unfold lookA at hl
    split at hl
    case h_2 => cases hl
    rename_i kt et n hu hx
    cases hn : get st.vec n with
    | none => simp [hn] at hl
    | some s =>
      simp only [hn, Option.bind_some] at hl
      split at hl
      case isFalse => cases hl
      rename_i hc
      obtain ⟨hM, hkb⟩ := hc
      obtain ⟨b, es, clock, e1, e2, e3, e4⟩ := vec_map R hx hn hM
      cases hf : findM P kt s.ka s.kz (opd st k) s.rows with
      | none => simp [hf] at hl
      | some q =>
        simp only [hf, Option.bind_some, lookR] at hl
        have hck := checkKey_ok hkb (R.opd k) es.isEmpty
        obtain ⟨r, f1, f2⟩ := findKey_ok hkb (R.opd k) e4.key.1 e4.key.2 hf
        have key : ∃ u, (Instr.lookup t (.map (some b)) (a.eval k) okb).run P w = .ok u w ∧ RA w (okc K w p) p v u := by
          cases q with
          | none =>
            have hr : r = none := f2
            subst hr
            cases hz : zeroV P et with
            | none => simp [hz] at hl
            | some z =>
              simp only [hz, Option.map_some, Option.some.injEq, Option.isSome_none] at hl
              obtain ⟨u, z1, z2⟩ := zeroV_ok (w := w) (ok := okc K w p) (p := p) hz
              subst hl
              cases okb with
              | true =>
                refine ⟨.tuple #[u, .bool false], ?_, .tup rfl fun i a v ha hv => ?_⟩
                · simp [Instr.lookup, run_underlying hu, Result.andThen, MapKept.run_getObj_map e3, hck, f1, z1]
                · match i with
                  | 0 => simp at ha hv; subst ha hv; exact z2
                  | 1 => simp at ha hv; subst ha hv; exact .d .bool
                  | n + 2 => simp at ha
              | false =>
                exact ⟨u, by simp [Instr.lookup, run_underlying hu, Result.andThen, MapKept.run_getObj_map e3, hck, f1, z1], z2⟩
          | some q =>
            obtain ⟨e, row, g1, g2, g3, g4, g5⟩ := f2
            subst g5
            have hp := e4.val g2 g1
            cases hz : packMA s.va q.2 with
            | none => simp [hz] at hl
            | some z =>
              simp only [hz, Option.map_some, Option.some.injEq, Option.isSome_some] at hl
              rw [g3] at hz
              have z2 := packMA_ra (p := p) hz hp
              subst hl
              cases okb with
              | true =>
                refine ⟨.tuple #[e.val, .bool true], ?_, .tup rfl fun i a v ha hv => ?_⟩
                · simp [Instr.lookup, run_underlying hu, Result.andThen, MapKept.run_getObj_map e3, hck, f1]
                · match i with
                  | 0 => simp at ha hv; subst ha hv; exact z2
                  | 1 => simp at ha hv; subst ha hv; exact .d .bool
                  | n + 2 => simp at ha
              | false =>
                exact ⟨e.val, by simp [Instr.lookup, run_underlying hu, Result.andThen, MapKept.run_getObj_map e3, hck, f1], z2⟩
        obtain ⟨u, k1, k2⟩ := key
        exact ⟨w, p, .inl ⟨u, by simp [execOp, ho, e1, k1], R.puto k2 h⟩⟩
theorem pack_both (f g : VS → Bool) (k : VS → Nat) (s : VS) {r : List D} {u v : Value} (h1 : PackD w ok (f s) (r.take (k s)) u) (h2 : PackD w ok (g s) (r.drop (k s)) v) : PackD w ok (f s) (r.take (k s)) u ∧ PackD w ok (g s) (r.drop (k s)) v := ⟨h1, h2⟩
theorem VS.same {s s' : VS} (h : s'.e = s.e) : s'.ka = s.ka ∧ s'.va = s.va ∧ s'.kz = s.kz ∧ s'.isM = s.isM := by
  unfold VS.ka VS.va VS.kz VS.isM
  rw [h]
  exact ⟨rfl, rfl, rfl, rfl⟩
theorem MapR.row' {s : VS} {es : Array MapEntry} {clock : Nat} (h : MapR w ok s es clock) {j : Nat} {row : List D} {e : MapEntry} (h1 : s.rows[j]? = some row) (h2 : es[j]? = some e) : PackD w ok s.ka (row.take s.kz) e.key ∧ PackD w ok s.va (row.drop s.kz) e.val := h.row j row e h1 h2
/-- the entries with one more, or one turned -/
theorem mapR_set {s s' : VS} {es : Array MapEntry} {clock : Nat} (h : MapR w ok s es clock) {i : Nat} {kd vd : List D} {kv vv : Value} (he : s'.e = s.e) (hr : s'.rows = s.rows.set i (kd ++ vd)) (hkz : kd.length = s.kz) (hk : PackD w ok s.ka kd kv) (hv : PackD w ok s.va vd vv) :
    MapR w ok s' (es.modify i fun e => { e with key := kv, val := vv }) clock := by
  obtain ⟨a1, a2, a3, _⟩ := VS.same he
  have hborn : (es.modify i fun e => { e with key := kv, val := vv }).toList.map (·.born) = es.toList.map (·.born) := by
    apply List.ext_getElem?
    intro j
    simp only [List.getElem?_map, Array.getElem?_toList, Array.getElem?_modify]
    by_cases hij : i = j
    · subst hij
      cases he : es[i]? with
      | none => simp
      | some e => simp
    · simp [hij]
  refine ⟨by rw [Array.size_modify, h.size, hr, List.length_set], fun j row e h1 h2 => ?_, fun x hx => ?_, by rw [hborn]; exact h.nodup⟩
  · rw [a1, a2, a3]
    rw [hr, List.getElem?_set] at h1
    rw [Array.getElem?_modify] at h2
    by_cases hij : i = j
    · rw [if_pos hij] at h1 h2
      split at h1
      case isFalse => cases h1
      cases h1
      cases hej : es[j]? with
      | none => rw [hej] at h2; cases h2
      | some e0 =>
        rw [hej] at h2
        cases h2
        rw [← hkz, List.take_left', List.drop_left'] <;> first | exact ⟨hk, hv⟩ | rfl
    · rw [if_neg hij] at h1 h2
      exact h.row' h1 h2
  · have : x.born ∈ (es.modify i fun e => { e with key := kv, val := vv }).toList.map (·.born) := List.mem_map.2 ⟨x, hx, rfl⟩
    rw [hborn] at this
    obtain ⟨y, hy, e⟩ := List.mem_map.1 this
    rw [← e]; exact h.born y hy
theorem mapR_push {s s' : VS} {es : Array MapEntry} {clock : Nat} (h : MapR w ok s es clock) {kd vd : List D} {kv vv : Value} (he : s'.e = s.e) (hr : s'.rows = s.rows ++ [kd ++ vd]) (hkz : kd.length = s.kz) (hk : PackD w ok s.ka kd kv) (hv : PackD w ok s.va vd vv) :
    MapR w ok s' (es.push { key := kv, val := vv, born := clock }) (clock + 1) := by
  obtain ⟨a1, a2, a3, _⟩ := VS.same he
  have hs := h.size
  refine ⟨by rw [Array.size_push, hr, List.length_append, hs]; rfl, fun j row e h1 h2 => ?_, fun x hx => ?_, ?_⟩
  · rw [a1, a2, a3]
    rw [hr] at h1
    rw [Array.getElem?_push] at h2
    by_cases hj : j < s.rows.length
    · rw [List.getElem?_append_left hj] at h1
      rw [if_neg (by omega)] at h2
      exact h.row' h1 h2
    · rw [List.getElem?_append_right (by omega)] at h1
      by_cases hj2 : j = s.rows.length
      · subst hj2
        rw [if_pos (by omega)] at h2
        simp only [Nat.sub_self, List.getElem?_cons_zero, Option.some.injEq] at h1
        cases h2
        subst h1
        rw [← hkz, List.take_left', List.drop_left'] <;> first | exact ⟨hk, hv⟩ | rfl
      · rw [List.getElem?_eq_none (by simp; omega)] at h1; cases h1
  · simp only [Array.toList_push, List.mem_append, List.mem_singleton] at hx
    rcases hx with hx | rfl
    · exact Nat.lt_succ_of_lt (h.born x hx)
    · exact Nat.lt_succ_self _
  · simp only [Array.toList_push, List.map_append, List.map_cons, List.map_nil]
    refine List.nodup_append.2 ⟨h.nodup, by simp, ?_⟩
    intro a ha b hb
    simp only [List.mem_singleton] at hb
    subst hb
    obtain ⟨x, hx, rfl⟩ := List.mem_map.1 ha
    exact Nat.ne_of_lt (h.born x hx)
theorem mapR_erase {s s' : VS} {es : Array MapEntry} {clock : Nat} (h : MapR w ok s es clock) {i : Nat} (hi : i < s.rows.length) (he : s'.e = s.e) (hr : s'.rows = s.rows.eraseIdx i) : MapR w ok s' (es.eraseIdxIfInBounds i) clock := by
  obtain ⟨a1, a2, a3, _⟩ := VS.same he
  have hs := h.size
  have hie : i < es.size := by omega
  have e1 : es.eraseIdxIfInBounds i = es.eraseIdx i hie := by unfold Array.eraseIdxIfInBounds; rw [dif_pos hie]
  rw [e1]
  have hsub : (es.eraseIdx i hie).toList.Sublist es.toList := by rw [Array.toList_eraseIdx]; exact List.eraseIdx_sublist _ _
  refine ⟨by rw [Array.size_eraseIdx, hr, List.length_eraseIdx, if_pos hi, hs], fun j row e h1 h2 => ?_, fun x hx => h.born x (hsub.subset hx), (hsub.map _).nodup h.nodup⟩
  rw [a1, a2, a3]
  rw [hr, List.getElem?_eraseIdx] at h1
  rw [← Array.getElem?_toList, Array.toList_eraseIdx, List.getElem?_eraseIdx] at h2
  split at h1
  · rename_i hj
    rw [if_pos hj, Array.getElem?_toList] at h2
    exact h.row' h1 h2
  · rename_i hj
    rw [if_neg hj, Array.getElem?_toList] at h2
    exact h.row' h1 h2
theorem upd_sound (R : Rel K st a w p) {o : Oper} {t : TypeId} {x k y : Operand} (ho : o.op = .mapUpdate t x k y ∨ o.op = .insert t x k y) (hd : o.dst = none) {st' : St} (h : updA P st t (opd st x) (opd st k) (opd st y) = some st') : Stepped P K st' o a w := by
  unfold updA at h
  split at h
  case h_2 => cases h
  rename_i kt et n hu hx
  cases hn : get st.vec n with
  | none => simp [hn] at h
  | some s =>
    simp only [hn, Option.bind_some] at h
    split at h
    case isFalse => cases h
    rename_i hc
    obtain ⟨hM, hkb⟩ := hc
    obtain ⟨b, es, clock, e1, e2, e3, e4⟩ := vec_map R hx hn hM
    cases hkd : unpackMA s.ka (opd st k) with
    | none => simp [hkd] at h
    | some kd =>
      cases hvd : unpackMA s.va (opd st y) with
      | none => simp [hkd, hvd] at h
      | some vd =>
        simp only [hkd, hvd, Option.bind_some] at h
        split at h
        case isFalse => cases h
        rename_i hz
        obtain ⟨hkz, hvz⟩ := hz
        cases hf : findM P kt s.ka s.kz (opd st k) s.rows with
        | none => simp [hf] at h
        | some q =>
          simp only [hf, Option.bind_some, Option.some.injEq] at h
          subst h
          have hck := checkKey_ok hkb (R.opd k) false
          obtain ⟨r, f1, f2⟩ := findKey_ok hkb (R.opd k) e4.key.1 e4.key.2 hf
          have pk := unpackMA_pd hkd (R.opd k)
          have pv := unpackMA_pd hvd (R.opd y)
          have hzr : ∀ row ∈ s.rows, row.length = s.z := (R.vec n s hn).hz
          cases q with
          | none =>
            have hr : r = none := f2
            subst hr
            have hrun : (Instr.mapUpdate t (.map (some b)) (a.eval k) (a.eval y)).run P w = .ok () { w with heap := w.heap.setIfInBounds b (.map (es.push { key := a.eval k, val := a.eval y, born := clock }) (clock + 1)) } := by
              simp [Instr.mapUpdate, run_underlying hu, Result.andThen, MapKept.run_getObj_map e3, hck, f1, MapKept.run_setObj_map _ e3]
            have R' := mapSet (s' := { s with rows := s.rows ++ [kd ++ vd] }) R hn hM rfl e2 e3 (fun row hr => by
              rcases List.mem_append.1 hr with hr | hr
              · exact hzr row hr
              · rw [List.mem_singleton] at hr; subst hr; rw [List.length_append, hkz]; exact hvz) (mapR_push (s' := { s with rows := s.rows ++ [kd ++ vd] }) e4 rfl rfl hkz pk pv)
            refine ⟨_, p, .inr ⟨?_, by rw [hd]; exact R'⟩⟩
            rcases ho with ho | ho <;> simp [execOp, ho, e1, hrun]
          | some q =>
            obtain ⟨e, row, g1, g2, g3, g4, g5⟩ := f2
            subst g5
            have g1' : es[q.1]? = some e := by rw [← Array.getElem?_toList]; exact g1
            have hsame := kEq_same hkb g4 (R.opd k) (e4.row' g2 g1').1
            have hrun : (Instr.mapUpdate t (.map (some b)) (a.eval k) (a.eval y)).run P w = .ok () { w with heap := w.heap.setIfInBounds b (.map (es.modify q.1 fun e => { e with key := a.eval k, val := a.eval y }) clock) } := by
              simp [Instr.mapUpdate, run_underlying hu, Result.andThen, MapKept.run_getObj_map e3, hck, f1, MapKept.run_setObj_map _ e3, Instr.keyThatStays, g1', hsame]
            have R' := mapSet (s' := { s with rows := s.rows.set q.1 (kd ++ vd) }) R hn hM rfl e2 e3 (fun row hr => by
              rcases List.mem_or_eq_of_mem_set hr with hr | hr
              · exact hzr row hr
              · subst hr; rw [List.length_append, hkz]; exact hvz) (mapR_set (s' := { s with rows := s.rows.set q.1 (kd ++ vd) }) e4 rfl rfl hkz pk pv)
            refine ⟨_, p, .inr ⟨?_, by rw [hd]; exact R'⟩⟩
            rcases ho with ho | ho <;> simp [execOp, ho, e1, hrun]
theorem del_sound (R : Rel K st a w p) {o : Oper} {x y : Operand} {t t' : TypeId} (ho : o.op = .call { callee := .builtin .delete, args := #[x, y], argTypes := #[t, t'] }) {st' : St} (h : ((delA P st t (opd st x) (opd st y)).bind fun s1 => putO s1 o.dst (.tup [])) = some st') : Stepped P K st' o a w := by
  cases hs1 : delA P st t (opd st x) (opd st y) with
  | none => simp [hs1] at h
  | some s1 =>
    simp only [hs1, Option.bind_some] at h
    unfold delA at hs1
    split at hs1
    case h_2 => cases hs1
    rename_i kt et n hu hx
    cases hn : get st.vec n with
    | none => simp [hn] at hs1
    | some s =>
      simp only [hn, Option.bind_some] at hs1
      split at hs1
      case isFalse => cases hs1
      rename_i hc
      obtain ⟨hM, hkb⟩ := hc
      obtain ⟨b, es, clock, e1, e2, e3, e4⟩ := vec_map R hx hn hM
      cases hf : findM P kt s.ka s.kz (opd st y) s.rows with
      | none => simp [hf] at hs1
      | some q =>
        simp only [hf, Option.bind_some, Option.some.injEq] at hs1
        subst hs1
        have hck := checkKey_ok hkb (R.opd y) es.isEmpty
        obtain ⟨r, f1, f2⟩ := findKey_ok hkb (R.opd y) e4.key.1 e4.key.2 hf
        have hzr : ∀ row ∈ s.rows, row.length = s.z := (R.vec n s hn).hz
        cases q with
        | none =>
          have hr : r = none := f2
          subst hr
          have hrun : (Builtin.delete_ #[t, t'] o.type #[.map (some b), a.eval y]).run P w = .ok (.tuple #[]) { w with heap := w.heap.setIfInBounds b (.map es clock) } := by
            simp [Builtin.delete_, run_underlying hu, Result.andThen, MapKept.run_getObj_map e3, hck, f1, MapKept.run_setObj_map _ e3]
          have R' := mapSet (s' := { s with rows := s.rows }) R hn hM rfl e2 e3 hzr e4
          exact ⟨_, p, .inl ⟨.tuple #[], by simp [execOp, ho, resolve, invoke, builtin, e1, hrun], R'.puto (.tup rfl fun i a v ha _ => by simp at ha) h⟩⟩
        | some q =>
          obtain ⟨e, row, g1, g2, g3, g4, g5⟩ := f2
          subst g5
          have hrun : (Builtin.delete_ #[t, t'] o.type #[.map (some b), a.eval y]).run P w = .ok (.tuple #[]) { w with heap := w.heap.setIfInBounds b (.map (es.eraseIdxIfInBounds q.1) clock) } := by
            simp [Builtin.delete_, run_underlying hu, Result.andThen, MapKept.run_getObj_map e3, hck, f1, MapKept.run_setObj_map _ e3]
          have R' := mapSet (s' := { s with rows := s.rows.eraseIdx q.1 }) R hn hM rfl e2 e3 (fun row hr => hzr row ((List.eraseIdx_sublist _ _).subset hr)) (mapR_erase (s' := { s with rows := s.rows.eraseIdx q.1 }) e4 (List.getElem?_eq_some_iff.1 g2).1 rfl rfl)
          exact ⟨_, p, .inl ⟨.tuple #[], by simp [execOp, ho, resolve, invoke, builtin, e1, hrun], R'.puto (.tup rfl fun i a v ha _ => by simp at ha) h⟩⟩
theorem lenM_sound (R : Rel K st a w p) {o : Oper} {x : Operand} {t : TypeId} (ho : o.op = .call { callee := .builtin .len, args := #[x], argTypes := #[t] }) {st' : St} {n : Int} (hl : lenM P st t (opd st x) = some n) (h : putO st o.dst (.d (.int .i64 n)) = some st') : Stepped P K st' o a w := by
  unfold lenM at hl
  split at hl
  case h_2 => cases hl
  rename_i kt et m hu hx
  cases hn : get st.vec m with
  | none => simp [hn] at hl
  | some s =>
    simp only [hn, Option.bind_some] at hl
    split at hl
    case isFalse => cases hl
    rename_i hM
    obtain ⟨b, es, clock, e1, e2, e3, e4⟩ := vec_map R hx hn hM
    cases hl
    have hrun : (Builtin.len_ #[t] o.type #[.map (some b)]).run P w = .ok (goInt es.size) w := by
      simp [Builtin.len_, run_underlying hu, Result.andThen, MapKept.run_getObj_map e3]
    refine ⟨w, p, .inl ⟨goInt es.size, by simp [execOp, ho, resolve, invoke, builtin, e1, hrun], R.puto ?_ h⟩⟩
    rw [e4.size]
    exact .d .int
theorem mTag_M (t kz : Nat) (ka va : Bool) (z : Nat) (rows : List (List D)) : VS.isM ⟨mTag t kz ka va, z, rows⟩ = true := by
  unfold VS.isM mTag
  exact decide_eq_true (Nat.le_add_right _ _)
theorem mk_sound (R : Rel K st a w p) {o : Oper} {t : TypeId} {r : Option Operand} (ho : o.op = .makeMap t r) {d : Nat} (hd : o.dst = some d) {st' : St} (h : mkMA P st d t (r.map (opd st)) = some st') : Stepped P K st' o a w := by
  unfold mkMA at h
  split at h
  case h_2 => cases h
  rename_i kt et hu
  cases hk : szOf P kt with
  | none => simp [hk] at h
  | some kz =>
    cases hv : szOf P et with
    | none => simp [hk, hv] at h
    | some vz =>
      simp only [hk, hv, Option.bind_some] at h
      split at h
      case isFalse => cases h
      rename_i hh
      obtain ⟨h1, hdn, h3⟩ := hh
      cases hvd : get st.vec d with
      | some _ => simp [hvd] at h
      | none =>
        simp only [hvd, Option.some.injEq] at h
        subst h
        have hrun : (Instr.makeMap t (r.map a.eval)).run P w = .ok (.map (some w.heap.size)) (w.alloc (.map #[] 0)) := by
          cases r with
          | none => rfl
          | some x =>
            simp only [Option.map_some] at h3 ⊢
            have h3 : (intOfA (opd st x)).isSome = true := h3
            obtain ⟨n, hn⟩ := Option.isSome_iff_exists.1 h3
            obtain ⟨kk, e⟩ := intOfA_some hn (R.opd x)
            rw [e]
            simp [Instr.makeMap, run_underlying hu, Result.andThen, newObj, asInt]
            rfl
        have hal := MapKept.heap_alloc w (.map #[] 0)
        have hgr : w.grownBy (w.alloc (.map #[] 0)) none := ⟨rfl, rfl, rfl, (by show w.heap.size ≤ (w.heap.push _).size; rw [Array.size_push]; exact Nat.le_succ _), fun k hk _ => hal.2 k hk⟩
        have R' := R.newVecG (d := d) (v' := .map (some w.heap.size)) (w' := w.alloc (.map #[] 0)) (s := ⟨mTag t kz (isAggB P kt) (isAggB P et), kz + vz, []⟩) hvd hgr
          (fun ok' _ _ => .ofM (mTag_M _ _ _ _ _ _) ⟨_, #[], 0, rfl, hal.1, ⟨rfl, fun j row e h1 _ => (by have h1 : ([] : List (List D))[j]? = some row := h1; rw [List.getElem?_nil] at h1; cases h1), fun e he => (List.not_mem_nil he).elim, List.nodup_nil⟩⟩) (fun r hr => (List.not_mem_nil hr).elim) (.inr rfl)
        refine ⟨_, _, .inl ⟨_, ?_, by rw [hd]; exact R'.put (RA.vec_at (Or.inl rfl) (upd_same _ _ _)) hdn⟩⟩
        simp [execOp, ho, hrun]
end
end Go.Vl
