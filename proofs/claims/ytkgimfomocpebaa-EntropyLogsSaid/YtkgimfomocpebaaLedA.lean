/- Walks over functions of the given program in the value logic: what each computes, and plain laws of it. Conditions: none. -/
import Derived.Test.YtkgimfomocpebaaTyA
set_option linter.unusedSimpArgs false
set_option linter.unusedVariables false
namespace Go.Vl
open Go Go.Proofs

/-! The tape -/
def ints (l : List Int) : List (List D) := l.map fun n => [.int .i64 n]
@[simp] theorem ints_length (l : List Int) : (ints l).length = l.length := by simp [ints]
theorem ints_get {l : List Int} {i : Nat} {x : Int} (h : l[i]? = some x) : (ints l)[i]? = some [.int .i64 x] := by simp [ints, h]
structure Tape where
  l : List Int
  p : Nat
  hl : l.length ≤ 4294967296
def Tape.cells (t : Tape) : List AV := [.d (.slice (ints t.l)), .d (.int .i64 t.p)]
def Tape.nextT (t : Tape) : Tape := if t.p < t.l.length then { t with p := t.p + 1 } else t
def Tape.nextV (t : Tape) (n : Int) : Int := ((t.l[t.p]?.getD 0) % 65536) % n
theorem Tape.next_lt (t : Tape) {n : Int} (hn : 0 < n) : 0 ≤ t.nextV n ∧ t.nextV n < n := ⟨Int.emod_nonneg _ (by omega), Int.emod_lt_of_pos _ hn⟩

theorem next_ok (t : Tape) (n : Int) (hn : 0 < n) : FnOK Try.prog 11 [t.cells] [.ptr (InO 0) 0, .d (.int .i64 n)] (.d (.int .i64 (t.nextV n))) [t.nextT.cells] := by
  have hl := t.hl
  refine fn_ok (nt := 37) (rs := [.tmp 4]) Try.func11 rfl Try.ntmps11 rfl (by simp) (by decide) rfl fun K => ?_
  refine sr (by simp; rfl) ?_ -- region 0 "make.go:21"
  refine tr_seq ?_
  refine sd fol (by decide +kernel) (by simp [Tape.cells]; rfl) ?_ -- region 1 "make.go:22"
  refine tr_cond (by simp; rfl) (fun h => ?_) (fun h => ?_) -- t15
  · simp [ints] at h
    have e1 : t.nextV n = 0 := by simp [Tape.nextV, show t.l.length ≤ t.p by omega]
    have e2 : t.nextT = t := by simp [Tape.nextT]; omega
    refine sr (by simp; rfl) ?_ -- region 2 "make.go:23"
    exact tr_ret ⟨[], by simp [e1], rfl, by simp [e2, Tape.cells]⟩
  · simp [ints] at h
    have hk : t.l[t.p]? = some t.l[t.p] := by simp [h]
    have e2 : t.nextT = { t with p := t.p + 1 } := by simp [Tape.nextT, h]
    refine tr_skip ?_
    refine sd fol (by decide +kernel) (by simp [ints, hk, bAnd16]; rfl) ?_ -- region 3 "make.go:25"
    refine sr (by simp; rfl) ?_ -- region 4 "make.go:26"
    refine sr (by simp [show n ≠ 0 by omega]; rfl) ?_ -- region 5 "make.go:27"
    refine tr_ret ⟨[], ?_, rfl, ?_⟩
    · simp only [resLA, resA, frzs, St.look, get, Option.map, Option.bind, packA, AV.fin]
      simp [Tape.nextV, hk]
      exact Int.tmod_eq_emod_of_nonneg (Int.emod_nonneg _ (by omega))
    · simp [e2, Tape.cells, ints]
      rw [wrapI (by omega) (by omega)]

theorem between_ok (t : Tape) (a b : Int) (h : a ≤ b) (ha : -4294967296 ≤ a) (hb : b ≤ 4294967296) : FnOK Try.prog 20 [t.cells] [.ptr (InO 0) 0, .d (.int .i64 a), .d (.int .i64 b)] (.d (.int .i64 (a + t.nextV (b - a + 1)))) [t.nextT.cells] := by
  have hv := t.next_lt (n := b - a + 1) (by omega)
  refine fn_ok (nt := 15) (rs := [.tmp 6]) Try.func20 rfl Try.ntmps20 rfl (by simp) (by decide) rfl fun K => ?_
  refine sr (by simp; rfl) ?_ -- region 0
  refine sc ?_
  have e1 : IntKind.i64.wrap (b - a) = b - a := wrapI (by omega) (by omega)
  have e2 : IntKind.i64.wrap (b - a + 1) = b - a + 1 := wrapI (by omega) (by omega)
  refine so 6 (by simp [e1, e2]; rfl) ?_
  refine tops_call [1000000] (next_ok t (b - a + 1) (by omega)) (by simp) rfl rfl rfl Try.call11 (by simp) (by simp) (by simp) (by simp [Tape.cells]) (by simp) ?_
  have e3 : IntKind.i64.wrap (a + t.nextV (b - a + 1)) = a + t.nextV (b - a + 1) := wrapI (by omega) (by omega)
  refine sl (by simp [e3]; rfl) ?_
  exact tr_ret ⟨[], by simp, rfl, by simp [Tape.cells]⟩

/-! Records -/
structure Rec where
  k : Int
  s : Int
  u : Int
  v : Int
def Rec.row (r : Rec) : List D := [.int .i64 r.k, .int .i64 r.s, .int .i64 r.u, .int .i64 r.v]
def recs (l : List Rec) : List (List D) := l.map Rec.row
@[simp] theorem recs_length (l : List Rec) : (recs l).length = l.length := by simp [recs]
theorem recs_get {l : List Rec} {i : Nat} {r : Rec} (h : l[i]? = some r) : (recs l)[i]? = some r.row := by simp [recs, h]
@[simp] theorem row_length (r : Rec) : r.row.length = 4 := rfl
@[simp] theorem recs_z (l : List Rec) : (∀ r ∈ recs l, r.length = 4) ↔ True := by simp [recs]

theorem among_t {n lo hi : Int} (h1 : lo ≤ n) (h2 : n ≤ hi) : FnOK Try.prog 24 [] [.d (.int .i64 n), .d (.int .i64 lo), .d (.int .i64 hi)] (.d (.bool true)) [] := by
  refine fn_ok (nt := 15) (rs := [.tmp 6]) Try.func24 rfl Try.ntmps24 rfl (by simp) (by decide) rfl fun K => ?_
  refine sr (by simp; rfl) ?_
  refine sr (by simp [h1, h2]; rfl) ?_
  exact tr_ret ⟨[], by simp, rfl, by simp⟩
theorem among_f {n lo hi : Int} (h : ¬ (lo ≤ n ∧ n ≤ hi)) : FnOK Try.prog 24 [] [.d (.int .i64 n), .d (.int .i64 lo), .d (.int .i64 hi)] (.d (.bool false)) [] := by
  refine fn_ok (nt := 15) (rs := [.tmp 6]) Try.func24 rfl Try.ntmps24 rfl (by simp) (by decide) rfl fun K => ?_
  refine sr (by simp; rfl) ?_
  by_cases h1 : lo ≤ n
  · have h2 : ¬ n ≤ hi := fun h2 => h ⟨h1, h2⟩
    refine sr (by simp [h1, h2]; rfl) ?_
    exact tr_ret ⟨[], by simp, rfl, by simp⟩
  · refine sr (by simp [h1]; rfl) ?_
    exact tr_ret ⟨[], by simp, rfl, by simp⟩

def okRec (known : Int) (r : Rec) : Prop := (known ≤ r.k ∧ r.k ≤ 1099511627776) ∧ (0 ≤ r.s ∧ r.s ≤ 1099511627776) ∧ (0 ≤ r.u ∧ r.u ≤ 15) ∧ (-1000000 ≤ r.v ∧ r.v ≤ 1000000)
instance (k : Int) (r : Rec) : Decidable (okRec k r) := by unfold okRec; infer_instance
def chk : Int → List Rec → Prop
  | _, [] => True
  | k, r :: l => okRec k r ∧ chk r.k l
instance chkDec : (k : Int) → (l : List Rec) → Decidable (chk k l)
  | _, [] => isTrue trivial
  | k, r :: l => by unfold chk; have := chkDec r.k l; infer_instance
def Valid (l : List Rec) : Prop := l.length ≤ 100 ∧ chk 0 l
instance (l : List Rec) : Decidable (Valid l) := by unfold Valid; infer_instance
def knownAt (l : List Rec) : Nat → Int
  | 0 => 0
  | i + 1 => (l[i]?.map Rec.k).getD 0
def errOf (l : List Rec) : Int := if Valid l then 0 else 44

theorem check_ok (l : List Rec) : FnOK Try.prog 18 [] [.d (.slice (recs l))] (.d (.int .i64 (errOf l))) [] := by
  refine fn_ok (nt := 41) (rs := [.tmp 2]) Try.func18 rfl Try.ntmps18 rfl (by simp) (by decide) rfl fun K => ?_
  refine sr (by simp; rfl) ?_ -- region 0 "ledger.go:21"
  refine tr_seq ?_
  refine sr (by simp; rfl) ?_ -- region 1 "ledger.go:22"
  refine tr_cond (by simp; rfl) (fun h => ?_) (fun h => ?_) -- t8
  · simp at h
    have e : errOf l = 44 := by simp [errOf, Valid]; omega
    refine sr (by simp; rfl) ?_ -- region 2 "ledger.go:23"
    exact tr_ret ⟨[], by simp [e], rfl, by simp⟩
  · simp at h
    have hlen : l.length ≤ 100 := by omega
    refine tr_skip ?_
    refine sr (by simp; rfl) ?_ -- region 3 "ledger.go:25"
    refine tr_seq ?_
    refine sr (by simp; rfl) ?_ -- region 4 "ledger.go:26"
    refine tr_block (tr_loop (ι := { i : Nat // i ≤ l.length ∧ (chk 0 l ↔ chk (knownAt l i) (l.drop i)) })
      (fun k => { nt := 41, env := [(9, .d (.slice (recs l))), (10, .d (.int .i64 l.length)), (11, .d (.int .i64 k.1)), (3, .d (.int .i64 (knownAt l k.1)))], box := [], vec := [] })
      (fun k => l.length - k.1) ⟨0, by simp, by simp [knownAt]⟩ (by simp [weak_iff, knownAt]) fun ⟨k, hk, hchk⟩ => ?_) -- block 0
    refine sr (by simp; rfl) ?_ -- region 5 "ledger.go:26"
    refine tr_seq ?_
    refine tr_cond (by simp; rfl) (fun h => ?_) (fun h => ?_) -- t12
    · simp at h
      have hr : l[k]? = some l[k] := by simp [h]
      generalize hrk : l[k] = r at hr
      have hrow := recs_get hr
      have hstep : chk (knownAt l k) (l.drop k) ↔ okRec (knownAt l k) r ∧ chk r.k (l.drop (k + 1)) := by
        rw [List.drop_eq_getElem_cons h, hrk]; rfl
      refine tr_skip ?_
      refine tr_seq ?_
      refine tr_block ?_ -- block 1
      refine sr (by simp [hrow, Rec.row]; rfl) ?_ -- region 6 "ledger.go:26"
      refine tr_seq ?_
      refine sc ?_ -- region 7 "ledger.go:27"  GUARDED
      refine so 3 (by simp; rfl) ?_
      have bad : ¬ okRec (knownAt l k) r → errOf l = 44 := fun hb => by
        have : ¬ Valid l := fun hv => hb (hstep.1 (hchk.1 hv.2)).1
        simp [errOf, this]
      by_cases c1 : knownAt l k ≤ r.k ∧ r.k ≤ 1099511627776
      · refine tops_call [] (among_t c1.1 c1.2) (by simp) rfl rfl rfl Try.call24 (by simp) (by simp) (by simp) (by simp) (by simp) ?_
        refine so 4 (by simp; rfl) ?_
        by_cases c2 : 0 ≤ r.s ∧ r.s ≤ 1099511627776
        · refine tops_call [] (among_t c2.1 c2.2) (by simp) rfl rfl rfl Try.call24 (by simp) (by simp) (by simp) (by simp) (by simp) ?_
          refine so 5 (by simp; rfl) ?_
          by_cases c3 : 0 ≤ r.u ∧ r.u ≤ 15
          · refine tops_call [] (among_t c3.1 c3.2) (by simp) rfl rfl rfl Try.call24 (by simp) (by simp) (by simp) (by simp) (by simp) ?_
            refine so 5 (by simp; rfl) ?_
            by_cases c4 : -1000000 ≤ r.v ∧ r.v ≤ 1000000
            · refine tops_call [] (among_t c4.1 c4.2) (by simp) rfl rfl rfl Try.call24 (by simp) (by simp) (by simp) (by simp) (by simp) ?_
              refine sl (by simp; rfl) ?_
              refine tr_cond (by simp; rfl) (fun h => by cases h) (fun _ => ?_) -- t37
              refine tr_skip ?_
              refine lr (by simp; rfl) ?_ -- region 9 "ledger.go:30"
              refine lr (by simp; rfl) ?_ -- region 10 "ledger.go:26"
              have e1 : IntKind.i64.wrap ((k : Int) + 1) = ((k + 1 : Nat) : Int) := wrapI (by omega) (by omega)
              have e2 : knownAt l (k + 1) = r.k := by simp [knownAt, hr]
              exact ⟨⟨k + 1, by omega, hchk.trans (hstep.trans (by rw [e2]; exact ⟨fun h => h.2, fun h => ⟨⟨c1, c2, c3, c4⟩, h⟩⟩))⟩, by simp; omega, by simp [weak_iff, e1, e2]⟩
            · refine tops_call [] (among_f c4) (by simp) rfl rfl rfl Try.call24 (by simp) (by simp) (by simp) (by simp) (by simp) ?_
              refine sl (by simp; rfl) ?_
              refine tr_cond (by simp; rfl) (fun _ => ?_) (fun h => by cases h) -- t37
              refine sr (by simp; rfl) ?_
              exact tr_ret ⟨[], by simp [bad fun hb => c4 hb.2.2.2], rfl, by simp⟩
          · refine tops_call [] (among_f c3) (by simp) rfl rfl rfl Try.call24 (by simp) (by simp) (by simp) (by simp) (by simp) ?_
            refine sl (by simp; rfl) ?_
            refine tr_cond (by simp; rfl) (fun _ => ?_) (fun h => by cases h) -- t37
            refine sr (by simp; rfl) ?_
            exact tr_ret ⟨[], by simp [bad fun hb => c3 hb.2.2.1], rfl, by simp⟩
        · refine tops_call [] (among_f c2) (by simp) rfl rfl rfl Try.call24 (by simp) (by simp) (by simp) (by simp) (by simp) ?_
          refine sl (by simp; rfl) ?_
          refine tr_cond (by simp; rfl) (fun _ => ?_) (fun h => by cases h) -- t37
          refine sr (by simp; rfl) ?_
          exact tr_ret ⟨[], by simp [bad fun hb => c2 hb.2.1], rfl, by simp⟩
      · refine tops_call [] (among_f c1) (by simp) rfl rfl rfl Try.call24 (by simp) (by simp) (by simp) (by simp) (by simp) ?_
        refine sl (by simp; rfl) ?_
        refine tr_cond (by simp; rfl) (fun _ => ?_) (fun h => by cases h) -- t37
        refine sr (by simp; rfl) ?_
        exact tr_ret ⟨[], by simp [bad fun hb => c1 hb.1], rfl, by simp⟩
    · simp at h
      have : l.drop k = [] := List.drop_eq_nil_of_le (by omega)
      have e : errOf l = 0 := by
        have : Valid l := ⟨hlen, hchk.2 (by rw [this]; trivial)⟩
        simp [errOf, this]
      refine tr_exit ?_ -- 0
      refine sr (by simp; rfl) ?_ -- region 11 "ledger.go:32"
      exact tr_ret ⟨[], by simp [e], rfl, by simp⟩
end Go.Vl
