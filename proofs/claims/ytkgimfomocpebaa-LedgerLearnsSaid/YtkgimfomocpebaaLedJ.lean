/- Walks over functions of the given program in the value logic: what each computes, and plain laws of it. Conditions: none. -/
import Derived.Test.YtkgimfomocpebaaLedI
set_option linter.unusedSimpArgs false
set_option linter.unusedVariables false
namespace Go.Vl
open Go Go.Proofs

theorem chg_len (l : List Rec) (u t : Int) : ∀ i, (chg l u t i).1.length ≤ i
  | 0 => by simp [chg]
  | i + 1 => by
    have ih := chg_len l u t i
    simp only [chg]
    repeat' split
    all_goals first | omega | (simp; omega)
theorem chg_step {l : List Rec} (hv : Valid l) (u t : Int) {i : Nat} {r : Rec} (hr : l[i]? = some r) :
    (B l u t r.k = (chg l u t i).2 ∧ chg l u t (i + 1) = chg l u t i) ∨
    (∃ j rj, B l u t r.k = some j ∧ l[j]? = some rj ∧ B l u t r.k ≠ (chg l u t i).2 ∧ chg l u t (i + 1) = ((chg l u t i).1 ++ [(rj.v, j)], some j)) := by
  have hi : i < l.length := (List.getElem?_eq_some_iff.1 hr).1
  have hn := (chg_inv hv u t (i + 1) (by omega)).now r (by omega) (by simpa using hr)
  by_cases he : B l u t r.k = (chg l u t i).2
  · left; refine ⟨he, ?_⟩; simp only [chg, hr]; rw [if_pos he]
  · right
    cases hb : B l u t r.k with
    | none =>
      have : chg l u t (i + 1) = chg l u t i := by simp only [chg, hr]; rw [if_neg he, hb]
      rw [this] at hn; exact absurd hn.symm he
    | some j =>
      obtain ⟨rj, hrj, _⟩ := B_some hb
      refine ⟨j, rj, rfl, hrj, by rw [← hb]; exact he, ?_⟩
      simp only [chg, hr]; rw [if_neg he, hb]; simp [hrj]
theorem outI_inj {a b : Option Nat} : outI a = outI b ↔ a = b := by
  constructor
  · intro h
    cases a <;> cases b <;> simp [outI] at h ⊢ <;> omega
  · intro h; rw [h]

def bels (c : List (Int × Nat)) : List (List D) := c.map fun x => [.int .i64 x.1, .int .i64 x.2]
@[simp] theorem bels_length (c : List (Int × Nat)) : (bels c).length = c.length := by simp [bels]
theorem bels_get {c : List (Int × Nat)} {i : Nat} {x : Int × Nat} (h : c[i]? = some x) : (bels c)[i]? = some [.int .i64 x.1, .int .i64 x.2] := by simp [bels, h]
def chgR (l : List Rec) (u t : Int) : List (Int × Nat) × Int := if Valid l then ((chg l u t l.length).1, 0) else ([], 44)
def chgA (c : List (Int × Nat) × Int) : AV := .tup [.d (.slice (bels c.1)), .d (.int .i64 c.2)]

set_option maxHeartbeats 4000000 in
theorem changes_ok (l : List Rec) (u t : Int) (hlen : l.length ≤ 4294967296) : FnOK Try.prog 14 [] [.d (.slice (recs l)), .d (.int .i64 u), .d (.int .i64 t)] (chgA (chgR l u t)) [] := by
  refine fn_ok (nt := 47) (rs := [.tmp 6, .tmp 7]) Try.func14 rfl Try.ntmps14 rfl (by simp) (by decide) rfl fun K => ?_
  refine sr (by simp; rfl) ?_ -- region 0
  refine tr_seq ?_
  refine sc ?_ -- region 1
  refine so 1 (by simp; rfl) ?_
  refine tops_call [] (check_ok l) (by simp) rfl rfl rfl Try.call18 (by simp) (by simp) (by simp) (by simp) (by simp) ?_
  refine sl (by simp; rfl) ?_
  refine sr (by simp; rfl) ?_ -- region 2
  by_cases hv : Valid l
  · have e0 : errOf l = 0 := by simp [errOf, hv]
    have h100 := hv.1
    refine tr_cond (b := false) (by simp [e0]) (fun h => by cases h) (fun _ => ?_)
    refine tr_skip ?_
    refine sr (by simp; rfl) ?_ -- region 4
    refine sr (by simp; rfl) ?_ -- region 5
    refine tr_seq ?_
    refine sr (by simp; rfl) ?_ -- region 6
    refine tr_own 9 43 36 2 (by simp) (by simp) ?_
    refine tr_block (tr_loop (ι := { i : Nat // i ≤ l.length })
      (fun i => { nt := 47, env := [(19, .d (.slice (recs l))), (20, .d (.int .i64 l.length)), (21, .d (.int .i64 i.1)), (9, .vec 43), (10, .d (.int .i64 (outI (chg l u t i.1).2))), (0, .d (.slice (recs l))), (1, .d (.int .i64 u)), (2, .d (.int .i64 t))], box := [], vec := [(43, ⟨36, 2, bels (chg l u t i.1).1⟩)] })
      (fun i => l.length - i.1) ⟨0, by simp⟩ (by simp [weak_iff, chg, outI, bels]) fun ⟨i, hi⟩ => ?_) -- block 0
    refine sr (by simp; rfl) ?_ -- region 7
    refine tr_seq ?_
    refine tr_cond (by simp; rfl) (fun h2 => ?_) (fun h2 => ?_)
    · simp at h2
      have hr : l[i]? = some l[i] := by simp [h2]
      generalize l[i] = r at hr
      have hst := chg_step hv u t hr
      have hcl := chg_len l u t i
      have hcl' : (chg l u t i).1.length ≤ 268435455 := by omega
      have hrow := recs_get hr
      have e3 : IntKind.i64.wrap ((i : Int) + 1) = ((i + 1 : Nat) : Int) := wrapI (by omega) (by omega)
      refine tr_skip ?_
      refine tr_seq ?_
      refine tr_block ?_ -- block 1
      refine sr (by simp [hrow, Rec.row]; rfl) ?_ -- region 8
      refine sc ?_ -- region 9
      refine so 5 (by simp; rfl) ?_
      refine tops_call [] (bel_ok l r.k u t hlen) (by simp) rfl rfl rfl Try.call21 (by simp) (by simp) (by simp) (by simp) (by simp) ?_
      refine sl (by simp; rfl) ?_
      refine sr (by simp; rfl) ?_ -- region 10
      rcases hst with ⟨hb, hc⟩ | ⟨j, rj, hb, hrj, hne, hc⟩
      · have hb' : outI (bel l r.k u t l.length) = outI (chg l u t i).2 := outI_inj.2 hb
        refine tr_cond (b := false) (by simp [hb']) (fun h => by cases h) (fun _ => ?_)
        refine tr_skip ?_
        refine lr (by simp [e3]; rfl) ?_ -- region 12
        exact ⟨⟨i + 1, by omega⟩, by simp; omega, by simp [weak_iff, hc]⟩
      · have hb2 : bel l r.k u t l.length = some j := hb
        have hb' : ¬ outI (some j) = outI (chg l u t i).2 := by
          rw [outI_inj, ← hb]; exact hne
        have hrowj := recs_get hrj
        refine tr_cond (b := true) (by simp [hb2, hb']) (fun _ => ?_) (fun h => by cases h)
        refine lr (by simp [hb2, outI, hrowj, Rec.row, hcl']; rfl) ?_ -- region 11
        refine lr (by simp [e3]; rfl) ?_ -- region 12
        exact ⟨⟨i + 1, by omega⟩, by simp; omega, by simp [weak_iff, hc, bels, outI]⟩
    · simp at h2
      obtain rfl : i = l.length := by omega
      refine tr_exit ?_ -- 0
      refine sr (by simp; rfl) ?_ -- region 13
      exact tr_ret ⟨[43], by simp [chgA, chgR, hv], rfl, by simp⟩
  · have e0 : errOf l = 44 := by simp [errOf, hv]
    refine tr_cond (b := true) (by simp [e0]) (fun _ => ?_) (fun h => by cases h)
    refine sr (by simp [e0]; rfl) ?_ -- region 3
    exact tr_ret ⟨[], by simp [chgA, chgR, hv, bels], rfl, by simp⟩

/-- the first time at which a value is believed -/
def learn (l : List Rec) (c : List (Int × Nat)) (v : Int) : Option Int := (c.find? fun x => x.1 == v).map fun x => (l[x.2]?.map Rec.k).getD 0
def learnA (o : Option Int) : AV := .tup [.d (.int .i64 (o.getD 0)), .d (.bool o.isSome)]

set_option maxHeartbeats 4000000 in
theorem learned_ok (l : List Rec) (u t v : Int) (hlen : l.length ≤ 4294967296) : FnOK Try.prog 13 [] [.d (.slice (recs l)), .d (.int .i64 u), .d (.int .i64 t), .d (.int .i64 v)] (learnA (learn l (chgR l u t).1 v)) [] := by
  refine fn_ok (nt := 38) (rs := [.tmp 8, .tmp 9]) Try.func13 rfl Try.ntmps13 rfl (by simp) (by decide) rfl fun K => ?_
  have hmem : ∀ x ∈ (chgR l u t).1, ∃ r, l[x.2]? = some r := by
    intro x hx
    unfold chgR at hx
    split at hx
    · rename_i hv; obtain ⟨r, hr, _⟩ := (chg_inv hv u t l.length (Nat.le_refl _)).mem x hx; exact ⟨r, hr⟩
    · simp at hx
  have hcl : (chgR l u t).1.length ≤ l.length := by
    unfold chgR; split
    · exact chg_len l u t l.length
    · simp
  have hok := changes_ok l u t hlen
  generalize chgR l u t = c at *
  refine sr (by simp; rfl) ?_ -- region 0
  refine sc ?_ -- region 1
  refine so 3 (by simp; rfl) ?_
  refine tops_call [] hok (by simp) rfl rfl rfl Try.call14 (by simp) (by simp) (by simp) (by simp) (by simp) ?_
  refine sl (by simp [chgA]; rfl) ?_
  refine tr_seq ?_
  refine sr (by simp; rfl) ?_ -- region 2
  refine tr_block (tr_loop (ι := { i : Nat // i ≤ c.1.length ∧ learn l c.1 v = learn l (c.1.drop i) v })
    (fun i => { nt := 38, env := [(21, .d (.slice (bels c.1))), (22, .d (.int .i64 c.1.length)), (23, .d (.int .i64 i.1)), (0, .d (.slice (recs l))), (3, .d (.int .i64 v))], box := [], vec := [] })
    (fun i => c.1.length - i.1) ⟨0, by simp⟩ (by simp [weak_iff]) fun ⟨i, hi, hf⟩ => ?_) -- block 0
  refine sr (by simp; rfl) ?_ -- region 3
  refine tr_seq ?_
  refine tr_cond (by simp; rfl) (fun h2 => ?_) (fun h2 => ?_)
  · simp at h2
    have hx : c.1[i]? = some c.1[i] := by simp [h2]
    have hdr : c.1.drop i = c.1[i] :: c.1.drop (i + 1) := List.drop_eq_getElem_cons h2
    generalize c.1[i] = x at hx hdr
    obtain ⟨r, hr⟩ := hmem x (List.mem_of_getElem? hx)
    have hrow := recs_get hr
    have hrx := bels_get hx
    have e3 : IntKind.i64.wrap ((i : Int) + 1) = ((i + 1 : Nat) : Int) := wrapI (by omega) (by omega)
    refine tr_skip ?_
    refine tr_seq ?_
    refine tr_block ?_ -- block 1
    refine sr (by simp [hrx]; rfl) ?_ -- region 4
    refine sr (by simp; rfl) ?_ -- region 5
    cases hc : x.1 == v with
    | true =>
      have hL : learn l c.1 v = some r.k := by rw [hf, hdr]; simp only [learn, List.find?_cons, hc, Option.map_some, hr, Option.getD_some]
      refine tr_cond (b := true) (by simp [hc]) (fun _ => ?_) (fun h => by cases h)
      refine sr (by simp [hrow, Rec.row]; rfl) ?_ -- region 6
      exact tr_ret ⟨[], by simp [hL, learnA], rfl, by simp⟩
    | false =>
      refine tr_cond (b := false) (by simp [hc]) (fun h => by cases h) (fun _ => ?_)
      refine tr_skip ?_
      refine lr (by simp [e3]; rfl) ?_ -- region 7
      refine ⟨⟨i + 1, by omega, ?_⟩, by simp; omega, by simp [weak_iff]⟩
      rw [hf, hdr]; simp only [learn, List.find?_cons, hc]
  · simp at h2
    obtain rfl : i = c.1.length := by omega
    have hL : learn l c.1 v = none := by rw [hf]; simp [learn]
    refine tr_exit ?_ -- 0
    refine sr (by simp; rfl) ?_ -- region 8
    exact tr_ret ⟨[], by simp [hL, learnA], rfl, by simp⟩
end Go.Vl
