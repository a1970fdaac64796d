/- Library functions of these laws, and the function that puts a set's numbers in order: the range comes in whatever order. Conditions: none. -/
import Derived.Test.YtciimncnodejaaaGreatDoorTyX
import Derived.Test.YtciimncnodejaaaGreatDoorVmLz
import Derived.Test.YtciimncnodejaaaGreatDoorVmRg
import Derived.Test.YtciimncnodejaaaGreatDoorVmZd
import Derived.Test.YtciimncnodejaaaGreatDoorXsh2
set_option linter.unusedSimpArgs false
set_option linter.unusedVariables false
namespace Go.Vl
open Go Go.Proofs
noncomputable def slices_Sort_int_vec0 (a0 : List Int) : Option (List Int) := (ck (a0.length ≤ 268435456)).bind fun _ => some (a0.mergeSort fun x y => decide (x ≤ y))
theorem slices_Sort_int_vec0_ok {a0 r : List Int} (h0 : slices_Sort_int_vec0 a0 = some r) : FnOKh Tryz.prog 68 [] [⟨3, 1, rowsF (iRow .i64) a0⟩] [.vec (InV 0)] (.tup []) [] [⟨3, 1, rowsF (iRow .i64) r⟩] := by
  unfold slices_Sort_int_vec0 at h0
  obtain ⟨_, h1, h0⟩ := bnd h0
  cases h0
  exact sort_row Tryz.slices_Sort_int Tryz.slices_Sort_int_none a0 (ck_some h1)
/-- the keys of a set, in order -/
noncomputable def notice_sorted (a0 : List (Int × Bool)) : Option (List Int) := (ck (a0.length ≤ 268435456)).bind fun _ => some ((a0.map (·.1)).mergeSort fun x y => decide (x ≤ y))
theorem sort_perm {a b : List Int} (h : a.Perm b) : (a.mergeSort fun x y => decide (x ≤ y)) = b.mergeSort fun x y => decide (x ≤ y) := by
  refine List.Perm.eq_of_pairwise (le := fun x y : Int => x ≤ y) (fun x y _ _ h1 h2 => by omega) ?_ ?_ ((List.mergeSort_perm ..).trans (h.trans (List.mergeSort_perm ..).symm))
  · refine List.Pairwise.imp (fun {a b} h => ?_) (List.pairwise_mergeSort (le := fun x y : Int => decide (x ≤ y)) (fun a b c h1 h2 => by simp at h1 h2 ⊢; omega) (fun a b => by simp; omega) a)
    simpa using h
  · refine List.Pairwise.imp (fun {a b} h => ?_) (List.pairwise_mergeSort (le := fun x y : Int => decide (x ≤ y)) (fun a b c h1 h2 => by simp at h1 h2 ⊢; omega) (fun a b => by simp; omega) b)
    simpa using h
/-- the keys are put one behind the other, whatever the order -/
theorem keys_fold {ν : Type} (n : Nat) : ∀ (l : List (Int × ν)) (s : List Int), s.length + l.length ≤ n → foldO (fun (s : List Int) (q : Int × ν) => (ck (s.length + 1 ≤ n)).bind fun _ => some (Lp.go (ε := List Int) (s ++ [q.1]))) (fun s => s) s l = some (s ++ l.map (·.1))
  | [], s, _ => by simp [foldO]
  | q :: l, s, h => by
    simp only [foldO]
    rw [show ck (s.length + 1 ≤ n) = some () from if_pos (by simp at h; omega)]
    simp only [Option.bind_some]
    rw [keys_fold n l _ (by simp at h ⊢; omega)]
    simp
set_option maxHeartbeats 1000000 in
theorem notice_sorted_ok {a0 : List (Int × Bool)} {r : List Int} (h0 : notice_sorted a0 = some r) : FnOK Tryz.prog 45 [] [.d (.mp (mTag 69 1 false false) 2 (rowsF (mRow (iRow .i64) bRow) a0))] (.d (.slice (rowsF (iRow .i64) r))) [] := by
  unfold notice_sorted at h0
  obtain ⟨_, h1, h0⟩ := bnd h0
  have h1 := ck_some h1
  cases h0
  refine fn_okK (nt := 18) (rs := [.tmp 2]) Tryz.func45 rfl Tryz.ntmps45 rfl (by simp) (by decide) rfl fun K hK => ?_
  refine kr [0, 2] (by simp; rfl) ?_
  refine kr [0, 3] (by simp; rfl) ?_
  refine sjv (fun v : List Int => ({ nt := 18, env := [(3, .vec 14)], box := [], vec := [(14, ⟨3, 1, rowsF (iRow .i64) v⟩)] } : St)) (fun v => v.Perm (a0.map (·.1))) (fun v hv => ?_) ?_
  · have hy : slices_Sort_int_vec0 v = some ((a0.map (·.1)).mergeSort fun x y => decide (x ≤ y)) := by
      unfold slices_Sort_int_vec0
      rw [ck_t (by rw [hv.length_eq]; simpa using h1), ← sort_perm hv]; rfl
    refine kc ?_
    refine ko [3, 15] 1 (by simp; rfl) ?_
    refine kcallH [3] [] [14] [(3, 14), (15, 14)] (slices_Sort_int_vec0_ok hy) rfl rfl rfl Tryz.call68 (by simp) (by simp; rfl) ?_
    refine tops_nil ?_
    refine tr_frz 14 ?_
    refine kr [2] (by simp; rfl) ?_
    exact tr_ret ⟨[], by simp, rfl, by simp⟩
  · refine tr_own 3 14 3 1 (by simp) (by simp) ?_
    refine kc_range [3, 5] 1 (by simp; rfl) rfl rfl rfl rfl Tryz.underlying69 (by simp; exact ⟨rfl, rfl, rfl⟩) (by simp) fun r => ?_
    refine tri_block ?_
    refine tr_range (row := mRow (iRow .i64) bRow) (left0 := a0) (kA := fun q => .d (.int .i64 q.1)) (vA := fun q => .d (.bool q.2)) (S := fun s : List Int => ({ nt := 18, env := [(3, .vec 14), (6, .iter r)], box := [], vec := [(14, ⟨3, 1, rowsF (iRow .i64) s⟩)] } : St))
      (body := fun (s : List Int) (q : Int × Bool) => (ck (s.length + 1 ≤ 268435456)).bind fun _ => some (Lp.go (ε := List Int) (s ++ [q.1]))) (fin := fun s => s) (s0 := []) (Φ := fun e => e.Perm (a0.map (·.1)))
      (List.eq_nil_of_length_eq_zero (by simpa using hK)) ⟨rfl, rfl, rfl⟩ rfl rfl rfl rfl rfl rfl (by decide) (fun s => by simp) (fun s => by simp) (fun q => ?_) (fun q => ?_) (fun l hl => ?_) ?_ ?_ ?_
    · simp [packMA, tag_ka, tag_kz, mRow]
    · simp [packMA, tag_va, tag_kz, mRow]
    · refine ⟨l.map (·.1), ?_, hl.map _⟩
      rw [keys_fold 268435456 l [] (by rw [hl.length_eq]; simpa using h1)]; rfl
    · simp [weak_iff]
    · intro K' G s q o hK' hb hg he
      obtain ⟨_, h2, hb⟩ := bnd hb
      have h2 := ck_some h2
      have h3 : s.length ≤ 268435455 := by omega
      cases hb
      refine ko [3, 4, 6] 2 (by simp; rfl) ?_
      refine tops_nil ?_
      refine lr (by simp [h3]; rfl) ?_
      exact ⟨_, hg _ rfl, by simp [weak_iff]⟩
    · intro s hs
      exact ⟨s, hs, wk (by simp [weak_iff])⟩
end Go.Vl
