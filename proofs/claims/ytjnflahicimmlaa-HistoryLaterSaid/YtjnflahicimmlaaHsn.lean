/- history.Seen: what was reachable at some time, and since when, in whatever order it is met. Conditions: none. -/
import Derived.Test.YtjnflahicimmlaaHr
import Derived.Test.YtjnflahicimmlaaVmCc
set_option linter.unusedSimpArgs false
set_option linter.unusedVariables false
namespace Go.Vl
open Go Go.Proofs Go.RowKit
section
variable {P : Program} {K : Ctx P} {st : St} {Q : Exit → St → Prop}
theorem tr_loopW {c : Code} {ι : Type} (S : ι → St) (I : ι → Prop) (μ : ι → Nat) {i0 : ι} (h0 : I i0) (W : Wk st (S i0)) (round : ∀ i, I i → Tr P K c (S i) (thenQ (fun s => ∃ j, I j ∧ μ j < μ i ∧ Wk s (S j)) Q)) : Tr P K (.loop c) st Q := fun a w p R => by
  obtain ⟨p1, R1⟩ := W K a w p R
  exact wp_loop_ghost (fun n a' w' => ∃ i p', μ i = n ∧ I i ∧ Rel K (S i) a' w' p') (μ i0) ⟨i0, _, rfl, h0, R1⟩ (fun n a' w' ⟨i, p', hn, hi, R'⟩ => wp_mono (round i hi a' w' p' R') fun e a2 w2 ⟨s, p2, R2, q⟩ => by
    cases e with
    | normal =>
      obtain ⟨j, hI, hj, W2⟩ := q
      obtain ⟨p3, R3⟩ := W2 K a2 w2 p2 R2
      exact ⟨μ j, hn ▸ hj, j, _, rfl, hI, R3⟩
    | _ => exact ⟨s, p2, R2, q⟩)
end
/-- one more thing is met at a time -/
noncomputable def seenStep (t : Int) (m : List (Int × Int)) (q : Int × Bool) : List (Int × Int) := if (mget inE m q.1).isSome = true then m else mset inE m q.1 t
/-- the next event has the same time -/
def sameNext (es : List api_RefEvent) (i : Nat) (t : Int) : Bool := match es[i + 1]? with | some e => e.Time == t | none => false
theorem seen_fold (t : Int) : ∀ (l : List (Int × Bool)) (m : List (Int × Int)), foldO (fun (s : List (Int × Int)) (q : Int × Bool) => some (Lp.go (ε := List (Int × Int)) (seenStep t s q))) (fun s => s) m l = some (l.foldl (seenStep t) m)
  | [], _ => rfl
  | q :: l, m => by
    simp only [foldO, Option.bind_some, List.foldl_cons]
    exact seen_fold t l _
set_option maxHeartbeats 2000000 in
theorem history_Seen_ok {a0 : api_Repository} {all : List (Int × api_Object)} {sg : Bool} (hidx : history_index a0 = some (all, sg)) (hlen : a0.Events.length ≤ 1000000) {Rc : Int → List (Int × Bool) → Prop}
    (hR : ∀ t, FnOKr Try.prog 41 [.agg (api_Repository_av a0), .d (.mp (mTag 69 1 false true) 9 (rowsF (mRow (iRow .i64) api_Object_row) all)), .d (.int .i64 t)] (Rc t) (fun r => .d (.mp (mTag 49 1 false false) 2 (rowsF (mRow (iRow .i64) bRow) r))) (fun _ => []))
    {Φ : Nat → List (Int × Int) → Prop} (hΦ0 : Φ 0 [])
    (hΦs : ∀ i e, a0.Events[i]? = some e → sameNext a0.Events i e.Time = true → ∀ m, Φ i m → Φ (i + 1) m)
    (hΦr : ∀ i e, a0.Events[i]? = some e → sameNext a0.Events i e.Time = false → ∀ m, Φ i m → ∀ rr, Rc e.Time rr → ∀ l : List (Int × Bool), l.Perm rr → Φ (i + 1) (l.foldl (seenStep e.Time) m)) :
    FnOKr Try.prog 23 [.agg (api_Repository_av a0)] (Φ a0.Events.length) (fun r => .d (.mp (mTag 58 1 false false) 2 (rowsF (mRow (iRow .i64) (iRow .i64)) r))) (fun _ => []) := by
  refine fn_okrK (nt := 67) (rs := [.tmp 2]) Try.func23 rfl Try.ntmps23 rfl (by simp) (by decide) fun K hK => ?_
  refine kr [1] (by simp; rfl) ?_
  refine kc ?_
  refine ko [1, 12] 1 (by simp; rfl) ?_
  refine kcall [1, 13] [] (history_index_ok hidx) rfl rfl rfl Try.call31 (by simp) (by simp; rfl) ?_
  refine ko [1, 3] 5 (by simp; rfl) ?_
  refine tops_nil ?_
  refine kr [1, 3, 5] (by simp; rfl) ?_
  refine tr_seq ?_
  refine kr [1, 3, 5, 18, 19, 20] (by simp; rfl) ?_
  refine tjv (fun v : List (Int × Int) => ({ nt := 67, env := [(5, .vec 16)], box := [], vec := [(16, ⟨mTag 58 1 false false, 2, rowsF (mRow (iRow .i64) (iRow .i64)) v⟩)] } : St)) (Φ a0.Events.length) (fun v hv _ W1 => ?_) ?_
  · refine tr_wk W1 ?_
    refine kr [2] (by simp; rfl) ?_
    exact tr_ret ⟨_, hv, [16], [], by simp, by simp, by simp, by simp, by simp⟩
  · refine tr_block (tr_loopW (fun s : Nat × List (Int × Int) => ({ nt := 67, env := [(1, .ptr 1 0), (3, .d (.mp (mTag 69 1 false true) 9 (rowsF (mRow (iRow .i64) api_Object_row) all))), (5, .vec 16), (18, .d (.slice (rowsF api_RefEvent_row a0.Events))), (19, .d (.int .i64 ((a0.Events).length : Int))), (20, .d (.int .i64 (s.1 : Int)))], box := [(1, [.d (.slice (rowsF api_Object_row a0.Objects)), .d (.slice (rowsF api_RefEvent_row a0.Events))])], vec := [(16, ⟨mTag 58 1 false false, 2, rowsF (mRow (iRow .i64) (iRow .i64)) s.2⟩)] } : St)) (fun s => s.1 ≤ a0.Events.length ∧ Φ s.1 s.2) (fun s => a0.Events.length - s.1) (i0 := (0, [])) ⟨Nat.zero_le _, hΦ0⟩ (wk (by simp [weak_iff])) fun s ⟨hle, hI⟩ => ?_)
    refine kr [1, 3, 5, 18, 19, 20, 21] (by simp; rfl) ?_
    refine tr_seq ?_
    refine tr_cond (b := (decide ((s.1 : Int) < ((a0.Events).length : Int)))) (by simp) (fun c5 => ?_) (fun c5 => ?_)
    · have hlt : s.1 < a0.Events.length := by simpa using c5
      obtain ⟨e, he⟩ : ∃ e, a0.Events[s.1]? = some e := ⟨_, List.getElem?_eq_getElem hlt⟩
      refine tr_skip ?_
      refine tr_seq ?_
      refine tr_block ?_
      refine kr [1, 3, 5, 6, 7, 18, 19, 20] (by simp [he]; rfl) ?_
      have hw : IntKind.i64.wrap ((s.1 : Int) + 1) = ((s.1 + 1 : Nat) : Int) := by rw [wrapI (by omega) (by omega)]; rfl
      refine sjv (fun _ : Unit => ({ nt := 67, env := [(1, .ptr 1 0), (3, .d (.mp (mTag 69 1 false true) 9 (rowsF (mRow (iRow .i64) api_Object_row) all))), (5, .vec 16), (7, .ptr 7 0), (18, .d (.slice (rowsF api_RefEvent_row a0.Events))), (19, .d (.int .i64 ((a0.Events).length : Int))), (20, .d (.int .i64 (s.1 : Int)))], box := [(1, [.d (.slice (rowsF api_Object_row a0.Objects)), .d (.slice (rowsF api_RefEvent_row a0.Events))]), (7, [.d (.int .i64 e.Kind), .d (.str e.Name), .d (.int .i64 e.Commit), .d (.int .i64 e.Time)])], vec := [(16, ⟨mTag 58 1 false false, 2, rowsF (mRow (iRow .i64) (iRow .i64)) s.2⟩)] } : St)) (fun _ => sameNext a0.Events s.1 e.Time = false) (fun _ hsn => ?_) ?_
      · refine kc_rangeT 5 rfl rfl rfl rfl Try.underlying49 ?_
        refine ko [1, 3, 5, 7, 18, 19, 20, 43, 44, 46] 4 (by simp; rfl) ?_
        refine kcallR [1, 3, 5, 7, 18, 19, 20, 47] [] (hR e.Time) rfl rfl rfl Try.call41 (by simp) (fun _ => rfl) (fun r => by simp; rfl) fun rr hrr => ?_
        refine tops_nil ⟨mTag 49 1 false false, 2, rowsF (mRow (iRow .i64) bRow) rr, by simp, by simp, fun r => ?_⟩
        refine tri_block ?_
        refine tr_range (row := mRow (iRow .i64) bRow) (left0 := rr) (kA := fun q => .d (.int .i64 q.1)) (vA := fun q => .d (.bool q.2)) (S := fun m : List (Int × Int) => ({ nt := 67, env := [(1, .ptr 1 0), (3, .d (.mp (mTag 69 1 false true) 9 (rowsF (mRow (iRow .i64) api_Object_row) all))), (5, .vec 16), (7, .ptr 7 0), (18, .d (.slice (rowsF api_RefEvent_row a0.Events))), (19, .d (.int .i64 ((a0.Events).length : Int))), (20, .d (.int .i64 (s.1 : Int))), (48, .iter r)], box := [(1, [.d (.slice (rowsF api_Object_row a0.Objects)), .d (.slice (rowsF api_RefEvent_row a0.Events))]), (7, [.d (.int .i64 e.Kind), .d (.str e.Name), .d (.int .i64 e.Commit), .d (.int .i64 e.Time)])], vec := [(16, ⟨mTag 58 1 false false, 2, rowsF (mRow (iRow .i64) (iRow .i64)) m⟩)] } : St))
          (body := fun (m : List (Int × Int)) (q : Int × Bool) => some (Lp.go (ε := List (Int × Int)) (seenStep e.Time m q))) (fin := fun m => m) (s0 := s.2) (Φ := fun m => Φ (s.1 + 1) m)
          (List.eq_nil_of_length_eq_zero hK) ⟨rfl, rfl, rfl⟩ rfl rfl rfl rfl rfl rfl (by decide) (fun s => by simp) (fun s => by simp) (fun q => ?_) (fun q => ?_) (fun l hl => ?_) ?_ ?_ ?_
        · simp [packMA, tag_ka, tag_kz, mRow]
        · simp [packMA, tag_va, tag_kz, mRow]
        · exact ⟨_, seen_fold e.Time l s.2, hΦr _ _ he hsn _ hI _ hrr _ hl⟩
        · simp [weak_iff]
        · intro K' G m q o hK' hb hg he
          cases hb
          refine ko [1, 3, 5, 7, 8, 18, 19, 20, 48] 2 (by simp; rfl) ?_
          refine tops_nil ?_
          refine kr [1, 3, 5, 7, 8, 10, 18, 19, 20, 48] (by simp; rfl) ?_
          refine kr [1, 3, 5, 7, 8, 18, 19, 20, 48, 60] (by simp; rfl) ?_
          refine tr_cond (b := !(mget inE m q.1).isSome) (by simp) (fun c8 => ?_) (fun c8 => ?_)
          · refine lr (by simp; rfl) ?_
            have hss : seenStep e.Time m q = mset inE m q.1 e.Time := by unfold seenStep; rw [if_neg (by simpa using c8)]
            exact ⟨_, hg _ rfl, by rw [hss]; simp [weak_iff]⟩
          · refine tr_skip ?_
            have hss : seenStep e.Time m q = m := by unfold seenStep; rw [if_pos (by simpa using c8)]
            exact ⟨_, hg _ rfl, by rw [hss]; simp [weak_iff]⟩
        · intro m hm
          refine lr (by simp; rfl) ?_
          exact ⟨(s.1 + 1, m), ⟨hlt, hm⟩, by show _ - (s.1 + 1) < _; omega, wk (by simp [weak_iff, hw])⟩
      · refine kd [[], [0], [], [2], [3], [1, 4], [5], [6], [7, 6], [6], [9, 6], [8, 10, 6], [11, 6], [12, 6], [6], [14, 6], [13, 15, 6], [6, 16]] [] [] none [] 18 fol (by decide +kernel) (by simp) ?_
        refine dr_go 0 2 rfl (by simp (maxSteps := 1000000); rfl) ?_
        refine dr_go 2 2 rfl (by simp (maxSteps := 1000000); rfl) ?_
        refine dr_go 4 2 rfl (by simp (maxSteps := 1000000); rfl) ?_
        refine dr_go 6 1 rfl (by simp (maxSteps := 1000000); rfl) ?_
        refine dr_split 6 31 (decide (((s.1 + 1 : Nat) : Int) < ((a0.Events).length : Int))) (by simp [hw]) (fun c24 => ?_) (fun c24 => ?_)
        · have hlt2 : s.1 + 1 < a0.Events.length := by simp at c24; omega
          obtain ⟨e2, he2⟩ : ∃ e2, a0.Events[s.1 + 1]? = some e2 := ⟨_, List.getElem?_eq_getElem hlt2⟩
          have hsn : sameNext a0.Events s.1 e.Time = (e2.Time == e.Time) := by unfold sameNext; rw [he2]
          have hw0 : 0 ≤ IntKind.i64.wrap ((s.1 : Int) + 1) := by omega
          have hw1 : (IntKind.i64.wrap ((s.1 : Int) + 1)).toNat = s.1 + 1 := by omega
          refine dr_go 7 2 rfl (by simp (maxSteps := 1000000) [hw0, hw1, he2]; rfl) ?_
          refine dr_go 9 2 rfl (by simp (maxSteps := 1000000) [hw0, hw1, he2]; rfl) ?_
          refine dr_go 11 2 rfl (by simp (maxSteps := 1000000) [hw0, hw1, he2]; rfl) ?_
          refine dr_go 13 2 rfl (by simp (maxSteps := 1000000) [hw0, hw1, he2]; rfl) ?_
          refine dr_go 15 2 rfl (by simp (maxSteps := 1000000) [hw0, hw1, he2]; rfl) ?_
          refine dr_go 17 1 rfl (by simp (maxSteps := 1000000) [hw0, hw1, he2]; rfl) ?_
          refine dr_end rfl (tops_nil ?_)
          refine tr_cond (b := (e2.Time == e.Time)) (by simp) (fun c7 => ?_) (fun c7 => ?_)
          · refine tr_exit ?_
            refine lr (by simp; rfl) ?_
            exact ⟨(s.1 + 1, s.2), ⟨hlt, hΦs _ _ he (hsn.trans c7) _ hI⟩, by show _ - (s.1 + 1) < _; omega, wk (by simp [weak_iff, hw])⟩
          · refine tr_skip ?_
            exact ⟨(), hsn.trans c7, wk (by simp [weak_iff])⟩
        · have hn2 : a0.Events[s.1 + 1]? = none := List.getElem?_eq_none (by simp at c24; omega)
          have hsn : sameNext a0.Events s.1 e.Time = false := by unfold sameNext; rw [hn2]
          refine dr_skip 7 67 [some 32, some 33, some 34, some 35, some 36, some 37, some 38, some 39, some 40, some 41] rfl rfl (by decide) (by kernel_rfl) (by simp only [skEf, List.map_cons, List.map_nil, List.cons_append, List.nil_append]; rfl) ?_
          refine dr_go 17 1 rfl (by simp (maxSteps := 1000000); rfl) ?_
          refine dr_end rfl (tops_nil ?_)
          refine tr_cond (b := false) (by simp) (fun c7 => by cases c7) (fun c7 => ?_)
          refine tr_skip ?_
          exact ⟨(), hsn, wk (by simp [weak_iff])⟩
    · have hgt : s.1 = a0.Events.length := by simp at c5; omega
      refine tr_exit ?_
      rw [← hgt]
      exact ⟨_, hI, wk (by simp [weak_iff])⟩
end Go.Vl
