/- Walks: each function of the given program computes what its mirror says. Conditions: none. -/
import Derived.Test.YtclmnpkhopioiaaRw2
set_option linter.unusedSimpArgs false
set_option linter.unusedVariables false
namespace Go.Vl
open Go Go.Proofs
set_option maxHeartbeats 1000000 in
theorem ref23_Has_ok {a0 : List Int} {a1 : Int} {r : Bool} (h0 : ref23_Has a0 a1 = some r) : FnOK Try.prog 42 [] [.d (.slice (rowsF (iRow .i64) a0)), .d (.int .i64 a1)] (.d (.bool r)) [] := by
  unfold ref23_Has at h0
  refine fn_ok (nt := 17) (rs := [.tmp 4]) Try.func42 rfl Try.ntmps42 rfl (by simp) (by decide) rfl fun K => ?_
  refine kr [0, 1] (by simp; rfl) ?_
  refine tr_seq ?_
  refine kr [1, 7, 8, 9] (by simp; rfl) ?_
  replace h0 := bnd h0; obtain ⟨e1, hI1, h0⟩ := h0
  refine tjv (fun v1 : Unit => ({ nt := 17, env := [], box := [], vec := [] } : St)) (fun v1 => .inl v1 = e1) (fun v1 hI1e _ W1 => ?_) ?_
  · subst hI1e
    dsimp only at h0
    refine tr_wk W1 ?_
    refine kr [4] (by simp; rfl) ?_
    cases h0
    exact tr_ret ⟨[], by simp, rfl, by simp⟩
  · refine tr_block (tr_iter (fun s2 : Int => ({ nt := 17, env := [(1, .d (.int .i64 a1)), (7, .d (.slice (rowsF (iRow .i64) a0))), (8, .d (.int .i64 ((a0).length : Int))), (9, .d (.int .i64 s2))], box := [], vec := [] } : St)) hI1 (wk (by simp [weak_iff])) fun G1 s2 o1 h1 hg1 he1 => ?_)
    unfold ref23_Has_l0 at h1
    refine kr [1, 7, 8, 9, 10] (by simp; rfl) ?_
    refine tr_seq ?_
    refine tr_cond (b := (decide (s2 < ((a0).length : Int)))) (by simp) (fun c5 => ?_) (fun c5 => ?_)
    · rw [if_pos c5] at h1
      refine tr_skip ?_
      refine tr_seq ?_
      refine tr_block ?_
      replace h1 := bnd h1; obtain ⟨x3, p3, h1⟩ := h1
      replace p3 := idx_some p3
      have p3' := p3; try simp at p3'
      refine kr [1, 6, 7, 8, 9] (by simp [p3, p3']; rfl) ?_
      refine kr [1, 7, 8, 9, 15] (by simp; rfl) ?_
      refine tr_cond (b := (x3 == a1)) (by simp) (fun c6 => ?_) (fun c6 => ?_)
      · rw [if_pos c6] at h1
        refine kr [4] (by simp; rfl) ?_
        have k1 := he1 _ (Option.some.inj h1)
        subst k1
        dsimp only at h0
        cases h0
        exact tr_ret ⟨[], by simp, rfl, by simp⟩
      · rw [if_neg (by rw [c6]; decide)] at h1
        refine tr_skip ?_
        refine lr (by simp; rfl) ?_
        exact ⟨_, hg1 _ (Option.some.inj h1), wk (by simp [weak_iff])⟩
    · rw [if_neg (by rw [c5]; decide)] at h1
      refine tr_exit ?_
      exact ⟨_, he1 _ (Option.some.inj h1), wk (by simp [weak_iff])⟩
set_option maxHeartbeats 1000000 in
theorem law32_FleetServes_ok {a0 : List Int} {r : Bool} (h0 : law32_FleetServes a0 = some r) : FnOK Try.prog 5 [] [.d (.slice (rowsF (iRow .i64) a0))] (.d (.bool r)) [] := by
  unfold law32_FleetServes at h0
  refine fn_ok (nt := 108) (rs := [.tmp 2]) Try.func5 rfl Try.ntmps5 rfl (by simp) (by decide) rfl fun K => ?_
  refine kr [0] (by simp; rfl) ?_
  refine tr_seq ?_
  refine kr [0, 17] (by simp; rfl) ?_
  refine tr_cond (b := (decide (300 < ((a0).length : Int)))) (by simp) (fun c1 => ?_) (fun c1 => ?_)
  · rw [if_pos c1] at h0
    refine kc ?_
    replace h0 := bnd h0; obtain ⟨y1, hy1, h0⟩ := h0
    refine kcall [18] [] (law32_awake_ok hy1) rfl rfl rfl Try.call17 (by simp) (by simp; rfl) ?_
    refine ko [2] 1 (by simp; rfl) ?_
    refine tops_nil ?_
    cases h0
    exact tr_ret ⟨[], by simp, rfl, by simp⟩
  · rw [if_neg (by rw [c1]; decide)] at h0
    refine tr_skip ?_
    refine kr [3] (by simp; rfl) ?_
    refine kc ?_
    refine ko [3, 22] 1 (by simp; rfl) ?_
    replace h0 := bnd h0; obtain ⟨y2, hy2, h0⟩ := h0
    refine kcall [3, 23] [21] (make_Fleet_ok hy2) rfl rfl rfl Try.call18 (by simp) (by simp; rfl) ?_
    refine ko [3, 4] 2 (by simp; rfl) ?_
    refine tops_nil ?_
    refine kc ?_
    refine ko [3, 4, 25] 1 (by simp; rfl) ?_
    replace h0 := bnd h0; obtain ⟨y3, hy3, h0⟩ := h0
    refine kcall [3, 4, 26] [] (fleet_Start_ok hy3) rfl rfl rfl Try.call26 (by simp) (by simp; rfl) ?_
    refine ko [3, 4, 5, 6] 6 (by simp; rfl) ?_
    refine tops_nil ?_
    refine tr_seq ?_
    replace h0 := bnd h0; obtain ⟨v4, hvv4, h0⟩ := h0
    refine sjv (fun v4_ : Bool => ({ nt := 108, env := [(3, .ptr 21 0), (4, .ptr 4 0), (45, .d (.bool v4_))], box := [(4, [.d (.int .i64 y2.1.Slots), .d (.slice (rowsF api_Consumer_row y2.1.Consumers))]), (21, [.d (.slice (rowsF (iRow .i64) y2.2.L)), .d (.int .i64 y2.2.at_)])], vec := [] } : St)) (fun v4_ => v4 = v4_) (fun v4_ e => ?_) ?_
    · subst e
      refine tr_cond (b := v4) (by simp) (fun c14 => ?_) (fun c14 => ?_)
      · rw [if_pos c14] at h0
        refine kr [2] (by simp; rfl) ?_
        cases h0
        exact tr_ret ⟨[], by simp, rfl, by simp⟩
      · rw [if_neg (by rw [c14]; decide)] at h0
        refine tr_skip ?_
        refine kr [3, 4, 7] (by simp; rfl) ?_
        refine tr_seq ?_
        refine kr [3, 4, 7, 49, 50] (by simp; rfl) ?_
        refine tr_wk (wk_ownbox 7 2 56 39 3 (by simp; rfl) (by simp) (by simp)) ?_
        replace h0 := bnd h0; obtain ⟨e1, hI1, h0⟩ := h0
        refine tjv (fun v5 : (List api_Unit) => ({ nt := 108, env := [(3, .ptr 21 0), (4, .ptr 4 0), (7, .ptr 7 0)], box := [(4, [.d (.int .i64 y2.1.Slots), .d (.slice (rowsF api_Consumer_row y2.1.Consumers))]), (7, [.d (.int .i64 3), .d (.int .i64 2), .vec 56]), (21, [.d (.slice (rowsF (iRow .i64) y2.2.L)), .d (.int .i64 y2.2.at_)])], vec := [(56, ⟨39, 3, rowsF api_Unit_row v5⟩)] } : St)) (fun v5 => v5 = e1) (fun v5 hI1e _ W1 => ?_) ?_
        · subst hI1e
          refine tr_wk W1 ?_
          refine tr_seq ?_
          replace h0 := bnd h0; obtain ⟨v6, hvv6, h0⟩ := h0
          refine sjv (fun v6_ : Bool => ({ nt := 108, env := [(3, .ptr 21 0), (4, .ptr 4 0), (71, .d (.bool v6_))], box := [(4, [.d (.int .i64 y2.1.Slots), .d (.slice (rowsF api_Consumer_row y2.1.Consumers))]), (21, [.d (.slice (rowsF (iRow .i64) y2.2.L)), .d (.int .i64 y2.2.at_)])], vec := [] } : St)) (fun v6_ => v6 = v6_) (fun v6_ e => ?_) ?_
          · subst e
            refine tr_cond (b := v6) (by simp) (fun c24 => ?_) (fun c24 => ?_)
            · rw [if_pos c24] at h0
              refine kr [2] (by simp; rfl) ?_
              cases h0
              exact tr_ret ⟨[], by simp, rfl, by simp⟩
            · rw [if_neg (by rw [c24]; decide)] at h0
              refine tr_skip ?_
              refine kc ?_
              refine ko [4, 72, 73] 2 (by simp; rfl) ?_
              replace h0 := bnd h0; obtain ⟨y7, hy7, h0⟩ := h0
              refine kcall [4, 74] [21] (make_State_ok hy7) rfl rfl rfl Try.call19 (by simp) (by simp; rfl) ?_
              refine ko [4, 8] 2 (by simp; rfl) ?_
              refine tops_nil ?_
              refine kc ?_
              refine ko [4, 8, 75, 76] 2 (by simp; rfl) ?_
              replace h0 := bnd h0; obtain ⟨y8, hy8, h0⟩ := h0
              refine kcall [4, 8, 77] [] (fleet_Served_ok hy8) rfl rfl rfl Try.call23 (by simp) (by simp; rfl) ?_
              refine ko [4, 8, 9] 1 (by simp; rfl) ?_
              refine tops_nil ?_
              refine tr_seq ?_
              refine kc ?_
              refine ko [4, 8, 9, 78] 1 (by simp; rfl) ?_
              replace h0 := bnd h0; obtain ⟨y9, hy9, h0⟩ := h0
              refine kcall [4, 8, 9, 79] [] (fleet_Pools_ok hy9) rfl rfl rfl Try.call32 (by simp) (by simp; rfl) ?_
              refine ko [4, 8, 9, 79, 80, 81] 2 (by simp; rfl) ?_
              refine tops_nil ?_
              replace h0 := bnd h0; obtain ⟨e2, hI2, h0⟩ := h0
              refine tjv (fun v10 : Unit => ({ nt := 108, env := [], box := [], vec := [] } : St)) (fun v10 => .inl v10 = e2) (fun v10 hI2e _ W2 => ?_) ?_
              · subst hI2e
                dsimp only at h0
                refine tr_wk W2 ?_
                refine kc ?_
                replace h0 := bnd h0; obtain ⟨y11, hy11, h0⟩ := h0
                refine kcall [107] [] (law32_awake_ok hy11) rfl rfl rfl Try.call17 (by simp) (by simp; rfl) ?_
                refine ko [2] 1 (by simp; rfl) ?_
                refine tops_nil ?_
                cases h0
                exact tr_ret ⟨[], by simp, rfl, by simp⟩
              · refine tr_block (tr_iter (fun s12 : Int => ({ nt := 108, env := [(4, .ptr 4 0), (8, .ptr 8 0), (9, .d (.slice (rowsF (iRow .i64) y8))), (79, .d (.slice (rowsF (iRow .i64) y9))), (80, .d (.int .i64 ((y9).length : Int))), (81, .d (.int .i64 s12))], box := [(4, [.d (.int .i64 y2.1.Slots), .d (.slice (rowsF api_Consumer_row y2.1.Consumers))]), (8, [.d (.int .i64 y7.1.Known), .d (.int .i64 y7.1.Valid), .d (.slice (rowsF api_Unit_row y7.1.Units))])], vec := [] } : St)) hI2 (wk (by simp [weak_iff])) fun G2 s12 o2 h2 hg2 he2 => ?_)
                unfold law32_FleetServes_l1 at h2
                refine kr [4, 8, 9, 79, 80, 81, 82] (by simp; rfl) ?_
                refine tr_seq ?_
                refine tr_cond (b := (decide (s12 < ((y9).length : Int)))) (by simp) (fun c35 => ?_) (fun c35 => ?_)
                · rw [if_pos c35] at h2
                  refine tr_skip ?_
                  refine tr_seq ?_
                  refine tr_block ?_
                  replace h2 := bnd h2; obtain ⟨x13, p9, h2⟩ := h2
                  replace p9 := idx_some p9
                  have p9' := p9; try simp at p9'
                  refine kr [4, 8, 9, 11, 79, 80, 81] (by simp [p9, p9']; rfl) ?_
                  refine kr [4, 8, 9, 11, 12, 79, 80, 81] (by simp; rfl) ?_
                  refine tr_seq ?_
                  refine kc ?_
                  refine ko [4, 8, 9, 11, 12, 79, 80, 81, 85, 86] 2 (by simp; rfl) ?_
                  replace h2 := bnd h2; obtain ⟨y14, hy14, h2⟩ := h2
                  refine kcall [4, 8, 9, 11, 12, 79, 80, 81, 87] [] (fleet_Units_ok hy14) rfl rfl rfl Try.call39 (by simp) (by simp; rfl) ?_
                  refine ko [4, 8, 9, 11, 12, 79, 80, 81, 87, 88, 89] 2 (by simp; rfl) ?_
                  refine tops_nil ?_
                  replace h2 := bnd h2; obtain ⟨e3, hI3, h2⟩ := h2
                  refine tjv (fun v15 : Bool => ({ nt := 108, env := [(4, .ptr 4 0), (8, .ptr 8 0), (9, .d (.slice (rowsF (iRow .i64) y8))), (11, .d (.int .i64 x13)), (12, .d (.bool v15)), (79, .d (.slice (rowsF (iRow .i64) y9))), (80, .d (.int .i64 ((y9).length : Int))), (81, .d (.int .i64 s12))], box := [(4, [.d (.int .i64 y2.1.Slots), .d (.slice (rowsF api_Consumer_row y2.1.Consumers))]), (8, [.d (.int .i64 y7.1.Known), .d (.int .i64 y7.1.Valid), .d (.slice (rowsF api_Unit_row y7.1.Units))])], vec := [] } : St)) (fun v15 => v15 = e3) (fun v15 hI3e _ W3 => ?_) ?_
                  · subst hI3e
                    refine tr_wk W3 ?_
                    refine kc ?_
                    refine ko [4, 8, 9, 79, 80, 81, 101, 102, 103] 3 (by simp; rfl) ?_
                    replace h2 := bnd h2; obtain ⟨y16, hy16, h2⟩ := h2
                    refine kcall [4, 8, 9, 79, 80, 81, 101, 104] [] (ref23_Has_ok hy16) rfl rfl rfl Try.call42 (by simp) (by simp; rfl) ?_
                    refine ko [4, 8, 9, 79, 80, 81, 105] 1 (by simp; rfl) ?_
                    refine tops_nil ?_
                    refine tr_cond (b := (v15 != y16)) (by simp) (fun c39 => ?_) (fun c39 => ?_)
                    · rw [if_pos c39] at h2
                      refine kr [2] (by simp; rfl) ?_
                      have k1 := he2 _ (Option.some.inj h2)
                      subst k1
                      dsimp only at h0
                      cases h0
                      exact tr_ret ⟨[], by simp, rfl, by simp⟩
                    · rw [if_neg (by rw [c39]; decide)] at h2
                      refine tr_skip ?_
                      refine lr (by simp; rfl) ?_
                      exact ⟨_, hg2 _ (Option.some.inj h2), wk (by simp [weak_iff])⟩
                  · refine tr_block (tr_iter (fun s17 : Bool × Int => ({ nt := 108, env := [(4, .ptr 4 0), (8, .ptr 8 0), (9, .d (.slice (rowsF (iRow .i64) y8))), (11, .d (.int .i64 x13)), (12, .d (.bool s17.1)), (79, .d (.slice (rowsF (iRow .i64) y9))), (80, .d (.int .i64 ((y9).length : Int))), (81, .d (.int .i64 s12)), (87, .d (.slice (rowsF (iRow .i64) y14))), (88, .d (.int .i64 ((y14).length : Int))), (89, .d (.int .i64 s17.2))], box := [(4, [.d (.int .i64 y2.1.Slots), .d (.slice (rowsF api_Consumer_row y2.1.Consumers))]), (8, [.d (.int .i64 y7.1.Known), .d (.int .i64 y7.1.Valid), .d (.slice (rowsF api_Unit_row y7.1.Units))])], vec := [] } : St)) hI3 (wk (by simp [weak_iff])) fun G3 s17 o3 h3 hg3 he3 => ?_)
                    unfold law32_FleetServes_l2 at h3
                    refine kr [4, 8, 9, 11, 12, 79, 80, 81, 87, 88, 89, 90] (by simp; rfl) ?_
                    refine tr_seq ?_
                    refine tr_cond (b := (decide (s17.2 < ((y14).length : Int)))) (by simp) (fun c40 => ?_) (fun c40 => ?_)
                    · rw [if_pos c40] at h3
                      refine tr_skip ?_
                      refine tr_seq ?_
                      refine tr_block ?_
                      replace h3 := bnd h3; obtain ⟨x18, p12, h3⟩ := h3
                      replace p12 := idx_some p12
                      have p12' := p12; try simp at p12'
                      refine kr [4, 8, 9, 11, 12, 14, 79, 80, 81, 87, 88, 89] (by simp [p12, p12']; rfl) ?_
                      replace h3 := bnd h3; obtain ⟨v19, hvv19, h3⟩ := h3
                      refine tjv (fun v19_ : Bool => ({ nt := 108, env := [(4, .ptr 4 0), (8, .ptr 8 0), (9, .d (.slice (rowsF (iRow .i64) y8))), (11, .d (.int .i64 x13)), (12, .d (.bool v19_)), (79, .d (.slice (rowsF (iRow .i64) y9))), (80, .d (.int .i64 ((y9).length : Int))), (81, .d (.int .i64 s12)), (87, .d (.slice (rowsF (iRow .i64) y14))), (88, .d (.int .i64 ((y14).length : Int))), (89, .d (.int .i64 s17.2))], box := [(4, [.d (.int .i64 y2.1.Slots), .d (.slice (rowsF api_Consumer_row y2.1.Consumers))]), (8, [.d (.int .i64 y7.1.Known), .d (.int .i64 y7.1.Valid), .d (.slice (rowsF api_Unit_row y7.1.Units))])], vec := [] } : St)) (fun v19_ => v19 = v19_) (fun v19_ e _ Wv19 => ?_) ?_
                      · subst e
                        refine tr_wk Wv19 ?_
                        refine lr (by simp; rfl) ?_
                        exact ⟨_, hg3 _ (Option.some.inj h3), wk (by simp [weak_iff])⟩
                      · refine kc1 ?_
                        refine ko [4, 8, 9, 11, 14, 79, 80, 81, 87, 88, 89, 94] 2 (by simp; rfl) ?_
                        refine tops_split 94 s17.1 (by simp) (fun c43 => ?_) (fun c43 => ?_)
                        · rw [if_pos c43] at hvv19
                          refine kskip 4 [] (by kernel_rfl) ?_
                          refine ko [4, 8, 9, 11, 12, 79, 80, 81, 87, 88, 89] 2 (by simp; rfl) ?_
                          refine tops_nil ?_
                          cases hvv19
                          exact ⟨_, rfl, wk (by simp [weak_iff])⟩
                        · rw [if_neg (by rw [c43]; decide)] at hvv19
                          refine ko [4, 8, 9, 11, 79, 80, 81, 87, 88, 89, 94, 95, 96, 97] 3 (by simp; rfl) ?_
                          replace hvv19 := bnd hvv19; obtain ⟨y20, hy20, hvv19⟩ := hvv19
                          refine kcall [4, 8, 9, 11, 79, 80, 81, 87, 88, 89, 94, 95, 96, 97, 98] [] (fleet_Serves_ok hy20) rfl rfl rfl Try.call24 (by simp) (by simp; rfl) ?_
                          refine ko [4, 8, 9, 11, 12, 79, 80, 81, 87, 88, 89, 95, 96, 97, 98] 2 (by simp; rfl) ?_
                          refine tops_nil ?_
                          cases hvv19
                          exact ⟨_, rfl, wk (by simp [weak_iff])⟩
                    · rw [if_neg (by rw [c40]; decide)] at h3
                      refine tr_exit ?_
                      exact ⟨_, he3 _ (Option.some.inj h3), wk (by simp [weak_iff])⟩
                · rw [if_neg (by rw [c35]; decide)] at h2
                  refine tr_exit ?_
                  exact ⟨_, he2 _ (Option.some.inj h2), wk (by simp [weak_iff])⟩
          · refine tr_wk (wk_frz 56) ?_
            refine kd1 [[], [], [0, 1], [2], [3], [4], [4], [4, 5, 6], [4], [4, 8], [4, 7, 9], [4, 10], [4, 11]] [] [] none [] 13 fol (by decide +kernel) (by simp) ?_
            refine dr_go 0 2 rfl (by simp (maxSteps := 1000000); rfl) ?_
            replace hvv6 := bnd hvv6; obtain ⟨y23, hy23, hvv6⟩ := hvv6
            refine dr_call 2 [] (fleet_Ended_ok hy23) rfl rfl rfl rfl rfl Try.call35 (by simp) ?_
            refine dr_go 3 2 rfl (by simp (maxSteps := 1000000); rfl) ?_
            refine dr_split 4 63 (!y23) (by simp) (fun c46 => ?_) (fun c46 => ?_)
            · rw [if_pos c46] at hvv6
              refine dr_skip 5 108 [some 64, some 65, some 66, some 67, some 68, some 69, some 70] rfl rfl (by decide) (by kernel_rfl) (by simp only [skEf, List.map_cons, List.map_nil, List.cons_append, List.nil_append]; rfl) ?_
              refine dr_go 12 1 rfl (by simp (maxSteps := 1000000); rfl) ?_
              refine dr_end rfl (tops_nil ?_)
              cases hvv6
              exact ⟨_, rfl, wk (by simp [weak_iff])⟩
            · rw [if_neg (by rw [c46]; decide)] at hvv6
              refine dr_go 5 2 rfl (by simp (maxSteps := 1000000); rfl) ?_
              replace hvv6 := bnd hvv6; obtain ⟨y24, hy24, hvv6⟩ := hvv6
              refine dr_call 7 [] (fleet_Served_ok hy24) rfl rfl rfl rfl rfl Try.call23 (by simp) ?_
              refine dr_go 8 1 rfl (by simp (maxSteps := 1000000); rfl) ?_
              replace hvv6 := bnd hvv6; obtain ⟨y25, hy25, hvv6⟩ := hvv6
              refine dr_call 9 [] (fleet_Pools_ok hy25) rfl rfl rfl rfl rfl Try.call32 (by simp) ?_
              replace hvv6 := bnd hvv6; obtain ⟨y26, hy26, hvv6⟩ := hvv6
              refine dr_call 10 [] (ref23_Ints_ok hy26) rfl rfl rfl rfl rfl Try.call31 (by simp) ?_
              refine dr_go 11 2 rfl (by simp (maxSteps := 1000000); rfl) ?_
              refine dr_end rfl (tops_nil ?_)
              cases hvv6
              exact ⟨_, rfl, wk (by simp [weak_iff])⟩
        · refine tr_block (tr_iter (fun s27 : Int × (List api_Unit) => ({ nt := 108, env := [(3, .ptr 21 0), (4, .ptr 4 0), (7, .ptr 7 0), (49, .d (.int .i64 ((y2.1.Consumers).length : Int))), (50, .d (.int .i64 s27.1))], box := [(4, [.d (.int .i64 y2.1.Slots), .d (.slice (rowsF api_Consumer_row y2.1.Consumers))]), (7, [.d (.int .i64 3), .d (.int .i64 2), .vec 56]), (21, [.d (.slice (rowsF (iRow .i64) y2.2.L)), .d (.int .i64 y2.2.at_)])], vec := [(56, ⟨39, 3, rowsF api_Unit_row s27.2⟩)] } : St)) hI1 (wk (by simp [weak_iff])) fun G3 s27 o3 h3 hg3 he3 => ?_)
          unfold law32_FleetServes_l0 at h3
          refine kr [3, 4, 7, 49, 50, 51] (by simp; rfl) ?_
          refine tr_seq ?_
          refine tr_cond (b := (decide (s27.1 < ((y2.1.Consumers).length : Int)))) (by simp) (fun c47 => ?_) (fun c47 => ?_)
          · rw [if_pos c47] at h3
            refine tr_skip ?_
            refine tr_seq ?_
            refine tr_block ?_
            replace h3 := bnd h3; obtain ⟨_, p13, h3⟩ := h3
            replace p13 := ck_some p13
            have p13' := p13; try simp at p13'
            refine lr (by simp [p13, p13']; rfl) ?_
            refine lr (by simp; rfl) ?_
            exact ⟨_, hg3 _ (Option.some.inj h3), wk (by simp [weak_iff])⟩
          · rw [if_neg (by rw [c47]; decide)] at h3
            refine tr_exit ?_
            exact ⟨_, he3 _ (Option.some.inj h3), wk (by simp [weak_iff])⟩
    · refine kd1 [[], [0], [1], [2], [2], [2, 3, 4], [2], [2, 6], [2, 5, 7], [2, 8], [2, 9], [10], [11], [11, 12], [11, 13], [11, 14], [11, 14, 15]] [] [] none [] 17 fol (by decide +kernel) (by simp) ?_
      refine dr_go 0 2 rfl (by simp (maxSteps := 1000000); rfl) ?_
      refine dr_go 2 1 rfl (by simp (maxSteps := 1000000); rfl) ?_
      refine dr_split 2 31 (y3.2 != 0) (by simp) (fun c52 => ?_) (fun c52 => ?_)
      · rw [if_pos c52] at hvv4
        refine dr_skip 3 108 [some 32, some 33, some 34, some 35, some 36, some 37, some 38] rfl rfl (by decide) (by kernel_rfl) (by simp only [skEf, List.map_cons, List.map_nil, List.cons_append, List.nil_append]; rfl) ?_
        refine dr_go 10 2 rfl (by simp (maxSteps := 1000000); rfl) ?_
        refine dr_skip 12 108 [some 41, some 42, some 43, some 44] rfl rfl (by decide) (by kernel_rfl) (by simp only [skEf, List.map_cons, List.map_nil, List.cons_append, List.nil_append]; rfl) ?_
        refine dr_go 16 1 rfl (by simp (maxSteps := 1000000); rfl) ?_
        refine dr_end rfl (tops_nil ?_)
        cases hvv4
        exact ⟨_, rfl, wk (by simp [weak_iff])⟩
      · rw [if_neg (by rw [c52]; decide)] at hvv4
        refine dr_go 3 2 rfl (by simp (maxSteps := 1000000); rfl) ?_
        replace hvv4 := bnd hvv4; obtain ⟨y28, hy28, hvv4⟩ := hvv4
        refine dr_call 5 [] (fleet_Served_ok hy28) rfl rfl rfl rfl rfl Try.call23 (by simp) ?_
        refine dr_go 6 1 rfl (by simp (maxSteps := 1000000); rfl) ?_
        replace hvv4 := bnd hvv4; obtain ⟨y29, hy29, hvv4⟩ := hvv4
        refine dr_call 7 [] (fleet_Pools_ok hy29) rfl rfl rfl rfl rfl Try.call32 (by simp) ?_
        replace hvv4 := bnd hvv4; obtain ⟨y30, hy30, hvv4⟩ := hvv4
        refine dr_call 8 [] (ref23_Ints_ok hy30) rfl rfl rfl rfl rfl Try.call31 (by simp) ?_
        refine dr_go 9 2 rfl (by simp (maxSteps := 1000000); rfl) ?_
        refine dr_go 11 1 rfl (by simp (maxSteps := 1000000); rfl) ?_
        refine dr_split 11 40 (!y30) (by simp) (fun c53 => ?_) (fun c53 => ?_)
        · rw [if_pos c53] at hvv4
          refine dr_skip 12 108 [some 41, some 42, some 43, some 44] rfl rfl (by decide) (by kernel_rfl) (by simp only [skEf, List.map_cons, List.map_nil, List.cons_append, List.nil_append]; rfl) ?_
          refine dr_go 16 1 rfl (by simp (maxSteps := 1000000); rfl) ?_
          refine dr_end rfl (tops_nil ?_)
          cases hvv4
          exact ⟨_, rfl, wk (by simp [weak_iff])⟩
        · rw [if_neg (by rw [c53]; decide)] at hvv4
          refine dr_go 12 1 rfl (by simp (maxSteps := 1000000); rfl) ?_
          replace hvv4 := bnd hvv4; obtain ⟨y31, hy31, hvv4⟩ := hvv4
          refine dr_call 13 [] (fleet_Pools_ok hy31) rfl rfl rfl rfl rfl Try.call32 (by simp) ?_
          refine dr_go 14 2 rfl (by simp (maxSteps := 1000000); rfl) ?_
          refine dr_go 16 1 rfl (by simp (maxSteps := 1000000); rfl) ?_
          refine dr_end rfl (tops_nil ?_)
          cases hvv4
          exact ⟨_, rfl, wk (by simp [weak_iff])⟩
end Go.Vl
