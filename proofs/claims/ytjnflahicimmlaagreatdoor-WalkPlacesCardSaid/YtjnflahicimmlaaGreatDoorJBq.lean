/- The walk of law16.WalkPlaces. Conditions: none. -/
import Derived.Test.YtjnflahicimmlaaGreatDoorJzB
set_option linter.unusedSimpArgs false
set_option linter.unusedVariables false
namespace Go.Vl
open Go Go.Proofs
set_option maxHeartbeats 1000000 in
theorem law16_WalkPlaces_ok {a0 : List Int} {a1 : Int} {r : Bool} (h0 : law16_WalkPlaces a0 a1 = some r) : FnOK Tryz.prog 4 [] [.d (.slice (rowsF (iRow .i64) a0)), .d (.int .i64 a1)] (.d (.bool r)) [] := by
 unfold law16_WalkPlaces at h0
 refine fn_ok (nt := 164) (rs := [.tmp 4]) Tryz.func4 rfl Tryz.ntmps4 rfl (by simp) (by decide) rfl fun K => ?_
 refine kr [0, 1] (by simp; rfl) ?_
 refine kr [1, 5] (by simp; rfl) ?_
 refine kc ?_
 refine ko [1, 5, 23] 1 (by simp; rfl) ?_
 replace h0 := bnd h0; obtain ⟨y1, hy1, h0⟩ := h0
 refine kcall [1, 5, 24] [22] (make_Repository_ok hy1) rfl rfl rfl Tryz.call6 (by simp) (by simp; rfl) ?_
 refine ko [1, 5, 6] 2 (by simp; rfl) ?_
 refine tops_nil ?_
 refine kr [5, 6, 7] (by simp; rfl) ?_
 refine kc ?_
 refine ko [5, 6, 7, 28, 29] 2 (by simp; rfl) ?_
 replace h0 := bnd h0; obtain ⟨y2, hy2, h0⟩ := h0
 refine kcall [5, 6, 7, 30] [] (walk_Contents_ok hy2) rfl rfl rfl Tryz.call9 (by simp) (by simp; rfl) ?_
 refine ko [5, 6, 7, 8, 9] 5 (by simp; rfl) ?_
 refine tops_nil ?_
 refine kd [[], [], [], [2], [1, 3], [0, 4], [5], [6], [6], [7], [8]] [3] [(22, [3])] none [] 11 fol (by decide +kernel) (by simp) ?_
 refine dr_go 0 2 rfl (by simp (maxSteps := 1000000); rfl) ?_
 refine dr_go 2 1 rfl (by simp (maxSteps := 1000000); rfl) ?_
 replace h0 := bnd h0; obtain ⟨y3, hy3, h0⟩ := h0
 refine dr_call 3 [22] (make_Tape_Next_ok hy3) rfl rfl rfl rfl rfl Tryz.call8 (by simp) ?_
 refine dr_go 4 1 rfl (by simp (maxSteps := 1000000); rfl) ?_
 replace h0 := bnd h0; obtain ⟨y4, hy4, h0⟩ := h0
 refine dr_call 5 [] (walk_Contents_ok hy4) rfl rfl rfl rfl rfl Tryz.call9 (by simp) ?_
 refine dr_go 6 2 rfl (by simp (maxSteps := 1000000); rfl) ?_
 refine dr_go 8 2 rfl (by simp (maxSteps := 1000000); rfl) ?_
 refine dr_go 10 1 rfl (by simp (maxSteps := 1000000); rfl) ?_
 refine dr_end rfl (tops_nil ?_)
 refine kc ?_
 refine ko [6, 7, 8, 9, 10, 11, 42, 43] 2 (by simp; rfl) ?_
 replace h0 := bnd h0; obtain ⟨y5, hy5, h0⟩ := h0
 refine kcall [6, 7, 8, 9, 10, 11, 44] [] (walk_Blobs_ok hy5) rfl rfl rfl Tryz.call13 (by simp) (by simp; rfl) ?_
 refine ko [6, 7, 8, 9, 10, 11, 12] 1 (by simp; rfl) ?_
 refine tops_nil ?_
 refine tr_seq ?_
 replace h0 := bnd h0; obtain ⟨v6, hvv6, h0⟩ := h0
 refine sjv (fun v6_ : Bool => ({ nt := 164, env := [(6, .ptr 6 0), (7, .d (.int .i64 (bAnd .i64 a1 31))), (8, .d (.slice (rowsF api_Content_row y2.1))), (10, .d (.slice (rowsF api_Content_row y4.1))), (12, .d (.slice (rowsF (iRow .i64) y5))), (64, .d (.bool v6_))], box := [(6, [.d (.slice (rowsF api_Object_row y1.1.Objects)), .d (.slice (rowsF api_RefEvent_row y1.1.Events))])], vec := [] } : St)) (fun v6_ => v6 = v6_) (fun v6_ e => ?_) ?_
 · subst e
   refine tr_cond (b := v6) (by simp) (fun c7 => ?_) (fun c7 => ?_)
   · rw [if_pos c7] at h0
     refine kr [4] (by simp; rfl) ?_
     cases h0
     exact tr_ret ⟨[], by simp, rfl, by simp⟩
   · rw [if_neg (by rw [c7]; decide)] at h0
     refine tr_skip ?_
     refine kr [6, 7, 8, 10, 12, 13, 14] (by simp; rfl) ?_
     refine tr_seq ?_
     refine kr [6, 7, 8, 10, 12, 13, 14, 15] (by simp; rfl) ?_
     replace h0 := bnd h0; obtain ⟨e1, hI1, h0⟩ := h0
     refine tjv (fun v7 : Int => ({ nt := 164, env := [(10, .d (.slice (rowsF api_Content_row y4.1))), (13, .d (.int .i64 v7)), (14, .d (.int .i64 0))], box := [], vec := [] } : St)) (fun v7 => .inl v7 = e1) (fun v7 hI1e _ W1 => ?_) ?_
     · subst hI1e
       dsimp only at h0
       refine tr_wk W1 ?_
       refine tr_seq ?_
       refine kr [10, 13, 14, 19] (by simp; rfl) ?_
       replace h0 := bnd h0; obtain ⟨e2, hI2, h0⟩ := h0
       refine tjv (fun v8 : Int => ({ nt := 164, env := [(13, .d (.int .i64 v7)), (14, .d (.int .i64 v8))], box := [], vec := [] } : St)) (fun v8 => v8 = e2) (fun v8 hI2e _ W2 => ?_) ?_
       · subst hI2e
         refine tr_wk W2 ?_
         replace h0 := bnd h0; obtain ⟨v9, hvv9, h0⟩ := h0
         refine sjv (fun v9_ : Bool => ({ nt := 164, env := [(4, .d (.bool v9_))], box := [], vec := [] } : St)) (fun v9_ => v9 = v9_) (fun v9_ e => ?_) ?_
         · subst e
           cases h0
           exact tr_ret ⟨[], by simp, rfl, by simp⟩
         · refine kc1 ?_
           refine ko [161] 4 (by simp; rfl) ?_
           refine tops_split 161 (decide (v7 ≤ v8)) (by simp) (fun c40 => ?_) (fun c40 => ?_)
           · rw [if_pos c40] at hvv9
             replace hvv9 := bnd hvv9; obtain ⟨y10, hy10, hvv9⟩ := hvv9
             refine kcall [161, 162] [] (law16_awake_ok hy10) rfl rfl rfl Tryz.call18 (by simp) (by simp; rfl) ?_
             refine ko [4] 2 (by simp; rfl) ?_
             refine tops_nil ?_
             cases hvv9
             exact ⟨_, rfl, wk (by simp [weak_iff])⟩
           · rw [if_neg (by rw [c40]; decide)] at hvv9
             refine ko [4] 3 (by simp; rfl) ?_
             refine tops_nil ?_
             cases hvv9
             exact ⟨_, rfl, wk (by simp [weak_iff])⟩
       · refine tr_block (tr_iter (fun s11 : Int × Int => ({ nt := 164, env := [(10, .d (.slice (rowsF api_Content_row y4.1))), (13, .d (.int .i64 v7)), (14, .d (.int .i64 s11.1)), (19, .d (.int .i64 s11.2))], box := [], vec := [] } : St)) hI2 (wk (by simp [weak_iff])) fun G2 s11 o2 h2 hg2 he2 => ?_)
         unfold law16_WalkPlaces_l1 at h2
         refine tr_seq ?_
         refine kr [10, 13, 14, 19, 147] (by simp; rfl) ?_
         refine tr_cond (b := (decide (s11.2 < ((y4.1).length : Int)))) (by simp) (fun c41 => ?_) (fun c41 => ?_)
         · rw [if_pos c41] at h2
           refine tr_skip ?_
           refine tr_seq ?_
           refine tr_block ?_
           replace h2 := bnd h2; obtain ⟨x12, p21, h2⟩ := h2
           replace p21 := idx_some p21
           have p21' := p21; try simp at p21'
           refine lr (by simp [p21, p21']; rfl) ?_
           refine lr (by simp; rfl) ?_
           exact ⟨_, hg2 _ (Option.some.inj h2), wk (by simp [weak_iff])⟩
         · rw [if_neg (by rw [c41]; decide)] at h2
           refine tr_exit ?_
           exact ⟨_, he2 _ (Option.some.inj h2), wk (by simp [weak_iff])⟩
     · refine tr_block (tr_iter (fun s13 : Int × Int => ({ nt := 164, env := [(6, .ptr 6 0), (7, .d (.int .i64 (bAnd .i64 a1 31))), (8, .d (.slice (rowsF api_Content_row y2.1))), (10, .d (.slice (rowsF api_Content_row y4.1))), (12, .d (.slice (rowsF (iRow .i64) y5))), (13, .d (.int .i64 s13.1)), (14, .d (.int .i64 0)), (15, .d (.int .i64 s13.2))], box := [(6, [.d (.slice (rowsF api_Object_row y1.1.Objects)), .d (.slice (rowsF api_RefEvent_row y1.1.Events))])], vec := [] } : St)) hI1 (wk (by simp [weak_iff])) fun G2 s13 o2 h2 hg2 he2 => ?_)
       unfold law16_WalkPlaces_l0 at h2
       refine tr_seq ?_
       refine kr [6, 7, 8, 10, 12, 13, 14, 15, 68] (by simp; rfl) ?_
       refine tr_cond (b := (decide (s13.2 < ((y2.1).length : Int)))) (by simp) (fun c42 => ?_) (fun c42 => ?_)
       · rw [if_pos c42] at h2
         refine tr_skip ?_
         refine tr_seq ?_
         refine tr_block ?_
         refine kd [[], [], [], [1, 2], [3], [0, 4], [5], [6], [6], [], [7, 9], [8, 9]] [9, 10] [(16, [9, 10])] none [] 12 fol (by decide +kernel) (by simp) ?_
         replace h2 := bnd h2; obtain ⟨x14, p24, h2⟩ := h2
         replace p24 := idx_some p24
         have p24' := p24; try simp at p24'
         refine dr_go 0 2 rfl (by simp (maxSteps := 1000000) [p24, p24']; rfl) ?_
         refine dr_go 2 2 rfl (by simp (maxSteps := 1000000) [p24, p24']; rfl) ?_
         refine dr_go 4 1 rfl (by simp (maxSteps := 1000000) [p24, p24']; rfl) ?_
         replace h2 := bnd h2; obtain ⟨y15, hy15, h2⟩ := h2
         refine dr_call 5 [] (history_Find_ok hy15) rfl rfl rfl rfl rfl Tryz.call19 (by simp) ?_
         refine dr_go 6 2 rfl (by simp (maxSteps := 1000000); rfl) ?_
         refine dr_go 8 2 rfl (by simp (maxSteps := 1000000); rfl) ?_
         refine dr_go 10 2 rfl (by simp (maxSteps := 1000000); rfl) ?_
         refine dr_end rfl (tops_nil ?_)
         refine tr_seq ?_
         replace h2 := bnd h2; obtain ⟨v16, hvv16, h2⟩ := h2
         refine sjv (fun v16_ : Bool => ({ nt := 164, env := [(6, .ptr 6 0), (7, .d (.int .i64 (bAnd .i64 a1 31))), (8, .d (.slice (rowsF api_Content_row y2.1))), (10, .d (.slice (rowsF api_Content_row y4.1))), (12, .d (.slice (rowsF (iRow .i64) y5))), (13, .d (.int .i64 s13.1)), (14, .d (.int .i64 0)), (15, .d (.int .i64 s13.2)), (102, .d (.bool v16_))], box := [(6, [.d (.slice (rowsF api_Object_row y1.1.Objects)), .d (.slice (rowsF api_RefEvent_row y1.1.Events))])], vec := [] } : St)) (fun v16_ => v16 = v16_) (fun v16_ e => ?_) ?_
         · subst e
           refine tr_cond (b := v16) (by simp) (fun c55 => ?_) (fun c55 => ?_)
           · rw [if_pos c55] at h2
             refine kr [4] (by simp; rfl) ?_
             have k1 := he2 _ (Option.some.inj h2)
             subst k1
             dsimp only at h0
             cases h0
             exact tr_ret ⟨[], by simp, rfl, by simp⟩
           · rw [if_neg (by rw [c55]; decide)] at h2
             refine tr_skip ?_
             replace h2 := bnd h2; obtain ⟨x17, p31, h2⟩ := h2
             replace p31 := idx_some p31
             have p31' := p31; try simp at p31'
             refine kr [6, 7, 8, 10, 12, 13, 14, 15] (by simp [p31, p31']; rfl) ?_
             refine kr [6, 7, 8, 10, 12, 13, 14, 15, 18] (by simp; rfl) ?_
             replace h2 := bnd h2; obtain ⟨e3, hI3, h2⟩ := h2
             refine tjv (fun v18 : Unit => ({ nt := 164, env := [(6, .ptr 6 0), (7, .d (.int .i64 (bAnd .i64 a1 31))), (8, .d (.slice (rowsF api_Content_row y2.1))), (10, .d (.slice (rowsF api_Content_row y4.1))), (12, .d (.slice (rowsF (iRow .i64) y5))), (13, .d (.int .i64 (IntKind.i64.wrap (s13.1 + ((x17.Places).length : Int))))), (14, .d (.int .i64 0)), (15, .d (.int .i64 s13.2))], box := [(6, [.d (.slice (rowsF api_Object_row y1.1.Objects)), .d (.slice (rowsF api_RefEvent_row y1.1.Events))])], vec := [] } : St)) (fun v18 => .inl v18 = e3) (fun v18 hI3e _ W3 => ?_) ?_
             · subst hI3e
               dsimp only at h2
               refine tr_wk W3 ?_
               refine lr (by simp; rfl) ?_
               exact ⟨_, hg2 _ (Option.some.inj h2), wk (by simp [weak_iff])⟩
             · refine tr_block (tr_iter (fun s19 : Int => ({ nt := 164, env := [(6, .ptr 6 0), (7, .d (.int .i64 (bAnd .i64 a1 31))), (8, .d (.slice (rowsF api_Content_row y2.1))), (10, .d (.slice (rowsF api_Content_row y4.1))), (12, .d (.slice (rowsF (iRow .i64) y5))), (13, .d (.int .i64 (IntKind.i64.wrap (s13.1 + ((x17.Places).length : Int))))), (14, .d (.int .i64 0)), (15, .d (.int .i64 s13.2)), (18, .d (.int .i64 s19))], box := [(6, [.d (.slice (rowsF api_Object_row y1.1.Objects)), .d (.slice (rowsF api_RefEvent_row y1.1.Events))])], vec := [] } : St)) hI3 (wk (by simp [weak_iff])) fun G3 s19 o3 h3 hg3 he3 => ?_)
               unfold law16_WalkPlaces_l2 at h3
               refine tr_seq ?_
               refine kr [6, 7, 8, 10, 12, 13, 14, 15, 18, 118] (by simp [p31, p31']; rfl) ?_
               refine tr_cond (b := (decide (s19 < ((x17.Places).length : Int)))) (by simp) (fun c62 => ?_) (fun c62 => ?_)
               · rw [if_pos c62] at h3
                 refine tr_skip ?_
                 refine tr_seq ?_
                 refine tr_block ?_
                 replace h3 := bnd h3; obtain ⟨v20, hvv20, h3⟩ := h3
                 refine sjv (fun v20_ : Bool => ({ nt := 164, env := [(6, .ptr 6 0), (7, .d (.int .i64 (bAnd .i64 a1 31))), (8, .d (.slice (rowsF api_Content_row y2.1))), (10, .d (.slice (rowsF api_Content_row y4.1))), (12, .d (.slice (rowsF (iRow .i64) y5))), (13, .d (.int .i64 (IntKind.i64.wrap (s13.1 + ((x17.Places).length : Int))))), (14, .d (.int .i64 0)), (15, .d (.int .i64 s13.2)), (18, .d (.int .i64 s19)), (143, .d (.bool v20_))], box := [(6, [.d (.slice (rowsF api_Object_row y1.1.Objects)), .d (.slice (rowsF api_RefEvent_row y1.1.Events))])], vec := [] } : St)) (fun v20_ => v20 = v20_) (fun v20_ e => ?_) ?_
                 · subst e
                   refine tr_cond (b := v20) (by simp) (fun c65 => ?_) (fun c65 => ?_)
                   · rw [if_pos c65] at h3
                     refine kr [4] (by simp; rfl) ?_
                     have k2 := he3 _ (Option.some.inj h3)
                     subst k2
                     dsimp only at h2
                     have k1 := he2 _ (Option.some.inj h2)
                     subst k1
                     dsimp only at h0
                     cases h0
                     exact tr_ret ⟨[], by simp, rfl, by simp⟩
                   · rw [if_neg (by rw [c65]; decide)] at h3
                     refine tr_skip ?_
                     refine lr (by simp; rfl) ?_
                     exact ⟨_, hg3 _ (Option.some.inj h3), wk (by simp [weak_iff])⟩
                 · refine kc1 ?_
                   replace hvv20 := bnd hvv20; obtain ⟨x21, p36, hvv20⟩ := hvv20
                   replace p36 := idx_some p36
                   have p36' := p36; try simp at p36'
                   refine ko [6, 7, 8, 10, 12, 13, 14, 15, 18, 132] 12 (by simp [p31, p36, p31', p36']; rfl) ?_
                   refine tops_split 132 (decide ((bAnd .i64 a1 31) < x21.Time)) (by simp) (fun c66 => ?_) (fun c66 => ?_)
                   · rw [if_pos c66] at hvv20
                     refine kskip 10 [] (by kernel_rfl) ?_
                     refine ko [6, 7, 8, 10, 12, 13, 14, 15, 18, 143] 1 (by simp; rfl) ?_
                     refine tops_nil ?_
                     cases hvv20
                     exact ⟨_, rfl, wk (by simp [weak_iff])⟩
                   · rw [if_neg (by rw [c66]; decide)] at hvv20
                     refine ko [6, 7, 8, 10, 12, 13, 14, 15, 18, 133, 134, 135, 136, 137, 138, 139, 140, 141, 142, 143] 11 (by simp [p31, p36, p31', p36']; rfl) ?_
                     refine tops_nil ?_
                     cases hvv20
                     exact ⟨_, rfl, wk (by simp [weak_iff])⟩
               · rw [if_neg (by rw [c62]; decide)] at h3
                 refine tr_exit ?_
                 exact ⟨_, he3 _ (Option.some.inj h3), wk (by simp [weak_iff])⟩
         · refine kd1 [[], [], [0, 1], [2], [3], [4], [5], [5, 6], [5, 7], [5, 7, 8], [5, 7, 9], [5, 10], [5, 11], [5, 11, 12], [5, 11, 13], [5, 11], [5, 11], [5, 11, 15, 16], [5, 11, 17], [5, 11, 18], [5, 11, 19], [5, 11, 14, 20], [5, 11, 21]] [] [] none [] 23 fol (by decide +kernel) (by simp) ?_
           replace hvv16 := bnd hvv16; obtain ⟨x24, p39, hvv16⟩ := hvv16
           replace p39 := idx_some p39
           have p39' := p39; try simp at p39'
           refine dr_go 0 2 rfl (by simp (maxSteps := 1000000) [p39, p39']; rfl) ?_
           refine dr_go 2 2 rfl (by simp (maxSteps := 1000000) [p39, p39']; rfl) ?_
           refine dr_go 4 2 rfl (by simp (maxSteps := 1000000) [p39, p39']; rfl) ?_
           refine dr_go 6 2 rfl (by simp (maxSteps := 1000000) [p39, p39']; rfl) ?_
           refine dr_split 7 87 (((x24.Places).length : Int) == 0) (by simp) (fun c71 => ?_) (fun c71 => ?_)
           · rw [if_pos c71] at hvv16
             refine dr_skip 8 164 [some 88, some 89] rfl rfl (by decide) (by kernel_rfl) (by simp only [skEf, List.map_cons, List.map_nil, List.cons_append, List.nil_append]; rfl) ?_
             refine dr_go 10 2 rfl (by simp (maxSteps := 1000000); rfl) ?_
             refine dr_skip 12 164 [some 92, some 93, some 94, some 95, some 96, some 97, some 98, some 99, some 100, some 101] rfl rfl (by decide) (by kernel_rfl) (by simp only [skEf, List.map_cons, List.map_nil, List.cons_append, List.nil_append]; rfl) ?_
             refine dr_go 22 1 rfl (by simp (maxSteps := 1000000); rfl) ?_
             refine dr_end rfl (tops_nil ?_)
             cases hvv16
             exact ⟨_, rfl, wk (by simp [weak_iff])⟩
           · rw [if_neg (by rw [c71]; decide)] at hvv16
             refine dr_go 8 2 rfl (by simp (maxSteps := 1000000); rfl) ?_
             refine dr_go 10 2 rfl (by simp (maxSteps := 1000000); rfl) ?_
             refine dr_split 11 91 (!y15.2) (by simp) (fun c72 => ?_) (fun c72 => ?_)
             · rw [if_pos c72] at hvv16
               refine dr_skip 12 164 [some 92, some 93, some 94, some 95, some 96, some 97, some 98, some 99, some 100, some 101] rfl rfl (by decide) (by kernel_rfl) (by simp only [skEf, List.map_cons, List.map_nil, List.cons_append, List.nil_append]; rfl) ?_
               refine dr_go 22 1 rfl (by simp (maxSteps := 1000000); rfl) ?_
               refine dr_end rfl (tops_nil ?_)
               cases hvv16
               exact ⟨_, rfl, wk (by simp [weak_iff])⟩
             · rw [if_neg (by rw [c72]; decide)] at hvv16
               refine dr_go 12 2 rfl (by simp (maxSteps := 1000000) [p39, p39']; rfl) ?_
               refine dr_go 14 2 rfl (by simp (maxSteps := 1000000) [p39, p39']; rfl) ?_
               refine dr_go 16 2 rfl (by simp (maxSteps := 1000000) [p39, p39']; rfl) ?_
               refine dr_go 18 2 rfl (by simp (maxSteps := 1000000) [p39, p39']; rfl) ?_
               refine dr_go 20 2 rfl (by simp (maxSteps := 1000000) [p39, p39']; rfl) ?_
               refine dr_go 22 1 rfl (by simp (maxSteps := 1000000) [p39, p39']; rfl) ?_
               refine dr_end rfl (tops_nil ?_)
               cases hvv16
               exact ⟨_, rfl, wk (by simp [weak_iff])⟩
       · rw [if_neg (by rw [c42]; decide)] at h2
         refine tr_exit ?_
         exact ⟨_, he2 _ (Option.some.inj h2), wk (by simp [weak_iff])⟩
 · refine kc1 ?_
   refine ko [6, 7, 8, 10, 11, 12, 47] 3 (by simp; rfl) ?_
   refine tops_split 47 (y2.2 != 0) (by simp) (fun c73 => ?_) (fun c73 => ?_)
   · rw [c73] at hvv6
     refine ko [6, 7, 8, 10, 12, 51] 4 (by simp; rfl) ?_
     refine kskip 5 [] (by kernel_rfl) ?_
     refine ko [6, 7, 8, 10, 12, 58] 2 (by simp; rfl) ?_
     refine kskip 5 [] (by kernel_rfl) ?_
     refine ko [6, 7, 8, 10, 12, 64] 1 (by simp; rfl) ?_
     refine tops_nil ?_
     cases hvv6
     exact ⟨_, rfl, wk (by simp [weak_iff])⟩
   · rw [c73] at hvv6
     refine ko [6, 7, 8, 10, 12, 51] 4 (by simp; rfl) ?_
     refine tops_split 51 (y4.2 != 0) (by simp) (fun c74 => ?_) (fun c74 => ?_)
     · rw [c74] at hvv6
       refine kskip 5 [] (by kernel_rfl) ?_
       refine ko [6, 7, 8, 10, 12, 58] 2 (by simp; rfl) ?_
       refine kskip 5 [] (by kernel_rfl) ?_
       refine ko [6, 7, 8, 10, 12, 64] 1 (by simp; rfl) ?_
       refine tops_nil ?_
       cases hvv6
       exact ⟨_, rfl, wk (by simp [weak_iff])⟩
     · rw [c74] at hvv6
       refine ko [6, 7, 8, 10, 12, 58] 7 (by simp; rfl) ?_
       refine tops_split 58 (decide (((y4.1).length : Int) < ((y2.1).length : Int))) (by simp) (fun c75 => ?_) (fun c75 => ?_)
       · rw [c75] at hvv6
         refine kskip 5 [] (by kernel_rfl) ?_
         refine ko [6, 7, 8, 10, 12, 64] 1 (by simp; rfl) ?_
         refine tops_nil ?_
         cases hvv6
         exact ⟨_, rfl, wk (by simp [weak_iff])⟩
       · rw [c75] at hvv6
         refine ko [6, 7, 8, 10, 12, 64] 6 (by simp; rfl) ?_
         refine tops_nil ?_
         cases hvv6
         exact ⟨_, rfl, wk (by simp [weak_iff])⟩
end Go.Vl
