/- The value logic: a region that draws its order, taken in the order of the text: the theorem and its use. Conditions: none. -/
import Derived.Test.YtkgimfomocpebabVlS
set_option linter.unusedSimpArgs false
set_option linter.unusedVariables false
namespace Go.Vl
open Go Go.RowKit

section
variable {P : Program} {K : Ctx} {st0 : St} {l : List Oper} {n : Nat} {As : List (List Nat)} {C W : List Nat} {es : List Eff} {Q : Exit → St → Prop}

theorem anc_spec {ops : Array Oper} (h : ancB ops As = true) {i : Nat} {o : Oper} (hi : ops[i]? = some o) :
    (∀ j ∈ edgesB o, j < i) ∧ ∀ j ∈ As.getD i [], ∃ k ∈ edgesB o, k = j ∨ j ∈ As.getD k [] := by
  have hlt : i < ops.size := (Array.getElem?_eq_some_iff.1 hi).1
  simp only [ancB, List.all_eq_true, List.mem_range] at h
  have := h i hlt
  simp only [hi, Bool.and_eq_true, List.all_eq_true, decide_eq_true_eq, List.any_eq_true, Bool.or_eq_true, beq_iff_eq, List.contains_iff_mem] at this
  exact ⟨this.1, this.2⟩
theorem edges_mem {o : Oper} {j : Nat} : j ∈ edgesB o ↔ ∃ e ∈ o.after, Region.binds .any e = true ∧ e.on = j := by
  simp [edgesB, and_assoc]

theorem ready_iff {ops : Array Oper} {listed : Array Bool} {i : Nat} : i ∈ Region.ready .any ops listed ↔ i < ops.size ∧ listed.getD i true = false ∧ ∃ o, ops[i]? = some o ∧ ∀ j ∈ edgesB o, listed.getD j false = true := by
  unfold Region.ready
  rw [List.mem_filter, List.mem_range]
  refine and_congr_right fun hi => ?_
  rw [Bool.and_eq_true, Bool.not_eq_true']
  refine and_congr_right fun _ => ?_
  have h0 : ops[i]? = some ops[i] := Array.getElem?_eq_getElem hi
  rw [h0]
  simp only [Option.map_some, Option.getD_some, Array.all_eq_true_iff_forall_mem, Option.some.injEq, exists_eq_left']
  constructor
  · intro h j hj
    obtain ⟨e, he, hb, rfl⟩ := edges_mem.1 hj
    have := h e he
    rw [hb] at this
    simpa using this
  · intro h e he
    cases hb : Region.binds .any e with
    | false => rfl
    | true => simpa using h e.on (edges_mem.2 ⟨e, he, hb, rfl⟩)

structure Fl (N : Nat) (L : List Nat) (listed : Array Bool) : Prop where
  size : listed.size = N
  at_ : ∀ i, i < N → (listed.getD i true = true ↔ i ∈ L)
theorem Fl.getF {size : Nat} {L : List Nat} {listed : Array Bool} (F : Fl size L listed) {i : Nat} (hi : i < size) : listed.getD i false = true ↔ i ∈ L := by
  rw [← F.at_ i hi]
  have : i < listed.size := by rw [F.size]; exact hi
  simp [Array.getD, this]
theorem Fl.cons {size : Nat} {L : List Nat} {listed : Array Bool} (F : Fl size L listed) {i : Nat} : Fl size (i :: L) (listed.setIfInBounds i true) where
  size := by simp [F.size]
  at_ := fun j hj => by
    have hj' : j < listed.size := by rw [F.size]; exact hj
    have := F.at_ j hj
    simp only [Array.getD, Array.size_setIfInBounds, hj', dite_true, Array.getInternal_eq_getElem, Array.getElem_setIfInBounds] at this ⊢
    by_cases e : i = j
    · simp [e]
    · simp [e, this, Ne.symm e]

theorem Cert.dd {ops : Array Oper} (H : Cert P ops st0 As C W es) (hd : dstB ops n = true) (hn : es.length = n) {t i j : Nat} (h1 : (atE es i).d = some t) (h2 : (atE es j).d = some t) : i = j := by
  have lt : ∀ {i}, (atE es i).d = some t → i < n := fun {i} h => by
    rcases Nat.lt_or_ge i es.length with hl | hl
    · omega
    · rw [atE_none hl] at h; exact absurd h (by simp [default])
  obtain ⟨o, a1, _, a2, _⟩ := H.loc i (by rw [hn]; exact lt h1)
  obtain ⟨o', b1, _, b2, _⟩ := H.loc j (by rw [hn]; exact lt h2)
  simp only [dstB, List.all_eq_true, List.mem_range, Bool.or_eq_true, beq_iff_eq] at hd
  rcases hd i (lt h1) j (lt h2) with h | h
  · exact h
  · rw [a1, b1] at h
    simp only [Option.bind_some, ← a2, ← b2, h1, h2] at h
    simp at h

theorem envL_congr {es' : List Eff} : ∀ {A : List Nat} {b : List (Nat × AV)}, (∀ j ∈ A, atE es j = atE es' j) → envL es A b = envL es' A b
  | [], _, _ => rfl
  | j :: A, b, h => by simp only [envL]; rw [h j (by simp), envL_congr fun k hk => h k (by simp [hk])]
theorem alL_congr {es' : List Eff} : ∀ {A : List Nat} {b : List (Nat × List AV)}, (∀ j ∈ A, atE es j = atE es' j) → alL es A b = alL es' A b
  | [], _, _ => rfl
  | j :: A, b, h => by simp only [alL]; rw [h j (by simp), alL_congr fun k hk => h k (by simp [hk])]
theorem nvL_congr {es' : List Eff} : ∀ {A : List Nat} {b : List (Nat × VS)}, (∀ j ∈ A, atE es j = atE es' j) → nvL es A b = nvL es' A b
  | [], _, _ => rfl
  | j :: A, b, h => by simp only [nvL]; rw [h j (by simp), nvL_congr fun k hk => h k (by simp [hk])]
theorem chE_congr {es' : List Eff} : ∀ {A : List Nat} {b : List (Nat × List AV)}, (∀ j ∈ A, atE es j = atE es' j) → chE es A b = chE es' A b
  | [], _, _ => rfl
  | j :: A, b, h => by simp only [chE]; rw [h j (by simp), chE_congr fun k hk => h k (by simp [hk])]
theorem atE_take {i j : Nat} (h : j < i) : atE (es.take i) j = atE es j := by simp [atE, List.getD, List.getElem?_take_of_lt h]

structure DrOk (ops : Array Oper) (n : Nat) (As : List (List Nat)) (C : List Nat) : Prop where
  anc : ancB ops As = true
  tail : tailB ops As n = true
  dst : dstB ops n = true
  see : seeB ops As n = true
  chain : chainB As C n = true
theorem drOk {ops : Array Oper} (h : drawB ops As C n = true) : DrOk ops n As C := by
  simp only [drawB, Bool.and_eq_true] at h
  obtain ⟨⟨⟨⟨h1, h2⟩, h3⟩, h4⟩, h5⟩ := h
  exact ⟨h1, h2, h3, h4, h5⟩
theorem DrOk.ch {ops : Array Oper} (D : DrOk ops n As C) : (∀ c ∈ C, c < n) ∧ chainB.go As C = true := by
  have := D.chain
  simp only [chainB, Bool.and_eq_true, List.all_eq_true, decide_eq_true_eq] at this
  exact ⟨this.1.1, this.2⟩

theorem dr_agr {ops : Array Oper} (D : DrOk ops n As C) (H : Cert P ops st0 As C W es) (hn : es.length = n) {L : List Nat} (X : Ex n As L) {i : Nat} (hi : i < n) (hL : i ∉ L) (ha : ∀ j ∈ As.getD i [], j ∈ L) {o : Oper} (ho : ops[i]? = some o) :
    Agr ops o (locSt As C W st0 (es.take i) i) (conf es st0 L) := by
  have hAlt : ∀ j ∈ As.getD i [], j < i := by
    have key : ∀ i, ∀ o, ops[i]? = some o → ∀ j ∈ As.getD i [], j < i := fun i => by
      induction i using Nat.strongRecOn with
      | _ i ih =>
        intro o ho j hj
        obtain ⟨g1, g2⟩ := anc_spec D.anc ho
        obtain ⟨k, hk, rfl | hjk⟩ := g2 j hj
        · exact g1 _ hk
        · have hki := g1 k hk
          have hks : k < ops.size := by have := (Array.getElem?_eq_some_iff.1 ho).1; omega
          exact Nat.lt_trans (ih k hki _ (Array.getElem?_eq_getElem hks) j hjk) hki
    exact key i o ho
  have hu : ∀ {t : Nat} (i j : Nat), (atE es i).d = some t → (atE es j).d = some t → i = j := fun i j h1 h2 => H.dd D.dst hn h1 h2
  have hbef : ∀ c ∈ befC C i [], i ∈ C → c < i := fun c hc hiC => by
    obtain ⟨pre, post, e⟩ := List.append_of_mem hiC
    subst e
    obtain ⟨hnd, hpw⟩ := chain_spec D.ch.2
    have hipre : i ∉ pre := fun h => (List.nodup_append.1 hnd).2.2 i h i (by simp) rfl
    rw [befC_eq hipre] at hc
    exact hAlt c ((List.pairwise_append.1 hpw).2.2 c (by simpa using hc) i (by simp))
  refine ⟨conf_nt L, fun m s hm => ?_, fun t ht => ?_, fun m cs hm => ?_⟩
  · simp only [locSt] at hm
    rw [nvL_congr (es := es.take i) (es' := es) fun j hj => atE_take (hAlt j hj)] at hm
    rw [conf_vec]
    by_cases hex : ∃ j ∈ As.getD i [], makesV es j m
    · obtain ⟨j, hj, hk⟩ := hex
      rw [nvL_a hu _ hj hk] at hm
      rw [nvL_a hu _ (ha j hj) hk, hm]
    · rw [nvL_b _ fun j hj h => hex ⟨j, hj, h⟩] at hm
      rw [nvL_b _ fun j hj h => ?_, hm]
      have := H.mkV h
      rw [hm] at this; cases this
  · simp only [St.look, conf_env, locSt]
    rw [envL_congr (es := es.take i) (es' := es) fun j hj => atE_take (hAlt j hj)]
    by_cases hex : ∃ j ∈ As.getD i [], (atE es j).d = some t
    · obtain ⟨j, hj, hd⟩ := hex
      rw [envL_a hu _ (ha j hj) hd, envL_a hu _ hj hd]
    · rw [envL_b, envL_b]
      · exact fun j hj h => hex ⟨j, hj, h⟩
      · intro j hj hd
        have hjn := X.lt j hj
        obtain ⟨oj, hoj, _, hdj, _⟩ := H.loc j (by rw [hn]; exact hjn)
        have hs := D.see
        simp only [seeB, List.all_eq_true, List.mem_range] at hs
        have := hs i hi
        rw [ho] at this
        simp only [List.all_eq_true, List.mem_range] at this
        have := this j hjn
        rw [hoj] at this
        simp only [Option.bind_some, ← hdj, hd, Bool.or_eq_true, Bool.not_eq_true', beq_iff_eq, List.contains_iff_mem] at this
        rcases this with ((h | h) | h) | h
        · rw [← Bool.not_eq_true, List.contains_iff_mem] at h; exact h ht
        · exact hex ⟨j, h, hd⟩
        · exact hL (h ▸ hj)
        · exact hL (X.down j hj i h)
  · simp only [locSt] at hm
    rw [alL_congr (es := es.take i) (es' := es) fun j hj => atE_take (hAlt j hj)] at hm
    by_cases hex : ∃ j ∈ As.getD i [], makes es j m
    · obtain ⟨j, hj, hk⟩ := hex
      rw [alL_a hu _ hj hk] at hm
      rw [conf_box_out H (H.mkW hk).1, alL_a hu _ (ha j hj) hk, hm]
    · rw [alL_b _ fun j hj h => hex ⟨j, hj, h⟩] at hm
      by_cases hmW : m ∈ W
      · split at hm
        · rename_i hiC
          rw [chE_congr (es := es.take i) (es' := es) fun j hj => atE_take (hbef j hj hiC)] at hm
          rw [conf_box_in H hmW, X.chainAt D.ch.2 hiC hL ha, hm]
        · rw [get_delW, if_pos hmW] at hm; cases hm
      · have h0 : get st0.box m = some cs := by
          split at hm
          · rename_i hiC
            have : ∀ L, get (chE (es.take i) L st0.box) m = get st0.box m := fun L => by
              induction L with
              | nil => rfl
              | cons c L ih =>
                simp only [chE]
                rw [get_app, get_none (l := (atE (es.take i) c).bs) fun x hx e => ?_, ih]
                rcases Nat.lt_or_ge c i with hci | hci
                · rw [atE_take hci] at hx; exact hmW (e ▸ H.bsW c x hx)
                · rw [atE_none (by simp; omega)] at hx; exact absurd hx (by simp [default])
            rwa [this] at hm
          · rwa [get_delW, if_neg hmW] at hm
        rw [conf_box_out H hmW, alL_b _ fun j hj h => ?_, h0]
        have := (H.mkW h).2
        rw [h0] at this; cases this

theorem dr_eqv {ops : Array Oper} (D : DrOk ops n As C) (H : Cert P ops st0 As C W es) (hn : es.length = n) {L L' : List Nat} (X : Ex n As L) (hl : L.length = n) (X' : Ex n As L') (hl' : L'.length = n) : Eqv (conf es st0 L) (conf es st0 L') := by
  have hu : ∀ {t : Nat} (i j : Nat), (atE es i).d = some t → (atE es j).d = some t → i = j := fun i j h1 h2 => H.dd D.dst hn h1 h2
  have mem : ∀ i, i ∈ L ↔ i ∈ L' := fun i => ⟨fun h => X'.full hl' i (X.lt i h), fun h => X.full hl i (X'.lt i h)⟩
  have hch : ∀ {M : List Nat}, Ex n As M → M.length = n → M.filter (C.contains ·) = C.reverse := fun {L} X hl => by
    obtain ⟨m, hm⟩ := X.chain D.ch.2
    rw [hm]
    have hlen : (L.filter (C.contains ·)).length = (C.take m).length := by rw [hm]; simp
    have hsub : ∀ c ∈ C, c ∈ C.take m := fun c hc => by
      rw [← List.mem_reverse, ← hm, List.mem_filter]
      exact ⟨X.full hl c (D.ch.1 c hc), by simpa using hc⟩
    have := Ex.len.List.Nodup.length_le_of_subset' (chain_spec D.ch.2).1 hsub
    rw [List.take_of_length_le (by simp at this; omega)]
  refine ⟨by rw [conf_nt, conf_nt], fun t => ?_, fun m => ?_, fun m => by
    rw [conf_vec, conf_vec]
    by_cases hex : ∃ j ∈ L, makesV es j m
    · obtain ⟨j, hj, hd⟩ := hex
      rw [nvL_a hu _ hj hd, nvL_a hu _ ((mem j).1 hj) hd]
    · rw [nvL_b _ fun j hj h => hex ⟨j, (mem j).2 hj, h⟩, nvL_b _ fun j hj h => hex ⟨j, hj, h⟩]⟩
  · rw [conf_env, conf_env]
    by_cases hex : ∃ j ∈ L, (atE es j).d = some t
    · obtain ⟨j, hj, hd⟩ := hex
      rw [envL_a hu _ hj hd, envL_a hu _ ((mem j).1 hj) hd]
    · rw [envL_b _ fun j hj h => hex ⟨j, (mem j).2 hj, h⟩, envL_b _ fun j hj h => hex ⟨j, hj, h⟩]
  · by_cases hmW : m ∈ W
    · rw [conf_box_in H hmW, conf_box_in H hmW, hch X hl, hch X' hl']
    · rw [conf_box_out H hmW, conf_box_out H hmW]
      by_cases hex : ∃ j ∈ L, makes es j m
      · obtain ⟨j, hj, hd⟩ := hex
        rw [alL_a hu _ hj hd, alL_a hu _ ((mem j).1 hj) hd]
      · rw [alL_b _ fun j hj h => hex ⟨j, (mem j).2 hj, h⟩, alL_b _ fun j hj h => hex ⟨j, hj, h⟩]

theorem dr_run {ops : Array Oper} (D : DrOk ops n As C) (H : Cert P ops st0 As C W es) (hn : es.length = n) (hl : ∀ j, (l.drop n)[j]? = ops[n + j]?) (hsz : ops.size = l.length) {F : St} (hF : Eqv (conf es st0 (List.range n).reverse) F)
    (HT : TOps P K ops (l.drop n) F Q) : ∀ (k : Nat) (L : List Nat) (listed : Array Bool) (a : Act) (w : World) (p : Pl), L.length + k = n → Ex n As L → Fl ops.size L listed → Rel K (conf es st0 L) a w p →
    wpAny P .any ops (Pst K Q) (k + (ops.size - n)) listed a w := by
  have ht := D.tail
  simp only [tailB, Bool.and_eq_true, decide_eq_true_eq, List.all_eq_true, List.mem_range, Bool.or_eq_true, List.contains_iff_mem] at ht
  obtain ⟨⟨hns, htl⟩, hseq⟩ := ht
  have X0 : ∀ k ≤ n, Ex n As (List.range k).reverse := fun k => by
    induction k with
    | zero => intro _; exact .nil
    | succ k ih =>
      intro hk
      rw [List.range_succ, List.reverse_append]
      refine .cons (ih (by omega)) hk (by simp) fun j hj => ?_
      have hks : k < ops.size := by omega
      have key : ∀ i, ∀ o, ops[i]? = some o → ∀ j ∈ As.getD i [], j < i := fun i => by
        induction i using Nat.strongRecOn with
        | _ i ih =>
          intro o ho j hj
          obtain ⟨g1, g2⟩ := anc_spec D.anc ho
          obtain ⟨k, hk, rfl | hjk⟩ := g2 j hj
          · exact g1 _ hk
          · have hki := g1 k hk
            have hks : k < ops.size := by have := (Array.getElem?_eq_some_iff.1 ho).1; omega
            exact Nat.lt_trans (ih k hki _ (Array.getElem?_eq_getElem hks) j hjk) hki
      simpa using key k _ (Array.getElem?_eq_getElem hks) j hj
  intro k
  induction k with
  | zero =>
    intro L listed a w p hlen X fl R
    have hLn : L.length = n := by omega
    have hlist : listed = Array.replicate n true ++ Array.replicate (ops.size - n) false := by
      refine Array.ext_getElem? fun j => ?_
      rw [Array.getElem?_append]
      simp only [Array.size_replicate, Array.getElem?_replicate]
      by_cases hj : j < n
      · have hjs : j < ops.size := by omega
        have h1 := (fl.at_ j hjs).2 (X.full hLn j hj)
        have hjl : j < listed.size := by rw [fl.size]; exact hjs
        simp only [Array.getD, hjl, dite_true, Array.getInternal_eq_getElem] at h1
        simp [hj, Array.getElem?_eq_getElem hjl, h1]
      · by_cases hjs : j < ops.size
        · have h1 : ¬ listed.getD j true = true := fun h => hj (X.lt j ((fl.at_ j hjs).1 h))
          have hjl : j < listed.size := by rw [fl.size]; exact hjs
          simp only [Array.getD, hjl, dite_true, Array.getInternal_eq_getElem] at h1
          simp [hj, Array.getElem?_eq_getElem hjl, h1, show j - n < ops.size - n by omega]
        · simp [hj, show ¬ j - n < ops.size - n by omega, Array.getElem?_eq_none (show listed.size ≤ j by rw [fl.size]; omega)]
    have hdl : (l.drop n).length = ops.size - n := by simp [hsz]
    have R2 : Rel K F a w p := (R.eqv (dr_eqv D H hn X hLn (X0 n (Nat.le_refl n)) (by simp))).eqv hF
    have := wpAny_of_seq (md := .any) (Q' := Pst K Q) (l.drop n) n listed a w hl (by rw [hdl, hlist]; exact hseq) (HT a w p R2)
    rw [hdl] at this
    rw [Nat.zero_add]; exact this
  | succ k ih =>
    intro L listed a w p hlen X fl R
    rw [show k + 1 + (ops.size - n) = (k + (ops.size - n)) + 1 by omega]
    have edgeIn : ∀ {i : Nat} {o : Oper}, ops[i]? = some o → ∀ j ∈ edgesB o, j < ops.size := fun {i o} ho j hj => by
      have := (anc_spec D.anc ho).1 j hj
      have := (Array.getElem?_eq_some_iff.1 ho).1
      omega
    refine ⟨fun hr => ?_, fun i hi => ?_⟩
    · exfalso
      -- the least one that is not yet carried out is ready
      have hex : ∃ i, i < n ∧ i ∉ L := by
        refine Classical.byContradiction fun hno => ?_
        have hall : ∀ i ∈ List.range n, i ∈ L := fun i hi => Classical.byContradiction fun h => hno ⟨i, List.mem_range.1 hi, h⟩
        have := Ex.len.List.Nodup.length_le_of_subset' List.nodup_range hall
        simp at this; omega
      have hmin : ∀ m, (∀ i < m, i < n → i ∈ L) ∨ ∃ i, i < n ∧ i ∉ L ∧ ∀ j < i, j ∈ L := fun m => by
        induction m with
        | zero => exact .inl fun i hi => by omega
        | succ m ihm =>
          rcases ihm with h | h
          · by_cases hm : m < n ∧ m ∉ L
            · exact .inr ⟨m, hm.1, hm.2, fun j hj => h j hj (by omega)⟩
            · refine .inl fun i hi hin => ?_
              rcases Nat.lt_succ_iff_lt_or_eq.1 hi with h1 | h1
              · exact h i h1 hin
              · subst h1; exact Classical.byContradiction fun h2 => hm ⟨hin, h2⟩
          · exact .inr h
      obtain ⟨i, hin, hiL, hbel⟩ : ∃ i, i < n ∧ i ∉ L ∧ ∀ j < i, j ∈ L := by
        rcases hmin n with h | h
        · obtain ⟨i, h1, h2⟩ := hex; exact absurd (h i h1 h1) h2
        · exact h
      have his : i < ops.size := by omega
      have ho : ops[i]? = some ops[i] := Array.getElem?_eq_getElem his
      have : i ∈ Region.ready .any ops listed := ready_iff.2 ⟨his, by
        have := fl.at_ i his
        cases hq : listed.getD i true with
        | false => rfl
        | true => exact absurd (this.1 hq) hiL, _, ho, fun j hj => (fl.getF (edgeIn ho j hj)).2 (hbel j ((anc_spec D.anc ho).1 j hj))⟩
      rw [hr] at this; cases this
    · obtain ⟨his, hun, o, ho, hed⟩ := ready_iff.1 hi
      have hiL : i ∉ L := fun h => by rw [(fl.at_ i his).2 h] at hun; cases hun
      have hedL : ∀ j ∈ edgesB o, j ∈ L := fun j hj => (fl.getF (edgeIn ho j hj)).1 (hed j hj)
      have ha : ∀ j ∈ As.getD i [], j ∈ L := fun j hj => by
        obtain ⟨m, hm, rfl | hjm⟩ := (anc_spec D.anc ho).2 j hj
        · exact hedL _ hm
        · exact X.down m (hedL m hm) j hjm
      have hin : i < n := by
        refine Classical.byContradiction fun hge => ?_
        rcases htl i his with h | h
        · exact hge h
        · have := Ex.len.List.Nodup.length_le_of_subset' List.nodup_range (l' := L) fun j hj => ha j (h j (List.mem_range.1 hj))
          simp at this; omega
      obtain ⟨o', ho', hloc, hdd, hal, _, _, _⟩ := H.loc i (by rw [hn]; exact hin)
      rw [ho] at ho'; cases ho'
      have A := dr_agr D H hn X hin hiL ha ho
      have hop := hloc.run (K := K) A (conf_nt L) (fun d h1 h2 => ⟨by
        rw [conf_vec, nvL_b _ fun j hj hk => ?_]
        · exact h2
        · have := H.dd D.dst hn hk.1 (hdd.trans h1); subst this; exact hiL hj, by
        have hAlt : ∀ j ∈ As.getD i [], j < i := fun j hj => by
          have key : ∀ i, ∀ o, ops[i]? = some o → ∀ j ∈ As.getD i [], j < i := fun i => by
            induction i using Nat.strongRecOn with
            | _ i ih =>
              intro o ho j hj
              obtain ⟨g1, g2⟩ := anc_spec D.anc ho
              obtain ⟨k, hk, rfl | hjk⟩ := g2 j hj
              · exact g1 _ hk
              · have hki := g1 k hk
                have hks : k < ops.size := by have := (Array.getElem?_eq_some_iff.1 ho).1; omega
                exact Nat.lt_trans (ih k hki _ (Array.getElem?_eq_getElem hks) j hjk) hki
          exact key i o ho j hj
        simp only [locSt]
        rw [nvL_congr (es := es.take i) (es' := es) fun j hj => atE_take (hAlt j hj), nvL_b _ fun j hj hk => ?_]
        · exact h2
        · have := H.dd D.dst hn hk.1 (hdd.trans h1); subst this; have := hAlt _ hj; omega⟩) fun d cs h1 h2 => by
        have hmk : makes es i d := ⟨h2, by rw [h1]; rfl⟩
        rw [conf_box_out H (H.mkW hmk).1, alL_b _ fun j hj hk => ?_]
        · exact (H.mkW hmk).2
        · have := H.dd D.dst hn hk.1 h2; subst this; exact hiL hj
      exact hop.wpOp ho R fun a' w' p' R' => ih (i :: L) _ a' w' p' (by simp; omega) (.cons X hin hiL ha) fl.cons R'

/-- es: what the first operations yield and turn -/
def DOps (P : Program) (K : Ctx) (l : List Oper) (st0 : St) (As : List (List Nat)) (C W : List Nat) (n : Nat) (Q : Exit → St → Prop) (es : List Eff) : Prop :=
  DrOk l.toArray n As C → Cert P l.toArray st0 As C W es → ∀ (a : Act) (w : World) (p : Pl), Rel K st0 a w p → wpAny P .any l.toArray (Pst K Q) l.toArray.size (Array.replicate l.toArray.size false) a w

theorem dr_start {id : Nat} (As : List (List Nat)) (C W : List Nat) (n : Nat) (hm : P.follows .mixedOrders = true) (hB : drawB l.toArray As C n = true) (h : DOps P K l st0 As C W n Q []) : Tr P K (.region id l.toArray true) st0 Q := fun a w p R =>
  wp_region_any hm (h (drOk hB) ⟨fun i hi => by simp at hi⟩ a _ p R.drew)

def onL : List Eff → St → St
  | [], st => st
  | e :: es, st => onL es (e.on st)
theorem onL_app : ∀ (es : List Eff) (e : Eff) (st : St), onL (es ++ [e]) st = e.on (onL es st)
  | [], _, _ => rfl
  | _ :: es, e, st => onL_app es e _
theorem conf_range : ∀ k, k ≤ es.length → conf es st0 (List.range k).reverse = onL (es.take k) st0
  | 0, _ => rfl
  | k + 1, h => by
    rw [List.range_succ, List.reverse_append]
    show (atE es k).on (conf es st0 (List.range k).reverse) = _
    rw [conf_range k (by omega), List.take_add_one, List.getElem?_eq_getElem (by omega), Option.toList_some, onL_app]
    simp [atE, show k < es.length by omega]

theorem dr_end (hlen : es.length = n) (h : TOps P K l.toArray (l.drop n) (onL es st0) Q) : DOps P K l st0 As C W n Q es := fun D H a w p R => by
  have hns : n ≤ l.toArray.size := by
    have ht := D.tail
    simp only [tailB, Bool.and_eq_true, decide_eq_true_eq] at ht
    exact ht.1.1
  have := dr_run (K := K) (Q := Q) D H hlen (by simp) (by simp) (F := onL es st0) (by
    rw [conf_range n (by omega), List.take_of_length_le (by omega)]; exact Eqv.refl _) h n [] (Array.replicate l.toArray.size false) a w p (by simp) .nil ⟨by simp, fun i hi => by simp [Array.getD, show i < l.length from by simpa using hi]⟩ R
  rwa [show n + (l.toArray.size - n) = l.toArray.size by omega] at this

theorem Cert.add {ops : Array Oper} (H : Cert P ops st0 As C W es) {o : Oper} {e : Eff} (ho : ops[es.length]? = some o) (hL : Loc P ops st0 (locSt As C W st0 es es.length) o e) (hd : e.d = o.dst) (hal : ∀ d, e.al.isSome = true → e.d = some d → d ∉ W ∧ get st0.box d = none) (hnv : ∀ d, e.nv.isSome = true → e.d = some d → get st0.vec d = none)
    (hbs : ∀ x ∈ e.bs, x.1 ∈ W) (hC : es.length ∉ C → e.bs = []) : Cert P ops st0 As C W (es ++ [e]) := ⟨fun i hi => by
  rcases Nat.lt_or_ge i es.length with h | h
  · obtain ⟨o', a1, a2, a3⟩ := H.loc i h
    have e1 : atE (es ++ [e]) i = atE es i := by simp [atE, List.getD, List.getElem?_append_left h]
    rw [e1, List.take_append_of_le_length (by omega)]
    exact ⟨o', a1, a2, a3⟩
  · have hi' : i = es.length := by simp at hi; omega
    subst hi'
    have e1 : atE (es ++ [e]) es.length = e := by simp [atE]
    rw [e1, List.take_append_of_le_length (by omega), List.take_length]
    exact ⟨o, ho, hL, hd, hal, hnv, hbs, hC⟩⟩

def effO (P : Program) (ops : Array Oper) (st0 S : St) (o : Oper) (W : List Nat) : Option Eff :=
  match gdA ops S o with
  | none => none
  | some false => match o.dst with
    | some d => if d < st0.nt then some ⟨some d, .tup [], none, [], none⟩ else none
    | none => some ⟨none, .tup [], none, [], none⟩
  | some true => match o.op with
    | .alloc t => o.dst.bind fun d => (zerOf P t).bind fun z => if d < st0.nt ∧ (get st0.box d).isNone = true ∧ d ∉ W then some ⟨some d, .ptr d 0, some z, [], none⟩ else none
    | .box _ x => o.dst.bind fun d => (cellsA (opd S x)).bind fun z => if d < st0.nt ∧ (get st0.box d).isNone = true ∧ d ∉ W then some ⟨some d, .ptr d 0, some z, [], none⟩ else none
    | .buildSlice t n parts => o.dst.bind fun d => if (get st0.vec d).isNone = true then (buildSA P S d t n (parts.toList.map fun x => (x.1, opd S x.2))).bind fun st' => match st'.vec with
        | (_, s) :: _ => some ⟨some d, .d (.slice s.rows), none, [], none⟩
        | [] => none else none
    | .call c => match c.callee, c.args.toList, c.argTypes.toList with
      | .builtin .append, [x, y], [t, t'] => o.dst.bind fun d => match opd S x with
        | .nilS => if (get st0.vec d).isNone = true then (appA P S d t t' .nilS (opd S y)).bind fun st' => match st'.vec with
          | (_, s) :: _ => some ⟨some d, .vec d, none, [], some s⟩
          | [] => none else none
        | _ => none
      | _, _, _ => (vstep P S o).bind fun x => match o.dst with
        | some d => if d < st0.nt then some ⟨some d, x, none, [], none⟩ else none
        | none => some ⟨none, x, none, [], none⟩
    | _ => (vstep P S o).bind fun x => match o.dst with
      | some d => if d < st0.nt then some ⟨some d, x, none, [], none⟩ else none
      | none => some ⟨none, x, none, [], none⟩

theorem buildSA_form {S st' : St} {d : Nat} {t : TypeId} {n : Nat} {parts : List (Nat × AV)} (h : buildSA P S d t n parts = some st') : ∃ s, st' = St.put { S with vec := (d, s) :: S.vec } d (.vec d) := by
  unfold buildSA at h
  split at h
  case h_2 => cases h
  rename_i e0 he
  cases hz : zerOf P e0 with
  | none => simp [hz] at h
  | some zs =>
    simp only [hz, Option.bind_some] at h
    split at h
    case isFalse => cases h
    rename_i hc
    cases hr : fillA (fun i => some (i * zs.length, zs.length)) (List.replicate (n * zs.length) .undef) parts with
    | none => simp [hr] at h
    | some r =>
      simp only [hr, Option.bind_some] at h
      cases hd2 : toDs r with
      | none => simp [hd2] at h
      | some ds =>
        simp only [hd2, Option.bind_some] at h
        split at h
        · cases h; exact ⟨_, rfl⟩
        · cases h

theorem appA_form {S st' : St} {d : Nat} {t t' : TypeId} {y : AV} (h : appA P S d t t' .nilS y = some st') : ∃ s, st' = St.put { S with vec := (d, s) :: S.vec } d (.vec d) := by
  unfold appA at h
  split at h
  case isFalse => cases h
  split at h
  case h_2 => cases h
  rename_i e he
  cases hz : zerOf P e with
  | none => simp [hz] at h
  | some zs =>
    simp only [hz, Option.bind_some] at h
    cases hr : rowsOf S y with
    | none => simp [hr] at h
    | some ys =>
      simp only [hr, Option.bind_some] at h
      split at h
      case isFalse => cases h
      split at h
      case isFalse => cases h
      split at h
      · cases h; exact ⟨_, rfl⟩
      · cases h

theorem effO_loc {ops : Array Oper} {S : St} {o : Oper} {e : Eff} (h : effO P ops st0 S o W = some e) :
    Loc P ops st0 S o e ∧ e.d = o.dst ∧ (∀ d, e.al.isSome = true → e.d = some d → d ∉ W ∧ get st0.box d = none) ∧ (∀ d, e.nv.isSome = true → e.d = some d → get st0.vec d = none) ∧ e.bs = [] := by
  unfold effO at h
  split at h
  · cases h
  · rename_i hg
    split at h
    · rename_i d hd
      split at h
      case isFalse => cases h
      rename_i hlt
      cases h
      have := Loc.skip (P := P) (st0 := st0) hg (fun d' h' => by rw [hd] at h'; cases h'; exact hlt)
      rw [hd] at this
      exact ⟨this, hd.symm, fun _ h1 => (by simp at h1), fun _ h1 => (by simp at h1), rfl⟩
    · rename_i hd
      cases h
      have := Loc.skip (P := P) (st0 := st0) hg (fun d' h' => by rw [hd] at h'; cases h')
      rw [hd] at this
      exact ⟨this, hd.symm, fun _ h1 => (by simp at h1), fun _ h1 => (by simp at h1), rfl⟩
  · rename_i hg
    have deflt : ((vstep P S o).bind fun x => match o.dst with
        | some d => if d < st0.nt then some ⟨some d, x, none, [], none⟩ else none
        | none => some ⟨none, x, none, [], none⟩ : Option Eff) = some e → Loc P ops st0 S o e ∧ e.d = o.dst ∧ (∀ d, e.al.isSome = true → e.d = some d → d ∉ W ∧ get st0.box d = none) ∧ (∀ d, e.nv.isSome = true → e.d = some d → get st0.vec d = none) ∧ e.bs = [] := fun h => by
      cases hx : vstep P S o with
      | none => simp [hx] at h
      | some x =>
        simp only [hx, Option.bind_some] at h
        split at h
        · rename_i d hd
          split at h
          case isFalse => cases h
          rename_i hlt
          cases h
          have := Loc.val (P := P) (st0 := st0) hg hx (fun d' h' => by rw [hd] at h'; cases h'; exact hlt)
          rw [hd] at this
          exact ⟨this, hd.symm, fun _ h1 => (by simp at h1), fun _ h1 => (by simp at h1), rfl⟩
        · rename_i hd
          cases h
          have := Loc.val (P := P) (st0 := st0) hg hx (fun d' h' => by rw [hd] at h'; cases h')
          rw [hd] at this
          exact ⟨this, hd.symm, fun _ h1 => (by simp at h1), fun _ h1 => (by simp at h1), rfl⟩
    split at h
    · rename_i t ho
      cases hd : o.dst with
      | none => simp [hd] at h
      | some d =>
        simp only [hd, Option.bind_some] at h
        cases hz : zerOf P t with
        | none => simp [hz] at h
        | some z =>
          simp only [hz, Option.bind_some] at h
          split at h
          case isFalse => cases h
          rename_i hc
          cases h
          exact ⟨.alloc hg ho hz hd (by simpa using hc.2.1) hc.1, rfl, fun d' _ h2 => (by cases h2; exact ⟨hc.2.2, by simpa using hc.2.1⟩), fun _ h1 => (by simp at h1), rfl⟩
    · rename_i t x ho
      cases hd : o.dst with
      | none => simp [hd] at h
      | some d =>
        simp only [hd, Option.bind_some] at h
        cases hz : cellsA (opd S x) with
        | none => simp [hz] at h
        | some z =>
          simp only [hz, Option.bind_some] at h
          split at h
          case isFalse => cases h
          rename_i hc
          cases h
          exact ⟨.box hg ho hz hd (by simpa using hc.2.1) hc.1, rfl, fun d' _ h2 => (by cases h2; exact ⟨hc.2.2, by simpa using hc.2.1⟩), fun _ h1 => (by simp at h1), rfl⟩
    · rename_i t n parts ho
      cases hd : o.dst with
      | none => simp [hd] at h
      | some d =>
        simp only [hd, Option.bind_some] at h
        split at h
        case isFalse => cases h
        rename_i hv
        cases hb : buildSA P S d t n (parts.toList.map fun x => (x.1, opd S x.2)) with
        | none => simp [hb] at h
        | some st' =>
          obtain ⟨s, rfl⟩ := buildSA_form hb
          simp only [hb, Option.bind_some, St.put] at h
          cases h
          exact ⟨.data hg ho hd (by simpa using hv) hb, rfl, fun _ h1 => (by simp at h1), fun _ h1 => (by simp at h1), rfl⟩
    · rename_i c ho
      split at h
      · rename_i x y t t' hc ha ht
        cases hd : o.dst with
        | none => simp [hd] at h
        | some d =>
          simp only [hd, Option.bind_some] at h
          split at h
          case h_2 => cases h
          rename_i hx
          split at h
          case isFalse => cases h
          rename_i hv
          cases hb : appA P S d t t' .nilS (opd S y) with
          | none => simp [hb] at h
          | some st' =>
            obtain ⟨s, rfl⟩ := appA_form hb
            simp only [hb, Option.bind_some, St.put] at h
            cases h
            exact ⟨.app hg ho hc ha ht hd hx (by simpa using hv) (by rw [hx]; exact hb), rfl, fun _ h1 => (by simp at h1), fun d' _ h2 => (by cases h2; simpa using hv), rfl⟩
      · exact deflt h
    · exact deflt h

/-- k operations that are no calls -/
def effs (P : Program) (ops : Array Oper) (st0 : St) (As : List (List Nat)) (C W : List Nat) : List Oper → Nat → List Eff → Option (List Eff)
  | [], _, es => some es
  | o :: os, i, es => (effO P ops st0 (locSt As C W st0 es i) o W).bind fun e => effs P ops st0 As C W os (i + 1) (es ++ [e])

theorem effs_cert {ops : Array Oper} : ∀ {os : List Oper} {es es' : List Eff}, (∀ j o, os[j]? = some o → ops[es.length + j]? = some o) → effs P ops st0 As C W os es.length es = some es' → Cert P ops st0 As C W es → Cert P ops st0 As C W es'
  | [], es, es', _, h, H => by simp [effs] at h; subst h; exact H
  | o :: os, es, es', hop, h, H => by
    simp only [effs] at h
    cases he : effO P ops st0 (locSt As C W st0 es es.length) o W with
    | none => simp [he] at h
    | some e =>
      simp only [he, Option.bind_some] at h
      obtain ⟨h1, h2, h3, h5, h4⟩ := effO_loc he
      refine effs_cert (es := es ++ [e]) (fun j o' hj => ?_) (by simpa using h) (H.add (by simpa using hop 0 o rfl) h1 h2 h3 h5 (by rw [h4]; simp) (fun _ => h4))
      have := hop (j + 1) o' (by simpa using hj)
      simpa [Nat.add_assoc, Nat.add_comm 1 j] using this

theorem dr_go (i k : Nat) {es' : List Eff} (hlen : es.length = i) (h : effs P l.toArray st0 As C W ((l.drop i).take k) i es = some es') (H : DOps P K l st0 As C W n Q es') : DOps P K l st0 As C W n Q es := fun D H0 =>
  H D (effs_cert (fun j o hj => by
    have hjk : j < k := by
      have h2 : j < ((l.drop i).take k).length := (List.getElem?_eq_some_iff.1 hj).1
      rw [List.length_take] at h2; omega
    have h3 : ((l.drop i).take k)[j]? = some o := hj
    rw [List.getElem?_take_of_lt hjk, List.getElem?_drop] at h3
    rw [hlen]; simpa using h3) (by rw [hlen]; exact h) H0)

theorem dr_call (i : Nat) {f : FuncId} {bx : List (List AV)} {cargs : List AV} {res : AV} {bx' : List (List AV)} {o : Oper} {c : Call} {y : Operand} {d : Nat} (σ : List Nat) (F : FnOK P f bx cargs res bx') (hlen : es.length = i) (ho0 : l[i]? = some o) (ho : o.op = .call c) (hc : c.callee = .value y) (hd : o.dst = some d)
    (hcall : ∀ (args : Array Value) (w : World), (callFunc f args).run P w = .ok (.enter f args) w)
    (hall : gdA l.toArray (locSt As C W st0 es i) o = some true ∧ d < st0.nt ∧ σ.Nodup ∧ (∃ caps, opd (locSt As C W st0 es i) y = .fn f caps ∧ (c.args.toList.map (opd (locSt As C W st0 es i)) ++ caps).map (AV.view [] [] σ) = cargs) ∧ boxesIn (locSt As C W st0 es i) [] σ σ bx ∧ bx.length = bx'.length ∧ (∀ x ∈ σ, x ∈ W) ∧ (i ∉ C → σ = []))
    (H : DOps P K l st0 As C W n Q (es ++ [⟨some d, res.back [] σ, none, boxesOut [] σ σ bx' [], none⟩])) : DOps P K l st0 As C W n Q es := fun D H0 => by
  obtain ⟨hg, hdn, hσ, hargs, hbx, hl, hW, hC⟩ := hall
  subst hlen
  refine H D (H0.add (by simpa using ho0) (.call σ F hg ho hc hd hcall hdn hσ hargs hbx hl) hd.symm (fun _ h => (by simp at h)) (fun _ h => (by simp at h)) (fun x hx => ?_) (fun h => ?_))
  · have key : ∀ (σ0 σ : List Nat) (bx : List (List AV)), ∀ x ∈ boxesOut [] σ0 σ bx [], x.1 ∈ σ := fun σ0 σ => by
      induction σ with
      | nil => intro bx x hx; cases bx <;> cases hx
      | cons m σ ih =>
        intro bx x hx
        cases bx with
        | nil => simp [boxesOut] at hx
        | cons c bx =>
          simp only [boxesOut, List.mem_cons] at hx
          rcases hx with rfl | hx
          · simp
          · simp [ih bx x hx]
    exact hW _ (key σ σ bx' x hx)
  · rw [hC h]; cases bx' <;> rfl
end
end Go.Vl
