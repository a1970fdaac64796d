/- The value logic, part 10: append, and the soundness of every step. Conditions: none. -/
import Derived.Test.YtnnipdjbiblekaaVmIm
set_option linter.unusedSimpArgs false
set_option linter.unusedVariables false
namespace Go.Vl
open Go Go.RowKit

section
variable {K : Ctx} {st : St} {a : Act} {w : World} {p : Pl} {P : Program}

/-- append onto an owned row -/
theorem app_own {t ty e : TypeId} {zs : List AV} (hu : P.underlying t = some (.slice e)) (hz : zerOf P e = some zs) (hpos : 0 < zs.length) (hby : byOk P e = true) (R : Rel K st a w p)
    {v : Value} {xs : List (List D)} {xv : List Value} (hown : w.ownsRow 0 e zs.length v xs.length xv) {y : AV} {ys : List (List D)} (hy : rowsOf st y = some ys) {u : Value} (hyu : RA w (okc K w p) p y u) (hyz : ∀ r ∈ ys, r.length = zs.length)
    (hsz : xs.length + ys.length ≤ 268435456) (hxz : ∀ r ∈ xs, r.length = zs.length) (hxr : ∀ (j : Nat) (d : D) (v : Value), xs.flatten[j]? = some d → xv[j]? = some v → RD w (okc K w p) d v) :
    ∃ v' w' xv', (Builtin.append_ #[t, t] ty #[v, u]).run P w = .ok v' w' ∧ w'.ownsRow 0 e zs.length v' (xs ++ ys).length xv' ∧ w.grownBy w' v.blk ∧ (v'.blk = v.blk ∨ v'.blk = some w.heap.size) ∧
      ∀ (j : Nat) (d : D) (v : Value), (xs ++ ys).flatten[j]? = some d → xv'[j]? = some v → RD w (okc K w p) d v := by
  obtain ⟨i, zv, hi, hv, hs, hzs, h1⟩ := zerOf_some hz
  have hzl : zs.length = i.size := by rw [hzs]; simp [hs]
  have hszOf : szOf P e = some i.size := by simp [szOf, hi]
  obtain ⟨b, c, rfl, hc⟩ := src_cells R hy hyu
  have hbytes : i.bytes ≤ 65536 := by simpa [byOk, hi] using hby
  rcases hc with rfl | ⟨ad, z', news, rfl, hl, hz', hcell, hone, hrd⟩
  · -- nothing is appended
    have hle : ∃ b0 c0, v = .slice b0 xs.length c0 ∧ xs.length ≤ c0 := by
      rcases hown.2 with ⟨h0, h2⟩ | ⟨g, cap, cur, h0, _, _, h2, _⟩
      · exact ⟨none, 0, by rw [h0, h2], by omega⟩
      · exact ⟨_, _, h0, h2⟩
    obtain ⟨b0, c0, rfl, hle⟩ := hle
    exact ⟨_, w, xv, append_zero hu hszOf b0 b xs.length c0 c hle w, by simpa using hown, World.grownBy.refl w _, .inl rfl, by simpa using hxr⟩
  · by_cases hy0 : ys = []
    · subst hy0
      have hle : ∃ b0 c0, v = .slice b0 xs.length c0 ∧ xs.length ≤ c0 := by
        rcases hown.2 with ⟨h0, h2⟩ | ⟨g, cap, cur, h0, _, _, h2, _⟩
        · exact ⟨none, 0, by rw [h0, h2], by omega⟩
        · exact ⟨_, _, h0, h2⟩
      obtain ⟨b0, c0, rfl, hle⟩ := hle
      exact ⟨_, w, xv, append_zero hu hszOf b0 (some ad) xs.length c0 c hle w, by simpa using hown, World.grownBy.refl w _, .inl rfl, by simpa using hxr⟩
    · obtain ⟨r, hr⟩ := List.exists_mem_of_ne_nil _ hy0
      have hzz : z' = i.size := (hz' r hr).symm.trans ((hyz r hr).trans hzl)
      subst hzz
      rw [hzl] at hown
      have hb : (xs.length + ys.length) * i.bytes ≤ 268435456 * 65536 := Nat.mul_le_mul hsz hbytes
      obtain ⟨v', w', hrun, hown', hg, _, hat⟩ := run_append_own_at (P := P) w 0 t ty e i zv i.size i.bytes hu hi hv rfl rfl hs (by omega) v xs.length xv hown ad ys.length c news hl hcell hone (by simp only [maxLen]; omega) (by omega) (Nat.zero_le _)
      refine ⟨v', w', xv ++ news, hrun, by rw [hzl, List.length_append]; exact hown', by rw [own_blk hown]; exact hg, by rw [own_blk hown, own_blk hown']; exact hat, fun j d u hd hu' => ?_⟩
      have hfx : xs.flatten.length = xs.length * i.size := by rw [← hzl]; exact flat_len hxz
      have hxvl : xv.length = xs.length * i.size := hown.1
      rw [List.flatten_append, List.getElem?_append] at hd
      rw [List.getElem?_append] at hu'
      split at hd
      · rw [if_pos (by omega)] at hu'; exact hxr j d u hd hu'
      · rw [if_neg (by omega)] at hu'; exact hrd _ d u hd (by rw [hfx, ← hxvl]; exact hu')

/-- append onto a slice whose length is its capacity: a new row -/
theorem app_full {t ty e : TypeId} {zs : List AV} (hu : P.underlying t = some (.slice e)) (hz : zerOf P e = some zs) (hpos : 0 < zs.length) (hby : byOk P e = true) (R : Rel K st a w p)
    {v : Value} {xs : List (List D)} (hx : RA w (okc K w p) p (.full xs) v) {y : AV} {ys : List (List D)} (hy : rowsOf st y = some ys) {u : Value} (hyu : RA w (okc K w p) p y u) (hyz : ∀ r ∈ ys, r.length = zs.length)
    (hsz : xs.length + ys.length ≤ 268435456) (hxz : ∀ r ∈ xs, r.length = zs.length) (hm : 0 < ys.length) :
    ∃ v' w' xv', (Builtin.append_ #[t, t] ty #[v, u]).run P w = .ok v' w' ∧ w'.ownsRow 0 e zs.length v' (xs ++ ys).length xv' ∧ w.grownBy w' none ∧ (v'.blk = none ∨ v'.blk = some w.heap.size) ∧
      ∀ (j : Nat) (d : D) (v : Value), (xs ++ ys).flatten[j]? = some d → xv'[j]? = some v → RD w (okc K w p) d v := by
  cases hx with | full hd =>
  rename_i b0
  by_cases hb0 : b0 = none
  · subst hb0
    have hx0 : xs = [] := by cases hd; rfl
    subst hx0
    obtain ⟨v', w', xv', h1, h2, h3, h4, h5⟩ := app_own (ty := ty) hu hz hpos hby R (v := .slice none 0 0) (xs := []) (xv := []) (World.ownsRow_nil w _ _ _) hy hyu hyz hsz hxz (fun j d v h => by simp at h)
    exact ⟨v', w', xv', h1, h2, h3, h4, h5⟩
  · obtain ⟨bb, rfl⟩ := Option.ne_none_iff_exists'.1 hb0
    obtain ⟨i, zv, hi, hv, hs, hzs, h1⟩ := zerOf_some hz
    have hzl : zs.length = i.size := by rw [hzs]; simp [hs]
    obtain ⟨b, c, rfl, hc⟩ := src_cells R hy hyu
    have hbytes : i.bytes ≤ 65536 := by simpa [byOk, hi] using hby
    rcases hc with rfl | ⟨ad, z', news, rfl, hl, hz', hcell, hone, hrd⟩
    · simp at hm
    · have hy0 : ys ≠ [] := fun e => by subst e; simp at hm
      obtain ⟨r, hr⟩ := List.exists_mem_of_ne_nil _ hy0
      have hzz : z' = i.size := (hz' r hr).symm.trans ((hyz r hr).trans hzl)
      subst hzz
      have hb : (xs.length + ys.length) * i.bytes ≤ 268435456 * 65536 := Nat.mul_le_mul hsz hbytes
      -- the old cells
      have holds : ∃ olds : List Value, olds.length = xs.length * i.size ∧ (∀ (j : Nat) (u : Value), olds[j]? = some u → w.cell? (bb.add j) = some u) ∧ ∀ (j : Nat) (d : D) (u : Value), xs.flatten[j]? = some d → olds[j]? = some u → RD w (okc K w p) d u := by
        obtain ⟨b', c', he, hc'⟩ := src_cells R (x := .d (.slice xs)) (rows := xs) rfl (.d hd)
        injection he with he1 he2 he3
        subst he1
        rcases hc' with rfl | ⟨ad', z'', olds, h1, h2, h3, h4, _, h5⟩
        · exact ⟨[], by simp, fun j u hj => by simp at hj, fun j d u hj => by simp at hj⟩
        · cases h1
          by_cases hx0 : xs = []
          · subst hx0; exact ⟨[], by simp, fun j u hj => by simp at hj, fun j d u hj => by simp at hj⟩
          · obtain ⟨r', hr'⟩ := List.exists_mem_of_ne_nil _ hx0
            have : z'' = i.size := (h3 r' hr').symm.trans ((hxz r' hr').trans hzl)
            subst this
            exact ⟨olds, h2, h4, h5⟩
      obtain ⟨olds, ho1, ho2, ho3⟩ := holds
      have hrun := run_append_grow (P := P) w t ty e i zv hu hi hv bb xs.length xs.length olds ho1 ho2 ad ys.length c news hl hcell (by omega) (by omega) (growslice_fits (by omega) (by omega))
      have hge := grownCap_ge w (xs.length + ys.length) xs.length e
      have hcm : grownCap w (xs.length + ys.length) xs.length e ≤ maxLen := grownCap_le_maxLen w _ _ e (by simp only [maxLen]; omega)
      have hlen : (olds ++ news).length = (xs.length + ys.length) * i.size := by rw [List.length_append, ho1, hl, Nat.add_mul]
      refine ⟨_, _, olds ++ news, hrun, ?_, ⟨rfl, rfl, rfl, by simp, fun k hk _ => Below.heap_alloc w.drew _ k hk⟩, .inr rfl, fun j d u hdd hu' => ?_⟩
      · rw [hzl, List.length_append]
        refine ⟨hlen, .inr ⟨w.heap.size, _, _, rfl, Nat.zero_le _, heap_alloc_new w.drew _, hge, hcm, ?_, ?_⟩⟩
        · simp only [Array.size_append, List.size_toArray, size_zeroCells, hs, ho1, hl, ← Nat.add_mul]
          congr 1
          omega
        · simp only [Array.toList_append, List.append_assoc]
          rw [← List.append_assoc, ← hlen]
          exact List.take_left
      · have hfx : xs.flatten.length = xs.length * i.size := by rw [← hzl]; exact flat_len hxz
        rw [List.flatten_append, List.getElem?_append] at hdd
        rw [List.getElem?_append] at hu'
        split at hdd
        · rw [if_pos (by omega)] at hu'; exact ho3 j d u hdd hu'
        · rw [if_neg (by omega)] at hu'; exact hrd _ d u hdd (by rw [hfx, ← ho1]; exact hu')

theorem app_sound (R : Rel K st a w p) {o : Oper} {x y : Operand} {t t' : TypeId} (ho : o.op = .call { callee := .builtin .append, args := #[x, y], argTypes := #[t, t'] }) {d : Nat} (hd : o.dst = some d) {st' : St}
    (h : appA P st d t t' (opd st x) (opd st y) = some st') : Stepped P K st' o a w := by
  unfold appA at h
  split at h
  case isFalse => cases h
  rename_i hh
  obtain ⟨rfl, hdn⟩ := hh
  split at h
  case h_2 => cases h
  rename_i e hu
  cases hz : zerOf P e with
  | none => simp [hz] at h
  | some zs =>
    simp only [hz, Option.bind_some] at h
    cases hy : rowsOf st (opd st y) with
    | none => simp [hy] at h
    | some ys =>
      simp only [hy, Option.bind_some] at h
      split at h
      case isFalse => cases h
      rename_i hh
      obtain ⟨hpos, hby, he6, hyz⟩ := hh
      have hyu := R.opd y
      have hxv := R.opd x
      have fin : ∀ {v' : Value} {w' : World} {p' : Pl} {st1 : St}, (Builtin.append_ #[t, t] o.type #[a.eval x, a.eval y]).run P w = .ok v' w' → Rel K st1 a w' p' → p'.lv d → p'.rw d = v' → st1.nt = st.nt → st1.put d (.vec d) = st' → Stepped P K st' o a w := by
        intro v' w' p' st1 hrun R' h1 h2 h3 h4
        refine ⟨w', p', .inl ⟨v', ?_, by rw [hd, ← h4]; exact R'.put (RA.vec_at h1 h2) (by rw [h3]; exact hdn)⟩⟩
        simp [execOp, ho, resolve, invoke, builtin, hrun]
      split at h
      · rename_i hx
        rw [hx] at hxv
        split at h
        case isFalse => cases h
        rename_i hsz
        generalize hax : a.eval x = ax at *
        cases hxv with | nilS =>
        cases hvd : get st.vec d with
        | some _ => simp [hvd] at h
        | none =>
          simp only [hvd] at h
          cases h
          obtain ⟨v', w', xv', h1, h2, h3, h4, h5⟩ := app_own (ty := o.type) hu hz hpos hby R (v := .slice none 0 0) (xs := []) (xv := []) (World.ownsRow_nil w _ _ _) hy hyu hyz (by simpa using hsz) (fun r hr => by simp at hr) (fun j d v h => by simp at h)
          exact fin h1 (R.newVec (s := ⟨e, zs.length, ys⟩) (isM_lt he6) hvd h3 h2 hyz h5 h4) (Or.inl rfl) (upd_same _ _ _) rfl rfl
      · rename_i n z' lo k hx
        rw [hx] at hxv
        split at h
        case isFalse => cases h
        rename_i hlz
        obtain ⟨rfl, rfl⟩ := hlz
        cases hs : get st.vec n with
        | none => simp [hs] at h
        | some s =>
          simp only [hs, Option.bind_some] at h
          split at h
          case isFalse => cases h
          rename_i hh
          obtain ⟨rfl, hsz', hkl, hsz, hdd⟩ := hh
          cases h
          have hM : s.isM = false := isM_lt he6
          obtain ⟨hat, hxz, _⟩ := R.vec n s hs
          obtain ⟨xv, hown, hxr⟩ := hat.row hM
          rw [hsz'] at hown
          have hxz' : ∀ r ∈ s.rows.take k, r.length = zs.length := fun r hr => (hxz r (List.mem_of_mem_take hr)).trans hsz'
          have hmul : k * zs.length ≤ s.rows.length * zs.length := Nat.mul_le_mul_right _ hkl
          have hxvl : xv.length = s.rows.length * zs.length := hown.1
          have hlk : (s.rows.take k).length = k := by simp; omega
          have hpre : p.lv n ∧ w.ownsRow 0 s.e zs.length (a.eval x) (s.rows.take k).length (xv.take (k * zs.length)) ∧ (a.eval x).blk = (p.rw n).blk := by
            rw [hlk]
            generalize a.eval x = ax at hxv
            cases hxv with
            | cut hn hv ho hle =>
              rename_i o' g c len
              have ho' := ho.2 rfl
              subst ho'
              refine ⟨hn, ⟨by simp; omega, ?_⟩, by rw [hv]; rfl⟩
              rw [hv] at hown
              rcases hown.2 with ⟨h0, _⟩ | ⟨g', cap, cur, h0, hb1, hg, hb2, hb3, hb4, hb5⟩
              · cases h0
              injection h0 with h01 h02 h03
              injection h01 with h01
              injection h01 with h01
              subst h01; subst h02; subst h03
              refine .inr ⟨g, c, cur, by simp, hb1, hg, by omega, hb3, hb4, ?_⟩
              rw [← hb5, List.take_take, Nat.min_eq_left hmul]
            | cut0 hn hv => exact ⟨hn, ⟨by simp, .inl ⟨rfl, rfl⟩⟩, by rw [hv]⟩
          obtain ⟨hn, hown2, hblk2⟩ := hpre
          obtain ⟨v', w', xv', h1, h2, h3, h4, h5⟩ := app_own (ty := o.type) hu hz hpos hby R hown2 hy hyu hyz (by rw [hlk]; exact hsz) hxz' (fun j d v hd hv => by
            rw [flat_take (fun r hr => (hxz r hr).trans hsz'), List.getElem?_take] at hd
            rw [List.getElem?_take] at hv
            split at hd
            · rename_i hj; rw [if_pos hj] at hv; exact hxr j d v hd hv
            · cases hd)
          have hdl : get (del st.vec n) d = none := by
            rw [get_del]
            split
            · rfl
            · rename_i e
              rcases hdd with rfl | h0
              · exact absurd rfl e
              · simpa using h0
          rw [hblk2] at h3 h4
          have R' := R.setVec (n := n) (d := d) (s := { s with rows := s.rows.take k ++ ys }) (isM_lt he6) hdl h3 (.inr ⟨hn, rfl⟩) (by show w'.ownsRow _ s.e s.z v' _ xv'; rw [hsz']; exact h2)
            (fun r hr => by rcases List.mem_append.1 hr with h | h; exact (hxz' r h).trans hsz'.symm; exact (hyz r h).trans hsz'.symm) h5 (by
              rcases h4 with h4 | h4
              · exact .inr (.inl ⟨hn, h4⟩)
              · exact .inr (.inr h4))
          exact fin h1 R' (Or.inl rfl) (upd_same _ _ _) rfl rfl
      · rename_i n hx
        rw [hx] at hxv
        cases hs : get st.vec n with
        | none => simp [hs] at h
        | some s =>
          simp only [hs, Option.bind_some] at h
          split at h
          case isFalse => cases h
          rename_i hh
          obtain ⟨rfl, hsz', hsz, hdd⟩ := hh
          cases h
          have hM : s.isM = false := isM_lt he6
          obtain ⟨hat, hxz, _⟩ := R.vec n s hs
          obtain ⟨xv, hown, hxr⟩ := hat.row hM
          generalize hax : a.eval x = ax at *
          cases hxv with | vec hn =>
          rw [hsz'] at hown
          obtain ⟨v', w', xv', h1, h2, h3, h4, h5⟩ := app_own (ty := o.type) hu hz hpos hby R hown hy hyu hyz hsz (fun r hr => by rw [← hsz']; exact hxz r hr) hxr
          have hdl : get (del st.vec n) d = none := by
            rw [get_del]
            split
            · rfl
            · rename_i e
              rcases hdd with rfl | h0
              · exact absurd rfl e
              · simpa using h0
          have R' := R.setVec (n := n) (d := d) (s := { s with rows := s.rows ++ ys }) (isM_lt he6) hdl h3 (.inr ⟨hn, rfl⟩) (by show w'.ownsRow _ s.e s.z v' _ xv'; rw [hsz']; exact h2)
            (fun r hr => by rcases List.mem_append.1 hr with h | h; exact hxz r h; exact (hyz r h).trans hsz'.symm) h5 (by
              rcases h4 with h4 | h4
              · exact .inr (.inl ⟨hn, h4⟩)
              · exact .inr (.inr h4))
          exact fin h1 R' (Or.inl rfl) (upd_same _ _ _) rfl rfl
      · rename_i xs hx
        rw [hx] at hxv
        split at h
        case isFalse => cases h
        rename_i hh
        obtain ⟨hsz, hm, hxz⟩ := hh
        generalize hax : a.eval x = ax at *
        cases hvd : get st.vec d with
        | some _ => simp [hvd] at h
        | none =>
          simp only [hvd] at h
          cases h
          obtain ⟨v', w', xv', h1, h2, h3, h4, h5⟩ := app_full (ty := o.type) hu hz hpos hby R hxv hy hyu hyz hsz hxz hm
          exact fin h1 (R.newVec (s := ⟨e, zs.length, xs ++ ys⟩) (isM_lt he6) hvd h3 h2 (fun r hr => by rcases List.mem_append.1 hr with h | h; exact hxz r h; exact hyz r h) h5 h4) (Or.inl rfl) (upd_same _ _ _) rfl rfl
      · cases h

theorem step_sound (R : Rel K st a w p) {o : Oper} {st' : St} (h : step P st o = some st') : Stepped P K st' o a w := by
  unfold step at h
  split at h
  · rename_i t ho
    cases hd : o.dst with
    | none => simp [hd] at h
    | some d =>
      simp only [hd, Option.bind_some] at h
      cases hz : zerOf P t with
      | none => simp [hz] at h
      | some z => simp only [hz, Option.bind_some] at h; exact allocOp_sound R ho hd hz h
  · rename_i t x ho
    cases hd : o.dst with
    | none => simp [hd] at h
    | some d =>
      simp only [hd, Option.bind_some] at h
      cases hl : cellsA (opd st x) with
      | none => simp [hl] at h
      | some l => simp only [hl, Option.bind_some] at h; exact boxOp_sound R ho hd hl h
  · rename_i t n parts ho
    cases hd : o.dst with
    | none => simp [hd] at h
    | some d => simp only [hd, Option.bind_some] at h; exact buildS_sound R ho hd h
  · rename_i t x y ho
    cases hd : o.dst with
    | none => simp only [hd] at h; exact store_sound R ho hd h
    | some d => simp [hd] at h
  · rename_i c ho
    obtain ⟨callee, ⟨args⟩, ⟨tys⟩⟩ := c
    dsimp only at h
    split at h
    · rename_i x y t t'
      cases hd : o.dst with
      | none => simp [hd] at h
      | some d => simp only [hd, Option.bind_some] at h; exact app_sound R ho hd h
    · exact copy_sound R ho h
    · exact del_sound R ho h
    · rename_i x t
      split at h
      · rename_i n hl; exact lenM_sound R ho hl h
      · exact vput_sound R h
    · exact vput_sound R h
  · rename_i t l c ho
    cases hd : o.dst with
    | none => simp [hd] at h
    | some d => simp only [hd, Option.bind_some] at h; exact mkS_sound R ho hd h
  · rename_i t r ho
    cases hd : o.dst with
    | none => simp [hd] at h
    | some d => simp only [hd, Option.bind_some] at h; exact mk_sound R ho hd h
  · rename_i t x k okb ho
    exact look_sound R ho h
  · rename_i t x k y ho
    cases hd : o.dst with
    | none => simp only [hd] at h; exact upd_sound R (.inl ho) hd h
    | some d => simp [hd] at h
  · rename_i t x k y ho
    cases hd : o.dst with
    | none => simp only [hd] at h; exact upd_sound R (.inr ho) hd h
    | some d => simp [hd] at h
  · exact vput_sound R h
end
end Go.Vl
