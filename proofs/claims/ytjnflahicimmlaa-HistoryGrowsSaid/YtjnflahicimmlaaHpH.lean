/- The plain laws of HistoryClosed, HistoryPrefix, HistoryGrows, HistoryCycles, HistoryLater. Conditions: none. -/
import Derived.Test.YtjnflahicimmlaaHpE
import Derived.Test.YtjnflahicimmlaaHBm
set_option linter.unusedSimpArgs false
set_option linter.unusedVariables false
namespace Go.Vl
open Go
/-! The example -/
abbrev aw1 : api_Object := ⟨1, 2, [], [], 0, [], ByteArray.empty, 0⟩
abbrev aw2 : api_Object := ⟨2, 3, [], [], 1, [], (⟨#[97]⟩ : ByteArray), 0⟩
abbrev aw3 : api_Object := ⟨3, 3, [], [], 1, [], (⟨#[98]⟩ : ByteArray), 0⟩
abbrev awR : api_Repository := ⟨[aw1, aw2, aw3], [⟨1, (⟨#[109]⟩ : ByteArray), 2, 5⟩, ⟨1, (⟨#[109]⟩ : ByteArray), 3, 9⟩]⟩
theorem aw_fit : FitR awR := by
  refine ⟨fun o ho => ?_, fun e he => ?_⟩
  · simp only [List.mem_cons, List.not_mem_nil, or_false] at ho
    rcases ho with rfl | rfl | rfl <;> exact ⟨by simp, by decide⟩
  · simp only [List.mem_cons, List.not_mem_nil, or_false] at he
    rcases he with rfl | rfl <;> decide
theorem aw_nm : nmB (⟨#[97]⟩ : ByteArray) = true ∧ nmB (⟨#[98]⟩ : ByteArray) = true ∧ nmB (⟨#[109]⟩ : ByteArray) = true := by
  refine ⟨?_, ?_, ?_⟩ <;> decide +kernel
theorem aw_ok : OkV awR := by
  obtain ⟨n1, n2, n3⟩ := aw_nm
  refine ⟨by simp, by simp, fun o ho => ?_, fun e he => ?_, by simp, fun o ho => ?_, ?_, ?_, fun e he => ?_, by simp, ?_⟩
  · refine objE_zero.2 ?_
    simp only [List.mem_cons, List.not_mem_nil, or_false] at ho
    rcases ho with rfl | rfl | rfl
    · exact ⟨rfl, by simp, by unfold rightB; rw [other_no rfl rfl rfl rfl]; simp⟩
    · exact ⟨rfl, by simp, by unfold rightB commitB; rw [n1]; simp [numB]⟩
    · exact ⟨rfl, by simp, by unfold rightB commitB; rw [n2]; simp [numB]⟩
  · simp only [List.mem_cons, List.not_mem_nil, or_false] at he
    rcases he with rfl | rfl <;> (unfold wrongB; rw [n3]; rfl)
  · simp only [List.mem_cons, List.not_mem_nil, or_false] at ho
    rcases ho with rfl | rfl | rfl <;> simp [hereB, kindM, objM, mget_cons, inE, mget_nil]
  · exact nlB_iff (fun e he hk => by
      simp only [List.mem_cons, List.not_mem_nil, or_false] at he
      rcases he with rfl | rfl <;> simp [kindM, objM, mget_cons, inE, mget_nil]) (by simp [delB])
  · refine cyc_no fun q hq j hj => ?_
    obtain ⟨o, ho, rfl⟩ := List.mem_map.1 hq
    simp only [List.mem_cons, List.not_mem_nil, or_false] at ho
    rcases ho with rfl | rfl | rfl <;> simp [namesO] at hj ⊢ <;> omega
  · simp only [List.mem_cons, List.not_mem_nil, or_false] at he
    rcases he with rfl | rfl <;> rfl
  · exact many_no (ns := [(⟨#[109]⟩ : ByteArray)]) (by simp) (by simp) (by simp) (by simp)
theorem aw_seeds (t : Int) : seedsAt awR t = if t < 5 then [] else if t < 9 then [2] else [3] := by
  unfold seedsAt
  simp only [refsF]
  by_cases h1 : t < 5
  · rw [if_pos h1, if_pos h1]; rfl
  · rw [if_neg h1, if_neg h1]
    by_cases h2 : t < 9
    · rw [if_pos h2, if_pos h2]; simp [refStep, mset_nil]
    · rw [if_neg h2, if_neg h2]; simp [refStep, mset_nil, mset_cons, stE]
theorem aw_nmO (id : Int) : nmO (objM awR.Objects) id = if id = 2 ∨ id = 3 then [1] else [] := by
  unfold nmO
  simp only [objM, List.map_cons, List.map_nil, mget_cons, mget_nil, inE, beq_iff_eq]
  by_cases h1 : id = 1
  · subst h1; simp [namesO]
  · by_cases h2 : id = 2
    · subst h2; simp [namesO]
    · by_cases h3 : id = 3
      · subst h3; simp [namesO]
      · simp [h1, h2, h3, namesO]
theorem aw_rch {s : Int} (hs : s = 2 ∨ s = 3) {id : Int} : Rch (objM awR.Objects) [s] id ↔ id = s ∨ id = 1 := by
  constructor
  · intro h
    induction h with
    | seed h => exact .inl (List.mem_singleton.1 h)
    | step _ h ih =>
      rw [aw_nmO] at h
      split at h
      · exact .inr (List.mem_singleton.1 h)
      · cases h
  · rintro (rfl | rfl)
    · exact .seed (by simp)
    · exact .step (id := s) (.seed (by simp)) (by rw [aw_nmO, if_pos hs]; simp)
theorem aw_reach {s : Int} (hs : s = 2 ∨ s = 3) : reachL (objM awR.Objects) [s] = [1, s] := by
  have hm : RchM (objM awR.Objects) [s] [(1, true), (s, true)] := ⟨by rcases hs with rfl | rfl <;> simp, by simp, fun id => by rw [aw_rch hs]; simp; exact or_comm⟩
  rw [← reachL_eq hm]
  rw [show ([(1, true), (s, true)] : List (Int × Bool)).map (·.1) = [1, s] from rfl]
  exact sortI_id (by rcases hs with rfl | rfl <;> simp)
theorem aw_lost : lostL awR (objM awR.Objects) 9 = [2] := by
  have hn : (lostL awR (objM awR.Objects) 9).Nodup := aw_ok.lost_nd 9
  have hmem : ∀ x, x ∈ lostL awR (objM awR.Objects) 9 ↔ x = 2 := fun x => by
    rw [aw_ok.lost_mem, aw_seeds 9, if_neg (by omega), if_neg (by omega), aw_rch (.inr rfl)]
    constructor
    · rintro ⟨⟨u, h1, h2⟩, h3⟩
      obtain ⟨i, hi, e, he, hs, hr, rfl, _⟩ := (seen_char _).2 u h1
      rw [aw_seeds] at hr
      split at hr
      · exact absurd hr rch_nil
      · split at hr
        · rcases (aw_rch (.inl rfl)).1 hr with h | h
          · exact h
          · omega
        · have := (aw_rch (.inr rfl)).1 hr; omega
    · rintro rfl
      have h := rch_seen aw_ok.so (t := 5) (id := 2) (all := objM awR.Objects) (by rw [aw_seeds 5, if_neg (by omega), if_pos (by omega)]; exact .seed (by simp))
      obtain ⟨u, h1, h2⟩ := h
      exact ⟨⟨u, h1, by omega⟩, by omega⟩
  refine List.Perm.eq_of_pairwise (le := fun x y : Int => x ≤ y) (fun x y _ _ h1 h2 => by omega) ?_ (by simp) ((List.perm_ext_iff_of_nodup hn (by simp)).2 fun x => by rw [hmem]; simp)
  unfold lostL
  exact List.Pairwise.filter _ aw_ok.ever_so
theorem awake15 : law15_awake = some true := by
  unfold law15_awake
  rw [show (⟨[(⟨1, 2, [], [], 0, [], ByteArray.empty, 0⟩ : api_Object), (⟨2, 3, [], [], 1, [], (⟨#[97]⟩ : ByteArray), 0⟩ : api_Object), (⟨3, 3, [], [], 1, [], (⟨#[98]⟩ : ByteArray), 0⟩ : api_Object)], [(⟨1, (⟨#[109]⟩ : ByteArray), 2, 5⟩ : api_RefEvent), (⟨1, (⟨#[109]⟩ : ByteArray), 3, 9⟩ : api_RefEvent)]⟩ : api_Repository) = awR from rfl]
  rw [aw_ok.reachable aw_fit, aw_ok.lost aw_fit, aw_lost, aw_seeds 8, if_neg (by omega), if_pos (by omega), aw_reach (.inl rfl)]
  rfl
/-! Sets -/
noncomputable def setL (l : List Int) : List (Int × Bool) := l.foldl (fun m x => mset inE m x true) []
theorem setL_get' : ∀ (l : List Int) (m : List (Int × Bool)) (x : Int), mget inE (l.foldl (fun m x => mset inE m x true) m) x = if x ∈ l then some true else mget inE m x
  | [], m, x => by simp
  | y :: l, m, x => by
    rw [List.foldl_cons, setL_get' l]
    by_cases h : x ∈ l
    · simp [h]
    · rw [if_neg h]
      by_cases h2 : x = y
      · rw [(mget_mset inE_eq _ _ _ _).1 h2, if_pos (by simp [h2])]
      · rw [(mget_mset inE_eq _ _ _ _).2 h2, if_neg (by simp [h, h2])]
theorem setL_get (l : List Int) (x : Int) : (mget inE (setL l) x).getD false = decide (x ∈ l) := by
  unfold setL
  rw [setL_get']
  by_cases h : x ∈ l
  · simp [h]
  · simp [h, mget_nil]
theorem set_loop {body : Int × List (Int × Bool) → Option (Lp (Int × List (Int × Bool)) (List (Int × Bool)))} {l : List Int} (hl : l.length ≤ 1000000)
    (hb : ∀ s, body s = if (decide (s.1 < ((l).length : Int))) = true then (idx l s.1).bind fun x => some (.go (IntKind.i64.wrap (s.1 + 1), (mset inE s.2 x true))) else some (.out s.2)) : iter body (0, []) = some (setL l) := by
  rw [iter_foldl l (fun m x => mset inE m x true) (fun m => m) (fun _ _ => True) (fun i hi s _ => ⟨?_, trivial⟩) (fun s _ => ?_) [] trivial]
  · rfl
  · rw [hb, if_pos (by simp; omega), idx_lt hi, w64 (by omega) (by omega)]; rfl
  · rw [hb, if_neg (by simp)]
theorem iter_allT {α : Type} {body : Int → Option (Lp Int (Unit ⊕ Bool))} (l : List α) (hgo : ∀ (i : Nat) (h : i < l.length), body (i : Int) = some (.go ((i + 1 : Nat) : Int)))
    (hend : body (l.length : Int) = some (.out (.inl ()))) : iter body 0 = some (.inl ()) := by
  rw [iter_allL l (fun _ => true) false (fun i hi => by rw [hgo i hi]; simp) hend]; simp
/-! HistoryClosed -/
theorem closed_in {r : api_Repository} (V : OkV r) {t : Int} {o : api_Object} (ho : o ∈ r.Objects) (h : Rch (objM r.Objects) (seedsAt r t) o.ID) {j : Int} (hj : j ∈ namesO o) : Rch (objM r.Objects) (seedsAt r t) j :=
  .step h (by rw [V.nm ho]; exact hj)
theorem bAndM (x : Int) (k : Nat) (hk : k ≤ 62) (m : Int) (hm : m = ((2 ^ k - 1 : Nat) : Int)) : bAnd .i64 x m = x % ((2 ^ k : Nat) : Int) := by
  have hp : 2 ^ k ≤ 2 ^ 62 := Nat.pow_le_pow_right (by decide) hk
  have hp0 : 0 < 2 ^ k := Nat.pos_of_ne_zero (by simp)
  have hd : (2 : Nat) ^ k ∣ 2 ^ 64 := Nat.pow_dvd_pow 2 (by omega)
  have h : (BitVec.ofInt 64 x &&& BitVec.ofInt 64 m).toNat = (x % ((2 ^ k : Nat) : Int)).toNat := by
    rw [BitVec.toNat_and]
    have h1 : (BitVec.ofInt 64 m).toNat = 2 ^ k - 1 := by
      rw [BitVec.toNat_ofInt, hm, Int.emod_eq_of_lt (by omega) (by simp only [Nat.reducePow] at *; omega)]; omega
    rw [h1, Nat.and_two_pow_sub_one_eq_mod, BitVec.toNat_ofInt]
    have h2 : ((x % ((2 ^ 64 : Nat) : Int)).toNat : Int) = x % ((2 ^ 64 : Nat) : Int) := Int.toNat_of_nonneg (Int.emod_nonneg _ (by decide))
    have h3 : (((x % ((2 ^ 64 : Nat) : Int)).toNat % 2 ^ k : Nat) : Int) = x % ((2 ^ k : Nat) : Int) := by
      rw [Int.natCast_emod, h2, Int.emod_emod_of_dvd _ (Int.natCast_dvd_natCast.2 hd)]
    rw [← h3]; rfl
  show IntKind.i64.wrap (((BitVec.ofInt 64 x &&& BitVec.ofInt 64 m).toNat : Nat) : Int) = _
  rw [h]
  have h4 : 0 ≤ x % ((2 ^ k : Nat) : Int) := Int.emod_nonneg _ (by omega)
  have h5 : x % ((2 ^ k : Nat) : Int) < ((2 ^ k : Nat) : Int) := Int.emod_lt_of_pos _ (by omega)
  rw [w64 (by omega) (by simp only [Nat.reducePow] at *; omega)]
  omega
theorem bAnd31 (x : Int) : 0 ≤ bAnd .i64 x 31 ∧ bAnd .i64 x 31 ≤ 31 := by
  rw [bAndM x 5 (by omega) 31 (by decide)]
  constructor
  · exact Int.emod_nonneg _ (by decide)
  · have := Int.emod_lt_of_pos x (b := ((2 ^ 5 : Nat) : Int)) (by decide)
    simp only [Nat.reducePow] at *
    omega
theorem sortIt_mem {l : List api_Item} {x : api_Item} : x ∈ sortIt l ↔ x ∈ l := (List.mergeSort_perm l fun x y => !decide (cfI y x < 0)).mem_iff
theorem refs_len {r : api_Repository} (V : OkV r) (t : Int) : (refsF t [] r.Events).length ≤ 300 := by
  have := seedsAt_len r t
  have h2 := V.ne
  unfold seedsAt at this
  simp at this
  omega
theorem sortIt_len (l : List api_Item) : (sortIt l).length = l.length := List.length_mergeSort _
theorem HistoryClosed_law (a : List Int) (a1 : Int) : law15_HistoryClosed a a1 = some true := by
  unfold law15_HistoryClosed
  obtain ⟨r, m, e1, M, _, _, _⟩ := repo_ex a
  have V := M.ok
  have hf := M.fit
  rw [e1]
  simp only [Option.bind_some]
  generalize bAnd .i64 a1 31 = x
  rw [V.reachable hf x]
  simp only [Option.bind_some]
  have hl := V.reach_len x
  rw [set_loop (body := law15_HistoryClosed_l0 (reachL (objM r.Objects) (seedsAt r x))) (l := reachL (objM r.Objects) (seedsAt r x)) (by omega) (fun s => rfl)]
  simp only [Option.bind_some]
  rw [V.refs hf x]
  simp only [Option.bind_some]
  have hin : ∀ id, (mget inE (setL (reachL (objM r.Objects) (seedsAt r x))) id).getD false = true ↔ Rch (objM r.Objects) (seedsAt r x) id := fun id => by
    rw [setL_get, decide_eq_true_eq, V.reach_mem]
  have hrl : (sortIt ((refsF x [] r.Events).map itemOf)).length ≤ 300 := by rw [sortIt_len, List.length_map]; exact refs_len V x
  rw [iter_allT (sortIt ((refsF x [] r.Events).map itemOf)) ?hg ?he]
  case he =>
    unfold law15_HistoryClosed_l1
    rw [if_neg (by simp)]
  case hg =>
    intro i hi
    unfold law15_HistoryClosed_l1
    rw [if_pos (by simp; omega), idx_lt hi, w64 (by omega) (by omega)]
    simp only [Option.bind_some]
    rw [if_neg]
    · rfl
    · have h1 : (sortIt ((refsF x [] r.Events).map itemOf))[i] ∈ (refsF x [] r.Events).map itemOf := sortIt_mem.1 (List.getElem_mem hi)
      obtain ⟨q, hq, e⟩ := List.mem_map.1 h1
      rw [← e]
      have : Rch (objM r.Objects) (seedsAt r x) (itemOf q).ID := .seed (List.mem_map.2 ⟨q, hq, rfl⟩)
      rw [(hin _).2 this]; decide
  simp only [Option.bind_some]
  have hno := V.no
  rw [iter_allT r.Objects ?hg ?he]
  case he =>
    unfold law15_HistoryClosed_l2
    rw [if_neg (by simp)]
  case hg =>
    intro i hi
    unfold law15_HistoryClosed_l2
    have ho := List.getElem_mem hi
    simp only
    rw [if_pos (by simp; omega), idx_lt hi, w64 (by omega) (by omega)]
    simp only [Option.bind_some]
    by_cases hR : Rch (objM r.Objects) (seedsAt r x) r.Objects[i].ID
    · rw [if_neg (by rw [(hin _).2 hR]; decide)]
      have hob := V.obj ho
      have hT : (r.Objects[i].Kind == 3 && !((mget inE (setL (reachL (objM r.Objects) (seedsAt r x))) r.Objects[i].Tree).getD false)) = false := by
        by_cases hk : r.Objects[i].Kind = 3
        · rw [(hin _).2 (closed_in V ho hR (by unfold namesO; simp [hk]))]; simp
        · simp [hk]
      rw [hT, if_neg (by decide)]
      rw [iter_allT r.Objects[i].Parents ?hg ?he]
      case he =>
        unfold law15_HistoryClosed_l3
        rw [if_neg (by simp)]
      case hg =>
        intro j hj
        unfold law15_HistoryClosed_l3
        rw [if_pos (by simp; omega), idx_lt hj, w64 (by omega) (by omega)]
        simp only [Option.bind_some]
        rw [if_neg (by rw [(hin _).2 (closed_in V ho hR (by unfold namesO; simp))]; decide)]
        rfl
      simp only [Option.bind_some]
      rw [iter_allT r.Objects[i].Items ?hg ?he]
      case he =>
        unfold law15_HistoryClosed_l4
        rw [if_neg (by simp)]
      case hg =>
        intro j hj
        unfold law15_HistoryClosed_l4
        rw [if_pos (by simp; omega), idx_lt hj, w64 (by omega) (by omega)]
        simp only [Option.bind_some]
        rw [if_neg (by rw [(hin _).2 (closed_in V ho hR (by unfold namesO; simp only [List.mem_append, List.mem_map]; exact .inl (.inr ⟨_, List.getElem_mem hj, rfl⟩)))]; decide)]
        rfl
      rfl
    · have : (mget inE (setL (reachL (objM r.Objects) (seedsAt r x))) r.Objects[i].ID).getD false = false := by
        cases hb : (mget inE (setL (reachL (objM r.Objects) (seedsAt r x))) r.Objects[i].ID).getD false with
        | false => rfl
        | true => exact absurd ((hin _).1 hb) hR
      rw [this, if_pos (by decide)]
      rfl
  simp only [Option.bind_some, awake15]
/-! HistoryPrefix -/
theorem ints_self {l : List Int} (hl : l.length ≤ 1000000) : ref15_Ints l l = some true := by
  unfold ref15_Ints
  rw [if_neg (by simp), iter_allT l ?hg ?he]
  case he =>
    unfold ref15_Ints_l0
    rw [if_neg (by simp)]
  case hg =>
    intro i hi
    unfold ref15_Ints_l0
    rw [if_pos (by simp; omega), idx_lt hi, w64 (by omega) (by omega)]
    simp
  rfl
theorem items_self {l : List api_Item} (hl : l.length ≤ 1000000) : ref15_Items l l = some true := by
  unfold ref15_Items
  rw [if_neg (by simp), iter_allT l ?hg ?he]
  case he =>
    unfold ref15_Items_l0
    rw [if_neg (by simp)]
  case hg =>
    intro i hi
    unfold ref15_Items_l0
    rw [if_pos (by simp; omega), idx_lt hi, w64 (by omega) (by omega)]
    simp
  rfl
theorem refsF_cut {t : Int} : ∀ {l l2 : List api_RefEvent} {m : List (ByteArray × Int)}, (∀ e ∈ l2, t < e.Time) → refsF t m (l ++ l2) = refsF t m l
  | [], l2, m, h => by rw [List.nil_append, refsF_none h]; rfl
  | e :: l, l2, m, h => by
    simp only [List.cons_append, refsF]
    rw [refsF_cut h]
theorem refsF_append {t : Int} : ∀ {l l2 : List api_RefEvent} {m : List (ByteArray × Int)}, (∀ e ∈ l, e.Time ≤ t) → refsF t m (l ++ l2) = refsF t (refsF t m l) l2
  | [], l2, m, h => rfl
  | e :: l, l2, m, h => by
    have := h e (by simp)
    simp only [List.cons_append, refsF]
    rw [if_neg (by omega), if_neg (by omega), refsF_append fun x hx => h x (by simp [hx])]
theorem prefix_loop {r : api_Repository} {m : make_Tape} (M : MadeR r) {k : Nat} {a1 : Int} (hk : (Int.toNat (((bAnd .i64 a1 255)).tmod (IntKind.i64.wrap (((r.Events).length : Int) + 1)))) = k) {v : Int} (hv : v ≤ 1000) (h : ∀ t, t ≤ v → ∀ e ∈ r.Events.drop k, t < e.Time) :
    law15_HistoryPrefix_j0 (r, m) a1 v = some true := by
  unfold law15_HistoryPrefix_j0
  have hl : iter (law15_HistoryPrefix_l1 v (r, m) a1) 0 = some (.inl ()) := by
    refine iter_eq (body := law15_HistoryPrefix_l1 v (r, m) a1) (fun s => 0 ≤ s) (fun s => (v + 1 - s).toNat) (fun _ => (.inl () : Unit ⊕ Bool)) (fun s hs => ?_) (Int.le_refl 0)
    unfold law15_HistoryPrefix_l1
    by_cases hsv : s ≤ v
    · left
      have V := M.ok
      have V2 := (M.cut k).ok
      have hR : refsF s [] (r.Events.take k) = refsF s [] r.Events := by
        have := refsF_cut (l := r.Events.take k) (l2 := r.Events.drop k) (m := []) (h s hsv)
        rw [List.take_append_drop] at this
        exact this.symm
      have hS : seedsAt ⟨r.Objects, r.Events.take k⟩ s = seedsAt r s := by unfold seedsAt; rw [hR]
      rw [if_pos (by simpa using hsv)]
      simp only [hk]
      rw [V.reachable M.fit s, V2.reachable (M.cut k).fit s]
      simp only [Option.bind_some, hS]
      have h1 := V.reach_len s
      rw [ints_self (by omega), V.refs M.fit s, V2.refs (M.cut k).fit s]
      simp only [Option.bind_some, hR]
      have h2 := refs_len V s
      rw [items_self (by rw [sortIt_len, List.length_map]; omega), w64 (by omega) (by omega)]
      exact ⟨s + 1, rfl, by omega, by omega, trivial⟩
    · right
      rw [if_neg (by simpa using hsv)]
  rw [hl]
  simp only [Option.bind_some, awake15]
theorem HistoryPrefix_law (a : List Int) (a1 : Int) : law15_HistoryPrefix a a1 = some true := by
  unfold law15_HistoryPrefix
  obtain ⟨r, m, e1, M, _, ht, _⟩ := repo_ex a
  rw [e1]
  simp only [Option.bind_some]
  have hle := M.le
  have hw : IntKind.i64.wrap ((r.Events.length : Int) + 1) = (r.Events.length : Int) + 1 := w64 (by omega) (by omega)
  have hb : bAnd .i64 a1 255 = a1 % 256 := bAndM a1 8 (by omega) 255 (by decide)
  have h0 : 0 ≤ a1 % 256 := Int.emod_nonneg _ (by decide)
  have hk : ∃ k : Nat, (bAnd .i64 a1 255).tmod (IntKind.i64.wrap ((r.Events.length : Int) + 1)) = (k : Int) ∧ k ≤ r.Events.length := by
    rw [hw, hb, Int.tmod_eq_emod_of_nonneg h0]
    have g1 := Int.emod_nonneg (a1 % 256) (b := (r.Events.length : Int) + 1) (by omega)
    have g2 := Int.emod_lt_of_pos (a1 % 256) (b := (r.Events.length : Int) + 1) (by omega)
    exact ⟨((a1 % 256) % ((r.Events.length : Int) + 1)).toNat, by omega, by omega⟩
  obtain ⟨k, hk, hkl⟩ := hk
  have hkn : (Int.toNat (((bAnd .i64 a1 255)).tmod (IntKind.i64.wrap (((r.Events).length : Int) + 1)))) = k := by rw [hk]; omega
  rw [ck_t (by rw [hw]; omega), ck_t (by rw [hk]; omega)]
  simp only [Option.bind_some]
  rw [hkn, (M.cut k).ok.val (M.cut k).fit]
  simp only [Option.bind_some]
  rw [if_neg (by decide), hk]
  by_cases c1 : k < r.Events.length
  · rw [if_pos (by simp; omega), idx_lt c1]
    simp only [Option.bind_some]
    have h1 := (M.e.ok _ (List.getElem_mem c1)).t
    rw [w64 (by omega) (by omega)]
    refine prefix_loop M hkn (by omega) fun t htv e he => ?_
    obtain ⟨j, hj, rfl⟩ := List.getElem_of_mem he
    rw [List.getElem_drop]
    have hj2 : k + j < r.Events.length := by simp at hj; omega
    rcases Nat.eq_zero_or_pos j with h | h
    · subst h; simp only [Nat.add_zero]; omega
    · have := List.pairwise_iff_getElem.1 M.e.so k (k + j) c1 hj2 (by omega)
      omega
  · have hke : k = r.Events.length := by omega
    rw [if_neg (by simp; omega)]
    have hd : ∀ (v : Int) (t : Int), t ≤ v → ∀ e ∈ r.Events.drop k, t < e.Time := fun v t _ e he => by rw [hke, List.drop_length] at he; cases he
    by_cases c2 : 0 < k
    · rw [if_pos (by simp; omega), w64 (by omega) (by omega), show ((k : Int) - 1) = ((k - 1 : Nat) : Int) by omega, idx_lt (show k - 1 < r.Events.length by omega)]
      simp only [Option.bind_some]
      have h1 := (M.e.ok _ (List.getElem_mem (show k - 1 < r.Events.length by omega))).t
      exact prefix_loop M hkn (by omega) (hd _)
    · rw [if_neg (by simp; omega)]
      exact prefix_loop M hkn (by omega) (hd _)
end Go.Vl

namespace Go.Vl
open Go
/-! HistoryGrows -/
open Classical in
/-- reached for the first time by then -/
noncomputable def byB (r : api_Repository) (x : Int) (id : Int) : Bool := decide (∃ u, seenF r (objM r.Objects) r.Events.length id = some u ∧ u ≤ x)
open Classical in
theorem by_mem {r : api_Repository} (V : OkV r) {x id : Int} : id ∈ reachL (objM r.Objects) (seedsAt r x) ++ lostL r (objM r.Objects) x ↔ byB r x id = true := by
  rw [List.mem_append, V.reach_mem, V.lost_mem]
  unfold byB
  rw [decide_eq_true_eq]
  constructor
  · rintro (h | h)
    · exact rch_seen V.so h
    · exact h.1
  · intro h
    by_cases hr : Rch (objM r.Objects) (seedsAt r x) id
    · exact .inl hr
    · exact .inr ⟨h, hr⟩
theorem by_nd {r : api_Repository} (V : OkV r) (x : Int) : (reachL (objM r.Objects) (seedsAt r x) ++ lostL r (objM r.Objects) x).Nodup := by
  rw [List.nodup_append]
  refine ⟨V.reach_nd x, V.lost_nd x, fun a ha b hb => ?_⟩
  rintro rfl
  exact (V.lost_mem.1 hb).2 (V.reach_mem.1 ha)
open Classical in
theorem by_count {r : api_Repository} (V : OkV r) (x : Int) : (reachL (objM r.Objects) (seedsAt r x)).length + (lostL r (objM r.Objects) x).length = (r.Objects.filter fun o => byB r x o.ID).length := by
  rw [← List.length_append]
  have e : (r.Objects.filter fun o => byB r x o.ID).length = ((r.Objects.map (·.ID)).filter (byB r x)).length := by
    rw [List.filter_map, List.length_map]; rfl
  rw [e]
  refine List.Perm.length_eq ((List.perm_ext_iff_of_nodup (by_nd V x) (V.nd.filter _)).2 fun id => ?_)
  rw [by_mem V, List.mem_filter]
  refine ⟨fun h => ⟨?_, h⟩, fun h => h.2⟩
  rcases List.mem_append.1 ((by_mem V).2 h) with h2 | h2
  · obtain ⟨p, hp, rfl⟩ := V.rchAt (V.reach_mem.1 h2)
    exact List.mem_map_of_mem hp
  · obtain ⟨⟨u, h3, _⟩, _⟩ := V.lost_mem.1 h2
    obtain ⟨p, hp, rfl⟩ := V.rchAt (seen_rch h3)
    exact List.mem_map_of_mem hp
theorem grows_l1 {r : api_Repository} {m : make_Tape} (V : OkV r) (hf : FitR r) {a1 : Int} : iter (law15_HistoryGrows_l1 (r, m) (setL (everL r (objM r.Objects))) a1) (0, 0) = some (.inl ((r.Objects.filter fun o => byB r (bAnd .i64 a1 31) o.ID).length : Int)) := by
  have hno := V.no
  have key : ∀ (n i : Nat) (k : Int), i + n = r.Objects.length → 0 ≤ k → k ≤ i → iter (law15_HistoryGrows_l1 (r, m) (setL (everL r (objM r.Objects))) a1) (k, (i : Int)) = some (.inl (k + ((r.Objects.drop i).filter fun o => byB r (bAnd .i64 a1 31) o.ID).length)) := fun n => by
    induction n with
    | zero =>
      intro i k h _ _
      have : i = r.Objects.length := by omega
      subst this
      refine iter_out ?_
      unfold law15_HistoryGrows_l1
      simp only
      rw [if_neg (by simp), List.drop_length]
      simp
    | succ n ih =>
      intro i k h h1 h2
      have hi : i < r.Objects.length := by omega
      have hb : law15_HistoryGrows_l1 (r, m) (setL (everL r (objM r.Objects))) a1 (k, (i : Int)) = some (.go (k + (if byB r (bAnd .i64 a1 31) r.Objects[i].ID = true then 1 else 0), ((i + 1 : Nat) : Int))) := by
        unfold law15_HistoryGrows_l1
        simp only
        rw [if_pos (by simp; omega), idx_lt hi]
        simp only [Option.bind_some]
        rw [V.since hf]
        simp only [Option.bind_some]
        have he : decide (r.Objects[i].ID ∈ everL r (objM r.Objects)) = (seenF r (objM r.Objects) r.Events.length r.Objects[i].ID).isSome := by
          rw [Bool.eq_iff_iff, decide_eq_true_eq, V.ever_mem]
        rw [setL_get, he, if_neg (by simp)]
        have hc : ((seenF r (objM r.Objects) r.Events.length r.Objects[i].ID).isSome && decide ((seenF r (objM r.Objects) r.Events.length r.Objects[i].ID).getD 0 ≤ bAnd .i64 a1 31)) = byB r (bAnd .i64 a1 31) r.Objects[i].ID := by
          unfold byB
          rw [Bool.eq_iff_iff, Bool.and_eq_true, decide_eq_true_eq]
          cases hs : seenF r (objM r.Objects) r.Events.length r.Objects[i].ID with
          | none => simp
          | some u => simp
        rw [hc]
        by_cases hy : byB r (bAnd .i64 a1 31) r.Objects[i].ID = true
        · rw [if_pos hy, if_pos hy, w64 (x := k + 1) (by omega) (by omega), w64 (x := (i : Int) + 1) (by omega) (by omega)]; rfl
        · rw [if_neg hy, if_neg hy, w64 (x := (i : Int) + 1) (by omega) (by omega)]; simp
      rw [iter_go hb, List.drop_eq_getElem_cons hi, List.filter_cons]
      by_cases hy : byB r (bAnd .i64 a1 31) r.Objects[i].ID = true
      · rw [if_pos hy, if_pos hy, ih (i + 1) (k + 1) (by omega) (by omega) (by omega)]
        simp only [List.length_cons]
        congr 2; omega
      · rw [if_neg hy, if_neg hy, ih (i + 1) (k + 0) (by omega) (by omega) (by omega)]
        simp
  have := key r.Objects.length 0 0 (by omega) (by omega) (by omega)
  simpa using this
theorem grows_l2 {now lost ev : List Int} (hn : (now ++ lost).Nodup) (he : ∀ x ∈ now ++ lost, x ∈ ev) (hl : (now ++ lost).length ≤ 1000000) : iter (law15_HistoryGrows_l2 now lost (now ++ lost) (setL ev)) (0, []) = some (.inl ()) := by
  generalize hL : now ++ lost = L at *
  have key : ∀ (n i : Nat) (s : List (Int × Bool)), i + n = L.length → (∀ (j : Nat) (hj : j < L.length), i ≤ j → (mget inE s L[j]).getD false = false) → iter (law15_HistoryGrows_l2 now lost L (setL ev)) ((i : Int), s) = some (.inl ()) := fun n => by
    induction n with
    | zero =>
      intro i s h _
      have : i = L.length := by omega
      subst this
      refine iter_out ?_
      unfold law15_HistoryGrows_l2
      simp only
      rw [hL, if_neg (by simp)]
    | succ n ih =>
      intro i s h h1
      have hi : i < L.length := by omega
      have hb : law15_HistoryGrows_l2 now lost L (setL ev) ((i : Int), s) = some (.go (((i + 1 : Nat) : Int), mset inE s L[i] true)) := by
        unfold law15_HistoryGrows_l2
        simp only
        rw [hL, if_pos (by simp; omega), ck_t (by omega), idx_lt hi]
        simp only [Option.bind_some]
        rw [h1 i hi (Nat.le_refl _), setL_get, decide_eq_true (he _ (List.getElem_mem hi)), w64 (by omega) (by omega)]
        rfl
      rw [iter_go hb]
      refine ih (i + 1) _ (by omega) fun j hj hij => ?_
      have hne : L[j] ≠ L[i] := (List.pairwise_iff_getElem.1 hn i j hi hj (by omega)).symm
      rw [(mget_mset inE_eq _ _ _ _).2 hne]
      exact h1 j hj (by omega)
  exact key L.length 0 [] (by omega) fun j hj _ => by rw [mget_nil]; rfl
theorem HistoryGrows_law (a : List Int) (a1 : Int) : law15_HistoryGrows a a1 = some true := by
  unfold law15_HistoryGrows
  obtain ⟨r, m, e1, M, _, _, _⟩ := repo_ex a
  have V := M.ok
  have hf := M.fit
  rw [e1]
  simp only [Option.bind_some]
  rw [V.reachable hf, V.lost hf, V.ever hf]
  simp only [Option.bind_some]
  have hl := V.ever_len
  rw [set_loop (body := law15_HistoryGrows_l0 (everL r (objM r.Objects))) (l := everL r (objM r.Objects)) (by omega) (fun s => rfl)]
  simp only [Option.bind_some]
  rw [grows_l1 V hf]
  simp only [Option.bind_some]
  have h1 := V.reach_len (bAnd .i64 a1 31)
  have h2 := V.lost_len (bAnd .i64 a1 31)
  rw [ck_t (by simp; omega), ck_t (by omega)]
  simp only [Option.bind_some]
  rw [grows_l2 (by_nd V _) (fun x hx => ?_) (by rw [List.length_append]; omega)]
  · simp only [Option.bind_some]
    rw [w64 (by omega) (by omega), if_pos, awake15]
    · rfl
    · rw [beq_iff_eq, ← by_count V]; omega
  · rcases List.mem_append.1 hx with h | h
    · obtain ⟨u, h3, _⟩ := rch_seen V.so (V.reach_mem.1 h)
      rw [V.ever_mem, h3]; rfl
    · obtain ⟨⟨u, h3, _⟩, _⟩ := V.lost_mem.1 h
      rw [V.ever_mem, h3]; rfl
/-! HistoryCycles -/
theorem cyc_part {S : List (Int × api_Object)} (h : ∀ q ∈ S, ∃ j ∈ namesO q.2, j ∈ S.map (·.1)) : ∀ (n : Nat) {l : List (Int × api_Object)}, S ⊆ l → S ⊆ cycN n l
  | 0, _, hl => hl
  | n + 1, l, hl => by
    rw [cycN]
    refine cyc_part h n fun q hq => ?_
    refine List.mem_filter.2 ⟨hl hq, ?_⟩
    obtain ⟨j, hj, hk⟩ := h q hq
    refine List.any_eq_true.2 ⟨j, hj, ?_⟩
    unfold hasK
    rw [mget_mem inE_eq]
    obtain ⟨p, hp, e⟩ := List.mem_map.1 hk
    rw [← e]
    exact List.mem_map_of_mem (hl hp)
theorem cyc_yes {S l : List (Int × api_Object)} (h : ∀ q ∈ S, ∃ j ∈ namesO q.2, j ∈ S.map (·.1)) (hl : S ⊆ l) (hne : S ≠ []) : cycB l = true := by
  unfold cycB
  have h1 := cyc_part h l.length hl
  cases hc : cycN l.length l with
  | nil =>
    rw [hc] at h1
    obtain ⟨q, S', rfl⟩ := List.exists_cons_of_ne_nil hne
    exact absurd (h1 (List.mem_cons_self ..)) (by simp)
  | cons q l' => rfl
abbrev dN : ByteArray := ⟨#[100]⟩
def trO (K n : Nat) : api_Object := ⟨((n + 1 : Nat) : Int), 2, [], [⟨dN, 1 + (((n + 1) % K : Nat) : Int)⟩], 0, [], ByteArray.empty, 0⟩
def coO (K n : Nat) : api_Object := ⟨((n + 1 : Nat) : Int), 3, [], [], 9, [1 + (((n + 1) % K : Nat) : Int)], nA, 0⟩
abbrev o9 : api_Object := ⟨9, 2, [], [], 0, [], ByteArray.empty, 0⟩
def trL (K n : Nat) : List api_Object := (List.range n).map (trO K)
def coL (K n : Nat) : List api_Object := (List.range n).map (coO K)
theorem cycles_l0 {a0 : Int} {K : Nat} (hK : IntKind.i64.wrap (1 + bAnd .i64 a0 3) = (K : Int)) (h1 : 1 ≤ K) (h4 : K ≤ 4) : iter (law15_HistoryCycles_l0 a0) (1, [], []) = some (trL K K, coL K K) := by
  have key : ∀ (m n : Nat), n + m = K → iter (law15_HistoryCycles_l0 a0) (((n + 1 : Nat) : Int), trL K n, coL K n) = some (trL K K, coL K K) := fun m => by
    induction m with
    | zero =>
      intro n h
      have : n = K := by omega
      subst this
      refine iter_out ?_
      unfold law15_HistoryCycles_l0
      simp only
      rw [hK, if_neg (by simp; omega)]
    | succ m ih =>
      intro n h
      have hb : law15_HistoryCycles_l0 a0 (((n + 1 : Nat) : Int), trL K n, coL K n) = some (.go (((n + 1 + 1 : Nat) : Int), trL K (n + 1), coL K (n + 1))) := by
        unfold law15_HistoryCycles_l0
        simp only
        rw [hK, if_pos (by simp; omega), ck_t (by omega), ck_t (by simp [trL]; omega), ck_t (by simp [coL]; omega)]
        simp only [Option.bind_some]
        have hm : (((n + 1 : Nat) : Int)).tmod (K : Int) = (((n + 1) % K : Nat) : Int) := by
          rw [Int.tmod_eq_emod_of_nonneg (by omega)]; rfl
        have hlt : (n + 1) % K < K := Nat.mod_lt _ (by omega)
        rw [hm, w64 (x := 1 + (((n + 1) % K : Nat) : Int)) (by omega) (by omega), w64 (by omega) (by omega)]
        unfold trL coL
        rw [List.range_succ, List.map_append, List.map_append]
        rfl
      rw [iter_go hb, ih (n + 1) (by omega)]
  have := key K 0 (by omega)
  simpa [trL, coL] using this
theorem ring_id {K n : Nat} (h1 : 1 ≤ K) : ∃ j, j < K ∧ (1 : Int) + (((n + 1) % K : Nat) : Int) = ((j + 1 : Nat) : Int) := ⟨(n + 1) % K, Nat.mod_lt _ (by omega), by omega⟩
theorem trees_eq {K : Nat} (h1 : 1 ≤ K) (h4 : K ≤ 4) : validE ⟨trL K K, []⟩ = 8 := by
  have hnd : ((trL K K).map (·.ID)).Nodup := by
    unfold trL
    rw [List.map_map]
    refine List.Pairwise.map _ (fun a b hab => ?_) (List.nodup_range (n := K))
    simp only [Function.comp, trO]; omega
  have hmem : ∀ o ∈ trL K K, ∃ n, n < K ∧ o = trO K n := fun o ho => by
    obtain ⟨n, hn, rfl⟩ := List.mem_map.1 ho
    exact ⟨n, List.mem_range.1 hn, rfl⟩
  have hin : ∀ n, n < K → trO K n ∈ trL K K := fun n hn => List.mem_map.2 ⟨n, List.mem_range.2 hn, rfl⟩
  have hkind : ∀ n, kindM (objM (trL K K)) (1 + (((n + 1) % K : Nat) : Int)) = 2 := fun n => by
    obtain ⟨j, hj, e⟩ := ring_id (K := K) (n := n) h1
    rw [e]
    unfold kindM
    have : mget inE (objM (trL K K)) ((j + 1 : Nat) : Int) = some (trO K j) := mget_of inE_eq (by rw [objM_keys]; exact hnd) (List.mem_map.2 ⟨trO K j, hin j hj, rfl⟩)
    rw [this]; rfl
  unfold validE
  rw [if_neg (by simp [trL]; omega), if_neg, if_neg (not_not_intro hnd), if_neg, if_pos]
  · refine cyc_yes (S := objM (trL K K)) (fun q hq => ?_) (fun _ h => h) (by unfold objM trL; simp; omega)
    obtain ⟨o, ho, rfl⟩ := List.mem_map.1 hq
    obtain ⟨n, hn, rfl⟩ := hmem o ho
    obtain ⟨j, hj, e⟩ := ring_id (K := K) (n := n) h1
    refine ⟨((j + 1 : Nat) : Int), by simp only [namesO, trO, ← e]; simp, ?_⟩
    rw [objM_keys]
    exact List.mem_map.2 ⟨_, hin j hj, rfl⟩
  · rw [Bool.not_eq_true, Bool.or_eq_false_iff]
    refine ⟨List.any_eq_false.2 fun o ho => ?_, nl_nil _ _⟩
    obtain ⟨n, hn, rfl⟩ := hmem o ho
    have h2 : hereB (objM (trL K K)) (trO K n) = true := by
      unfold hereB
      simp only [trO, List.all_cons, List.all_nil]
      rw [hkind n]; rfl
    rw [h2]; decide
  · rw [Bool.not_eq_true, Bool.or_eq_false_iff]
    refine ⟨List.any_eq_false.2 fun o ho => ?_, rfl⟩
    obtain ⟨n, hn, rfl⟩ := hmem o ho
    have hlt : (n + 1) % K < K := Nat.mod_lt _ (by omega)
    have h2 : objE (trO K n) = 0 := by
      refine objE_zero.2 ⟨numB_of (by simp only [trO]; omega), by simp [trO], ?_⟩
      unfold rightB
      rw [if_neg (by simp [trO]), if_pos (show (trO K n).Kind = 2 from rfl), other_no rfl rfl rfl rfl]
      rw [decide_eq_true (items_ok (by show List.Sublist [dN] [nA, nB, nD]; exact (List.Sublist.refl [nD]).cons _ |>.cons _) fun x hx => ?_)]
      · rfl
      · simp only [trO, List.mem_singleton] at hx
        subst hx
        exact numB_of (by simp only; omega)
    rw [h2]; decide
theorem commits_eq {K : Nat} (h1 : 1 ≤ K) (h4 : K ≤ 4) : validE ⟨coL K K ++ [o9], []⟩ = 8 := by
  have hmem : ∀ o ∈ coL K K ++ [o9], (∃ n, n < K ∧ o = coO K n) ∨ o = o9 := fun o ho => by
    rcases List.mem_append.1 ho with h | h
    · obtain ⟨n, hn, rfl⟩ := List.mem_map.1 h
      exact .inl ⟨n, List.mem_range.1 hn, rfl⟩
    · exact .inr (List.mem_singleton.1 h)
  have hnd : ((coL K K ++ [o9]).map (·.ID)).Nodup := by
    rw [List.map_append, List.nodup_append]
    refine ⟨?_, by simp, fun a ha b hb => ?_⟩
    · unfold coL
      rw [List.map_map]
      refine List.Pairwise.map _ (fun a b hab => ?_) (List.nodup_range (n := K))
      simp only [Function.comp, coO]; omega
    · obtain ⟨o, ho, rfl⟩ := List.mem_map.1 ha
      obtain ⟨n, hn, rfl⟩ := List.mem_map.1 ho
      have := List.mem_range.1 hn
      simp only [List.map_cons, List.map_nil, List.mem_singleton] at hb
      subst hb
      simp only [coO]; omega
  have hin : ∀ n, n < K → coO K n ∈ coL K K ++ [o9] := fun n hn => List.mem_append_left _ (List.mem_map.2 ⟨n, List.mem_range.2 hn, rfl⟩)
  have hget : ∀ o ∈ coL K K ++ [o9], kindM (objM (coL K K ++ [o9])) o.ID = o.Kind := fun o ho => by
    unfold kindM
    have : mget inE (objM (coL K K ++ [o9])) o.ID = some o := mget_of inE_eq (by rw [objM_keys]; exact hnd) (List.mem_map.2 ⟨o, ho, rfl⟩)
    rw [this]; rfl
  have hkind : ∀ n, kindM (objM (coL K K ++ [o9])) (1 + (((n + 1) % K : Nat) : Int)) = 3 := fun n => by
    obtain ⟨j, hj, e⟩ := ring_id (K := K) (n := n) h1
    rw [e]
    exact hget _ (hin j hj)
  have hk9 : kindM (objM (coL K K ++ [o9])) 9 = 2 := hget o9 (by simp)
  unfold validE
  rw [if_neg (by simp [coL]; omega), if_neg, if_neg (not_not_intro hnd), if_neg, if_pos]
  · refine cyc_yes (S := objM (coL K K)) (fun q hq => ?_) (fun q hq => ?_) (by unfold objM coL; simp; omega)
    · obtain ⟨o, ho, rfl⟩ := List.mem_map.1 hq
      obtain ⟨n, hn, rfl⟩ := List.mem_map.1 ho
      obtain ⟨j, hj, e⟩ := ring_id (K := K) (n := n) h1
      refine ⟨((j + 1 : Nat) : Int), by simp only [namesO, coO, ← e]; simp, ?_⟩
      rw [objM_keys]
      exact List.mem_map.2 ⟨coO K j, List.mem_map.2 ⟨j, List.mem_range.2 hj, rfl⟩, rfl⟩
    · unfold objM at hq ⊢
      rw [List.map_append]
      exact List.mem_append_left _ hq
  · rw [Bool.not_eq_true, Bool.or_eq_false_iff]
    refine ⟨List.any_eq_false.2 fun o ho => ?_, nl_nil _ _⟩
    have h2 : hereB (objM (coL K K ++ [o9])) o = true := by
      rcases hmem o ho with ⟨n, hn, rfl⟩ | rfl
      · unfold hereB
        simp only [coO, List.all_cons, List.all_nil]
        rw [hkind n, hk9]; rfl
      · simp [hereB]
    rw [h2]; decide
  · rw [Bool.not_eq_true, Bool.or_eq_false_iff]
    refine ⟨List.any_eq_false.2 fun o ho => ?_, rfl⟩
    have h2 : objE o = 0 := by
      rcases hmem o ho with ⟨n, hn, rfl⟩ | rfl
      · have hlt : (n + 1) % K < K := Nat.mod_lt _ (by omega)
        refine objE_zero.2 ⟨numB_of (by simp only [coO]; omega), by simp [coO], ?_⟩
        unfold rightB commitB
        rw [if_neg (by simp [coO]), if_neg (by simp [coO]), if_pos (show (coO K n).Kind = 3 from rfl)]
        rw [decide_eq_true (parents_ok (by simp [coO]) fun x hx => ?_)]
        · simp only [coO]; rw [nm3.1]; rfl
        · simp only [coO, List.mem_singleton] at hx
          subst hx
          exact numB_of (by omega)
      · refine objE_zero.2 ⟨rfl, by simp, ?_⟩
        unfold rightB
        rw [other_no rfl rfl rfl rfl]; simp
    rw [h2]; decide
theorem HistoryCycles_law (a0 : Int) : law15_HistoryCycles a0 = some true := by
  unfold law15_HistoryCycles
  have hb : bAnd .i64 a0 3 = a0 % 4 := bAndM a0 2 (by omega) 3 (by decide)
  have h0 : 0 ≤ a0 % 4 := Int.emod_nonneg _ (by decide)
  have h3 : a0 % 4 < 4 := Int.emod_lt_of_pos _ (by decide)
  obtain ⟨K, hK, h1, h4⟩ : ∃ K : Nat, IntKind.i64.wrap (1 + bAnd .i64 a0 3) = (K : Int) ∧ 1 ≤ K ∧ K ≤ 4 := ⟨(1 + a0 % 4).toNat, by rw [hb, w64 (by omega) (by omega)]; omega, by omega, by omega⟩
  rw [cycles_l0 hK h1 h4]
  simp only [Option.bind_some]
  rw [ck_t (by simp [coL]; omega)]
  simp only [Option.bind_some]
  have f1 : FitR ⟨trL K K, []⟩ := ⟨fun o ho => by
    obtain ⟨n, hn, rfl⟩ := List.mem_map.1 ho
    refine ⟨fun x hx => ?_, by simp only [trO]; decide⟩
    simp only [trO, List.mem_singleton] at hx
    subst hx; simp only; decide, by simp⟩
  have f2 : FitR ⟨coL K K ++ [o9], []⟩ := ⟨fun o ho => by
    rcases List.mem_append.1 ho with h | h
    · obtain ⟨n, hn, rfl⟩ := List.mem_map.1 h
      exact ⟨by simp [coO], by simp only [coO]; decide⟩
    · rw [List.mem_singleton.1 h]; exact ⟨by simp, by simp only; decide⟩, by simp⟩
  rw [valid_eq f1, trees_eq h1 h4]
  simp only [Option.bind_some]
  rw [valid_eq f2, commits_eq h1 h4, awake15]
  rfl
/-! HistoryLater -/
section
variable {r : api_Repository} {e : api_RefEvent}
theorem more_seeds {t : Int} (ht : t < e.Time) : seedsAt ⟨r.Objects, r.Events ++ [e]⟩ t = seedsAt r t := by
  unfold seedsAt
  rw [refsF_cut fun x hx => by rw [List.mem_singleton.1 hx]; exact ht]
theorem more_next (h : ∀ x ∈ r.Events, x.Time < e.Time) {i : Nat} (hi : i < r.Events.length) : sameNext (r.Events ++ [e]) i r.Events[i].Time = sameNext r.Events i r.Events[i].Time := by
  unfold sameNext
  by_cases h1 : i + 1 < r.Events.length
  · rw [List.getElem?_append_left h1]
  · have : i + 1 = r.Events.length := by omega
    rw [this, List.getElem?_eq_none (Nat.le_refl _)]
    simp only [List.getElem?_append_right (Nat.le_refl _), Nat.sub_self, List.getElem?_cons_zero]
    have := h _ (List.getElem_mem hi)
    simp only [beq_eq_false_iff_ne]
    omega
theorem more_seen (h : ∀ x ∈ r.Events, x.Time < e.Time) (all : List (Int × api_Object)) (id : Int) : ∀ n, n ≤ r.Events.length → seenF ⟨r.Objects, r.Events ++ [e]⟩ all n id = seenF r all n id
  | 0, _ => rfl
  | n + 1, hn => by
    simp only [seenF]
    rw [more_seen h all id n (by omega)]
    have h1 : n < r.Events.length := by omega
    rw [List.getElem?_append_left h1, List.getElem?_eq_getElem h1]
    simp only
    rw [more_next h h1, more_seeds (h _ (List.getElem_mem h1))]
theorem more_mono (h : ∀ x ∈ r.Events, x.Time < e.Time) {all : List (Int × api_Object)} {id u : Int} (hu : seenF r all r.Events.length id = some u) : seenF ⟨r.Objects, r.Events ++ [e]⟩ all (r.Events ++ [e]).length id = some u := by
  rw [List.length_append, List.length_singleton]
  simp only [seenF]
  rw [more_seen h all id _ (Nat.le_refl _), hu]
end
theorem commits_loop {r : api_Repository} {m : make_Tape} (hl : r.Objects.length ≤ 1000000) : iter (law15_HistoryLater_l1 (r, m)) (0, []) = some ((r.Objects.filter fun o => o.Kind == 3).map (·.ID)) := by
  rw [show (0, ([] : List Int)) = (((0 : Nat) : Int), ([] : List Int)) from rfl]
  have := (iter_foldlS (body := law15_HistoryLater_l1 (r, m)) r.Objects (fun i s => ((i : Int), s)) (fun s o => if (o.Kind == 3) = true then s ++ [o.ID] else s) (fun s => s) (fun i s => s.length ≤ i) (fun i hi s hs => by
    unfold law15_HistoryLater_l1
    simp only
    rw [if_pos (by simp; omega), idx_lt hi, w64 (by omega) (by omega)]
    simp only [Option.bind_some]
    by_cases hk : (r.Objects[i].Kind == 3) = true
    · rw [if_pos hk, if_pos hk, ck_t (by simp; omega)]
      exact ⟨rfl, by simp; omega⟩
    · rw [if_neg hk, if_neg hk]
      exact ⟨rfl, by omega⟩) (fun s _ => by
    unfold law15_HistoryLater_l1
    simp only
    rw [if_neg (by simp)]) [] (by simp)).1
  rw [this]
  congr 1
  have key : ∀ (l : List api_Object) (s : List Int), l.foldl (fun s o => if (o.Kind == 3) = true then s ++ [o.ID] else s) s = s ++ (l.filter fun o => o.Kind == 3).map (·.ID) := fun l => by
    induction l with
    | nil => intro s; simp
    | cons o l ih =>
      intro s
      rw [List.foldl_cons, ih, List.filter_cons]
      by_cases hk : (o.Kind == 3) = true
      · rw [if_pos hk, if_pos hk]; simp
      · rw [if_neg hk, if_neg hk]
  rw [key]; simp
theorem later_j {r : api_Repository} {m : make_Tape} (M : MadeR r) (hl : r.Events.length ≤ 7) (hm : TB m 500) {a1 v : Int} (hv : 0 ≤ v ∧ v ≤ 20) (ht : ∀ x ∈ r.Events, x.Time ≤ v) : law15_HistoryLater_j0 (r, m) a1 v = some true := by
  unfold law15_HistoryLater_j0
  have V := M.ok
  have hlo := M.lo
  rw [commits_loop (by omega)]
  simp only [Option.bind_some]
  generalize hcs : (r.Objects.filter fun o => o.Kind == 3).map (·.ID) = cs
  have hck : ∀ c ∈ cs, kAt r.Objects c 3 := fun c hc => by
    rw [← hcs] at hc
    obtain ⟨o, ho, rfl⟩ := List.mem_map.1 hc
    obtain ⟨h1, h2⟩ := List.mem_filter.1 ho
    exact ⟨o, h1, rfl, by simpa using h2⟩
  have hne : 0 < cs.length := by
    obtain ⟨o, ho, hk⟩ := M.cm
    rw [← hcs]
    exact List.length_pos_of_mem (List.mem_map.2 ⟨o, List.mem_filter.2 ⟨ho, by simpa using hk⟩, rfl⟩)
  have hb : bAnd .i64 a1 255 = a1 % 256 := bAndM a1 8 (by omega) 255 (by decide)
  have h0 : 0 ≤ a1 % 256 := Int.emod_nonneg _ (by decide)
  obtain ⟨k, hk, hkl⟩ : ∃ k : Nat, (bAnd .i64 a1 255).tmod (cs.length : Int) = (k : Int) ∧ k < cs.length := by
    rw [hb, Int.tmod_eq_emod_of_nonneg h0]
    have g1 := Int.emod_nonneg (a1 % 256) (b := (cs.length : Int)) (by omega)
    have g2 := Int.emod_lt_of_pos (a1 % 256) (b := (cs.length : Int)) (by omega)
    exact ⟨((a1 % 256) % (cs.length : Int)).toNat, by omega, by omega⟩
  rw [ck_t (by omega), hk, ck_t (by omega), idx_lt hkl]
  simp only [Option.bind_some]
  have hcc := hck _ (List.getElem_mem hkl)
  generalize cs[k] = c at hcc
  rw [ck_t (by simp; omega)]
  obtain ⟨y, m', e1, y1, y2, _⟩ := next_b hm (by omega) (n := 5) (by omega)
  simp only [Option.bind_some]
  rw [e1]
  simp only [Option.bind_some, List.nil_append]
  rw [ck_t (by simp; omega), w64 (x := v + 1) (by omega) (by omega), w64 (x := v + 1 + y) (by omega) (by omega)]
  simp only [Option.bind_some]
  generalize he : (⟨1, (⟨#[110, 101, 119]⟩ : ByteArray), c, v + 1 + y⟩ : api_RefEvent) = e
  have hek : e.Kind = 1 := by rw [← he]
  have het : e.Time = v + 1 + y := by rw [← he]
  have hec : e.Commit = c := by rw [← he]
  have hen : e.Name = nNew := by rw [← he]
  have M2 : MadeR ⟨r.Objects, r.Events ++ [e]⟩ := M.more (by omega) ⟨.inl ⟨hek, by rw [hec]; exact hcc⟩, by rw [hen]; simp, by omega⟩ hek fun x hx => by have := ht x hx; omega
  have V2 := M2.ok
  have hlt : ∀ x ∈ r.Events, x.Time < e.Time := fun x hx => by have := ht x hx; omega
  have hloop : iter (law15_HistoryLater_l2 (r, m) (r.Events ++ [e])) 0 = some (.inl ()) := by
    refine iter_allT r.Objects (fun i hi => ?_) ?_
    · unfold law15_HistoryLater_l2
      rw [if_pos (by simp; omega), idx_lt hi]
      simp only [Option.bind_some]
      rw [V.since M.fit, V2.since M2.fit]
      simp only [Option.bind_some]
      rw [if_neg, w64 (by omega) (by omega)]
      · rfl
      · cases hs : seenF r (objM r.Objects) r.Events.length r.Objects[i].ID with
        | none => simp
        | some u => rw [more_mono hlt hs]; simp
    · unfold law15_HistoryLater_l2
      rw [if_neg (by simp)]
  rw [hloop]
  simp only [Option.bind_some]
  rw [V2.since M2.fit]
  simp only [Option.bind_some]
  have hc2 : (seenF ⟨r.Objects, r.Events ++ [e]⟩ (objM r.Objects) (r.Events ++ [e]).length c).isSome = true := by
    have hmem : c ∈ seedsAt ⟨r.Objects, r.Events ++ [e]⟩ e.Time := by
      unfold seedsAt
      simp only
      rw [refsF_append fun x hx => by have := hlt x hx; omega]
      simp only [refsF]
      rw [if_neg (by omega)]
      unfold refStep
      rw [if_pos hek, hec]
      exact List.mem_map.2 ⟨(e.Name, c), mget_some stE_eq ((mget_mset stE_eq _ _ _ _).1 rfl), rfl⟩
    obtain ⟨u, h1, _⟩ := rch_seen V2.so (t := e.Time) (id := c) (all := objM r.Objects) (.seed hmem)
    rw [h1]; rfl
  rw [if_pos hc2, V2.ever M2.fit]
  simp only [Option.bind_some]
  rw [V.ever M.fit]
  simp only [Option.bind_some]
  have hsub : (everL r (objM r.Objects)).length ≤ (everL ⟨r.Objects, r.Events ++ [e]⟩ (objM r.Objects)).length := by
    refine nodup_len V.ever_nd fun x hx => ?_
    have h1 := V.ever_mem.1 hx
    obtain ⟨u, hu⟩ := Option.isSome_iff_exists.1 h1
    refine V2.ever_mem.2 ?_
    rw [more_mono hlt hu]; rfl
  rw [decide_eq_true (Int.ofNat_le.2 hsub)]
theorem HistoryLater_law (a : List Int) (a1 : Int) : law15_HistoryLater a a1 = some true := by
  unfold law15_HistoryLater
  obtain ⟨r, m, e1, M, hl, ht, hm⟩ := repo_ex a
  rw [e1]
  simp only [Option.bind_some]
  by_cases hc : 0 < r.Events.length
  · rw [if_pos (by simp; omega), w64 (by omega) (by omega), show ((r.Events.length : Int) - 1) = ((r.Events.length - 1 : Nat) : Int) by omega, idx_lt (show r.Events.length - 1 < r.Events.length by omega)]
    simp only [Option.bind_some]
    have h1 := (M.e.ok _ (List.getElem_mem (show r.Events.length - 1 < r.Events.length by omega))).t
    have h2 := ht _ (List.getElem_mem (show r.Events.length - 1 < r.Events.length by omega))
    refine later_j M hl hm ⟨h1.1, h2⟩ fun x hx => ?_
    obtain ⟨j, hj, rfl⟩ := List.getElem_of_mem hx
    rcases Nat.lt_or_eq_of_le (show j ≤ r.Events.length - 1 by omega) with h3 | h3
    · exact List.pairwise_iff_getElem.1 M.e.so j (r.Events.length - 1) hj (by omega) h3
    · subst h3; exact Int.le_refl _
  · rw [if_neg (by rw [decide_eq_true_eq]; omega)]
    exact later_j M hl hm ⟨Int.le_refl _, by omega⟩ fun x hx => by
      have : r.Events = [] := List.eq_nil_of_length_eq_zero (by omega)
      rw [this] at hx; cases hx
end Go.Vl
