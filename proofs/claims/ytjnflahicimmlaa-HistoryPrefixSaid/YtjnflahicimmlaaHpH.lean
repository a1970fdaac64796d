/- The plain laws of HistoryClosed, HistoryPrefix, HistoryGrows, HistoryCycles, HistoryLater. Conditions: none. -/
import Derived.Test.YtjnflahicimmlaaHpE
import Derived.Test.YtjnflahicimmlaaHBm
set_option linter.unusedSimpArgs false
set_option linter.unusedVariables false
namespace Go.Vl
open Go
/-! The example -/
abbrev aw1 : api_Object := ⟨1, 2, [], [], 0, [], ByteArray.empty, 0⟩
abbrev aw2 : api_Object := ⟨2, 3, [], [], 1, [], (⟨#[97]⟩ : ByteArray), 0⟩
abbrev aw3 : api_Object := ⟨3, 3, [], [], 1, [], (⟨#[98]⟩ : ByteArray), 0⟩
abbrev awR : api_Repository := ⟨[aw1, aw2, aw3], [⟨1, (⟨#[109]⟩ : ByteArray), 2, 5⟩, ⟨1, (⟨#[109]⟩ : ByteArray), 3, 9⟩]⟩
theorem aw_fit : FitR awR := by
  refine ⟨fun o ho => ?_, fun e he => ?_⟩
  · simp only [List.mem_cons, List.not_mem_nil, or_false] at ho
    rcases ho with rfl | rfl | rfl <;> exact ⟨by simp, by decide⟩
  · simp only [List.mem_cons, List.not_mem_nil, or_false] at he
    rcases he with rfl | rfl <;> decide
theorem aw_nm : nmB (⟨#[97]⟩ : ByteArray) = true ∧ nmB (⟨#[98]⟩ : ByteArray) = true ∧ nmB (⟨#[109]⟩ : ByteArray) = true := by
  refine ⟨?_, ?_, ?_⟩ <;> decide +kernel
theorem aw_ok : OkV awR := by
  obtain ⟨n1, n2, n3⟩ := aw_nm
  refine ⟨by simp, by simp, fun o ho => ?_, fun e he => ?_, by simp, fun o ho => ?_, ?_, ?_, fun e he => ?_, by simp, ?_⟩
  · refine objE_zero.2 ?_
    simp only [List.mem_cons, List.not_mem_nil, or_false] at ho
    rcases ho with rfl | rfl | rfl
    · exact ⟨rfl, by simp, by unfold rightB; rw [other_no rfl rfl rfl rfl]; simp⟩
    · exact ⟨rfl, by simp, by unfold rightB commitB; rw [n1]; simp [numB]⟩
    · exact ⟨rfl, by simp, by unfold rightB commitB; rw [n2]; simp [numB]⟩
  · simp only [List.mem_cons, List.not_mem_nil, or_false] at he
    rcases he with rfl | rfl <;> (unfold wrongB; rw [n3]; rfl)
  · simp only [List.mem_cons, List.not_mem_nil, or_false] at ho
    rcases ho with rfl | rfl | rfl <;> simp [hereB, kindM, objM, mget_cons, inE, mget_nil]
  · exact nlB_iff (fun e he hk => by
      simp only [List.mem_cons, List.not_mem_nil, or_false] at he
      rcases he with rfl | rfl <;> simp [kindM, objM, mget_cons, inE, mget_nil]) (by simp [delB])
  · refine cyc_no fun q hq j hj => ?_
    obtain ⟨o, ho, rfl⟩ := List.mem_map.1 hq
    simp only [List.mem_cons, List.not_mem_nil, or_false] at ho
    rcases ho with rfl | rfl | rfl <;> simp [namesO] at hj ⊢ <;> omega
  · simp only [List.mem_cons, List.not_mem_nil, or_false] at he
    rcases he with rfl | rfl <;> rfl
  · exact many_no (ns := [(⟨#[109]⟩ : ByteArray)]) (by simp) (by simp) (by simp) (by simp)
theorem aw_seeds (t : Int) : seedsAt awR t = if t < 5 then [] else if t < 9 then [2] else [3] := by
  unfold seedsAt
  simp only [refsF]
  by_cases h1 : t < 5
  · rw [if_pos h1, if_pos h1]; rfl
  · rw [if_neg h1, if_neg h1]
    by_cases h2 : t < 9
    · rw [if_pos h2, if_pos h2]; simp [refStep, mset_nil]
    · rw [if_neg h2, if_neg h2]; simp [refStep, mset_nil, mset_cons, stE]
theorem aw_nmO (id : Int) : nmO (objM awR.Objects) id = if id = 2 ∨ id = 3 then [1] else [] := by
  unfold nmO
  simp only [objM, List.map_cons, List.map_nil, mget_cons, mget_nil, inE, beq_iff_eq]
  by_cases h1 : id = 1
  · subst h1; simp [namesO]
  · by_cases h2 : id = 2
    · subst h2; simp [namesO]
    · by_cases h3 : id = 3
      · subst h3; simp [namesO]
      · simp [h1, h2, h3, namesO]
theorem aw_rch {s : Int} (hs : s = 2 ∨ s = 3) {id : Int} : Rch (objM awR.Objects) [s] id ↔ id = s ∨ id = 1 := by
  constructor
  · intro h
    induction h with
    | seed h => exact .inl (List.mem_singleton.1 h)
    | step _ h ih =>
      rw [aw_nmO] at h
      split at h
      · exact .inr (List.mem_singleton.1 h)
      · cases h
  · rintro (rfl | rfl)
    · exact .seed (by simp)
    · exact .step (id := s) (.seed (by simp)) (by rw [aw_nmO, if_pos hs]; simp)
theorem aw_reach {s : Int} (hs : s = 2 ∨ s = 3) : reachL (objM awR.Objects) [s] = [1, s] := by
  have hm : RchM (objM awR.Objects) [s] [(1, true), (s, true)] := ⟨by rcases hs with rfl | rfl <;> simp, by simp, fun id => by rw [aw_rch hs]; simp; exact or_comm⟩
  rw [← reachL_eq hm]
  rw [show ([(1, true), (s, true)] : List (Int × Bool)).map (·.1) = [1, s] from rfl]
  exact sortI_id (by rcases hs with rfl | rfl <;> simp)
theorem aw_lost : lostL awR (objM awR.Objects) 9 = [2] := by
  have hn : (lostL awR (objM awR.Objects) 9).Nodup := aw_ok.lost_nd 9
  have hmem : ∀ x, x ∈ lostL awR (objM awR.Objects) 9 ↔ x = 2 := fun x => by
    rw [aw_ok.lost_mem, aw_seeds 9, if_neg (by omega), if_neg (by omega), aw_rch (.inr rfl)]
    constructor
    · rintro ⟨⟨u, h1, h2⟩, h3⟩
      obtain ⟨i, hi, e, he, hs, hr, rfl, _⟩ := (seen_char _).2 u h1
      rw [aw_seeds] at hr
      split at hr
      · exact absurd hr rch_nil
      · split at hr
        · rcases (aw_rch (.inl rfl)).1 hr with h | h
          · exact h
          · omega
        · have := (aw_rch (.inr rfl)).1 hr; omega
    · rintro rfl
      have h := rch_seen aw_ok.so (t := 5) (id := 2) (all := objM awR.Objects) (by rw [aw_seeds 5, if_neg (by omega), if_pos (by omega)]; exact .seed (by simp))
      obtain ⟨u, h1, h2⟩ := h
      exact ⟨⟨u, h1, by omega⟩, by omega⟩
  refine List.Perm.eq_of_pairwise (le := fun x y : Int => x ≤ y) (fun x y _ _ h1 h2 => by omega) ?_ (by simp) ((List.perm_ext_iff_of_nodup hn (by simp)).2 fun x => by rw [hmem]; simp)
  unfold lostL
  exact List.Pairwise.filter _ aw_ok.ever_so
theorem awake15 : law15_awake = some true := by
  unfold law15_awake
  rw [show (⟨[(⟨1, 2, [], [], 0, [], ByteArray.empty, 0⟩ : api_Object), (⟨2, 3, [], [], 1, [], (⟨#[97]⟩ : ByteArray), 0⟩ : api_Object), (⟨3, 3, [], [], 1, [], (⟨#[98]⟩ : ByteArray), 0⟩ : api_Object)], [(⟨1, (⟨#[109]⟩ : ByteArray), 2, 5⟩ : api_RefEvent), (⟨1, (⟨#[109]⟩ : ByteArray), 3, 9⟩ : api_RefEvent)]⟩ : api_Repository) = awR from rfl]
  rw [aw_ok.reachable aw_fit, aw_ok.lost aw_fit, aw_lost, aw_seeds 8, if_neg (by omega), if_pos (by omega), aw_reach (.inl rfl)]
  rfl
/-! Sets -/
noncomputable def setL (l : List Int) : List (Int × Bool) := l.foldl (fun m x => mset inE m x true) []
theorem setL_get' : ∀ (l : List Int) (m : List (Int × Bool)) (x : Int), mget inE (l.foldl (fun m x => mset inE m x true) m) x = if x ∈ l then some true else mget inE m x
  | [], m, x => by simp
  | y :: l, m, x => by
    rw [List.foldl_cons, setL_get' l]
    by_cases h : x ∈ l
    · simp [h]
    · rw [if_neg h]
      by_cases h2 : x = y
      · rw [(mget_mset inE_eq _ _ _ _).1 h2, if_pos (by simp [h2])]
      · rw [(mget_mset inE_eq _ _ _ _).2 h2, if_neg (by simp [h, h2])]
theorem setL_get (l : List Int) (x : Int) : (mget inE (setL l) x).getD false = decide (x ∈ l) := by
  unfold setL
  rw [setL_get']
  by_cases h : x ∈ l
  · simp [h]
  · simp [h, mget_nil]
theorem set_loop {body : Int × List (Int × Bool) → Option (Lp (Int × List (Int × Bool)) (List (Int × Bool)))} {l : List Int} (hl : l.length ≤ 1000000)
    (hb : ∀ s, body s = if (decide (s.1 < ((l).length : Int))) = true then (idx l s.1).bind fun x => some (.go (IntKind.i64.wrap (s.1 + 1), (mset inE s.2 x true))) else some (.out s.2)) : iter body (0, []) = some (setL l) := by
  rw [iter_foldl l (fun m x => mset inE m x true) (fun m => m) (fun _ _ => True) (fun i hi s _ => ⟨?_, trivial⟩) (fun s _ => ?_) [] trivial]
  · rfl
  · rw [hb, if_pos (by simp; omega), idx_lt hi, w64 (by omega) (by omega)]; rfl
  · rw [hb, if_neg (by simp)]
theorem iter_allT {α : Type} {body : Int → Option (Lp Int (Unit ⊕ Bool))} (l : List α) (hgo : ∀ (i : Nat) (h : i < l.length), body (i : Int) = some (.go ((i + 1 : Nat) : Int)))
    (hend : body (l.length : Int) = some (.out (.inl ()))) : iter body 0 = some (.inl ()) := by
  rw [iter_allL l (fun _ => true) false (fun i hi => by rw [hgo i hi]; simp) hend]; simp
/-! HistoryClosed -/
theorem closed_in {r : api_Repository} (V : OkV r) {t : Int} {o : api_Object} (ho : o ∈ r.Objects) (h : Rch (objM r.Objects) (seedsAt r t) o.ID) {j : Int} (hj : j ∈ namesO o) : Rch (objM r.Objects) (seedsAt r t) j :=
  .step h (by rw [V.nm ho]; exact hj)
theorem bAndM (x : Int) (k : Nat) (hk : k ≤ 62) (m : Int) (hm : m = ((2 ^ k - 1 : Nat) : Int)) : bAnd .i64 x m = x % ((2 ^ k : Nat) : Int) := by
  have hp : 2 ^ k ≤ 2 ^ 62 := Nat.pow_le_pow_right (by decide) hk
  have hp0 : 0 < 2 ^ k := Nat.pos_of_ne_zero (by simp)
  have hd : (2 : Nat) ^ k ∣ 2 ^ 64 := Nat.pow_dvd_pow 2 (by omega)
  have h : (BitVec.ofInt 64 x &&& BitVec.ofInt 64 m).toNat = (x % ((2 ^ k : Nat) : Int)).toNat := by
    rw [BitVec.toNat_and]
    have h1 : (BitVec.ofInt 64 m).toNat = 2 ^ k - 1 := by
      rw [BitVec.toNat_ofInt, hm, Int.emod_eq_of_lt (by omega) (by simp only [Nat.reducePow] at *; omega)]; omega
    rw [h1, Nat.and_two_pow_sub_one_eq_mod, BitVec.toNat_ofInt]
    have h2 : ((x % ((2 ^ 64 : Nat) : Int)).toNat : Int) = x % ((2 ^ 64 : Nat) : Int) := Int.toNat_of_nonneg (Int.emod_nonneg _ (by decide))
    have h3 : (((x % ((2 ^ 64 : Nat) : Int)).toNat % 2 ^ k : Nat) : Int) = x % ((2 ^ k : Nat) : Int) := by
      rw [Int.natCast_emod, h2, Int.emod_emod_of_dvd _ (Int.natCast_dvd_natCast.2 hd)]
    rw [← h3]; rfl
  show IntKind.i64.wrap (((BitVec.ofInt 64 x &&& BitVec.ofInt 64 m).toNat : Nat) : Int) = _
  rw [h]
  have h4 : 0 ≤ x % ((2 ^ k : Nat) : Int) := Int.emod_nonneg _ (by omega)
  have h5 : x % ((2 ^ k : Nat) : Int) < ((2 ^ k : Nat) : Int) := Int.emod_lt_of_pos _ (by omega)
  rw [w64 (by omega) (by simp only [Nat.reducePow] at *; omega)]
  omega
theorem bAnd31 (x : Int) : 0 ≤ bAnd .i64 x 31 ∧ bAnd .i64 x 31 ≤ 31 := by
  rw [bAndM x 5 (by omega) 31 (by decide)]
  constructor
  · exact Int.emod_nonneg _ (by decide)
  · have := Int.emod_lt_of_pos x (b := ((2 ^ 5 : Nat) : Int)) (by decide)
    simp only [Nat.reducePow] at *
    omega
theorem sortIt_mem {l : List api_Item} {x : api_Item} : x ∈ sortIt l ↔ x ∈ l := (List.mergeSort_perm l fun x y => !decide (cfI y x < 0)).mem_iff
theorem refs_len {r : api_Repository} (V : OkV r) (t : Int) : (refsF t [] r.Events).length ≤ 300 := by
  have := seedsAt_len r t
  have h2 := V.ne
  unfold seedsAt at this
  simp at this
  omega
theorem sortIt_len (l : List api_Item) : (sortIt l).length = l.length := List.length_mergeSort _
theorem HistoryClosed_law (a : List Int) (a1 : Int) : law15_HistoryClosed a a1 = some true := by
  unfold law15_HistoryClosed
  obtain ⟨r, m, e1, M, _, _, _⟩ := repo_ex a
  have V := M.ok
  have hf := M.fit
  rw [e1]
  simp only [Option.bind_some]
  generalize bAnd .i64 a1 31 = x
  rw [V.reachable hf x]
  simp only [Option.bind_some]
  have hl := V.reach_len x
  rw [set_loop (body := law15_HistoryClosed_l0 (reachL (objM r.Objects) (seedsAt r x))) (l := reachL (objM r.Objects) (seedsAt r x)) (by omega) (fun s => rfl)]
  simp only [Option.bind_some]
  rw [V.refs hf x]
  simp only [Option.bind_some]
  have hin : ∀ id, (mget inE (setL (reachL (objM r.Objects) (seedsAt r x))) id).getD false = true ↔ Rch (objM r.Objects) (seedsAt r x) id := fun id => by
    rw [setL_get, decide_eq_true_eq, V.reach_mem]
  have hrl : (sortIt ((refsF x [] r.Events).map itemOf)).length ≤ 300 := by rw [sortIt_len, List.length_map]; exact refs_len V x
  rw [iter_allT (sortIt ((refsF x [] r.Events).map itemOf)) ?hg ?he]
  case he =>
    unfold law15_HistoryClosed_l1
    rw [if_neg (by simp)]
  case hg =>
    intro i hi
    unfold law15_HistoryClosed_l1
    rw [if_pos (by simp; omega), idx_lt hi, w64 (by omega) (by omega)]
    simp only [Option.bind_some]
    rw [if_neg]
    · rfl
    · have h1 : (sortIt ((refsF x [] r.Events).map itemOf))[i] ∈ (refsF x [] r.Events).map itemOf := sortIt_mem.1 (List.getElem_mem hi)
      obtain ⟨q, hq, e⟩ := List.mem_map.1 h1
      rw [← e]
      have : Rch (objM r.Objects) (seedsAt r x) (itemOf q).ID := .seed (List.mem_map.2 ⟨q, hq, rfl⟩)
      rw [(hin _).2 this]; decide
  simp only [Option.bind_some]
  have hno := V.no
  rw [iter_allT r.Objects ?hg ?he]
  case he =>
    unfold law15_HistoryClosed_l2
    rw [if_neg (by simp)]
  case hg =>
    intro i hi
    unfold law15_HistoryClosed_l2
    have ho := List.getElem_mem hi
    simp only
    rw [if_pos (by simp; omega), idx_lt hi, w64 (by omega) (by omega)]
    simp only [Option.bind_some]
    by_cases hR : Rch (objM r.Objects) (seedsAt r x) r.Objects[i].ID
    · rw [if_neg (by rw [(hin _).2 hR]; decide)]
      have hob := V.obj ho
      have hT : (r.Objects[i].Kind == 3 && !((mget inE (setL (reachL (objM r.Objects) (seedsAt r x))) r.Objects[i].Tree).getD false)) = false := by
        by_cases hk : r.Objects[i].Kind = 3
        · rw [(hin _).2 (closed_in V ho hR (by unfold namesO; simp [hk]))]; simp
        · simp [hk]
      rw [hT, if_neg (by decide)]
      rw [iter_allT r.Objects[i].Parents ?hg ?he]
      case he =>
        unfold law15_HistoryClosed_l3
        rw [if_neg (by simp)]
      case hg =>
        intro j hj
        unfold law15_HistoryClosed_l3
        rw [if_pos (by simp; omega), idx_lt hj, w64 (by omega) (by omega)]
        simp only [Option.bind_some]
        rw [if_neg (by rw [(hin _).2 (closed_in V ho hR (by unfold namesO; simp))]; decide)]
        rfl
      simp only [Option.bind_some]
      rw [iter_allT r.Objects[i].Items ?hg ?he]
      case he =>
        unfold law15_HistoryClosed_l4
        rw [if_neg (by simp)]
      case hg =>
        intro j hj
        unfold law15_HistoryClosed_l4
        rw [if_pos (by simp; omega), idx_lt hj, w64 (by omega) (by omega)]
        simp only [Option.bind_some]
        rw [if_neg (by rw [(hin _).2 (closed_in V ho hR (by unfold namesO; simp only [List.mem_append, List.mem_map]; exact .inl (.inr ⟨_, List.getElem_mem hj, rfl⟩)))]; decide)]
        rfl
      rfl
    · have : (mget inE (setL (reachL (objM r.Objects) (seedsAt r x))) r.Objects[i].ID).getD false = false := by
        cases hb : (mget inE (setL (reachL (objM r.Objects) (seedsAt r x))) r.Objects[i].ID).getD false with
        | false => rfl
        | true => exact absurd ((hin _).1 hb) hR
      rw [this, if_pos (by decide)]
      rfl
  simp only [Option.bind_some, awake15]
/-! HistoryPrefix -/
theorem ints_self {l : List Int} (hl : l.length ≤ 1000000) : ref15_Ints l l = some true := by
  unfold ref15_Ints
  rw [if_neg (by simp), iter_allT l ?hg ?he]
  case he =>
    unfold ref15_Ints_l0
    rw [if_neg (by simp)]
  case hg =>
    intro i hi
    unfold ref15_Ints_l0
    rw [if_pos (by simp; omega), idx_lt hi, w64 (by omega) (by omega)]
    simp
  rfl
theorem items_self {l : List api_Item} (hl : l.length ≤ 1000000) : ref15_Items l l = some true := by
  unfold ref15_Items
  rw [if_neg (by simp), iter_allT l ?hg ?he]
  case he =>
    unfold ref15_Items_l0
    rw [if_neg (by simp)]
  case hg =>
    intro i hi
    unfold ref15_Items_l0
    rw [if_pos (by simp; omega), idx_lt hi, w64 (by omega) (by omega)]
    simp
  rfl
theorem refsF_cut {t : Int} : ∀ {l l2 : List api_RefEvent} {m : List (ByteArray × Int)}, (∀ e ∈ l2, t < e.Time) → refsF t m (l ++ l2) = refsF t m l
  | [], l2, m, h => by rw [List.nil_append, refsF_none h]; rfl
  | e :: l, l2, m, h => by
    simp only [List.cons_append, refsF]
    rw [refsF_cut h]
theorem refsF_append {t : Int} : ∀ {l l2 : List api_RefEvent} {m : List (ByteArray × Int)}, (∀ e ∈ l, e.Time ≤ t) → refsF t m (l ++ l2) = refsF t (refsF t m l) l2
  | [], l2, m, h => rfl
  | e :: l, l2, m, h => by
    have := h e (by simp)
    simp only [List.cons_append, refsF]
    rw [if_neg (by omega), if_neg (by omega), refsF_append fun x hx => h x (by simp [hx])]
theorem prefix_loop {r : api_Repository} {m : make_Tape} (M : MadeR r) {k : Nat} {a1 : Int} (hk : (Int.toNat (((bAnd .i64 a1 255)).tmod (IntKind.i64.wrap (((r.Events).length : Int) + 1)))) = k) {v : Int} (hv : v ≤ 1000) (h : ∀ t, t ≤ v → ∀ e ∈ r.Events.drop k, t < e.Time) :
    law15_HistoryPrefix_j0 (r, m) a1 v = some true := by
  unfold law15_HistoryPrefix_j0
  have hl : iter (law15_HistoryPrefix_l1 v (r, m) a1) 0 = some (.inl ()) := by
    refine iter_eq (body := law15_HistoryPrefix_l1 v (r, m) a1) (fun s => 0 ≤ s) (fun s => (v + 1 - s).toNat) (fun _ => (.inl () : Unit ⊕ Bool)) (fun s hs => ?_) (Int.le_refl 0)
    unfold law15_HistoryPrefix_l1
    by_cases hsv : s ≤ v
    · left
      have V := M.ok
      have V2 := (M.cut k).ok
      have hR : refsF s [] (r.Events.take k) = refsF s [] r.Events := by
        have := refsF_cut (l := r.Events.take k) (l2 := r.Events.drop k) (m := []) (h s hsv)
        rw [List.take_append_drop] at this
        exact this.symm
      have hS : seedsAt ⟨r.Objects, r.Events.take k⟩ s = seedsAt r s := by unfold seedsAt; rw [hR]
      rw [if_pos (by simpa using hsv)]
      simp only [hk]
      rw [V.reachable M.fit s, V2.reachable (M.cut k).fit s]
      simp only [Option.bind_some, hS]
      have h1 := V.reach_len s
      rw [ints_self (by omega), V.refs M.fit s, V2.refs (M.cut k).fit s]
      simp only [Option.bind_some, hR]
      have h2 := refs_len V s
      rw [items_self (by rw [sortIt_len, List.length_map]; omega), w64 (by omega) (by omega)]
      exact ⟨s + 1, rfl, by omega, by omega, trivial⟩
    · right
      rw [if_neg (by simpa using hsv)]
  rw [hl]
  simp only [Option.bind_some, awake15]
theorem HistoryPrefix_law (a : List Int) (a1 : Int) : law15_HistoryPrefix a a1 = some true := by
  unfold law15_HistoryPrefix
  obtain ⟨r, m, e1, M, _, ht, _⟩ := repo_ex a
  rw [e1]
  simp only [Option.bind_some]
  have hle := M.le
  have hw : IntKind.i64.wrap ((r.Events.length : Int) + 1) = (r.Events.length : Int) + 1 := w64 (by omega) (by omega)
  have hb : bAnd .i64 a1 255 = a1 % 256 := bAndM a1 8 (by omega) 255 (by decide)
  have h0 : 0 ≤ a1 % 256 := Int.emod_nonneg _ (by decide)
  have hk : ∃ k : Nat, (bAnd .i64 a1 255).tmod (IntKind.i64.wrap ((r.Events.length : Int) + 1)) = (k : Int) ∧ k ≤ r.Events.length := by
    rw [hw, hb, Int.tmod_eq_emod_of_nonneg h0]
    have g1 := Int.emod_nonneg (a1 % 256) (b := (r.Events.length : Int) + 1) (by omega)
    have g2 := Int.emod_lt_of_pos (a1 % 256) (b := (r.Events.length : Int) + 1) (by omega)
    exact ⟨((a1 % 256) % ((r.Events.length : Int) + 1)).toNat, by omega, by omega⟩
  obtain ⟨k, hk, hkl⟩ := hk
  have hkn : (Int.toNat (((bAnd .i64 a1 255)).tmod (IntKind.i64.wrap (((r.Events).length : Int) + 1)))) = k := by rw [hk]; omega
  rw [ck_t (by rw [hw]; omega), ck_t (by rw [hk]; omega)]
  simp only [Option.bind_some]
  rw [hkn, (M.cut k).ok.val (M.cut k).fit]
  simp only [Option.bind_some]
  rw [if_neg (by decide), hk]
  by_cases c1 : k < r.Events.length
  · rw [if_pos (by simp; omega), idx_lt c1]
    simp only [Option.bind_some]
    have h1 := (M.e.ok _ (List.getElem_mem c1)).t
    rw [w64 (by omega) (by omega)]
    refine prefix_loop M hkn (by omega) fun t htv e he => ?_
    obtain ⟨j, hj, rfl⟩ := List.getElem_of_mem he
    rw [List.getElem_drop]
    have hj2 : k + j < r.Events.length := by simp at hj; omega
    rcases Nat.eq_zero_or_pos j with h | h
    · subst h; simp only [Nat.add_zero]; omega
    · have := List.pairwise_iff_getElem.1 M.e.so k (k + j) c1 hj2 (by omega)
      omega
  · have hke : k = r.Events.length := by omega
    rw [if_neg (by simp; omega)]
    have hd : ∀ (v : Int) (t : Int), t ≤ v → ∀ e ∈ r.Events.drop k, t < e.Time := fun v t _ e he => by rw [hke, List.drop_length] at he; cases he
    by_cases c2 : 0 < k
    · rw [if_pos (by simp; omega), w64 (by omega) (by omega), show ((k : Int) - 1) = ((k - 1 : Nat) : Int) by omega, idx_lt (show k - 1 < r.Events.length by omega)]
      simp only [Option.bind_some]
      have h1 := (M.e.ok _ (List.getElem_mem (show k - 1 < r.Events.length by omega))).t
      exact prefix_loop M hkn (by omega) (hd _)
    · rw [if_neg (by simp; omega)]
      exact prefix_loop M hkn (by omega) (hd _)
end Go.Vl
