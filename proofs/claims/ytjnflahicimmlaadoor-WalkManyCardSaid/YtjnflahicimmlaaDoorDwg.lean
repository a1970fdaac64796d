/- Walk: the tree, the index, in plain words. Conditions: none. -/
import Derived.Test.YtjnflahicimmlaaDoorDBm
import Derived.Test.YtjnflahicimmlaaDoorDrg
set_option linter.unusedSimpArgs false
set_option linter.unusedVariables false
namespace Go.Vl
open Go

/-! No object leads back to itself -/
theorem hasK_sub {l l' : List (Int × api_Object)} (h : l' ⊆ l) {id : Int} (hk : hasK l' id = true) : hasK l id = true := by
  unfold hasK at *
  rw [mget_mem inE_eq] at *
  obtain ⟨q, hq, rfl⟩ := List.mem_map.1 hk
  exact List.mem_map_of_mem (h hq)
theorem leave_sub (l : List (Int × api_Object)) : (leaveL l).Sublist l := List.filter_sublist
theorem min_key : ∀ {l : List (Int × api_Object)}, l ≠ [] → ∃ q ∈ l, ∀ r ∈ l, q.1 ≤ r.1
  | [], h => absurd rfl h
  | [q], _ => ⟨q, by simp, by simp⟩
  | q :: r :: l, _ => by
    obtain ⟨p, hp, h⟩ := min_key (l := r :: l) (by simp)
    by_cases hc : q.1 ≤ p.1
    · refine ⟨q, by simp, fun x hx => ?_⟩
      rcases List.mem_cons.1 hx with rfl | hx
      · exact Int.le_refl _
      · exact Int.le_trans hc (h x hx)
    · refine ⟨p, List.mem_cons_of_mem _ hp, fun x hx => ?_⟩
      rcases List.mem_cons.1 hx with rfl | hx
      · omega
      · exact h x hx
theorem leave_lt {l : List (Int × api_Object)} (h : ∀ q ∈ l, ∀ j ∈ namesO q.2, j < q.1) (hne : l ≠ []) : (leaveL l).length < l.length := by
  obtain ⟨q, hq, hmin⟩ := min_key hne
  refine List.length_filter_lt_length_iff_exists.2 ⟨q, hq, ?_⟩
  rw [Bool.not_eq_true]
  refine List.any_eq_false.2 fun j hj hk => ?_
  unfold hasK at hk
  rw [mget_mem inE_eq] at hk
  obtain ⟨r, hr, h2⟩ := List.mem_map.1 hk
  have h1 := h q hq j hj
  have h3 := hmin r hr
  omega
theorem cycN_nil : ∀ (n : Nat) {l : List (Int × api_Object)}, (∀ q ∈ l, ∀ j ∈ namesO q.2, j < q.1) → l.length ≤ n → cycN n l = []
  | 0, l, _, hl => by
    have : l = [] := List.eq_nil_of_length_eq_zero (by omega)
    subst this; rfl
  | n + 1, l, h, hl => by
    rw [cycN]
    refine cycN_nil n (fun q hq => h q ((leave_sub l).subset hq)) ?_
    by_cases hne : l = []
    · subst hne; simp [leaveL]
    · have := leave_lt h hne; omega
theorem cyc_no {l : List (Int × api_Object)} (h : ∀ q ∈ l, ∀ j ∈ namesO q.2, j < q.1) : cycB l = false := by
  unfold cycB
  rw [cycN_nil l.length h (Nat.le_refl _)]; rfl
theorem bAndM (x : Int) (k : Nat) (hk : k ≤ 62) (m : Int) (hm : m = ((2 ^ k - 1 : Nat) : Int)) : bAnd .i64 x m = x % ((2 ^ k : Nat) : Int) := by
  have hp : 2 ^ k ≤ 2 ^ 62 := Nat.pow_le_pow_right (by decide) hk
  have hp0 : 0 < 2 ^ k := Nat.pos_of_ne_zero (by simp)
  have hd : (2 : Nat) ^ k ∣ 2 ^ 64 := Nat.pow_dvd_pow 2 (by omega)
  have h : (BitVec.ofInt 64 x &&& BitVec.ofInt 64 m).toNat = (x % ((2 ^ k : Nat) : Int)).toNat := by
    rw [BitVec.toNat_and]
    have h1 : (BitVec.ofInt 64 m).toNat = 2 ^ k - 1 := by
      rw [BitVec.toNat_ofInt, hm, Int.emod_eq_of_lt (by omega) (by simp only [Nat.reducePow] at *; omega)]; omega
    rw [h1, Nat.and_two_pow_sub_one_eq_mod, BitVec.toNat_ofInt]
    have h2 : ((x % ((2 ^ 64 : Nat) : Int)).toNat : Int) = x % ((2 ^ 64 : Nat) : Int) := Int.toNat_of_nonneg (Int.emod_nonneg _ (by decide))
    have h3 : (((x % ((2 ^ 64 : Nat) : Int)).toNat % 2 ^ k : Nat) : Int) = x % ((2 ^ k : Nat) : Int) := by
      rw [Int.natCast_emod, h2, Int.emod_emod_of_dvd _ (Int.natCast_dvd_natCast.2 hd)]
    rw [← h3]; rfl
  show IntKind.i64.wrap (((BitVec.ofInt 64 x &&& BitVec.ofInt 64 m).toNat : Nat) : Int) = _
  rw [h]
  have h4 : 0 ≤ x % ((2 ^ k : Nat) : Int) := Int.emod_nonneg _ (by omega)
  have h5 : x % ((2 ^ k : Nat) : Int) < ((2 ^ k : Nat) : Int) := Int.emod_lt_of_pos _ (by omega)
  rw [w64 (by omega) (by simp only [Nat.reducePow] at *; omega)]
  omega

/-! The recursion -/
theorem itN_mono2 {σ ε : Type} {b1 b2 : σ → Option (Lp σ ε)} (h : ∀ s o, b1 s = some o → b2 s = some o) : ∀ (n : Nat) (s : σ) (e : ε), itN b1 n s = some e → itN b2 n s = some e
  | 0, _, _, h1 => by simp [itN] at h1
  | n + 1, s, e, h1 => by
    simp only [itN] at h1 ⊢
    cases hb : b1 s with
    | none => rw [hb] at h1; simp at h1
    | some o =>
      rw [hb] at h1
      rw [h s o hb]
      cases o with
      | go s' => exact itN_mono2 h n s' e h1
      | out e' => exact h1
theorem iter_mono2 {σ ε : Type} {b1 b2 : σ → Option (Lp σ ε)} (h : ∀ s o, b1 s = some o → b2 s = some o) {s : σ} {e : ε} (h1 : iter b1 s = some e) : iter b2 s = some e := by
  obtain ⟨n, hn⟩ := iter_iff.1 h1
  exact iter_iff.2 ⟨n, itN_mono2 h n s e hn⟩
theorem treeR_mono {f g : walk_walker → ByteArray → Int → Option (Bool × walk_walker)} (h : ∀ a b c r, f a b c = some r → g a b c = some r) {a : walk_walker} {b : ByteArray} {c : Int} {r : Bool × walk_walker} (h1 : walk_walker_tree_o0_2R f a b c = some r) : walk_walker_tree_o0_2R g a b c = some r := by
  unfold walk_walker_tree_o0_2R at h1 ⊢
  obtain ⟨e, he, h1⟩ := bnd h1
  rw [iter_mono2 (b2 := walk_walker_tree_o0_2_l0 a c b g) (fun s o ho => ?_) he]
  · exact h1
  · unfold walk_walker_tree_o0_2_l0 at ho ⊢
    split at ho
    · rename_i hc
      rw [if_pos hc]
      obtain ⟨x, hx, ho⟩ := bnd ho
      rw [hx]
      obtain ⟨u, hu, ho⟩ := bnd ho
      simp only [Option.bind_some]
      rw [hu]
      simp only [Option.bind_some]
      split at ho
      · rename_i hk
        rw [if_pos hk]
        obtain ⟨u, hu, ho⟩ := bnd ho
        rw [hu]
        obtain ⟨y, hy, ho⟩ := bnd ho
        simp only [Option.bind_some]
        rw [h _ _ _ _ hy]
        exact ho
      · rename_i hk
        rw [if_neg hk]
        exact ho
    · rename_i hc
      rw [if_neg hc]
      exact ho
theorem treeN_mono1 : ∀ (n : Nat) (a : walk_walker) (b : ByteArray) (c : Int) (r : Bool × walk_walker), walk_walker_tree_o0_2N n a b c = some r → walk_walker_tree_o0_2N (n + 1) a b c = some r
  | 0, _, _, _, _, h => by simp [walk_walker_tree_o0_2N] at h
  | n + 1, a, b, c, r, h => treeR_mono (treeN_mono1 n) h
theorem treeN_mono {n m : Nat} (h : n ≤ m) {a : walk_walker} {b : ByteArray} {c : Int} {r : Bool × walk_walker} (h1 : walk_walker_tree_o0_2N n a b c = some r) : walk_walker_tree_o0_2N m a b c = some r := by
  induction h with
  | refl => exact h1
  | step _ ih => exact treeN_mono1 _ _ _ _ _ ih
theorem tree_of {n : Nat} {a : walk_walker} {b : ByteArray} {c : Int} {r : Bool × walk_walker} (h : walk_walker_tree_o0_2N n a b c = some r) : walk_walker_tree_o0_2 a b c = some r := by
  have hex : ∃ n r, walk_walker_tree_o0_2N n a b c = some r := ⟨n, r, h⟩
  unfold walk_walker_tree_o0_2
  rw [dif_pos hex]
  obtain ⟨r', h'⟩ := Classical.choose_spec hex
  have e1 := treeN_mono (Nat.le_max_left n (Classical.choose hex)) h
  have e2 := treeN_mono (Nat.le_max_right n (Classical.choose hex)) h'
  rw [e1] at e2
  rw [h', e2]
/-! The index -/
theorem walk_index_eq {a0 : api_Repository} (V : OkV a0) : walk_index a0 = some (cleanM (objM a0.Objects)) := by
  have hno := V.no
  unfold walk_index
  have h1 : iter (walk_index_l0 a0) (0, []) = some (idxM a0.Objects) := by
    refine iter_foldl a0.Objects (fun m o => mset inE m o.ID o) (fun m => m) (fun _ _ => True) (fun i hi s _ => ⟨?_, trivial⟩) (fun s _ => ?_) [] trivial
    · unfold walk_index_l0
      rw [if_pos (by simp; omega), idx_lt hi, w64 (by omega) (by omega)]
      rfl
    · unfold walk_index_l0
      rw [if_neg (by simp)]
  rw [h1, idxM_nodup V.nd]
  simp only [Option.bind_some]
  have hq : ∀ q ∈ objM a0.Objects, q.2.Items.length ≤ 268435456 := fun q hq => by
    unfold objM at hq
    obtain ⟨o, ho, rfl⟩ := List.mem_map.1 hq
    have := (objE_zero.1 (V.ob o ho)).2.1.2.1
    simp only; omega
  rw [ck_t ⟨by rw [objM_keys]; exact V.nd, hq⟩]
  rfl
/-- where every tree has an item, nothing is dead -/
theorem clean_none {M : List (Int × api_Object)} (h : ∀ q ∈ M, q.2.Kind = 2 → q.2.Items ≠ []) : cleanM M = M := by
  have hd : ∀ k, ¬ Dead M k := fun k hk => by
    induction hk with
    | @mk k o hm hk hi ih =>
      cases hx : o.Items with
      | nil => exact h _ hm hk hx
      | cons x l => exact ih x (by rw [hx]; simp)
  unfold cleanM
  have : ∀ q ∈ M, (q.1, ({ q.2 with Items := liveIt M q.2.Items } : api_Object)) = q := fun q _ => by
    unfold liveIt
    rw [List.filter_eq_self.2 fun x _ => by simp [hd]]
  rw [List.map_congr_left this, List.map_id']
/-! The trees of WalkMany: each names the one below twice -/
def zeroO : api_Object := ⟨0, 0, [], [], 0, [], ByteArray.empty, 0⟩
def bA : ByteArray := ⟨#[97]⟩
def bX : ByteArray := ⟨#[120]⟩
def bY : ByteArray := ⟨#[121]⟩
structure Pyr (M : List (Int × api_Object)) (d : Nat) : Prop where
  k1 : ((mget inE M 1).getD (⟨0, 0, [], [], 0, [], ByteArray.empty, 0⟩ : api_Object)).Kind = 1
  i2 : ((mget inE M 2).getD (⟨0, 0, [], [], 0, [], ByteArray.empty, 0⟩ : api_Object)).Items = [⟨bA, 1⟩]
  kt : ∀ i : Nat, i ≤ d → ((mget inE M (2 + i : Int)).getD (⟨0, 0, [], [], 0, [], ByteArray.empty, 0⟩ : api_Object)).Kind = 2
  it : ∀ i : Nat, i < d → ((mget inE M (3 + i : Int)).getD (⟨0, 0, [], [], 0, [], ByteArray.empty, 0⟩ : api_Object)).Items = [⟨bX, 2 + i⟩, ⟨bY, 2 + i⟩]
/-- what comes of a walk through a tree of so many leaves -/
def Leaves (n : Nat) (M : List (Int × api_Object)) (L : Int) (out : List api_Item) (r : Bool × walk_walker) : Prop :=
  if (n : Int) ≤ L then ∃ ls : List api_Item, r = (true, ⟨M, L - n, out ++ ls⟩) ∧ ls.length = n ∧ ∀ x ∈ ls, x.ID = 1 else r.1 = false
theorem pyr_tree {M : List (Int × api_Object)} {d : Nat} (Y : Pyr M d) : ∀ (j : Nat), j ≤ d → ∀ (p : ByteArray) (L : Int) (out : List api_Item), 0 ≤ L → (out.length : Int) + L ≤ 2000 → p.size + 2 * j ≤ 1000 →
    ∃ r, walk_walker_tree_o0_2N (j + 1) ⟨M, L, out⟩ p (2 + j) = some r ∧ Leaves (2 ^ j) M L out r := by
  intro j
  induction j with
  | zero =>
    intro _ p L out hL ho hp
    show ∃ r, walk_walker_tree_o0_2R _ _ p _ = some r ∧ _
    unfold walk_walker_tree_o0_2R
    have h0 : (2 + ((0 : Nat) : Int)) = 2 := rfl
    rw [h0]
    have hb : walk_walker_tree_o0_2_l0 ⟨M, L, out⟩ 2 p (walk_walker_tree_o0_2N 0) (0, M, L, out) = if L - 1 < 0 then some (.out (.inr (false, ⟨M, L - 1, out⟩))) else some (.go (1, M, L - 1, out ++ [⟨p ++ bA, 1⟩])) := by
      unfold walk_walker_tree_o0_2_l0
      simp only [Y.i2]
      rw [if_pos (by decide), show idx ([⟨bA, 1⟩] : List api_Item) 0 = some ⟨bA, 1⟩ from rfl]
      simp only [Option.bind_some]
      rw [ck_t (by have : bA.size = 1 := rfl; omega)]
      simp only [Option.bind_some, Y.k1]
      rw [if_neg (by decide), w64 (by omega) (by omega)]
      by_cases h : L - 1 < 0
      · rw [if_pos (by simpa using h), if_pos h]
      · rw [if_neg (by simpa using h), if_neg h, ck_t (by simp; omega)]
        rfl
    by_cases h : L - 1 < 0
    · rw [if_pos h] at hb
      rw [iter_out hb]
      refine ⟨_, rfl, ?_⟩
      unfold Leaves
      rw [if_neg (by simp; omega)]
    · rw [if_neg h] at hb
      rw [iter_go hb]
      have hb2 : walk_walker_tree_o0_2_l0 ⟨M, L, out⟩ 2 p (walk_walker_tree_o0_2N 0) (1, M, L - 1, out ++ [⟨p ++ bA, 1⟩]) = some (.out (.inl (M, L - 1, out ++ [⟨p ++ bA, 1⟩]))) := by
        unfold walk_walker_tree_o0_2_l0
        simp only [Y.i2]
        rw [if_neg (by decide)]
      rw [iter_out hb2]
      refine ⟨_, rfl, ?_⟩
      unfold Leaves
      rw [if_pos (by simp; omega)]
      exact ⟨[⟨p ++ bA, 1⟩], by simp, rfl, by simp⟩
  | succ j ih =>
    intro hj p L out hL ho hp
    have hit := Y.it j (by omega)
    have hkt := Y.kt j (by omega)
    show ∃ r, walk_walker_tree_o0_2R (walk_walker_tree_o0_2N (j + 1)) _ p _ = some r ∧ _
    unfold walk_walker_tree_o0_2R
    have h0 : (2 + ((j + 1 : Nat) : Int)) = 3 + j := by omega
    rw [h0]
    -- one item
    have one : ∀ (i : Nat) (nm : ByteArray) (L : Int) (o2 : List api_Item) (r : Bool × walk_walker), ([⟨bX, 2 + j⟩, ⟨bY, 2 + j⟩] : List api_Item)[i]? = some ⟨nm, 2 + j⟩ → nm.size = 1 → walk_walker_tree_o0_2N (j + 1) ⟨M, L, o2⟩ ((p ++ nm) ++ ⟨#[47]⟩) (2 + j) = some r →
        walk_walker_tree_o0_2_l0 ⟨M, L, out⟩ (3 + j) p (walk_walker_tree_o0_2N (j + 1)) ((i : Int), M, L, o2) = if (!r.1) = true then some (.out (.inr (false, r.2))) else some (.go ((i : Int) + 1, r.2.objects, r.2.left, r.2.out)) := by
      intro i nm L o2 r hi hnm hr
      have hi2 : i < 2 := (List.getElem?_eq_some_iff.1 hi).1
      unfold walk_walker_tree_o0_2_l0
      simp only [hit]
      rw [if_pos (by simp; omega), idx_nat, hi]
      simp only [Option.bind_some]
      rw [ck_t (by omega)]
      simp only [Option.bind_some, hkt]
      rw [if_pos (by decide), ck_t (by rw [ByteArray.size_append]; have : (⟨#[47]⟩ : ByteArray).size = 1 := rfl; omega)]
      simp only [Option.bind_some]
      rw [hr]
      simp only [Option.bind_some]
      rw [w64 (by omega) (by omega)]
    have sz : ∀ nm : ByteArray, nm.size = 1 → ((p ++ nm) ++ (⟨#[47]⟩ : ByteArray)).size + 2 * j ≤ 1000 := fun nm h => by
      rw [ByteArray.size_append, ByteArray.size_append]
      have : (⟨#[47]⟩ : ByteArray).size = 1 := rfl
      omega
    obtain ⟨r1, hr1, hl1⟩ := ih (by omega) ((p ++ bX) ++ ⟨#[47]⟩) L out hL ho (sz bX rfl)
    have hb1 := one 0 bX L out r1 rfl rfl hr1
    have hp2 : ((2 ^ (j + 1) : Nat) : Int) = ((2 ^ j : Nat) : Int) + ((2 ^ j : Nat) : Int) := by rw [Nat.pow_succ]; omega
    unfold Leaves at hl1
    split at hl1
    case isFalse =>
      rename_i h
      rw [if_pos (by rw [hl1]; rfl)] at hb1
      have hb1' : walk_walker_tree_o0_2_l0 ⟨M, L, out⟩ (3 + j) p (walk_walker_tree_o0_2N (j + 1)) (0, M, L, out) = some (.out (.inr (false, r1.2))) := hb1
      rw [iter_out hb1']
      refine ⟨_, rfl, ?_⟩
      unfold Leaves
      rw [if_neg (by rw [hp2]; omega)]
    rename_i h
    obtain ⟨ls, rfl, hls, hid⟩ := hl1
    rw [if_neg (by simp)] at hb1
    have hb1' : walk_walker_tree_o0_2_l0 ⟨M, L, out⟩ (3 + j) p (walk_walker_tree_o0_2N (j + 1)) (0, M, L, out) = some (.go (1, M, L - ((2 ^ j : Nat) : Int), out ++ ls)) := hb1
    rw [iter_go hb1']
    obtain ⟨r2, hr2, hl2⟩ := ih (by omega) ((p ++ bY) ++ ⟨#[47]⟩) (L - ((2 ^ j : Nat) : Int)) (out ++ ls) (by omega) (by rw [List.length_append]; omega) (sz bY rfl)
    have hb2 := one 1 bY (L - ((2 ^ j : Nat) : Int)) (out ++ ls) r2 rfl rfl hr2
    unfold Leaves at hl2
    split at hl2
    case isFalse =>
      rename_i h2
      rw [if_pos (by rw [hl2]; rfl)] at hb2
      have hb2' : walk_walker_tree_o0_2_l0 ⟨M, L, out⟩ (3 + j) p (walk_walker_tree_o0_2N (j + 1)) (1, M, L - ((2 ^ j : Nat) : Int), out ++ ls) = some (.out (.inr (false, r2.2))) := hb2
      rw [iter_out hb2']
      refine ⟨_, rfl, ?_⟩
      unfold Leaves
      rw [if_neg (by rw [hp2]; omega)]
    rename_i h2
    obtain ⟨ls2, rfl, hls2, hid2⟩ := hl2
    rw [if_neg (by simp)] at hb2
    have hb2' : walk_walker_tree_o0_2_l0 ⟨M, L, out⟩ (3 + j) p (walk_walker_tree_o0_2N (j + 1)) (1, M, L - ((2 ^ j : Nat) : Int), out ++ ls) = some (.go (2, M, L - ((2 ^ j : Nat) : Int) - ((2 ^ j : Nat) : Int), (out ++ ls) ++ ls2)) := hb2
    rw [iter_go hb2']
    have hb3 : walk_walker_tree_o0_2_l0 ⟨M, L, out⟩ (3 + j) p (walk_walker_tree_o0_2N (j + 1)) (2, M, L - ((2 ^ j : Nat) : Int) - ((2 ^ j : Nat) : Int), (out ++ ls) ++ ls2) = some (.out (.inl (M, L - ((2 ^ j : Nat) : Int) - ((2 ^ j : Nat) : Int), (out ++ ls) ++ ls2))) := by
      unfold walk_walker_tree_o0_2_l0
      simp only [hit]
      rw [if_neg (by simp)]
    rw [iter_out hb3]
    refine ⟨_, rfl, ?_⟩
    unfold Leaves
    rw [if_pos (by rw [hp2]; omega)]
    refine ⟨ls ++ ls2, ?_, by rw [List.length_append, hls, hls2, Nat.pow_succ]; omega, fun x hx => ?_⟩
    · show (true, (⟨M, _, _⟩ : walk_walker)) = _
      rw [hp2, List.append_assoc, show L - ((2 ^ j : Nat) : Int) - ((2 ^ j : Nat) : Int) = L - (((2 ^ j : Nat) : Int) + ((2 ^ j : Nat) : Int)) by omega]
    · rcases List.mem_append.1 hx with hx | hx
      · exact hid x hx
      · exact hid2 x hx
end Go.Vl

namespace Go.Vl
open Go
theorem objM_get {l : List api_Object} (hn : (l.map (·.ID)).Nodup) {o : api_Object} (ho : o ∈ l) : mget inE (objM l) o.ID = some o :=
  mget_nodup (by rw [objM_keys]; exact hn) (List.mem_map.2 ⟨o, ho, rfl⟩)
def mO1 : api_Object := ⟨1, 1, [], [], 0, [], ByteArray.empty, 0⟩
def mO2 : api_Object := ⟨2, 2, [], [⟨bA, 1⟩], 0, [], ByteArray.empty, 0⟩
def mTr (i : Nat) : api_Object := ⟨3 + i, 2, [], [⟨bX, 2 + i⟩, ⟨bY, 2 + i⟩], 0, [], ByteArray.empty, 0⟩
def mC (d : Nat) : api_Object := ⟨99, 3, [], [], 2 + d, [], ⟨#[97]⟩, 0⟩
def mObjs (d : Nat) : List api_Object := ([mO1, mO2] ++ (List.range d).map mTr) ++ [mC d]
theorem m_nd : ∀ d : Nat, d ≤ 12 → ((mObjs d).map (·.ID)).Nodup := by decide +kernel
theorem m_ob : ∀ d : Nat, d ≤ 12 → ∀ o ∈ mObjs d, objE o = 0 := by decide +kernel
theorem m_hr : ∀ d : Nat, d ≤ 12 → ∀ o ∈ mObjs d, hereB (objM (mObjs d)) o = true := by decide +kernel
theorem m_cy : ∀ d : Nat, d ≤ 12 → ∀ q ∈ objM (mObjs d), ∀ j ∈ namesO q.2, j < q.1 := by decide +kernel
theorem m_dead : ∀ d : Nat, d ≤ 12 → ∀ q ∈ objM (mObjs d), q.2.Kind = 2 → q.2.Items.length ≠ 0 := by decide +kernel
theorem m_fit : ∀ d : Nat, d ≤ 12 → ∀ o ∈ mObjs d, (∀ x ∈ o.Items, x.Name.size ≤ 1000000000) ∧ o.Author.size ≤ 1000000000 := by decide +kernel
theorem m_len (d : Nat) : (mObjs d).length = d + 3 := by simp [mObjs]
theorem m_ok {d : Nat} (h : d ≤ 12) : OkV ⟨mObjs d, []⟩ := {
  no := by rw [m_len]; omega
  ne := by simp
  ob := m_ob d h
  ev := fun e he => by simp at he
  nd := m_nd d h
  hr := m_hr d h
  nl := nl_nil _ _
  cy := cyc_no (m_cy d h)
  tm := fun e he => by simp at he
  so := by simp
  mn := rfl }
def wO : List api_Object := [⟨3, 1, [], [], 0, [], ByteArray.empty, 0⟩, ⟨4, 2, [], [⟨bA, 3⟩], 0, [], ByteArray.empty, 0⟩, ⟨5, 2, [], [⟨⟨#[100]⟩, 4⟩], 0, [], ByteArray.empty, 0⟩, ⟨7, 3, [], [], 5, [], ⟨#[120]⟩, 0⟩]
theorem w_nd : (wO.map (·.ID)).Nodup := by decide +kernel
theorem w_ob : ∀ o ∈ wO, objE o = 0 := by decide +kernel
theorem w_hr : ∀ o ∈ wO, hereB (objM wO) o = true := by decide +kernel
theorem w_cy : ∀ q ∈ objM wO, ∀ j ∈ namesO q.2, j < q.1 := by decide +kernel
theorem w_dead : ∀ q ∈ objM wO, q.2.Kind = 2 → q.2.Items.length ≠ 0 := by decide +kernel
theorem w_fit : ∀ o ∈ wO, (∀ x ∈ o.Items, x.Name.size ≤ 1000000000) ∧ o.Author.size ≤ 1000000000 := by decide +kernel
theorem itoa7 : decS 7 = ⟨#[55]⟩ := by decide +kernel
theorem itoa99 : (decS 99).size ≤ 2 := by decide +kernel
theorem ok_valid {a0 : api_Repository} (hf : FitR a0) (V : OkV a0) : history_Valid a0 = some 0 := by
  rw [valid_eq hf, validE_zero.2 V]
theorem fitE {l : List api_Object} (h : ∀ o ∈ l, (∀ x ∈ o.Items, x.Name.size ≤ 1000000000) ∧ o.Author.size ≤ 1000000000) : FitR ⟨l, []⟩ := ⟨h, fun e he => by simp at he⟩
theorem clean_obj {l : List api_Object} (h : ∀ q ∈ objM l, q.2.Kind = 2 → q.2.Items.length ≠ 0) : cleanM (objM l) = objM l := clean_none fun q hq hk e => h q hq hk (by rw [e]; rfl)
theorem m_pyr {d : Nat} (h : d ≤ 12) : Pyr (objM (mObjs d)) d := by
  have hn := m_nd d h
  have g1 : mget inE (objM (mObjs d)) 1 = some mO1 := objM_get hn (o := mO1) (by simp [mObjs])
  have g2 : mget inE (objM (mObjs d)) 2 = some mO2 := objM_get hn (o := mO2) (by simp [mObjs])
  have g3 : ∀ i : Nat, i < d → mget inE (objM (mObjs d)) (3 + i : Int) = some (mTr i) := fun i hi => objM_get hn (o := mTr i) (by simp [mObjs]; exact .inr (.inr (.inl ⟨i, hi, rfl⟩)))
  refine ⟨by rw [g1]; rfl, by rw [g2]; rfl, fun i hi => ?_, fun i hi => by rw [g3 i hi]; rfl⟩
  cases i with
  | zero => rw [show (2 + ((0 : Nat) : Int)) = 2 from rfl, g2]; rfl
  | succ i => rw [show (2 + ((i + 1 : Nat) : Int)) = 3 + i by omega, g3 i (by omega)]; rfl
open Classical in
theorem sort_len {ls : List api_Item} (h : ls.length ≤ 268435456) (h1 : ∀ x ∈ ls, ∀ y ∈ ls, x.Name = y.Name → x = y) : slices_SortFunc_api_Item_vec0_at_walk_paths_1 ls = some (sortIt ls) := by
  unfold slices_SortFunc_api_Item_vec0_at_walk_paths_1
  rw [ck_t ⟨h, h1⟩]; rfl
theorem sortIt_len (ls : List api_Item) : (sortIt ls).length = ls.length := by unfold sortIt; exact List.length_mergeSort ls
theorem itoa_some {n : Int} (h : -9223372036854775808 ≤ n ∧ n ≤ 9223372036854775807) : strconv_Itoa n = some (decS n) := by
  unfold strconv_Itoa; rw [ck_t h]; rfl
/-- what Paths answers at the pyramid -/
theorem m_paths {d : Nat} (h : d ≤ 12) : ∃ r, walk_Paths ⟨mObjs d, []⟩ 99 = some r ∧ (2 ^ d ≤ 2000 → r.2 = 0 ∧ r.1.length = 2 ^ d) ∧ (¬ 2 ^ d ≤ 2000 → r.2 = 3 ∧ r.1 = []) := by
  have hn := m_nd d h
  unfold walk_Paths
  rw [ok_valid (fitE (m_fit d h)) (m_ok h), walk_index_eq (m_ok h), clean_obj (m_dead d h)]
  simp only [Option.bind_some]
  have gc : mget inE (objM (mObjs d)) 99 = some (mC d) := objM_get hn (o := mC d) (by simp [mObjs])
  rw [if_neg (by decide), gc]
  simp only [Option.getD_some]
  rw [if_neg (by simp [mC])]
  unfold walk_paths
  rw [itoa_some (by decide)]
  simp only [Option.bind_some]
  rw [ck_t (by have := itoa99; have h1 : (⟨#[58]⟩ : ByteArray).size = 1 := rfl; omega), gc]
  simp only [Option.bind_some, Option.getD_some]
  obtain ⟨r, hr, hl⟩ := pyr_tree (m_pyr h) d (Nat.le_refl _) (decS 99 ++ ⟨#[58]⟩) 2000 [] (by decide) (by simp) (by rw [ByteArray.size_append]; have := itoa99; have h1 : (⟨#[58]⟩ : ByteArray).size = 1 := rfl; omega)
  have ht := tree_of hr
  rw [show (mC d).Tree = 2 + (d : Int) from rfl, ht]
  simp only [Option.bind_some]
  clear hr ht
  generalize 2 ^ d = N at *
  unfold Leaves at hl
  by_cases hd : N ≤ 2000
  · rw [if_pos (by omega)] at hl
    obtain ⟨ls, rfl, hls, hid⟩ := hl
    simp only [List.nil_append]
    rw [if_neg (by simp), sort_len (by omega) (fun x hx y hy e => by
      have h1 := hid x hx
      have h2 := hid y hy
      cases x; cases y
      simp only at e h1 h2
      rw [e, h1, h2])]
    simp only [Option.bind_some]
    rw [if_neg (by simp)]
    exact ⟨_, rfl, fun _ => ⟨rfl, by rw [sortIt_len, hls]⟩, fun h => absurd hd h⟩
  · rw [if_neg (by omega)] at hl
    rw [if_pos (by rw [hl]; rfl)]
    simp only [Option.bind_some]
    exact ⟨_, rfl, fun h => absurd h hd, fun _ => ⟨rfl, rfl⟩⟩
/-! awake -/
theorem w_ok : OkV ⟨wO, []⟩ := {
  no := by decide
  ne := by simp
  ob := w_ob
  ev := fun e he => by simp at he
  nd := w_nd
  hr := w_hr
  nl := nl_nil _ _
  cy := cyc_no w_cy
  tm := fun e he => by simp at he
  so := by simp
  mn := rfl }
theorem w_tree : walk_walker_tree_o0_2 ⟨objM wO, 2000, []⟩ ⟨#[55, 58]⟩ 5 = some (true, ⟨objM wO, 1999, [⟨⟨#[55, 58, 100, 47, 97]⟩, 3⟩]⟩) := by
  have g3 : mget inE (objM wO) 3 = some ⟨3, 1, [], [], 0, [], ByteArray.empty, 0⟩ := objM_get w_nd (o := ⟨3, 1, [], [], 0, [], ByteArray.empty, 0⟩) (by simp [wO])
  have g4 : mget inE (objM wO) 4 = some ⟨4, 2, [], [⟨bA, 3⟩], 0, [], ByteArray.empty, 0⟩ := objM_get w_nd (o := ⟨4, 2, [], [⟨bA, 3⟩], 0, [], ByteArray.empty, 0⟩) (by simp [wO])
  have g5 : mget inE (objM wO) 5 = some ⟨5, 2, [], [⟨⟨#[100]⟩, 4⟩], 0, [], ByteArray.empty, 0⟩ := objM_get w_nd (o := ⟨5, 2, [], [⟨⟨#[100]⟩, 4⟩], 0, [], ByteArray.empty, 0⟩) (by simp [wO])
  refine tree_of (n := 2) ?_
  have hin : walk_walker_tree_o0_2N 1 ⟨objM wO, 2000, []⟩ ⟨#[55, 58, 100, 47]⟩ 4 = some (true, ⟨objM wO, 1999, [⟨⟨#[55, 58, 100, 47, 97]⟩, 3⟩]⟩) := by
    show walk_walker_tree_o0_2R _ _ _ _ = _
    unfold walk_walker_tree_o0_2R
    rw [iter_go (s' := (1, objM wO, 1999, [⟨⟨#[55, 58, 100, 47, 97]⟩, 3⟩])) (by
      unfold walk_walker_tree_o0_2_l0
      simp only [g4, Option.getD_some]
      rw [if_pos (by decide), show idx ([⟨bA, 3⟩] : List api_Item) 0 = some ⟨bA, 3⟩ from rfl]
      simp only [Option.bind_some]
      rw [ck_t (by decide)]
      simp only [Option.bind_some, g3, Option.getD_some]
      rw [if_neg (by decide), if_neg (by decide), ck_t (by decide)]
      rfl), iter_out (e := .inl (objM wO, 1999, [⟨⟨#[55, 58, 100, 47, 97]⟩, 3⟩])) (by
      unfold walk_walker_tree_o0_2_l0
      simp only [g4, Option.getD_some]
      rw [if_neg (by decide)])]
    rfl
  show walk_walker_tree_o0_2R _ _ _ _ = _
  unfold walk_walker_tree_o0_2R
  rw [iter_go (s' := (1, objM wO, 1999, [⟨⟨#[55, 58, 100, 47, 97]⟩, 3⟩])) (by
    unfold walk_walker_tree_o0_2_l0
    simp only [g5, Option.getD_some]
    rw [if_pos (by decide), show idx ([⟨⟨#[100]⟩, 4⟩] : List api_Item) 0 = some ⟨⟨#[100]⟩, 4⟩ from rfl]
    simp only [Option.bind_some]
    rw [ck_t (by decide)]
    simp only [Option.bind_some, g4, Option.getD_some]
    rw [if_pos (by decide), ck_t (by decide)]
    simp only [Option.bind_some]
    rw [show ((⟨#[55, 58]⟩ : ByteArray) ++ ⟨#[100]⟩) ++ ⟨#[47]⟩ = ⟨#[55, 58, 100, 47]⟩ by decide +kernel, hin]
    rfl), iter_out (e := .inl (objM wO, 1999, [⟨⟨#[55, 58, 100, 47, 97]⟩, 3⟩])) (by
    unfold walk_walker_tree_o0_2_l0
    simp only [g5, Option.getD_some]
    rw [if_neg (by decide)])]
  rfl
theorem w_paths : walk_Paths ⟨wO, []⟩ 7 = some ([⟨⟨#[55, 58, 100, 47, 97]⟩, 3⟩], 0) := by
  unfold walk_Paths
  rw [ok_valid (fitE w_fit) w_ok, walk_index_eq w_ok, clean_obj w_dead]
  simp only [Option.bind_some]
  have gc : mget inE (objM wO) 7 = some ⟨7, 3, [], [], 5, [], ⟨#[120]⟩, 0⟩ := objM_get w_nd (o := ⟨7, 3, [], [], 5, [], ⟨#[120]⟩, 0⟩) (by simp [wO])
  rw [if_neg (by decide), gc]
  simp only [Option.getD_some]
  rw [if_neg (by decide)]
  unfold walk_paths
  rw [itoa_some (by decide), itoa7]
  simp only [Option.bind_some]
  rw [ck_t (by decide), gc]
  simp only [Option.bind_some, Option.getD_some]
  rw [show (⟨#[55]⟩ : ByteArray) ++ ⟨#[58]⟩ = ⟨#[55, 58]⟩ by decide +kernel, w_tree]
  simp only [Option.bind_some]
  rw [if_neg (by decide), sort_len (by decide) (fun x hx y hy _ => by
    rw [List.mem_singleton] at hx hy
    rw [hx, hy])]
  simp only [Option.bind_some]
  rw [if_neg (by decide)]
  unfold sortIt
  rw [List.mergeSort_singleton]
theorem awake16 : law16_awake = some true := by
  unfold law16_awake
  have := w_paths
  unfold wO bA at this
  rw [this]
  simp only [Option.bind_some]
  rw [if_pos (by decide), if_pos (by decide), show idx ([⟨⟨#[55, 58, 100, 47, 97]⟩, 3⟩] : List api_Item) 0 = some ⟨⟨#[55, 58, 100, 47, 97]⟩, 3⟩ from rfl]
  simp only [Option.bind_some]
  congr 1
  simp
theorem WalkMany_law (n : Int) : law16_WalkMany n = some true := by
  have hd : ∃ d : Nat, d ≤ 12 ∧ 1 ≤ d ∧ IntKind.i64.wrap (1 + (((bAnd .i64 n 255)).tmod 12)) = d := by
    rw [bAndM n 8 (by omega) 255 (by decide)]
    have h0 : 0 ≤ n % ((2 ^ 8 : Nat) : Int) := Int.emod_nonneg _ (by decide)
    have h1 := Int.tmod_nonneg 12 h0
    have h2 := Int.tmod_lt_of_pos (n % ((2 ^ 8 : Nat) : Int)) (b := 12) (by decide)
    refine ⟨(1 + (n % ((2 ^ 8 : Nat) : Int)).tmod 12).toNat, by omega, by omega, ?_⟩
    rw [w64 (by omega) (by omega)]; omega
  obtain ⟨d, hd1, hd0, hd2⟩ := hd
  unfold law16_WalkMany
  simp only [Option.bind_some]
  have hloop : iter (law16_WalkMany_l0 n) (0, [mO1, mO2]) = some ([mO1, mO2] ++ (List.range d).map mTr) := by
    have := iter_foldl (body := law16_WalkMany_l0 n) (List.range d) (fun s i => s ++ [mTr i]) (fun s => s) (fun i s => s.length = 2 + i) (fun i hi s hs => ?_) (fun s hs => ?_) [mO1, mO2] rfl
    · rw [this]
      have hf : ∀ (l : List Nat) (a : List api_Object), l.foldl (fun s i => s ++ [mTr i]) a = a ++ l.map mTr := fun l => by
        induction l with
        | nil => intro a; simp
        | cons x l ih => intro a; rw [List.foldl_cons, ih]; simp
      rw [hf]
    · rw [List.length_range] at hi
      refine ⟨?_, by simp [hs]; omega⟩
      unfold law16_WalkMany_l0
      simp only [hd2]
      rw [if_pos (by simpa using hi), ck_t (by rw [hs]; simp; omega)]
      simp only [Option.bind_some, List.getElem_range, mTr]
      rw [w64 (by omega) (by omega), w64 (by omega) (by omega), w64 (by omega) (by omega)]
      rfl
    · unfold law16_WalkMany_l0
      simp only [hd2]
      rw [if_neg (by simp)]
  have hl : iter (law16_WalkMany_l0 n) (0, [(⟨1, 1, [], [], 0, [], ByteArray.empty, 0⟩ : api_Object), (⟨2, 2, [], [(⟨(⟨#[97]⟩ : ByteArray), 1⟩ : api_Item)], 0, [], ByteArray.empty, 0⟩ : api_Object)]) = some ([mO1, mO2] ++ (List.range d).map mTr) := hloop
  rw [hl]
  simp only [Option.bind_some, hd2]
  rw [ck_t (by simp; omega)]
  simp only [Option.bind_some]
  rw [w64 (x := 2 + (d : Int)) (by omega) (by omega)]
  obtain ⟨r, hr, hp⟩ := m_paths hd1
  have hr' : walk_Paths ⟨([mO1, mO2] ++ (List.range d).map mTr) ++ [(⟨99, 3, [], [], 2 + (d : Int), [], (⟨#[97]⟩ : ByteArray), 0⟩ : api_Object)], []⟩ 99 = some r := hr
  rw [hr', wu64 (by omega) (by omega)]
  simp only [Option.bind_some]
  rw [ck_t (by omega)]
  simp only [Option.bind_some, awake16]
  have hpow : IntKind.i64.wrap (1 * 2 ^ (min (Int.toNat (d : Int)) IntKind.i64.bits)) = ((2 ^ d : Nat) : Int) := by
    have hp : 2 ^ d ≤ 2 ^ 12 := Nat.pow_le_pow_right (by decide) hd1
    rw [Int.toNat_natCast, Nat.min_eq_left (by show d ≤ 64; omega), Int.one_mul]
    rw [show ((2 : Int) ^ d) = ((2 ^ d : Nat) : Int) by simp]
    generalize 2 ^ d = N at *
    rw [w64 (by omega) (by omega)]
  rw [hpow]
  obtain ⟨hp1, hp2⟩ := hp
  clear hpow
  generalize 2 ^ d = N at *
  by_cases h : N ≤ 2000
  · obtain ⟨h1, h2⟩ := hp1 h
    rw [if_neg (by simp; omega), if_pos (by rw [h1]; rfl), if_pos (by rw [h2]; simp)]
    rfl
  · obtain ⟨h1, h2⟩ := hp2 h
    rw [if_pos (by simp; omega), if_pos (by rw [h1]; rfl), if_pos (by rw [h2]; rfl)]
    rfl
end Go.Vl
