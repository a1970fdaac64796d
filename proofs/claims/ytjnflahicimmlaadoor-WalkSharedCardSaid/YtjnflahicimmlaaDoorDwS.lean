/- Walk: the tree, the index, in plain words. Conditions: none. -/
import Derived.Test.YtjnflahicimmlaaDoorDBm
import Derived.Test.YtjnflahicimmlaaDoorDrS
set_option linter.unusedSimpArgs false
set_option linter.unusedVariables false
namespace Go.Vl
open Go

theorem bAndM (x : Int) (k : Nat) (hk : k ≤ 62) (m : Int) (hm : m = ((2 ^ k - 1 : Nat) : Int)) : bAnd .i64 x m = x % ((2 ^ k : Nat) : Int) := by
  have hp : 2 ^ k ≤ 2 ^ 62 := Nat.pow_le_pow_right (by decide) hk
  have hp0 : 0 < 2 ^ k := Nat.pos_of_ne_zero (by simp)
  have hd : (2 : Nat) ^ k ∣ 2 ^ 64 := Nat.pow_dvd_pow 2 (by omega)
  have h : (BitVec.ofInt 64 x &&& BitVec.ofInt 64 m).toNat = (x % ((2 ^ k : Nat) : Int)).toNat := by
    rw [BitVec.toNat_and]
    have h1 : (BitVec.ofInt 64 m).toNat = 2 ^ k - 1 := by
      rw [BitVec.toNat_ofInt, hm, Int.emod_eq_of_lt (by omega) (by simp only [Nat.reducePow] at *; omega)]; omega
    rw [h1, Nat.and_two_pow_sub_one_eq_mod, BitVec.toNat_ofInt]
    have h2 : ((x % ((2 ^ 64 : Nat) : Int)).toNat : Int) = x % ((2 ^ 64 : Nat) : Int) := Int.toNat_of_nonneg (Int.emod_nonneg _ (by decide))
    have h3 : (((x % ((2 ^ 64 : Nat) : Int)).toNat % 2 ^ k : Nat) : Int) = x % ((2 ^ k : Nat) : Int) := by
      rw [Int.natCast_emod, h2, Int.emod_emod_of_dvd _ (Int.natCast_dvd_natCast.2 hd)]
    rw [← h3]; rfl
  show IntKind.i64.wrap (((BitVec.ofInt 64 x &&& BitVec.ofInt 64 m).toNat : Nat) : Int) = _
  rw [h]
  have h4 : 0 ≤ x % ((2 ^ k : Nat) : Int) := Int.emod_nonneg _ (by omega)
  have h5 : x % ((2 ^ k : Nat) : Int) < ((2 ^ k : Nat) : Int) := Int.emod_lt_of_pos _ (by omega)
  rw [w64 (by omega) (by simp only [Nat.reducePow] at *; omega)]
  omega

/-! The recursion -/
theorem itN_mono2 {σ ε : Type} {b1 b2 : σ → Option (Lp σ ε)} (h : ∀ s o, b1 s = some o → b2 s = some o) : ∀ (n : Nat) (s : σ) (e : ε), itN b1 n s = some e → itN b2 n s = some e
  | 0, _, _, h1 => by simp [itN] at h1
  | n + 1, s, e, h1 => by
    simp only [itN] at h1 ⊢
    cases hb : b1 s with
    | none => rw [hb] at h1; simp at h1
    | some o =>
      rw [hb] at h1
      rw [h s o hb]
      cases o with
      | go s' => exact itN_mono2 h n s' e h1
      | out e' => exact h1
theorem iter_mono2 {σ ε : Type} {b1 b2 : σ → Option (Lp σ ε)} (h : ∀ s o, b1 s = some o → b2 s = some o) {s : σ} {e : ε} (h1 : iter b1 s = some e) : iter b2 s = some e := by
  obtain ⟨n, hn⟩ := iter_iff.1 h1
  exact iter_iff.2 ⟨n, itN_mono2 h n s e hn⟩
theorem treeR_mono {f g : walk_walker → ByteArray → Int → Option (Bool × walk_walker)} (h : ∀ a b c r, f a b c = some r → g a b c = some r) {a : walk_walker} {b : ByteArray} {c : Int} {r : Bool × walk_walker} (h1 : walk_walker_tree_o0_2R f a b c = some r) : walk_walker_tree_o0_2R g a b c = some r := by
  unfold walk_walker_tree_o0_2R at h1 ⊢
  obtain ⟨e, he, h1⟩ := bnd h1
  rw [iter_mono2 (b2 := walk_walker_tree_o0_2_l0 a c b g) (fun s o ho => ?_) he]
  · exact h1
  · unfold walk_walker_tree_o0_2_l0 at ho ⊢
    split at ho
    · rename_i hc
      rw [if_pos hc]
      obtain ⟨x, hx, ho⟩ := bnd ho
      rw [hx]
      obtain ⟨u, hu, ho⟩ := bnd ho
      simp only [Option.bind_some]
      rw [hu]
      simp only [Option.bind_some]
      split at ho
      · rename_i hk
        rw [if_pos hk]
        obtain ⟨u, hu, ho⟩ := bnd ho
        rw [hu]
        obtain ⟨y, hy, ho⟩ := bnd ho
        simp only [Option.bind_some]
        rw [h _ _ _ _ hy]
        exact ho
      · rename_i hk
        rw [if_neg hk]
        exact ho
    · rename_i hc
      rw [if_neg hc]
      exact ho
theorem treeN_mono1 : ∀ (n : Nat) (a : walk_walker) (b : ByteArray) (c : Int) (r : Bool × walk_walker), walk_walker_tree_o0_2N n a b c = some r → walk_walker_tree_o0_2N (n + 1) a b c = some r
  | 0, _, _, _, _, h => by simp [walk_walker_tree_o0_2N] at h
  | n + 1, a, b, c, r, h => treeR_mono (treeN_mono1 n) h
theorem treeN_mono {n m : Nat} (h : n ≤ m) {a : walk_walker} {b : ByteArray} {c : Int} {r : Bool × walk_walker} (h1 : walk_walker_tree_o0_2N n a b c = some r) : walk_walker_tree_o0_2N m a b c = some r := by
  induction h with
  | refl => exact h1
  | step _ ih => exact treeN_mono1 _ _ _ _ _ ih
theorem tree_of {n : Nat} {a : walk_walker} {b : ByteArray} {c : Int} {r : Bool × walk_walker} (h : walk_walker_tree_o0_2N n a b c = some r) : walk_walker_tree_o0_2 a b c = some r := by
  have hex : ∃ n r, walk_walker_tree_o0_2N n a b c = some r := ⟨n, r, h⟩
  unfold walk_walker_tree_o0_2
  rw [dif_pos hex]
  obtain ⟨r', h'⟩ := Classical.choose_spec hex
  have e1 := treeN_mono (Nat.le_max_left n (Classical.choose hex)) h
  have e2 := treeN_mono (Nat.le_max_right n (Classical.choose hex)) h'
  rw [e1] at e2
  rw [h', e2]
/-! The index -/
theorem walk_index_eq {a0 : api_Repository} (V : OkV a0) : walk_index a0 = some (cleanM (objM a0.Objects)) := by
  have hno := V.no
  unfold walk_index
  have h1 : iter (walk_index_l0 a0) (0, []) = some (idxM a0.Objects) := by
    refine iter_foldl a0.Objects (fun m o => mset inE m o.ID o) (fun m => m) (fun _ _ => True) (fun i hi s _ => ⟨?_, trivial⟩) (fun s _ => ?_) [] trivial
    · unfold walk_index_l0
      rw [if_pos (by simp; omega), idx_lt hi, w64 (by omega) (by omega)]
      rfl
    · unfold walk_index_l0
      rw [if_neg (by simp)]
  rw [h1, idxM_nodup V.nd]
  simp only [Option.bind_some]
  have hq : ∀ q ∈ objM a0.Objects, q.2.Items.length ≤ 268435456 := fun q hq => by
    unfold objM at hq
    obtain ⟨o, ho, rfl⟩ := List.mem_map.1 hq
    have := (objE_zero.1 (V.ob o ho)).2.1.2.1
    simp only; omega
  rw [ck_t ⟨by rw [objM_keys]; exact V.nd, hq⟩]
  rfl
/-- where every tree has an item, nothing is dead -/
theorem clean_none {M : List (Int × api_Object)} (h : ∀ q ∈ M, q.2.Kind = 2 → q.2.Items ≠ []) : cleanM M = M := by
  have hd : ∀ k, ¬ Dead M k := fun k hk => by
    induction hk with
    | @mk k o hm hk hi ih =>
      cases hx : o.Items with
      | nil => exact h _ hm hk hx
      | cons x l => exact ih x (by rw [hx]; simp)
  unfold cleanM
  have : ∀ q ∈ M, (q.1, ({ q.2 with Items := liveIt M q.2.Items } : api_Object)) = q := fun q _ => by
    unfold liveIt
    rw [List.filter_eq_self.2 fun x _ => by simp [hd]]
  rw [List.map_congr_left this, List.map_id']
/-! The trees of WalkMany: each names the one below twice -/
def zeroO : api_Object := ⟨0, 0, [], [], 0, [], ByteArray.empty, 0⟩
def bA : ByteArray := ⟨#[97]⟩
def bX : ByteArray := ⟨#[120]⟩
def bY : ByteArray := ⟨#[121]⟩
structure Pyr (M : List (Int × api_Object)) (d : Nat) : Prop where
  k1 : ((mget inE M 1).getD (⟨0, 0, [], [], 0, [], ByteArray.empty, 0⟩ : api_Object)).Kind = 1
  i2 : ((mget inE M 2).getD (⟨0, 0, [], [], 0, [], ByteArray.empty, 0⟩ : api_Object)).Items = [⟨bA, 1⟩]
  kt : ∀ i : Nat, i ≤ d → ((mget inE M (2 + i : Int)).getD (⟨0, 0, [], [], 0, [], ByteArray.empty, 0⟩ : api_Object)).Kind = 2
  it : ∀ i : Nat, i < d → ((mget inE M (3 + i : Int)).getD (⟨0, 0, [], [], 0, [], ByteArray.empty, 0⟩ : api_Object)).Items = [⟨bX, 2 + i⟩, ⟨bY, 2 + i⟩]
/-- what comes of a walk through a tree of so many leaves -/
def Leaves (n : Nat) (M : List (Int × api_Object)) (L : Int) (out : List api_Item) (r : Bool × walk_walker) : Prop :=
  if (n : Int) ≤ L then ∃ ls : List api_Item, r = (true, ⟨M, L - n, out ++ ls⟩) ∧ ls.length = n ∧ ∀ x ∈ ls, x.ID = 1 else r.1 = false
theorem pyr_tree {M : List (Int × api_Object)} {d : Nat} (Y : Pyr M d) : ∀ (j : Nat), j ≤ d → ∀ (p : ByteArray) (L : Int) (out : List api_Item), 0 ≤ L → (out.length : Int) + L ≤ 2000 → p.size + 2 * j ≤ 1000 →
    ∃ r, walk_walker_tree_o0_2N (j + 1) ⟨M, L, out⟩ p (2 + j) = some r ∧ Leaves (2 ^ j) M L out r := by
  intro j
  induction j with
  | zero =>
    intro _ p L out hL ho hp
    show ∃ r, walk_walker_tree_o0_2R _ _ p _ = some r ∧ _
    unfold walk_walker_tree_o0_2R
    have h0 : (2 + ((0 : Nat) : Int)) = 2 := rfl
    rw [h0]
    have hb : walk_walker_tree_o0_2_l0 ⟨M, L, out⟩ 2 p (walk_walker_tree_o0_2N 0) (0, M, L, out) = if L - 1 < 0 then some (.out (.inr (false, ⟨M, L - 1, out⟩))) else some (.go (1, M, L - 1, out ++ [⟨p ++ bA, 1⟩])) := by
      unfold walk_walker_tree_o0_2_l0
      simp only [Y.i2]
      rw [if_pos (by decide), show idx ([⟨bA, 1⟩] : List api_Item) 0 = some ⟨bA, 1⟩ from rfl]
      simp only [Option.bind_some]
      rw [ck_t (by have : bA.size = 1 := rfl; omega)]
      simp only [Option.bind_some, Y.k1]
      rw [if_neg (by decide), w64 (by omega) (by omega)]
      by_cases h : L - 1 < 0
      · rw [if_pos (by simpa using h), if_pos h]
      · rw [if_neg (by simpa using h), if_neg h, ck_t (by simp; omega)]
        rfl
    by_cases h : L - 1 < 0
    · rw [if_pos h] at hb
      rw [iter_out hb]
      refine ⟨_, rfl, ?_⟩
      unfold Leaves
      rw [if_neg (by simp; omega)]
    · rw [if_neg h] at hb
      rw [iter_go hb]
      have hb2 : walk_walker_tree_o0_2_l0 ⟨M, L, out⟩ 2 p (walk_walker_tree_o0_2N 0) (1, M, L - 1, out ++ [⟨p ++ bA, 1⟩]) = some (.out (.inl (M, L - 1, out ++ [⟨p ++ bA, 1⟩]))) := by
        unfold walk_walker_tree_o0_2_l0
        simp only [Y.i2]
        rw [if_neg (by decide)]
      rw [iter_out hb2]
      refine ⟨_, rfl, ?_⟩
      unfold Leaves
      rw [if_pos (by simp; omega)]
      exact ⟨[⟨p ++ bA, 1⟩], by simp, rfl, by simp⟩
  | succ j ih =>
    intro hj p L out hL ho hp
    have hit := Y.it j (by omega)
    have hkt := Y.kt j (by omega)
    show ∃ r, walk_walker_tree_o0_2R (walk_walker_tree_o0_2N (j + 1)) _ p _ = some r ∧ _
    unfold walk_walker_tree_o0_2R
    have h0 : (2 + ((j + 1 : Nat) : Int)) = 3 + j := by omega
    rw [h0]
    -- one item
    have one : ∀ (i : Nat) (nm : ByteArray) (L : Int) (o2 : List api_Item) (r : Bool × walk_walker), ([⟨bX, 2 + j⟩, ⟨bY, 2 + j⟩] : List api_Item)[i]? = some ⟨nm, 2 + j⟩ → nm.size = 1 → walk_walker_tree_o0_2N (j + 1) ⟨M, L, o2⟩ ((p ++ nm) ++ ⟨#[47]⟩) (2 + j) = some r →
        walk_walker_tree_o0_2_l0 ⟨M, L, out⟩ (3 + j) p (walk_walker_tree_o0_2N (j + 1)) ((i : Int), M, L, o2) = if (!r.1) = true then some (.out (.inr (false, r.2))) else some (.go ((i : Int) + 1, r.2.objects, r.2.left, r.2.out)) := by
      intro i nm L o2 r hi hnm hr
      have hi2 : i < 2 := (List.getElem?_eq_some_iff.1 hi).1
      unfold walk_walker_tree_o0_2_l0
      simp only [hit]
      rw [if_pos (by simp; omega), idx_nat, hi]
      simp only [Option.bind_some]
      rw [ck_t (by omega)]
      simp only [Option.bind_some, hkt]
      rw [if_pos (by decide), ck_t (by rw [ByteArray.size_append]; have : (⟨#[47]⟩ : ByteArray).size = 1 := rfl; omega)]
      simp only [Option.bind_some]
      rw [hr]
      simp only [Option.bind_some]
      rw [w64 (by omega) (by omega)]
    have sz : ∀ nm : ByteArray, nm.size = 1 → ((p ++ nm) ++ (⟨#[47]⟩ : ByteArray)).size + 2 * j ≤ 1000 := fun nm h => by
      rw [ByteArray.size_append, ByteArray.size_append]
      have : (⟨#[47]⟩ : ByteArray).size = 1 := rfl
      omega
    obtain ⟨r1, hr1, hl1⟩ := ih (by omega) ((p ++ bX) ++ ⟨#[47]⟩) L out hL ho (sz bX rfl)
    have hb1 := one 0 bX L out r1 rfl rfl hr1
    have hp2 : ((2 ^ (j + 1) : Nat) : Int) = ((2 ^ j : Nat) : Int) + ((2 ^ j : Nat) : Int) := by rw [Nat.pow_succ]; omega
    unfold Leaves at hl1
    split at hl1
    case isFalse =>
      rename_i h
      rw [if_pos (by rw [hl1]; rfl)] at hb1
      have hb1' : walk_walker_tree_o0_2_l0 ⟨M, L, out⟩ (3 + j) p (walk_walker_tree_o0_2N (j + 1)) (0, M, L, out) = some (.out (.inr (false, r1.2))) := hb1
      rw [iter_out hb1']
      refine ⟨_, rfl, ?_⟩
      unfold Leaves
      rw [if_neg (by rw [hp2]; omega)]
    rename_i h
    obtain ⟨ls, rfl, hls, hid⟩ := hl1
    rw [if_neg (by simp)] at hb1
    have hb1' : walk_walker_tree_o0_2_l0 ⟨M, L, out⟩ (3 + j) p (walk_walker_tree_o0_2N (j + 1)) (0, M, L, out) = some (.go (1, M, L - ((2 ^ j : Nat) : Int), out ++ ls)) := hb1
    rw [iter_go hb1']
    obtain ⟨r2, hr2, hl2⟩ := ih (by omega) ((p ++ bY) ++ ⟨#[47]⟩) (L - ((2 ^ j : Nat) : Int)) (out ++ ls) (by omega) (by rw [List.length_append]; omega) (sz bY rfl)
    have hb2 := one 1 bY (L - ((2 ^ j : Nat) : Int)) (out ++ ls) r2 rfl rfl hr2
    unfold Leaves at hl2
    split at hl2
    case isFalse =>
      rename_i h2
      rw [if_pos (by rw [hl2]; rfl)] at hb2
      have hb2' : walk_walker_tree_o0_2_l0 ⟨M, L, out⟩ (3 + j) p (walk_walker_tree_o0_2N (j + 1)) (1, M, L - ((2 ^ j : Nat) : Int), out ++ ls) = some (.out (.inr (false, r2.2))) := hb2
      rw [iter_out hb2']
      refine ⟨_, rfl, ?_⟩
      unfold Leaves
      rw [if_neg (by rw [hp2]; omega)]
    rename_i h2
    obtain ⟨ls2, rfl, hls2, hid2⟩ := hl2
    rw [if_neg (by simp)] at hb2
    have hb2' : walk_walker_tree_o0_2_l0 ⟨M, L, out⟩ (3 + j) p (walk_walker_tree_o0_2N (j + 1)) (1, M, L - ((2 ^ j : Nat) : Int), out ++ ls) = some (.go (2, M, L - ((2 ^ j : Nat) : Int) - ((2 ^ j : Nat) : Int), (out ++ ls) ++ ls2)) := hb2
    rw [iter_go hb2']
    have hb3 : walk_walker_tree_o0_2_l0 ⟨M, L, out⟩ (3 + j) p (walk_walker_tree_o0_2N (j + 1)) (2, M, L - ((2 ^ j : Nat) : Int) - ((2 ^ j : Nat) : Int), (out ++ ls) ++ ls2) = some (.out (.inl (M, L - ((2 ^ j : Nat) : Int) - ((2 ^ j : Nat) : Int), (out ++ ls) ++ ls2))) := by
      unfold walk_walker_tree_o0_2_l0
      simp only [hit]
      rw [if_neg (by simp)]
    rw [iter_out hb3]
    refine ⟨_, rfl, ?_⟩
    unfold Leaves
    rw [if_pos (by rw [hp2]; omega)]
    refine ⟨ls ++ ls2, ?_, by rw [List.length_append, hls, hls2, Nat.pow_succ]; omega, fun x hx => ?_⟩
    · show (true, (⟨M, _, _⟩ : walk_walker)) = _
      rw [hp2, List.append_assoc, show L - ((2 ^ j : Nat) : Int) - ((2 ^ j : Nat) : Int) = L - (((2 ^ j : Nat) : Int) + ((2 ^ j : Nat) : Int)) by omega]
    · rcases List.mem_append.1 hx with hx | hx
      · exact hid x hx
      · exact hid2 x hx
end Go.Vl

namespace Go.Vl
open Go
theorem objM_get {l : List api_Object} (hn : (l.map (·.ID)).Nodup) {o : api_Object} (ho : o ∈ l) : mget inE (objM l) o.ID = some o :=
  mget_nodup (by rw [objM_keys]; exact hn) (List.mem_map.2 ⟨o, ho, rfl⟩)
def mO1 : api_Object := ⟨1, 1, [], [], 0, [], ByteArray.empty, 0⟩
def mO2 : api_Object := ⟨2, 2, [], [⟨bA, 1⟩], 0, [], ByteArray.empty, 0⟩
def mTr (i : Nat) : api_Object := ⟨3 + i, 2, [], [⟨bX, 2 + i⟩, ⟨bY, 2 + i⟩], 0, [], ByteArray.empty, 0⟩
def mC (d : Nat) : api_Object := ⟨99, 3, [], [], 2 + d, [], ⟨#[97]⟩, 0⟩
def mObjs (d : Nat) : List api_Object := ([mO1, mO2] ++ (List.range d).map mTr) ++ [mC d]
theorem m_nd : ∀ d : Nat, d ≤ 12 → ((mObjs d).map (·.ID)).Nodup := by decide +kernel
theorem m_ob : ∀ d : Nat, d ≤ 12 → ∀ o ∈ mObjs d, objE o = 0 := by decide +kernel
theorem m_hr : ∀ d : Nat, d ≤ 12 → ∀ o ∈ mObjs d, hereB (objM (mObjs d)) o = true := by decide +kernel
theorem m_cy : ∀ d : Nat, d ≤ 12 → ∀ q ∈ objM (mObjs d), ∀ j ∈ namesO q.2, j < q.1 := by decide +kernel
theorem m_dead : ∀ d : Nat, d ≤ 12 → ∀ q ∈ objM (mObjs d), q.2.Kind = 2 → q.2.Items.length ≠ 0 := by decide +kernel
theorem m_fit : ∀ d : Nat, d ≤ 12 → ∀ o ∈ mObjs d, (∀ x ∈ o.Items, x.Name.size ≤ 1000000000) ∧ o.Author.size ≤ 1000000000 := by decide +kernel
theorem m_len (d : Nat) : (mObjs d).length = d + 3 := by simp [mObjs]
theorem m_ok {d : Nat} (h : d ≤ 12) : OkV ⟨mObjs d, []⟩ := {
  no := by rw [m_len]; omega
  ne := by simp
  ob := m_ob d h
  ev := fun e he => by simp at he
  nd := m_nd d h
  hr := m_hr d h
  nl := nl_nil _ _
  cy := cyc_no (m_cy d h)
  tm := fun e he => by simp at he
  so := by simp
  mn := rfl }
def wO : List api_Object := [⟨3, 1, [], [], 0, [], ByteArray.empty, 0⟩, ⟨4, 2, [], [⟨bA, 3⟩], 0, [], ByteArray.empty, 0⟩, ⟨5, 2, [], [⟨⟨#[100]⟩, 4⟩], 0, [], ByteArray.empty, 0⟩, ⟨7, 3, [], [], 5, [], ⟨#[120]⟩, 0⟩]
theorem w_nd : (wO.map (·.ID)).Nodup := by decide +kernel
theorem w_ob : ∀ o ∈ wO, objE o = 0 := by decide +kernel
theorem w_hr : ∀ o ∈ wO, hereB (objM wO) o = true := by decide +kernel
theorem w_cy : ∀ q ∈ objM wO, ∀ j ∈ namesO q.2, j < q.1 := by decide +kernel
theorem w_dead : ∀ q ∈ objM wO, q.2.Kind = 2 → q.2.Items.length ≠ 0 := by decide +kernel
theorem w_fit : ∀ o ∈ wO, (∀ x ∈ o.Items, x.Name.size ≤ 1000000000) ∧ o.Author.size ≤ 1000000000 := by decide +kernel
theorem itoa7 : decS 7 = ⟨#[55]⟩ := by decide +kernel
theorem itoa99 : (decS 99).size ≤ 2 := by decide +kernel
theorem ok_valid {a0 : api_Repository} (hf : FitR a0) (V : OkV a0) : history_Valid a0 = some 0 := by
  rw [valid_eq hf, validE_zero.2 V]
theorem fitE {l : List api_Object} (h : ∀ o ∈ l, (∀ x ∈ o.Items, x.Name.size ≤ 1000000000) ∧ o.Author.size ≤ 1000000000) : FitR ⟨l, []⟩ := ⟨h, fun e he => by simp at he⟩
theorem clean_obj {l : List api_Object} (h : ∀ q ∈ objM l, q.2.Kind = 2 → q.2.Items.length ≠ 0) : cleanM (objM l) = objM l := clean_none fun q hq hk e => h q hq hk (by rw [e]; rfl)
theorem m_pyr {d : Nat} (h : d ≤ 12) : Pyr (objM (mObjs d)) d := by
  have hn := m_nd d h
  have g1 : mget inE (objM (mObjs d)) 1 = some mO1 := objM_get hn (o := mO1) (by simp [mObjs])
  have g2 : mget inE (objM (mObjs d)) 2 = some mO2 := objM_get hn (o := mO2) (by simp [mObjs])
  have g3 : ∀ i : Nat, i < d → mget inE (objM (mObjs d)) (3 + i : Int) = some (mTr i) := fun i hi => objM_get hn (o := mTr i) (by simp [mObjs]; exact .inr (.inr (.inl ⟨i, hi, rfl⟩)))
  refine ⟨by rw [g1]; rfl, by rw [g2]; rfl, fun i hi => ?_, fun i hi => by rw [g3 i hi]; rfl⟩
  cases i with
  | zero => rw [show (2 + ((0 : Nat) : Int)) = 2 from rfl, g2]; rfl
  | succ i => rw [show (2 + ((i + 1 : Nat) : Int)) = 3 + i by omega, g3 i (by omega)]; rfl
open Classical in
theorem sort_len {ls : List api_Item} (h : ls.length ≤ 268435456) (h1 : ∀ x ∈ ls, ∀ y ∈ ls, x.Name = y.Name → x = y) : slices_SortFunc_api_Item_vec0_at_walk_paths_1 ls = some (sortIt ls) := by
  unfold slices_SortFunc_api_Item_vec0_at_walk_paths_1
  rw [ck_t ⟨h, h1⟩]; rfl
theorem sortIt_len (ls : List api_Item) : (sortIt ls).length = ls.length := by unfold sortIt; exact List.length_mergeSort ls
theorem itoa_some {n : Int} (h : -9223372036854775808 ≤ n ∧ n ≤ 9223372036854775807) : strconv_Itoa n = some (decS n) := by
  unfold strconv_Itoa; rw [ck_t h]; rfl
/-- what Paths answers at the pyramid -/
theorem m_paths {d : Nat} (h : d ≤ 12) : ∃ r, walk_Paths ⟨mObjs d, []⟩ 99 = some r ∧ (2 ^ d ≤ 2000 → r.2 = 0 ∧ r.1.length = 2 ^ d) ∧ (¬ 2 ^ d ≤ 2000 → r.2 = 3 ∧ r.1 = []) := by
  have hn := m_nd d h
  unfold walk_Paths
  rw [ok_valid (fitE (m_fit d h)) (m_ok h), walk_index_eq (m_ok h), clean_obj (m_dead d h)]
  simp only [Option.bind_some]
  have gc : mget inE (objM (mObjs d)) 99 = some (mC d) := objM_get hn (o := mC d) (by simp [mObjs])
  rw [if_neg (by decide), gc]
  simp only [Option.getD_some]
  rw [if_neg (by simp [mC])]
  unfold walk_paths
  rw [itoa_some (by decide)]
  simp only [Option.bind_some]
  rw [ck_t (by have := itoa99; have h1 : (⟨#[58]⟩ : ByteArray).size = 1 := rfl; omega), gc]
  simp only [Option.bind_some, Option.getD_some]
  obtain ⟨r, hr, hl⟩ := pyr_tree (m_pyr h) d (Nat.le_refl _) (decS 99 ++ ⟨#[58]⟩) 2000 [] (by decide) (by simp) (by rw [ByteArray.size_append]; have := itoa99; have h1 : (⟨#[58]⟩ : ByteArray).size = 1 := rfl; omega)
  have ht := tree_of hr
  rw [show (mC d).Tree = 2 + (d : Int) from rfl, ht]
  simp only [Option.bind_some]
  clear hr ht
  generalize 2 ^ d = N at *
  unfold Leaves at hl
  by_cases hd : N ≤ 2000
  · rw [if_pos (by omega)] at hl
    obtain ⟨ls, rfl, hls, hid⟩ := hl
    simp only [List.nil_append]
    rw [if_neg (by simp), sort_len (by omega) (fun x hx y hy e => by
      have h1 := hid x hx
      have h2 := hid y hy
      cases x; cases y
      simp only at e h1 h2
      rw [e, h1, h2])]
    simp only [Option.bind_some]
    rw [if_neg (by simp)]
    exact ⟨_, rfl, fun _ => ⟨rfl, by rw [sortIt_len, hls]⟩, fun h => absurd hd h⟩
  · rw [if_neg (by omega)] at hl
    rw [if_pos (by rw [hl]; rfl)]
    simp only [Option.bind_some]
    exact ⟨_, rfl, fun h => absurd h hd, fun _ => ⟨rfl, rfl⟩⟩
/-! awake -/
theorem w_ok : OkV ⟨wO, []⟩ := {
  no := by decide
  ne := by simp
  ob := w_ob
  ev := fun e he => by simp at he
  nd := w_nd
  hr := w_hr
  nl := nl_nil _ _
  cy := cyc_no w_cy
  tm := fun e he => by simp at he
  so := by simp
  mn := rfl }
theorem w_tree : walk_walker_tree_o0_2 ⟨objM wO, 2000, []⟩ ⟨#[55, 58]⟩ 5 = some (true, ⟨objM wO, 1999, [⟨⟨#[55, 58, 100, 47, 97]⟩, 3⟩]⟩) := by
  have g3 : mget inE (objM wO) 3 = some ⟨3, 1, [], [], 0, [], ByteArray.empty, 0⟩ := objM_get w_nd (o := ⟨3, 1, [], [], 0, [], ByteArray.empty, 0⟩) (by simp [wO])
  have g4 : mget inE (objM wO) 4 = some ⟨4, 2, [], [⟨bA, 3⟩], 0, [], ByteArray.empty, 0⟩ := objM_get w_nd (o := ⟨4, 2, [], [⟨bA, 3⟩], 0, [], ByteArray.empty, 0⟩) (by simp [wO])
  have g5 : mget inE (objM wO) 5 = some ⟨5, 2, [], [⟨⟨#[100]⟩, 4⟩], 0, [], ByteArray.empty, 0⟩ := objM_get w_nd (o := ⟨5, 2, [], [⟨⟨#[100]⟩, 4⟩], 0, [], ByteArray.empty, 0⟩) (by simp [wO])
  refine tree_of (n := 2) ?_
  have hin : walk_walker_tree_o0_2N 1 ⟨objM wO, 2000, []⟩ ⟨#[55, 58, 100, 47]⟩ 4 = some (true, ⟨objM wO, 1999, [⟨⟨#[55, 58, 100, 47, 97]⟩, 3⟩]⟩) := by
    show walk_walker_tree_o0_2R _ _ _ _ = _
    unfold walk_walker_tree_o0_2R
    rw [iter_go (s' := (1, objM wO, 1999, [⟨⟨#[55, 58, 100, 47, 97]⟩, 3⟩])) (by
      unfold walk_walker_tree_o0_2_l0
      simp only [g4, Option.getD_some]
      rw [if_pos (by decide), show idx ([⟨bA, 3⟩] : List api_Item) 0 = some ⟨bA, 3⟩ from rfl]
      simp only [Option.bind_some]
      rw [ck_t (by decide)]
      simp only [Option.bind_some, g3, Option.getD_some]
      rw [if_neg (by decide), if_neg (by decide), ck_t (by decide)]
      rfl), iter_out (e := .inl (objM wO, 1999, [⟨⟨#[55, 58, 100, 47, 97]⟩, 3⟩])) (by
      unfold walk_walker_tree_o0_2_l0
      simp only [g4, Option.getD_some]
      rw [if_neg (by decide)])]
    rfl
  show walk_walker_tree_o0_2R _ _ _ _ = _
  unfold walk_walker_tree_o0_2R
  rw [iter_go (s' := (1, objM wO, 1999, [⟨⟨#[55, 58, 100, 47, 97]⟩, 3⟩])) (by
    unfold walk_walker_tree_o0_2_l0
    simp only [g5, Option.getD_some]
    rw [if_pos (by decide), show idx ([⟨⟨#[100]⟩, 4⟩] : List api_Item) 0 = some ⟨⟨#[100]⟩, 4⟩ from rfl]
    simp only [Option.bind_some]
    rw [ck_t (by decide)]
    simp only [Option.bind_some, g4, Option.getD_some]
    rw [if_pos (by decide), ck_t (by decide)]
    simp only [Option.bind_some]
    rw [show ((⟨#[55, 58]⟩ : ByteArray) ++ ⟨#[100]⟩) ++ ⟨#[47]⟩ = ⟨#[55, 58, 100, 47]⟩ by decide +kernel, hin]
    rfl), iter_out (e := .inl (objM wO, 1999, [⟨⟨#[55, 58, 100, 47, 97]⟩, 3⟩])) (by
    unfold walk_walker_tree_o0_2_l0
    simp only [g5, Option.getD_some]
    rw [if_neg (by decide)])]
  rfl
theorem w_paths : walk_Paths ⟨wO, []⟩ 7 = some ([⟨⟨#[55, 58, 100, 47, 97]⟩, 3⟩], 0) := by
  unfold walk_Paths
  rw [ok_valid (fitE w_fit) w_ok, walk_index_eq w_ok, clean_obj w_dead]
  simp only [Option.bind_some]
  have gc : mget inE (objM wO) 7 = some ⟨7, 3, [], [], 5, [], ⟨#[120]⟩, 0⟩ := objM_get w_nd (o := ⟨7, 3, [], [], 5, [], ⟨#[120]⟩, 0⟩) (by simp [wO])
  rw [if_neg (by decide), gc]
  simp only [Option.getD_some]
  rw [if_neg (by decide)]
  unfold walk_paths
  rw [itoa_some (by decide), itoa7]
  simp only [Option.bind_some]
  rw [ck_t (by decide), gc]
  simp only [Option.bind_some, Option.getD_some]
  rw [show (⟨#[55]⟩ : ByteArray) ++ ⟨#[58]⟩ = ⟨#[55, 58]⟩ by decide +kernel, w_tree]
  simp only [Option.bind_some]
  rw [if_neg (by decide), sort_len (by decide) (fun x hx y hy _ => by
    rw [List.mem_singleton] at hx hy
    rw [hx, hy])]
  simp only [Option.bind_some]
  rw [if_neg (by decide)]
  unfold sortIt
  rw [List.mergeSort_singleton]
theorem awake16 : law16_awake = some true := by
  unfold law16_awake
  have := w_paths
  unfold wO bA at this
  rw [this]
  simp only [Option.bind_some]
  rw [if_pos (by decide), if_pos (by decide), show idx ([⟨⟨#[55, 58, 100, 47, 97]⟩, 3⟩] : List api_Item) 0 = some ⟨⟨#[55, 58, 100, 47, 97]⟩, 3⟩ from rfl]
  simp only [Option.bind_some]
  congr 1
  simp
theorem WalkMany_law (n : Int) : law16_WalkMany n = some true := by
  have hd : ∃ d : Nat, d ≤ 12 ∧ 1 ≤ d ∧ IntKind.i64.wrap (1 + (((bAnd .i64 n 255)).tmod 12)) = d := by
    rw [bAndM n 8 (by omega) 255 (by decide)]
    have h0 : 0 ≤ n % ((2 ^ 8 : Nat) : Int) := Int.emod_nonneg _ (by decide)
    have h1 := Int.tmod_nonneg 12 h0
    have h2 := Int.tmod_lt_of_pos (n % ((2 ^ 8 : Nat) : Int)) (b := 12) (by decide)
    refine ⟨(1 + (n % ((2 ^ 8 : Nat) : Int)).tmod 12).toNat, by omega, by omega, ?_⟩
    rw [w64 (by omega) (by omega)]; omega
  obtain ⟨d, hd1, hd0, hd2⟩ := hd
  unfold law16_WalkMany
  simp only [Option.bind_some]
  have hloop : iter (law16_WalkMany_l0 n) (0, [mO1, mO2]) = some ([mO1, mO2] ++ (List.range d).map mTr) := by
    have := iter_foldl (body := law16_WalkMany_l0 n) (List.range d) (fun s i => s ++ [mTr i]) (fun s => s) (fun i s => s.length = 2 + i) (fun i hi s hs => ?_) (fun s hs => ?_) [mO1, mO2] rfl
    · rw [this]
      have hf : ∀ (l : List Nat) (a : List api_Object), l.foldl (fun s i => s ++ [mTr i]) a = a ++ l.map mTr := fun l => by
        induction l with
        | nil => intro a; simp
        | cons x l ih => intro a; rw [List.foldl_cons, ih]; simp
      rw [hf]
    · rw [List.length_range] at hi
      refine ⟨?_, by simp [hs]; omega⟩
      unfold law16_WalkMany_l0
      simp only [hd2]
      rw [if_pos (by simpa using hi), ck_t (by rw [hs]; simp; omega)]
      simp only [Option.bind_some, List.getElem_range, mTr]
      rw [w64 (by omega) (by omega), w64 (by omega) (by omega), w64 (by omega) (by omega)]
      rfl
    · unfold law16_WalkMany_l0
      simp only [hd2]
      rw [if_neg (by simp)]
  have hl : iter (law16_WalkMany_l0 n) (0, [(⟨1, 1, [], [], 0, [], ByteArray.empty, 0⟩ : api_Object), (⟨2, 2, [], [(⟨(⟨#[97]⟩ : ByteArray), 1⟩ : api_Item)], 0, [], ByteArray.empty, 0⟩ : api_Object)]) = some ([mO1, mO2] ++ (List.range d).map mTr) := hloop
  rw [hl]
  simp only [Option.bind_some, hd2]
  rw [ck_t (by simp; omega)]
  simp only [Option.bind_some]
  rw [w64 (x := 2 + (d : Int)) (by omega) (by omega)]
  obtain ⟨r, hr, hp⟩ := m_paths hd1
  have hr' : walk_Paths ⟨([mO1, mO2] ++ (List.range d).map mTr) ++ [(⟨99, 3, [], [], 2 + (d : Int), [], (⟨#[97]⟩ : ByteArray), 0⟩ : api_Object)], []⟩ 99 = some r := hr
  rw [hr', wu64 (by omega) (by omega)]
  simp only [Option.bind_some]
  rw [ck_t (by omega)]
  simp only [Option.bind_some, awake16]
  have hpow : IntKind.i64.wrap (1 * 2 ^ (min (Int.toNat (d : Int)) IntKind.i64.bits)) = ((2 ^ d : Nat) : Int) := by
    have hp : 2 ^ d ≤ 2 ^ 12 := Nat.pow_le_pow_right (by decide) hd1
    rw [Int.toNat_natCast, Nat.min_eq_left (by show d ≤ 64; omega), Int.one_mul]
    rw [show ((2 : Int) ^ d) = ((2 ^ d : Nat) : Int) by simp]
    generalize 2 ^ d = N at *
    rw [w64 (by omega) (by omega)]
  rw [hpow]
  obtain ⟨hp1, hp2⟩ := hp
  clear hpow
  generalize 2 ^ d = N at *
  by_cases h : N ≤ 2000
  · obtain ⟨h1, h2⟩ := hp1 h
    rw [if_neg (by simp; omega), if_pos (by rw [h1]; rfl), if_pos (by rw [h2]; simp)]
    rfl
  · obtain ⟨h1, h2⟩ := hp2 h
    rw [if_pos (by simp; omega), if_pos (by rw [h1]; rfl), if_pos (by rw [h2]; rfl)]
    rfl
end Go.Vl

namespace Go.Vl
open Go
def kidK (M : List (Int × api_Object)) (id : Int) : Int := ((mget inE M id).getD (⟨0, 0, [], [], 0, [], ByteArray.empty, 0⟩ : api_Object)).Kind
def kidI (M : List (Int × api_Object)) (id : Int) : List api_Item := ((mget inE M id).getD (⟨0, 0, [], [], 0, [], ByteArray.empty, 0⟩ : api_Object)).Items
def slB : ByteArray := ⟨#[47]⟩
def leavesN (M : List (Int × api_Object)) : Nat → Int → List (ByteArray × Int)
  | 0, _ => []
  | n + 1, id => (kidI M id).flatMap fun x => if kidK M x.ID = 2 then (leavesN M n x.ID).map (fun q => ((x.Name ++ slB) ++ q.1, q.2)) else [(x.Name, x.ID)]
structure Dag (M : List (Int × api_Object)) : Prop where
  sub : ∀ id, ((kidI M id).map (·.Name)).Sublist [nA, nB, nD]
  dn : ∀ id, ∀ x ∈ kidI M id, 1 ≤ x.ID ∧ x.ID < id
theorem name1 {n : ByteArray} (h : n ∈ [nA, nB, nD]) : n.size = 1 := by
  simp only [List.mem_cons, List.not_mem_nil, or_false] at h
  rcases h with rfl | rfl | rfl <;> rfl
theorem Dag.n1 {M : List (Int × api_Object)} (D : Dag M) {id : Int} {x : api_Item} (hx : x ∈ kidI M id) : x.Name.size = 1 := name1 ((D.sub id).subset (List.mem_map_of_mem (f := (·.Name)) hx))
theorem Dag.nd {M : List (Int × api_Object)} (D : Dag M) (id : Int) : ((kidI M id).map (·.Name)).Nodup := List.Nodup.sublist (D.sub id) (by decide +kernel)
/-- the tree's walk tells the leaves -/
theorem tree_leaves {M : List (Int × api_Object)} (D : Dag M) : ∀ (n : Nat) (id : Int), id.toNat < n → ∀ (p : ByteArray) (L : Int) (out : List api_Item), ((leavesN M n id).length : Int) ≤ L → (out.length : Int) + L ≤ 2000 → p.size + 2 * n ≤ 1000 →
    walk_walker_tree_o0_2N n ⟨M, L, out⟩ p id = some (true, ⟨M, L - (leavesN M n id).length, out ++ (leavesN M n id).map fun q => ⟨p ++ q.1, q.2⟩⟩) := by
  intro n
  induction n with
  | zero => intro id h; omega
  | succ n ih =>
    intro id hid p L out hL ho hp
    show walk_walker_tree_o0_2R _ _ p _ = _
    unfold walk_walker_tree_o0_2R
    let F : api_Item → List (ByteArray × Int) := fun x => if kidK M x.ID = 2 then (leavesN M n x.ID).map (fun q => ((x.Name ++ slB) ++ q.1, q.2)) else [(x.Name, x.ID)]
    have hF : leavesN M (n + 1) id = (kidI M id).flatMap F := rfl
    have h3 : (kidI M id).length ≤ 3 := by have := (D.sub id).length_le; rw [List.length_map] at this; exact this
    have key : ∀ (m i : Nat), i + m = (kidI M id).length → ∀ (L2 : Int) (o2 : List api_Item), ((((kidI M id).drop i).flatMap F).length : Int) ≤ L2 → (o2.length : Int) + L2 ≤ 2000 →
        iter (walk_walker_tree_o0_2_l0 ⟨M, L, out⟩ id p (walk_walker_tree_o0_2N n)) ((i : Int), M, L2, o2) = some (.inl (M, L2 - (((kidI M id).drop i).flatMap F).length, o2 ++ (((kidI M id).drop i).flatMap F).map fun q => ⟨p ++ q.1, q.2⟩)) := by
      intro m
      induction m with
      | zero =>
        intro i hi L2 o2 h1 h2
        have hd : (kidI M id).drop i = [] := List.drop_eq_nil_of_le (by omega)
        rw [hd]
        refine iter_out ?_
        unfold walk_walker_tree_o0_2_l0
        rw [if_neg (by simp only [decide_eq_true_eq]; show ¬ ((i : Int) < ((kidI M id).length : Int)); omega)]
        simp
      | succ m im =>
        intro i hi L2 o2 h1 h2
        have hlt : i < (kidI M id).length := by omega
        rw [List.drop_eq_getElem_cons hlt, List.flatMap_cons] at h1 ⊢
        generalize hx : (kidI M id)[i] = x at *
        have hmem : x ∈ kidI M id := by rw [← hx]; exact List.getElem_mem hlt
        have hsz := D.n1 hmem
        obtain ⟨hd1, hd2⟩ := D.dn id x hmem
        have hcond : (decide ((i : Int) < ((((mget inE M id).getD (⟨0, 0, [], [], 0, [], ByteArray.empty, 0⟩ : api_Object)).Items).length : Int))) = true := by
          simp only [decide_eq_true_eq]; show ((i : Int) < ((kidI M id).length : Int)); omega
        have hidx : idx (((mget inE M id).getD (⟨0, 0, [], [], 0, [], ByteArray.empty, 0⟩ : api_Object)).Items) (i : Int) = some x := by
          show idx (kidI M id) (i : Int) = some x
          rw [idx_lt hlt, hx]
        have hlo : (o2.length : Int) ≤ 2000 := by omega
        rw [List.length_append] at h1
        by_cases hk : kidK M x.ID = 2
        · have hFx : F x = (leavesN M n x.ID).map (fun q => ((x.Name ++ slB) ++ q.1, q.2)) := by show (if _ then _ else _) = _; rw [if_pos hk]
          have hrec := ih x.ID (by omega) ((p ++ x.Name) ++ slB) L2 o2 (by rw [hFx, List.length_map] at h1; omega) h2 (by rw [ByteArray.size_append, ByteArray.size_append]; have : slB.size = 1 := rfl; omega)
          have hgo : walk_walker_tree_o0_2_l0 ⟨M, L, out⟩ id p (walk_walker_tree_o0_2N n) ((i : Int), M, L2, o2) = some (.go (((i + 1 : Nat) : Int), M, L2 - (F x).length, o2 ++ (F x).map fun q => ⟨p ++ q.1, q.2⟩)) := by
            unfold walk_walker_tree_o0_2_l0
            simp only
            rw [if_pos hcond, hidx]
            simp only [Option.bind_some]
            rw [ck_t (by omega)]
            simp only [Option.bind_some]
            rw [if_pos (by show (kidK M x.ID == 2) = true; rw [hk]; rfl), ck_t (by rw [ByteArray.size_append]; have : (⟨#[47]⟩ : ByteArray).size = 1 := rfl; omega)]
            simp only [Option.bind_some]
            rw [show (⟨#[47]⟩ : ByteArray) = slB from rfl, hrec]
            simp only [Option.bind_some]
            rw [if_neg (by simp), w64 (by omega) (by omega), hFx, List.length_map, List.map_map]
            have : ((fun q : ByteArray × Int => (⟨p ++ q.1, q.2⟩ : api_Item)) ∘ fun q : ByteArray × Int => ((x.Name ++ slB) ++ q.1, q.2)) = fun q => ⟨((p ++ x.Name) ++ slB) ++ q.1, q.2⟩ := funext fun q => by
              simp only [Function.comp_apply, ByteArray.append_assoc]
            rw [this]; rfl
          rw [iter_go hgo, im (i + 1) (by omega) _ _ (by omega) (by rw [List.length_append, List.length_map]; omega)]
          rw [List.length_append, List.map_append, List.append_assoc]
          congr 3
          simp only [Prod.mk.injEq, and_true]
          omega
        · have hFx : F x = [(x.Name, x.ID)] := by show (if _ then _ else _) = _; rw [if_neg hk]
          have hL1 : 1 ≤ L2 := by rw [hFx] at h1; simp at h1; omega
          have hgo : walk_walker_tree_o0_2_l0 ⟨M, L, out⟩ id p (walk_walker_tree_o0_2N n) ((i : Int), M, L2, o2) = some (.go (((i + 1 : Nat) : Int), M, L2 - (F x).length, o2 ++ (F x).map fun q => ⟨p ++ q.1, q.2⟩)) := by
            unfold walk_walker_tree_o0_2_l0
            simp only
            rw [if_pos hcond, hidx]
            simp only [Option.bind_some]
            rw [ck_t (by omega)]
            simp only [Option.bind_some]
            rw [if_neg (by show ¬ (kidK M x.ID == 2) = true; simpa using hk), w64 (by omega) (by omega), if_neg (by simp only [decide_eq_true_eq]; omega), ck_t (by rw [List.length_singleton]; omega), hFx, w64 (by omega) (by omega)]
            rfl
          rw [iter_go hgo, im (i + 1) (by omega) _ _ (by omega) (by rw [List.length_append, List.length_map]; omega)]
          rw [List.length_append, List.map_append, List.append_assoc]
          congr 3
          simp only [Prod.mk.injEq, and_true]
          omega
    have := key (kidI M id).length 0 (by omega) L out (by rw [List.drop_zero, ← hF]; exact hL) ho
    rw [List.drop_zero, ← hF] at this
    have h0 : iter (walk_walker_tree_o0_2_l0 ⟨M, L, out⟩ id p (walk_walker_tree_o0_2N n)) (0, M, L, out) = _ := this
    rw [h0]
    rfl
/-- a path tells what lies there -/
theorem leaves_fn {M : List (Int × api_Object)} (D : Dag M) : ∀ (n : Nat) (id : Int) (q r : ByteArray × Int), q ∈ leavesN M n id → r ∈ leavesN M n id → q.1 = r.1 → q.2 = r.2 := by
  intro n
  induction n with
  | zero => intro id q r hq; simp [leavesN] at hq
  | succ n ih =>
    intro id q r hq hr e
    simp only [leavesN, List.mem_flatMap] at hq hr
    obtain ⟨x, hx, hq⟩ := hq
    obtain ⟨y, hy, hr⟩ := hr
    have hsx := D.n1 hx
    have hsy := D.n1 hy
    have same : x.Name = y.Name → x = y := fun h => by
      obtain ⟨i, hi, rfl⟩ := List.getElem_of_mem hx
      obtain ⟨j, hj, rfl⟩ := List.getElem_of_mem hy
      have hi' : i < ((kidI M id).map (·.Name)).length := by rw [List.length_map]; exact hi
      have hj' : j < ((kidI M id).map (·.Name)).length := by rw [List.length_map]; exact hj
      have hij : ((kidI M id).map (·.Name))[i] = ((kidI M id).map (·.Name))[j] := by rw [List.getElem_map, List.getElem_map]; exact h
      have := (List.getElem_inj (D.nd id)).1 hij
      subst this; rfl
    have inj : ∀ {a b c d : ByteArray}, a.size = b.size → a ++ c = b ++ d → a = b ∧ c = d := fun {a b c d} hs h => by
      have h : (a ++ c).data.toList = (b ++ d).data.toList := by rw [h]
      rw [ByteArray.data_append, ByteArray.data_append, Array.toList_append, Array.toList_append] at h
      have := List.append_inj h (by rw [Array.length_toList, Array.length_toList]; exact hs)
      exact ⟨ByteArray.ext (Array.toList_inj.1 this.1), ByteArray.ext (Array.toList_inj.1 this.2)⟩
    have big : ∀ (a b : ByteArray) (z : ByteArray), a.size = 1 → (b.size = 1) → a = (b ++ slB) ++ z → False := fun a b z h1 h2 h => by
      have := congrArg ByteArray.size h
      rw [ByteArray.size_append, ByteArray.size_append, h1, h2] at this
      have : slB.size = 1 := rfl
      omega
    split at hq
    · obtain ⟨q', hq', rfl⟩ := List.mem_map.1 hq
      split at hr
      · obtain ⟨r', hr', rfl⟩ := List.mem_map.1 hr
        simp only at e ⊢
        obtain ⟨e1, e2⟩ := inj (by rw [ByteArray.size_append, ByteArray.size_append, hsx, hsy]) e
        obtain ⟨e3, _⟩ := inj (hsx.trans hsy.symm) e1
        have := same e3
        subst this
        exact ih _ _ _ hq' hr' e2
      · rw [List.mem_singleton] at hr
        subst hr
        exact (big _ _ _ hsy hsx e.symm).elim
    · rw [List.mem_singleton] at hq
      subst hq
      split at hr
      · obtain ⟨r', hr', rfl⟩ := List.mem_map.1 hr
        exact (big _ _ _ hsx hsy e).elim
      · rw [List.mem_singleton] at hr
        subst hr
        have := same e
        subst this; rfl
/-! how many there are -/
def trees (M : List (Int × api_Object)) (id : Int) : Nat := (M.filter fun q => q.2.Kind == 2 && decide (q.1 ≤ id)).length
theorem kid_mem {M : List (Int × api_Object)} {id : Int} (h : kidK M id = 2) : ∃ o, (id, o) ∈ M ∧ o.Kind = 2 := by
  unfold kidK at h
  cases hg : mget inE M id with
  | none => rw [hg] at h; simp at h
  | some o => rw [hg] at h; exact ⟨o, mgetI_mem hg, h⟩
theorem trees_lt {M : List (Int × api_Object)} {a b : Int} (h : a < b) (hb : kidK M b = 2) : trees M a < trees M b := by
  obtain ⟨o, ho, hk⟩ := kid_mem hb
  have e : (M.filter fun q => q.2.Kind == 2 && decide (q.1 ≤ a)) = (M.filter fun q => q.2.Kind == 2 && decide (q.1 ≤ b)).filter fun q => decide (q.1 ≤ a) := by
    rw [List.filter_filter]
    refine List.filter_congr fun q _ => ?_
    by_cases h1 : q.1 ≤ a
    · have h2 : q.1 ≤ b := by omega
      simp [h1, h2]
    · simp [h1]
  unfold trees
  rw [e, List.length_filter_lt_length_iff_exists]
  refine ⟨(b, o), List.mem_filter.2 ⟨ho, by simp [hk]⟩, by simp; omega⟩
theorem leaves_len {M : List (Int × api_Object)} (D : Dag M) : ∀ (n : Nat) (id : Int), kidK M id = 2 → (leavesN M n id).length ≤ 3 ^ trees M id := by
  intro n
  induction n with
  | zero => intro id _; simp [leavesN]
  | succ n ih =>
    intro id hid
    have h3 : (kidI M id).length ≤ 3 := by have := (D.sub id).length_le; simpa using this
    have hpos : ∃ t, trees M id = t + 1 := by
      have := trees_lt (a := id - 1) (by omega) hid
      exact ⟨trees M id - 1, by omega⟩
    obtain ⟨t, ht⟩ := hpos
    have one : ∀ x ∈ kidI M id, (if kidK M x.ID = 2 then (leavesN M n x.ID).map (fun q => ((x.Name ++ slB) ++ q.1, q.2)) else [(x.Name, x.ID)]).length ≤ 3 ^ t := fun x hx => by
      split
      · rename_i hk
        rw [List.length_map]
        have h1 := ih x.ID hk
        have h2 := trees_lt (D.dn id x hx).2 hid
        exact Nat.le_trans h1 (Nat.pow_le_pow_right (by decide) (by omega))
      · have : 0 < 3 ^ t := Nat.pow_pos (by decide)
        rw [List.length_singleton]; exact this
    have sum : ∀ (l : List api_Item), (∀ x ∈ l, (if kidK M x.ID = 2 then (leavesN M n x.ID).map (fun q => ((x.Name ++ slB) ++ q.1, q.2)) else [(x.Name, x.ID)]).length ≤ 3 ^ t) → (l.flatMap fun x => if kidK M x.ID = 2 then (leavesN M n x.ID).map (fun q => ((x.Name ++ slB) ++ q.1, q.2)) else [(x.Name, x.ID)]).length ≤ l.length * 3 ^ t := fun l => by
      induction l with
      | nil => intro _; simp
      | cons x l il =>
        intro h
        rw [List.flatMap_cons, List.length_append, List.length_cons, Nat.succ_mul]
        have h1 := h x (by simp)
        have h2 := il fun y hy => h y (by simp [hy])
        omega
    rw [ht, Nat.pow_succ]
    have := sum _ one
    have h4 : (kidI M id).length * 3 ^ t ≤ 3 * 3 ^ t := Nat.mul_le_mul_right _ h3
    show ((kidI M id).flatMap _).length ≤ _
    omega
end Go.Vl

namespace Go.Vl
open Go
/-! Names with the same beginning -/
def pre (p : ByteArray) (x : api_Item) : api_Item := ⟨p ++ x.Name, x.ID⟩
theorem app_lt : ∀ (p a b : List UInt8), p ++ a < p ++ b ↔ a < b
  | [], _, _ => Iff.rfl
  | c :: p, a, b => by
    rw [List.cons_append, List.cons_append, List.cons_lt_cons_iff]
    constructor
    · rintro (h | ⟨_, h⟩)
      · exact absurd h (UInt8.lt_irrefl c)
      · exact (app_lt p a b).1 h
    · exact fun h => .inr ⟨rfl, (app_lt p a b).2 h⟩
theorem cfI_pre (p : ByteArray) (x y : api_Item) : cfI (pre p x) (pre p y) < 0 ↔ cfI x y < 0 := by
  unfold cfI pre
  rw [cmpS_neg, cmpS_neg, ByteArray.toList_eq, ByteArray.toList_eq, ByteArray.toList_eq, ByteArray.toList_eq, ByteArray.data_append, ByteArray.data_append, Array.toList_append, Array.toList_append]
  exact app_lt _ _ _
theorem sortIt_map (p : ByteArray) (l : List api_Item) : sortIt (l.map (pre p)) = (sortIt l).map (pre p) := by
  unfold sortIt
  refine (List.map_mergeSort fun a _ b _ => ?_).symm
  have := cfI_pre p b a
  by_cases h : cfI b a < 0
  · rw [decide_eq_true h, decide_eq_true (this.2 h)]
  · rw [decide_eq_false h, decide_eq_false (fun h' => h (this.1 h'))]
/-! What stands before the colon is struck -/
def mkB (l : List UInt8) : ByteArray := ⟨⟨l⟩⟩
theorem mkB_of (b : ByteArray) : mkB b.data.toList = b := rfl
theorem mkB_app (a b : List UInt8) : mkB a ++ mkB b = mkB (a ++ b) := by
  refine ByteArray.ext ?_
  rw [ByteArray.data_append]; simp [mkB]
theorem mkB_size (l : List UInt8) : (mkB l).size = l.length := rfl
theorem mkB_tl (b : UInt8) (t : List UInt8) (n : Nat) : ByteArray.extract (mkB (b :: t)) 1 (t.length + 1) = mkB t := by
  refine ByteArray.ext ?_
  rw [ByteArray.data_extract]
  simp [mkB]
theorem mkB_sidx (b : UInt8) (t : List UInt8) : sidx (mkB (b :: t)) 0 = some (b.toNat : Int) := rfl
theorem strip_ok : ∀ (d r : List UInt8), 58 ∉ d → iter law16_WalkShared_l2 (mkB (d ++ 58 :: r)) = some (mkB (58 :: r))
  | [], r, _ => by
    refine iter_out ?_
    unfold law16_WalkShared_l2
    rw [if_pos (by rw [List.nil_append, mkB_size, List.length_cons]; simp), List.nil_append, mkB_sidx]
    simp only [Option.bind_some]
    rw [if_neg (by decide)]
  | b :: d, r, hd => by
    have hb : b ≠ 58 := fun e => hd (by rw [e]; simp)
    have hbn : ((b.toNat : Int) != 58) = true := by
      rw [bne_iff_ne]
      intro h
      exact hb (UInt8.toNat_inj.1 (by have : (58 : UInt8).toNat = 58 := rfl; omega))
    have hs : (mkB ((b :: d) ++ 58 :: r)).size = (d ++ 58 :: r).length + 1 := rfl
    have hlen : (d ++ 58 :: r).length = d.length + r.length + 1 := by rw [List.length_append, List.length_cons]; omega
    rw [iter_go (s' := mkB (d ++ 58 :: r)) ?_]
    · exact strip_ok d r fun h => hd (by simp [h])
    · unfold law16_WalkShared_l2
      rw [hs, if_pos (by simp; omega), List.cons_append, mkB_sidx]
      simp only [Option.bind_some]
      rw [hbn, if_pos rfl, ck_t (by omega)]
      simp only [Option.bind_some]
      rw [mkB_tl b _ 0]
/-! The map with what is dead struck -/
theorem mfind_map {ν μ : Type} (g : ν → μ) (k : Int) : ∀ M : List (Int × ν), mfind inE k (M.map fun q => (q.1, g q.2)) = (mfind inE k M).map fun r => (r.1, g r.2)
  | [] => rfl
  | q :: M => by
    rw [List.map_cons, mfind, mfind]
    by_cases h : inE k q.1 = true
    · rw [if_pos h, if_pos h]; rfl
    · rw [if_neg h, if_neg h, mfind_map g k M]
      cases mfind inE k M <;> rfl
theorem mget_clean (M : List (Int × api_Object)) (k : Int) : mget inE (cleanM M) k = (mget inE M k).map fun o => { o with Items := liveIt M o.Items } := by
  unfold mget cleanM
  rw [mfind_map (fun o : api_Object => ({ o with Items := liveIt M o.Items } : api_Object))]
  cases mfind inE k M <;> rfl
theorem clean_dag {l : List api_Object} (h : ∀ o ∈ l, (o.Items.map (·.Name)).Sublist [nA, nB, nD] ∧ ∀ x ∈ o.Items, 1 ≤ x.ID ∧ x.ID < o.ID) : Dag (cleanM (objM l)) := by
  have key : ∀ id, kidI (cleanM (objM l)) id = [] ∨ ∃ o ∈ l, o.ID = id ∧ kidI (cleanM (objM l)) id = liveIt (objM l) o.Items := fun id => by
    unfold kidI
    rw [mget_clean]
    cases hg : mget inE (objM l) id with
    | none => exact .inl rfl
    | some o =>
      obtain ⟨o', ho', e⟩ := List.mem_map.1 (mgetI_mem hg)
      cases e
      exact .inr ⟨_, ho', rfl, rfl⟩
  refine ⟨fun id => ?_, fun id x hx => ?_⟩
  · rcases key id with e | ⟨o, ho, _, e⟩
    · rw [e]; simp
    · rw [e]
      exact ((List.filter_sublist (l := o.Items)).map _).trans (h o ho).1
  · rcases key id with e | ⟨o, ho, hid, e⟩
    · rw [e] at hx; cases hx
    · rw [e] at hx
      have := (h o ho).2 x (List.mem_filter.1 hx).1
      rw [hid] at this; exact this
theorem clean_kid {l : List api_Object} (hn : (l.map (·.ID)).Nodup) {o : api_Object} (ho : o ∈ l) : kidK (cleanM (objM l)) o.ID = o.Kind := by
  unfold kidK
  rw [mget_clean, objM_get hn ho]; rfl
theorem clean_trees {l : List api_Object} (id : Int) : trees (cleanM (objM l)) id ≤ tn l := by
  unfold trees tn cleanM objM
  rw [List.map_map]
  rw [List.filter_map, List.length_map]
  have e : (l.filter ((fun q : Int × api_Object => q.2.Kind == 2 && decide (q.1 ≤ id)) ∘ ((fun q : Int × api_Object => (q.1, ({ q.2 with Items := liveIt (l.map fun o => (o.ID, o)) q.2.Items } : api_Object))) ∘ fun o : api_Object => (o.ID, o)))) = (l.filter fun o => o.Kind == 2).filter fun o => decide (o.ID ≤ id) := by
    rw [List.filter_filter]
    refine List.filter_congr fun o _ => ?_
    simp only [Function.comp_apply]
    rw [Bool.and_comm]
  rw [e]
  exact List.length_filter_le _ _
/-- what Paths answers -/
theorem paths_at {a0 : api_Repository} (V : OkV a0) (hf : FitR a0) (D : Dag (cleanM (objM a0.Objects))) {c : api_Object} (hc : c ∈ a0.Objects) (hk : c.Kind = 3) (hT : kidK (cleanM (objM a0.Objects)) c.Tree = 2) (ht : tn a0.Objects ≤ 4) (h0 : 0 ≤ c.Tree) (h1 : c.Tree ≤ 400)
    (hid : -9223372036854775808 ≤ c.ID ∧ c.ID ≤ 9223372036854775807) (hs : (decS c.ID).size ≤ 10) :
    walk_Paths a0 c.ID = some ((sortIt ((leavesN (cleanM (objM a0.Objects)) (c.Tree.toNat + 1) c.Tree).map fun q => ⟨q.1, q.2⟩)).map (pre (decS c.ID ++ ⟨#[58]⟩)), 0) := by
  have h58 : (⟨#[58]⟩ : ByteArray).size = 1 := rfl
  have gc : mget inE (cleanM (objM a0.Objects)) c.ID = some { c with Items := liveIt (objM a0.Objects) c.Items } := by rw [mget_clean, objM_get V.nd hc]; rfl
  unfold walk_Paths
  rw [ok_valid hf V, walk_index_eq V]
  simp only [Option.bind_some]
  rw [if_neg (by decide), gc]
  simp only [Option.getD_some]
  rw [if_neg (by rw [hk]; decide)]
  unfold walk_paths
  rw [itoa_some hid]
  simp only [Option.bind_some]
  rw [ck_t (by omega), gc]
  simp only [Option.bind_some, Option.getD_some]
  have htr0 := clean_trees (l := a0.Objects) c.Tree
  generalize cleanM (objM a0.Objects) = M at *
  have hlen : (leavesN M (c.Tree.toNat + 1) c.Tree).length ≤ 81 := by
    exact Nat.le_trans (leaves_len D _ _ hT) (Nat.le_trans (Nat.pow_le_pow_right (by decide) (Nat.le_trans htr0 ht)) (by decide))
  have htr := tree_of (tree_leaves D (c.Tree.toNat + 1) c.Tree (by omega) (decS c.ID ++ ⟨#[58]⟩) 2000 [] (by omega) (by simp) (by rw [ByteArray.size_append]; omega))
  rw [htr]
  simp only [Option.bind_some, List.nil_append]
  rw [if_neg (by simp)]
  have hm : ((leavesN M (c.Tree.toNat + 1) c.Tree).map fun q => (⟨(decS c.ID ++ ⟨#[58]⟩) ++ q.1, q.2⟩ : api_Item)) = ((leavesN M (c.Tree.toNat + 1) c.Tree).map fun q => (⟨q.1, q.2⟩ : api_Item)).map (pre (decS c.ID ++ ⟨#[58]⟩)) := by
    rw [List.map_map]; rfl
  rw [hm, sort_len (by simp; omega) (fun x hx y hy e => by
    obtain ⟨x', hx', rfl⟩ := List.mem_map.1 hx
    obtain ⟨y', hy', rfl⟩ := List.mem_map.1 hy
    obtain ⟨q, hq, rfl⟩ := List.mem_map.1 hx'
    obtain ⟨r, hr, rfl⟩ := List.mem_map.1 hy'
    simp only [pre] at e ⊢
    have he : q.1 = r.1 := by
      have h : ((decS c.ID ++ ⟨#[58]⟩) ++ q.1).data.toList = ((decS c.ID ++ ⟨#[58]⟩) ++ r.1).data.toList := by rw [e]
      generalize decS c.ID ++ ⟨#[58]⟩ = A at h
      rw [ByteArray.data_append, ByteArray.data_append, Array.toList_append, Array.toList_append] at h
      exact ByteArray.ext (Array.toList_inj.1 (List.append_cancel_left h))
    rw [he, leaves_fn D _ _ q r hq hr he]), sortIt_map]
  simp only [Option.bind_some]
  rw [if_neg (by simp)]
end Go.Vl

namespace Go.Vl
open Go
/-- a commit under another number -/
def at100 (c : api_Object) : api_Object := ⟨100, c.Kind, c.Data, c.Items, c.Tree, c.Parents, c.Author, c.Time⟩
theorem at100_obj {os : List api_Object} {c : api_Object} (h : MObj os c) (hk : c.Kind = 3) (hid : c.ID ≤ 100) : MObj os (at100 c) := by
  cases h with
  | blob h1 => omega
  | tree h1 => omega
  | commit h1 h2 h3 h4 h5 h6 h7 h8 h9 h10 h11 => exact .commit h1 h2 h3 (by show c.Tree < 100; omega) h5 (fun p hp => ⟨by have := (h6 p hp).1; show p < 100; omega, (h6 p hp).2⟩) h7 h8 h9 h10 h11
theorem here_of {os : List api_Object} {all : List (Int × api_Object)} (hK : ∀ id k, kAt os id k → kindM all id = k) {o : api_Object} (h : MObj os o) : hereB all o = true := by
  unfold hereB
  cases h with
  | blob h1 h2 h3 h4 h5 => rw [h3, h5]; simp [h1]
  | tree h1 h2 h3 h4 h5 h6 =>
    rw [h6]
    simp only [List.all_nil, Bool.and_eq_true, List.all_eq_true, Bool.or_eq_true, beq_iff_eq, bne_iff_ne, ne_eq, true_and]
    exact ⟨fun x hx => (h4 x hx).2.imp (hK _ _) (hK _ _), .inl (by omega)⟩
  | commit h1 h2 h3 h4 h5 h6 =>
    rw [h3]
    simp only [List.all_nil, Bool.and_eq_true, List.all_eq_true, Bool.or_eq_true, beq_iff_eq, bne_iff_ne, ne_eq, true_and]
    exact ⟨fun p hp => hK _ _ (h6 p hp).2, .inr (hK _ _ h5)⟩
section
variable {r : api_Repository} (M : MadeR r) {c : api_Object} (hc : c ∈ r.Objects) (hk : c.Kind = 3)
include M hc
omit hc in
theorem more_nd : ((r.Objects ++ [at100 c]).map (·.ID)).Nodup := by
  rw [List.map_append, List.nodup_append]
  refine ⟨M.o.nd, by simp, fun a ha b hb => ?_⟩
  obtain ⟨o, ho, rfl⟩ := List.mem_map.1 ha
  simp only [List.map_cons, List.map_nil, List.mem_singleton] at hb
  subst hb
  have := (M.o.id_le ho).2
  have := M.lo
  show o.ID ≠ 100
  omega
omit hc in
theorem more_kind (id k : Int) (h : kAt r.Objects id k) : kindM (objM (r.Objects ++ [at100 c])) id = k := by
  obtain ⟨o, ho, rfl, rfl⟩ := h
  unfold kindM
  rw [objM_get (more_nd M) (List.mem_append_left _ ho)]; rfl
include hk
theorem more_obj : ∀ o ∈ r.Objects ++ [at100 c], MObj r.Objects o := fun o ho => by
  rcases List.mem_append.1 ho with ho | ho
  · exact M.o.obj o ho
  · rw [List.mem_singleton.1 ho]
    have := (M.o.id_le hc).2
    have := M.lo
    exact at100_obj (M.o.obj c hc) hk (by omega)
theorem more_ok : OkV ⟨r.Objects ++ [at100 c], r.Events⟩ := by
  have hlo := M.lo
  have V := M.ok
  refine ⟨by simp; omega, V.ne, fun o ho => ?_, V.ev, more_nd M, fun o ho => here_of (more_kind M) (more_obj M hc hk o ho), nlB_iff (fun e he h1 => ?_) M.e.dl, cyc_no fun q hq j hj => ?_, V.tm, V.so, V.mn⟩
  · rcases List.mem_append.1 ho with ho | ho
    · exact V.ob o ho
    · rw [List.mem_singleton.1 ho]
      have := objE_zero.1 (V.ob c hc)
      exact objE_zero.2 ⟨(by decide : numB 100 = true), this.2⟩
  · rcases (M.e.ok e he).k with ⟨_, h2⟩ | ⟨h3, _⟩
    · exact more_kind M _ _ h2
    · omega
  · obtain ⟨o, ho, rfl⟩ := List.mem_map.1 hq
    rcases List.mem_append.1 ho with ho | ho
    · exact M.o.down ho hj
    · rw [List.mem_singleton.1 ho] at hj ⊢
      have h1 := M.o.down hc (j := j) hj
      have h2 := (M.o.id_le hc).2
      show j < 100
      omega
omit hk in
theorem more_fit : FitR ⟨r.Objects ++ [at100 c], r.Events⟩ := by
  have F := M.fit
  refine ⟨fun o ho => ?_, F.2⟩
  rcases List.mem_append.1 ho with ho | ho
  · exact F.1 o ho
  · rw [List.mem_singleton.1 ho]; exact F.1 c hc
theorem more_dag : Dag (cleanM (objM (r.Objects ++ [at100 c]))) := by
  refine clean_dag fun o ho => ?_
  cases more_obj M hc hk o ho with
  | blob h1 h2 h3 => rw [h3]; simp
  | tree h1 h2 h3 h4 => exact ⟨h3, fun x hx => ⟨by rcases (h4 x hx).2 with h | h <;> exact (M.o.le h).1, (h4 x hx).1⟩⟩
  | commit h1 h2 h3 => rw [h3]; simp
omit hc in
theorem more_tn : tn (r.Objects ++ [at100 c]) ≤ 4 := by
  rw [tn_push, if_neg (by show ¬ c.Kind = 2; omega)]
  exact M.tn
theorem more_tree : kidK (cleanM (objM (r.Objects ++ [at100 c]))) c.Tree = 2 ∧ 0 ≤ c.Tree ∧ c.Tree ≤ 400 := by
  cases M.o.obj c hc with
  | blob h1 => omega
  | tree h1 => omega
  | commit h1 h2 h3 h4 h5 =>
    have h6 := M.o.le h5
    have := M.lo
    obtain ⟨o, ho, e1, e2⟩ := h5
    refine ⟨?_, by omega, by omega⟩
    rw [← e1, clean_kid (more_nd M) (List.mem_append_left _ ho)]; exact e2
end
theorem digs : ∀ k : Nat, k ≤ 13 → (decS (k : Int)).size ≤ 10 ∧ 58 ∉ (decS (k : Int)).data.toList := by decide +kernel
theorem dig100 : decS 100 = ⟨#[49, 48, 48]⟩ := by decide +kernel
/-- the last commit -/
def lastC (os : List api_Object) : api_Object := os.foldl (fun a o => if o.Kind = 3 then o else a) (⟨0, 0, [], [], 0, [], ByteArray.empty, 0⟩ : api_Object)
theorem lastC_in : ∀ (l : List api_Object) (a : api_Object), (a.Kind = 3 ∨ ∃ o ∈ l, o.Kind = 3) → (l.foldl (fun a o => if o.Kind = 3 then o else a) a).Kind = 3 ∧ (l.foldl (fun a o => if o.Kind = 3 then o else a) a ∈ l ∨ l.foldl (fun a o => if o.Kind = 3 then o else a) a = a)
  | [], a, h => ⟨(by
    rcases h with h | ⟨o, ho, _⟩
    · exact h
    · cases ho), .inr rfl⟩
  | o :: l, a, h => by
    rw [List.foldl_cons]
    by_cases ho : o.Kind = 3
    · rw [if_pos ho]
      obtain ⟨h1, h2⟩ := lastC_in l o (.inl ho)
      refine ⟨h1, .inl ?_⟩
      rcases h2 with h2 | h2
      · exact List.mem_cons_of_mem _ h2
      · rw [h2]; exact List.mem_cons_self
    · rw [if_neg ho]
      obtain ⟨h1, h2⟩ := lastC_in l a (by
        rcases h with h | ⟨x, hx, hk⟩
        · exact .inl h
        · rcases List.mem_cons.1 hx with rfl | hx
          · exact absurd hk ho
          · exact .inr ⟨x, hx, hk⟩)
      exact ⟨h1, h2.imp (List.mem_cons_of_mem _) id⟩
theorem lastC_ok {os : List api_Object} (h : ∃ o ∈ os, o.Kind = 3) : lastC os ∈ os ∧ (lastC os).Kind = 3 := by
  obtain ⟨h1, h2⟩ := lastC_in os (⟨0, 0, [], [], 0, [], ByteArray.empty, 0⟩ : api_Object) (.inr h)
  refine ⟨?_, h1⟩
  rcases h2 with h2 | h2
  · exact h2
  · rw [h2] at h1; cases h1
def flds (o : api_Object) : Int × Int × (List Int) × (List api_Item) × Int × (List Int) × ByteArray × Int := (o.ID, o.Kind, o.Data, o.Items, o.Tree, o.Parents, o.Author, o.Time)
theorem loop0 (y : api_Repository × make_Tape) (h : y.1.Objects.length ≤ 1000) : iter (law16_WalkShared_l0 y) (0, 0, 0, [], [], 0, [], ByteArray.empty, 0) = some (flds (lastC y.1.Objects)) := by
  refine (iter_foldlS (body := law16_WalkShared_l0 y) y.1.Objects (fun i o => ((i : Int), flds o)) (fun a o => if o.Kind = 3 then o else a) flds (fun _ _ => True) (fun i hi s _ => ⟨?_, trivial⟩) (fun s _ => ?_) (⟨0, 0, [], [], 0, [], ByteArray.empty, 0⟩ : api_Object) trivial).1
  · unfold law16_WalkShared_l0
    simp only [flds]
    rw [if_pos (by simpa using hi), idx_lt hi]
    simp only [Option.bind_some]
    rw [w64 (by omega) (by omega)]
    by_cases hk : y.1.Objects[i].Kind = 3
    · rw [if_pos (by rw [hk]; rfl), if_pos hk]; rfl
    · rw [if_neg (by simpa using hk), if_neg hk]; rfl
  · unfold law16_WalkShared_l0
    simp only [flds]
    rw [if_neg (by simp)]
theorem WalkShared_law (a : List Int) : law16_WalkShared a = some true := by
  obtain ⟨r, m, e1, M, _⟩ := repo_ex a
  have hlo := M.lo
  obtain ⟨hc, hk⟩ := lastC_ok M.cm
  unfold law16_WalkShared
  rw [e1]
  simp only [Option.bind_some]
  rw [loop0 (r, m) (by simp only; omega)]
  simp only [Option.bind_some]
  have hcid := M.o.id_le hc
  rw [ck_t (by simp; omega)]
  simp only [Option.bind_some]
  rw [ck_t (by simp; omega)]
  simp only [Option.bind_some, List.nil_append, flds]
  generalize lastC r.Objects = c at *
  rw [show (⟨100, c.Kind, c.Data, c.Items, c.Tree, c.Parents, c.Author, c.Time⟩ : api_Object) = at100 c from rfl]
  obtain ⟨t1, t2, t3⟩ := more_tree M hc hk
  obtain ⟨d1, d2⟩ : (decS c.ID).size ≤ 10 ∧ 58 ∉ (decS c.ID).data.toList := by
    have := digs c.ID.toNat (by omega)
    rw [show ((c.ID.toNat : Nat) : Int) = c.ID by omega] at this
    exact this
  rw [paths_at (more_ok M hc hk) (more_fit M hc) (more_dag M hc hk) (c := c) (List.mem_append_left _ hc) hk t1 (more_tn M hk) t2 t3 (by omega) d1]
  simp only [Option.bind_some]
  have h100 := paths_at (more_ok M hc hk) (more_fit M hc) (more_dag M hc hk) (c := at100 c) (List.mem_append_right _ (List.mem_singleton.2 rfl)) hk t1 (more_tn M hk) t2 t3 (by show -9223372036854775808 ≤ (100 : Int) ∧ (100 : Int) ≤ 9223372036854775807; omega) (by show (decS 100).size ≤ 10; rw [dig100]; decide)
  have hL : (((leavesN (cleanM (objM (r.Objects ++ [at100 c]))) (c.Tree.toNat + 1) c.Tree).map fun q => (⟨q.1, q.2⟩ : api_Item)).length) ≤ 81 := by
    rw [List.length_map]
    exact Nat.le_trans (leaves_len (more_dag M hc hk) _ _ t1) (Nat.le_trans (Nat.pow_le_pow_right (by decide) (Nat.le_trans (clean_trees _) (more_tn M hk))) (by decide))
  have h100' : walk_Paths ⟨r.Objects ++ [at100 c], r.Events⟩ 100 = some ((sortIt ((leavesN (cleanM (objM (r.Objects ++ [at100 c]))) (c.Tree.toNat + 1) c.Tree).map fun q => ⟨q.1, q.2⟩)).map (pre (decS 100 ++ ⟨#[58]⟩)), 0) := h100
  rw [h100']
  simp only [Option.bind_some]
  have hz : (sortIt ((leavesN (cleanM (objM (r.Objects ++ [at100 c]))) (c.Tree.toNat + 1) c.Tree).map fun q => ⟨q.1, q.2⟩)).length ≤ 81 := by rw [sortIt_len]; exact hL
  generalize sortIt ((leavesN (cleanM (objM (r.Objects ++ [at100 c]))) (c.Tree.toNat + 1) c.Tree).map fun q => ⟨q.1, q.2⟩) = zs at *
  clear h100 h100' hL
  rw [if_neg (by simp)]
  have hloop : iter (law16_WalkShared_l1 (zs.map (pre (decS c.ID ++ ⟨#[58]⟩)), 0) (zs.map (pre (decS 100 ++ ⟨#[58]⟩)), 0)) 0 = some (if zs.all (fun _ => true) = true then .inl () else .inr false) := by
    refine iter_allL zs (fun _ => true) false (fun i hi => ?_) ?_
    · unfold law16_WalkShared_l1
      rw [if_pos (by simpa using hi), idx_lt (by simpa using hi), idx_lt (by simpa using hi)]
      simp only [Option.bind_some, List.getElem_map, if_true]
      generalize zs[i] = z
      have hx : (pre (decS c.ID ++ ⟨#[58]⟩) z).Name = mkB ((decS c.ID).data.toList ++ 58 :: z.Name.data.toList) := by
        show (mkB (decS c.ID).data.toList ++ mkB [58]) ++ mkB z.Name.data.toList = _
        rw [mkB_app, mkB_app, List.append_assoc]; rfl
      have hy : (pre (decS 100 ++ ⟨#[58]⟩) z).Name = mkB (49 :: 48 :: 48 :: 58 :: z.Name.data.toList) := by
        show (decS 100 ++ mkB [58]) ++ mkB z.Name.data.toList = _
        rw [dig100, show (⟨#[49, 48, 48]⟩ : ByteArray) = mkB [49, 48, 48] from rfl, mkB_app, mkB_app]; rfl
      rw [hx, hy, strip_ok _ _ d2]
      simp only [Option.bind_some]
      generalize z.Name.data.toList = t
      have hs : (mkB (49 :: 48 :: 48 :: 58 :: t)).size = t.length + 4 := rfl
      rw [hs, if_neg (by simp; omega), ck_t (by omega)]
      simp only [Option.bind_some]
      have x1 : ByteArray.extract (mkB (49 :: 48 :: 48 :: 58 :: t)) 0 3 = (⟨#[49, 48, 48]⟩ : ByteArray) := by
        refine ByteArray.ext ?_
        rw [ByteArray.data_extract]; simp [mkB]
      have x2 : ByteArray.extract (mkB (49 :: 48 :: 48 :: 58 :: t)) 3 (t.length + 4) = mkB (58 :: t) := by
        refine ByteArray.ext ?_
        rw [ByteArray.data_extract]; simp [mkB]
      rw [x1, if_neg (by simp), ck_t (by omega)]
      simp only [Option.bind_some]
      rw [x2, if_neg (by simp)]
      simp only [Option.bind_some, pre]
      rw [if_neg (by simp), w64 (by omega) (by omega)]
      rfl
    · unfold law16_WalkShared_l1
      rw [if_neg (by simp)]
  rw [hloop, if_pos (by simp)]
  simp only [Option.bind_some, awake16]
end Go.Vl
