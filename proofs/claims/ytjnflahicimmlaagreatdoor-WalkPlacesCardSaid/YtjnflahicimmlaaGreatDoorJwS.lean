/- Walk: the tree, the index, in plain words. Conditions: none. -/
import Derived.Test.YtjnflahicimmlaaGreatDoorJzB
import Derived.Test.YtjnflahicimmlaaGreatDoorJrS
import Derived.Test.YtjnflahicimmlaaGreatDoorJhs
set_option linter.unusedSimpArgs false
set_option linter.unusedVariables false
namespace Go.Vl
open Go
theorem bAndM (x : Int) (k : Nat) (hk : k ≤ 62) (m : Int) (hm : m = ((2 ^ k - 1 : Nat) : Int)) : bAnd .i64 x m = x % ((2 ^ k : Nat) : Int) := by
 have hp : 2 ^ k ≤ 2 ^ 62 := Nat.pow_le_pow_right (by decide) hk
 have hp0 : 0 < 2 ^ k := Nat.pos_of_ne_zero (by simp)
 have hd : (2 : Nat) ^ k ∣ 2 ^ 64 := Nat.pow_dvd_pow 2 (by omega)
 have h : (BitVec.ofInt 64 x &&& BitVec.ofInt 64 m).toNat = (x % ((2 ^ k : Nat) : Int)).toNat := by
   rw [BitVec.toNat_and]
   have h1 : (BitVec.ofInt 64 m).toNat = 2 ^ k - 1 := by
     rw [BitVec.toNat_ofInt, hm, Int.emod_eq_of_lt (by omega) (by simp only [Nat.reducePow] at *; omega)]; omega
   rw [h1, Nat.and_two_pow_sub_one_eq_mod, BitVec.toNat_ofInt]
   have h2 : ((x % ((2 ^ 64 : Nat) : Int)).toNat : Int) = x % ((2 ^ 64 : Nat) : Int) := Int.toNat_of_nonneg (Int.emod_nonneg _ (by decide))
   have h3 : (((x % ((2 ^ 64 : Nat) : Int)).toNat % 2 ^ k : Nat) : Int) = x % ((2 ^ k : Nat) : Int) := by
     rw [Int.natCast_emod, h2, Int.emod_emod_of_dvd _ (Int.natCast_dvd_natCast.2 hd)]
   rw [← h3]; rfl
 show IntKind.i64.wrap (((BitVec.ofInt 64 x &&& BitVec.ofInt 64 m).toNat : Nat) : Int) = _
 rw [h]
 have h4 : 0 ≤ x % ((2 ^ k : Nat) : Int) := Int.emod_nonneg _ (by omega)
 have h5 : x % ((2 ^ k : Nat) : Int) < ((2 ^ k : Nat) : Int) := Int.emod_lt_of_pos _ (by omega)
 rw [w64 (by omega) (by simp only [Nat.reducePow] at *; omega)]
 omega
theorem itN_mono2 {σ ε : Type} {b1 b2 : σ → Option (Lp σ ε)} (h : ∀ s o, b1 s = some o → b2 s = some o) : ∀ (n : Nat) (s : σ) (e : ε), itN b1 n s = some e → itN b2 n s = some e
 | 0, _, _, h1 => by simp [itN] at h1
 | n + 1, s, e, h1 => by
   simp only [itN] at h1 ⊢
   cases hb : b1 s with
   | none => rw [hb] at h1; simp at h1
   | some o =>
     rw [hb] at h1
     rw [h s o hb]
     cases o with
     | go s' => exact itN_mono2 h n s' e h1
     | out e' => exact h1
theorem iter_mono2 {σ ε : Type} {b1 b2 : σ → Option (Lp σ ε)} (h : ∀ s o, b1 s = some o → b2 s = some o) {s : σ} {e : ε} (h1 : iter b1 s = some e) : iter b2 s = some e := by
 obtain ⟨n, hn⟩ := iter_iff.1 h1
 exact iter_iff.2 ⟨n, itN_mono2 h n s e hn⟩
theorem treeR_mono {f g : walk_walker → ByteArray → Int → Option (Bool × walk_walker)} (h : ∀ a b c r, f a b c = some r → g a b c = some r) {a : walk_walker} {b : ByteArray} {c : Int} {r : Bool × walk_walker} (h1 : walk_walker_tree_o0_2R f a b c = some r) : walk_walker_tree_o0_2R g a b c = some r := by
 unfold walk_walker_tree_o0_2R at h1 ⊢
 obtain ⟨e, he, h1⟩ := bnd h1
 rw [iter_mono2 (b2 := walk_walker_tree_o0_2_l0 a c b g) (fun s o ho => ?_) he]
 · exact h1
 · unfold walk_walker_tree_o0_2_l0 at ho ⊢
   split at ho
   · rename_i hc
     rw [if_pos hc]
     obtain ⟨x, hx, ho⟩ := bnd ho
     rw [hx]
     obtain ⟨u, hu, ho⟩ := bnd ho
     simp only [Option.bind_some]
     rw [hu]
     simp only [Option.bind_some]
     split at ho
     · rename_i hk
       rw [if_pos hk]
       obtain ⟨u, hu, ho⟩ := bnd ho
       rw [hu]
       obtain ⟨y, hy, ho⟩ := bnd ho
       simp only [Option.bind_some]
       rw [h _ _ _ _ hy]
       exact ho
     · rename_i hk
       rw [if_neg hk]
       exact ho
   · rename_i hc
     rw [if_neg hc]
     exact ho
theorem treeN_mono1 : ∀ (n : Nat) (a : walk_walker) (b : ByteArray) (c : Int) (r : Bool × walk_walker), walk_walker_tree_o0_2N n a b c = some r → walk_walker_tree_o0_2N (n + 1) a b c = some r
 | 0, _, _, _, _, h => by simp [walk_walker_tree_o0_2N] at h
 | n + 1, a, b, c, r, h => treeR_mono (treeN_mono1 n) h
theorem treeN_mono {n m : Nat} (h : n ≤ m) {a : walk_walker} {b : ByteArray} {c : Int} {r : Bool × walk_walker} (h1 : walk_walker_tree_o0_2N n a b c = some r) : walk_walker_tree_o0_2N m a b c = some r := by
 induction h with
 | refl => exact h1
 | step _ ih => exact treeN_mono1 _ _ _ _ _ ih
theorem tree_of {n : Nat} {a : walk_walker} {b : ByteArray} {c : Int} {r : Bool × walk_walker} (h : walk_walker_tree_o0_2N n a b c = some r) : walk_walker_tree_o0_2 a b c = some r := by
 have hex : ∃ n r, walk_walker_tree_o0_2N n a b c = some r := ⟨n, r, h⟩
 unfold walk_walker_tree_o0_2
 rw [dif_pos hex]
 obtain ⟨r', h'⟩ := Classical.choose_spec hex
 have e1 := treeN_mono (Nat.le_max_left n (Classical.choose hex)) h
 have e2 := treeN_mono (Nat.le_max_right n (Classical.choose hex)) h'
 rw [e1] at e2
 rw [h', e2]
theorem walk_index_eq {a0 : api_Repository} (V : OkV a0) : walk_index a0 = some (cleanM (objM a0.Objects)) := by
 have hno := V.no
 unfold walk_index
 have h1 : iter (walk_index_l0 a0) (0, []) = some (idxM a0.Objects) := by
   refine iter_foldl a0.Objects (fun m o => mset inE m o.ID o) (fun m => m) (fun _ _ => True) (fun i hi s _ => ⟨?_, trivial⟩) (fun s _ => ?_) [] trivial
   · unfold walk_index_l0
     rw [if_pos (by simp; omega), idx_lt hi, w64 (by omega) (by omega)]
     rfl
   · unfold walk_index_l0
     rw [if_neg (by simp)]
 rw [h1, idxM_nodup V.nd]
 simp only [Option.bind_some]
 have hq : ∀ q ∈ objM a0.Objects, q.2.Items.length ≤ 268435456 := fun q hq => by
   unfold objM at hq
   obtain ⟨o, ho, rfl⟩ := List.mem_map.1 hq
   have := (objE_zero.1 (V.ob o ho)).2.1.2.1
   simp only; omega
 rw [ck_t ⟨by rw [objM_keys]; exact V.nd, hq⟩]
 rfl
theorem clean_none {M : List (Int × api_Object)} (h : ∀ q ∈ M, q.2.Kind = 2 → q.2.Items ≠ []) : cleanM M = M := by
 have hd : ∀ k, ¬ Dead M k := fun k hk => by
   induction hk with
   | @mk k o hm hk hi ih =>
     cases hx : o.Items with
     | nil => exact h _ hm hk hx
     | cons x l => exact ih x (by rw [hx]; simp)
 unfold cleanM
 have : ∀ q ∈ M, (q.1, ({ q.2 with Items := liveIt M q.2.Items } : api_Object)) = q := fun q _ => by
   unfold liveIt
   rw [List.filter_eq_self.2 fun x _ => by simp [hd]]
 rw [List.map_congr_left this, List.map_id']
def bA : ByteArray := ⟨#[97]⟩
def bX : ByteArray := ⟨#[120]⟩
def bY : ByteArray := ⟨#[121]⟩
structure Pyr (M : List (Int × api_Object)) (d : Nat) : Prop where
 k1 : ((mget inE M 1).getD (⟨0, 0, [], [], 0, [], ByteArray.empty, 0⟩ : api_Object)).Kind = 1
 i2 : ((mget inE M 2).getD (⟨0, 0, [], [], 0, [], ByteArray.empty, 0⟩ : api_Object)).Items = [⟨bA, 1⟩]
 kt : ∀ i : Nat, i ≤ d → ((mget inE M (2 + i : Int)).getD (⟨0, 0, [], [], 0, [], ByteArray.empty, 0⟩ : api_Object)).Kind = 2
 it : ∀ i : Nat, i < d → ((mget inE M (3 + i : Int)).getD (⟨0, 0, [], [], 0, [], ByteArray.empty, 0⟩ : api_Object)).Items = [⟨bX, 2 + i⟩, ⟨bY, 2 + i⟩]
end Go.Vl
namespace Go.Vl
open Go
theorem objM_get {l : List api_Object} (hn : (l.map (·.ID)).Nodup) {o : api_Object} (ho : o ∈ l) : mget inE (objM l) o.ID = some o :=
 mget_nodup (by rw [objM_keys]; exact hn) (List.mem_map.2 ⟨o, ho, rfl⟩)
def wO : List api_Object := [⟨3, 1, [], [], 0, [], ByteArray.empty, 0⟩, ⟨4, 2, [], [⟨bA, 3⟩], 0, [], ByteArray.empty, 0⟩, ⟨5, 2, [], [⟨⟨#[100]⟩, 4⟩], 0, [], ByteArray.empty, 0⟩, ⟨7, 3, [], [], 5, [], ⟨#[120]⟩, 0⟩]
theorem w_nd : (wO.map (·.ID)).Nodup := by decide +kernel
theorem w_ob : ∀ o ∈ wO, objE o = 0 := by decide +kernel
theorem w_hr : ∀ o ∈ wO, hereB (objM wO) o = true := by decide +kernel
theorem w_cy : ∀ q ∈ objM wO, ∀ j ∈ namesO q.2, j < q.1 := by decide +kernel
theorem w_dead : ∀ q ∈ objM wO, q.2.Kind = 2 → q.2.Items.length ≠ 0 := by decide +kernel
theorem w_fit : ∀ o ∈ wO, (∀ x ∈ o.Items, x.Name.size ≤ 1000000000) ∧ o.Author.size ≤ 1000000000 := by decide +kernel
theorem itoa7 : decS 7 = ⟨#[55]⟩ := by decide +kernel
theorem ok_valid {a0 : api_Repository} (hf : FitR a0) (V : OkV a0) : history_Valid a0 = some 0 := by
 rw [valid_eq hf, validE_zero.2 V]
theorem fitE {l : List api_Object} (h : ∀ o ∈ l, (∀ x ∈ o.Items, x.Name.size ≤ 1000000000) ∧ o.Author.size ≤ 1000000000) : FitR ⟨l, []⟩ := ⟨h, fun e he => by simp at he⟩
theorem clean_obj {l : List api_Object} (h : ∀ q ∈ objM l, q.2.Kind = 2 → q.2.Items.length ≠ 0) : cleanM (objM l) = objM l := clean_none fun q hq hk e => h q hq hk (by rw [e]; rfl)
open Classical in
theorem sort_len {ls : List api_Item} (h : ls.length ≤ 268435456) (h1 : ∀ x ∈ ls, ∀ y ∈ ls, x.Name = y.Name → x = y) : slices_SortFunc_api_Item_vec0_at_walk_paths_1 ls = some (sortIt ls) := by
 unfold slices_SortFunc_api_Item_vec0_at_walk_paths_1
 rw [ck_t ⟨h, h1⟩]; rfl
theorem sortIt_len (ls : List api_Item) : (sortIt ls).length = ls.length := by unfold sortIt; exact List.length_mergeSort ls
theorem itoa_some {n : Int} (h : -9223372036854775808 ≤ n ∧ n ≤ 9223372036854775807) : strconv_Itoa n = some (decS n) := by
 unfold strconv_Itoa; rw [ck_t h]; rfl
theorem w_ok : OkV ⟨wO, []⟩ := {
 no := by decide
 ne := by simp
 ob := w_ob
 ev := fun e he => by simp at he
 nd := w_nd
 hr := w_hr
 nl := nl_nil _ _
 cy := cyc_no w_cy
 tm := fun e he => by simp at he
 so := by simp
 mn := rfl }
theorem w_tree : walk_walker_tree_o0_2 ⟨objM wO, 2000, []⟩ ⟨#[55, 58]⟩ 5 = some (true, ⟨objM wO, 1999, [⟨⟨#[55, 58, 100, 47, 97]⟩, 3⟩]⟩) := by
 have g3 : mget inE (objM wO) 3 = some ⟨3, 1, [], [], 0, [], ByteArray.empty, 0⟩ := objM_get w_nd (o := ⟨3, 1, [], [], 0, [], ByteArray.empty, 0⟩) (by simp [wO])
 have g4 : mget inE (objM wO) 4 = some ⟨4, 2, [], [⟨bA, 3⟩], 0, [], ByteArray.empty, 0⟩ := objM_get w_nd (o := ⟨4, 2, [], [⟨bA, 3⟩], 0, [], ByteArray.empty, 0⟩) (by simp [wO])
 have g5 : mget inE (objM wO) 5 = some ⟨5, 2, [], [⟨⟨#[100]⟩, 4⟩], 0, [], ByteArray.empty, 0⟩ := objM_get w_nd (o := ⟨5, 2, [], [⟨⟨#[100]⟩, 4⟩], 0, [], ByteArray.empty, 0⟩) (by simp [wO])
 refine tree_of (n := 2) ?_
 have hin : walk_walker_tree_o0_2N 1 ⟨objM wO, 2000, []⟩ ⟨#[55, 58, 100, 47]⟩ 4 = some (true, ⟨objM wO, 1999, [⟨⟨#[55, 58, 100, 47, 97]⟩, 3⟩]⟩) := by
   show walk_walker_tree_o0_2R _ _ _ _ = _
   unfold walk_walker_tree_o0_2R
   rw [iter_go (s' := (1, objM wO, 1999, [⟨⟨#[55, 58, 100, 47, 97]⟩, 3⟩])) (by
     unfold walk_walker_tree_o0_2_l0
     simp only [g4, Option.getD_some]
     rw [if_pos (by decide), show idx ([⟨bA, 3⟩] : List api_Item) 0 = some ⟨bA, 3⟩ from rfl]
     simp only [Option.bind_some]
     rw [ck_t (by decide)]
     simp only [Option.bind_some, g3, Option.getD_some]
     rw [if_neg (by decide), if_neg (by decide), ck_t (by decide)]
     rfl), iter_out (e := .inl (objM wO, 1999, [⟨⟨#[55, 58, 100, 47, 97]⟩, 3⟩])) (by
     unfold walk_walker_tree_o0_2_l0
     simp only [g4, Option.getD_some]
     rw [if_neg (by decide)])]
   rfl
 show walk_walker_tree_o0_2R _ _ _ _ = _
 unfold walk_walker_tree_o0_2R
 rw [iter_go (s' := (1, objM wO, 1999, [⟨⟨#[55, 58, 100, 47, 97]⟩, 3⟩])) (by
   unfold walk_walker_tree_o0_2_l0
   simp only [g5, Option.getD_some]
   rw [if_pos (by decide), show idx ([⟨⟨#[100]⟩, 4⟩] : List api_Item) 0 = some ⟨⟨#[100]⟩, 4⟩ from rfl]
   simp only [Option.bind_some]
   rw [ck_t (by decide)]
   simp only [Option.bind_some, g4, Option.getD_some]
   rw [if_pos (by decide), ck_t (by decide)]
   simp only [Option.bind_some]
   rw [show ((⟨#[55, 58]⟩ : ByteArray) ++ ⟨#[100]⟩) ++ ⟨#[47]⟩ = ⟨#[55, 58, 100, 47]⟩ by decide +kernel, hin]
   rfl), iter_out (e := .inl (objM wO, 1999, [⟨⟨#[55, 58, 100, 47, 97]⟩, 3⟩])) (by
   unfold walk_walker_tree_o0_2_l0
   simp only [g5, Option.getD_some]
   rw [if_neg (by decide)])]
 rfl
theorem w_paths : walk_Paths ⟨wO, []⟩ 7 = some ([⟨⟨#[55, 58, 100, 47, 97]⟩, 3⟩], 0) := by
 unfold walk_Paths
 rw [ok_valid (fitE w_fit) w_ok, walk_index_eq w_ok, clean_obj w_dead]
 simp only [Option.bind_some]
 have gc : mget inE (objM wO) 7 = some ⟨7, 3, [], [], 5, [], ⟨#[120]⟩, 0⟩ := objM_get w_nd (o := ⟨7, 3, [], [], 5, [], ⟨#[120]⟩, 0⟩) (by simp [wO])
 rw [if_neg (by decide), gc]
 simp only [Option.getD_some]
 rw [if_neg (by decide)]
 unfold walk_paths
 rw [itoa_some (by decide), itoa7]
 simp only [Option.bind_some]
 rw [ck_t (by decide), gc]
 simp only [Option.bind_some, Option.getD_some]
 rw [show (⟨#[55]⟩ : ByteArray) ++ ⟨#[58]⟩ = ⟨#[55, 58]⟩ by decide +kernel, w_tree]
 simp only [Option.bind_some]
 rw [if_neg (by decide), sort_len (by decide) (fun x hx y hy _ => by
   rw [List.mem_singleton] at hx hy
   rw [hx, hy])]
 simp only [Option.bind_some]
 rw [if_neg (by decide)]
 unfold sortIt
 rw [List.mergeSort_singleton]
theorem awake16 : law16_awake = some true := by
 unfold law16_awake
 have := w_paths
 unfold wO bA at this
 rw [this]
 simp only [Option.bind_some]
 rw [if_pos (by decide), if_pos (by decide), show idx ([⟨⟨#[55, 58, 100, 47, 97]⟩, 3⟩] : List api_Item) 0 = some ⟨⟨#[55, 58, 100, 47, 97]⟩, 3⟩ from rfl]
 simp only [Option.bind_some]
 congr 1
 simp
end Go.Vl
namespace Go.Vl
open Go
def kidK (M : List (Int × api_Object)) (id : Int) : Int := ((mget inE M id).getD (⟨0, 0, [], [], 0, [], ByteArray.empty, 0⟩ : api_Object)).Kind
def kidI (M : List (Int × api_Object)) (id : Int) : List api_Item := ((mget inE M id).getD (⟨0, 0, [], [], 0, [], ByteArray.empty, 0⟩ : api_Object)).Items
def slB : ByteArray := ⟨#[47]⟩
def leavesN (M : List (Int × api_Object)) : Nat → Int → List (ByteArray × Int)
 | 0, _ => []
 | n + 1, id => (kidI M id).flatMap fun x => if kidK M x.ID = 2 then (leavesN M n x.ID).map (fun q => ((x.Name ++ slB) ++ q.1, q.2)) else [(x.Name, x.ID)]
structure Dag (M : List (Int × api_Object)) : Prop where
 sub : ∀ id, ((kidI M id).map (·.Name)).Sublist [nA, nB, nD]
 dn : ∀ id, ∀ x ∈ kidI M id, 1 ≤ x.ID ∧ x.ID < id
theorem name1 {n : ByteArray} (h : n ∈ [nA, nB, nD]) : n.size = 1 := by
 simp only [List.mem_cons, List.not_mem_nil, or_false] at h
 rcases h with rfl | rfl | rfl <;> rfl
theorem Dag.n1 {M : List (Int × api_Object)} (D : Dag M) {id : Int} {x : api_Item} (hx : x ∈ kidI M id) : x.Name.size = 1 := name1 ((D.sub id).subset (List.mem_map_of_mem (f := (·.Name)) hx))
theorem Dag.nd {M : List (Int × api_Object)} (D : Dag M) (id : Int) : ((kidI M id).map (·.Name)).Nodup := List.Nodup.sublist (D.sub id) (by decide +kernel)
theorem tree_leaves {M : List (Int × api_Object)} (D : Dag M) : ∀ (n : Nat) (id : Int), id.toNat < n → ∀ (p : ByteArray) (L : Int) (out : List api_Item), ((leavesN M n id).length : Int) ≤ L → (out.length : Int) + L ≤ 2000 → p.size + 2 * n ≤ 1000 →
   walk_walker_tree_o0_2N n ⟨M, L, out⟩ p id = some (true, ⟨M, L - (leavesN M n id).length, out ++ (leavesN M n id).map fun q => ⟨p ++ q.1, q.2⟩⟩) := by
 intro n
 induction n with
 | zero => intro id h; omega
 | succ n ih =>
   intro id hid p L out hL ho hp
   show walk_walker_tree_o0_2R _ _ p _ = _
   unfold walk_walker_tree_o0_2R
   let F : api_Item → List (ByteArray × Int) := fun x => if kidK M x.ID = 2 then (leavesN M n x.ID).map (fun q => ((x.Name ++ slB) ++ q.1, q.2)) else [(x.Name, x.ID)]
   have hF : leavesN M (n + 1) id = (kidI M id).flatMap F := rfl
   have h3 : (kidI M id).length ≤ 3 := by have := (D.sub id).length_le; rw [List.length_map] at this; exact this
   have key : ∀ (m i : Nat), i + m = (kidI M id).length → ∀ (L2 : Int) (o2 : List api_Item), ((((kidI M id).drop i).flatMap F).length : Int) ≤ L2 → (o2.length : Int) + L2 ≤ 2000 →
       iter (walk_walker_tree_o0_2_l0 ⟨M, L, out⟩ id p (walk_walker_tree_o0_2N n)) ((i : Int), M, L2, o2) = some (.inl (M, L2 - (((kidI M id).drop i).flatMap F).length, o2 ++ (((kidI M id).drop i).flatMap F).map fun q => ⟨p ++ q.1, q.2⟩)) := by
     intro m
     induction m with
     | zero =>
       intro i hi L2 o2 h1 h2
       have hd : (kidI M id).drop i = [] := List.drop_eq_nil_of_le (by omega)
       rw [hd]
       refine iter_out ?_
       unfold walk_walker_tree_o0_2_l0
       rw [if_neg (by simp only [decide_eq_true_eq]; show ¬ ((i : Int) < ((kidI M id).length : Int)); omega)]
       simp
     | succ m im =>
       intro i hi L2 o2 h1 h2
       have hlt : i < (kidI M id).length := by omega
       rw [List.drop_eq_getElem_cons hlt, List.flatMap_cons] at h1 ⊢
       generalize hx : (kidI M id)[i] = x at *
       have hmem : x ∈ kidI M id := by rw [← hx]; exact List.getElem_mem hlt
       have hsz := D.n1 hmem
       obtain ⟨hd1, hd2⟩ := D.dn id x hmem
       have hcond : (decide ((i : Int) < ((((mget inE M id).getD (⟨0, 0, [], [], 0, [], ByteArray.empty, 0⟩ : api_Object)).Items).length : Int))) = true := by
         simp only [decide_eq_true_eq]; show ((i : Int) < ((kidI M id).length : Int)); omega
       have hidx : idx (((mget inE M id).getD (⟨0, 0, [], [], 0, [], ByteArray.empty, 0⟩ : api_Object)).Items) (i : Int) = some x := by
         show idx (kidI M id) (i : Int) = some x
         rw [idx_lt hlt, hx]
       have hlo : (o2.length : Int) ≤ 2000 := by omega
       rw [List.length_append] at h1
       by_cases hk : kidK M x.ID = 2
       · have hFx : F x = (leavesN M n x.ID).map (fun q => ((x.Name ++ slB) ++ q.1, q.2)) := by show (if _ then _ else _) = _; rw [if_pos hk]
         have hrec := ih x.ID (by omega) ((p ++ x.Name) ++ slB) L2 o2 (by rw [hFx, List.length_map] at h1; omega) h2 (by rw [ByteArray.size_append, ByteArray.size_append]; have : slB.size = 1 := rfl; omega)
         have hgo : walk_walker_tree_o0_2_l0 ⟨M, L, out⟩ id p (walk_walker_tree_o0_2N n) ((i : Int), M, L2, o2) = some (.go (((i + 1 : Nat) : Int), M, L2 - (F x).length, o2 ++ (F x).map fun q => ⟨p ++ q.1, q.2⟩)) := by
           unfold walk_walker_tree_o0_2_l0
           simp only
           rw [if_pos hcond, hidx]
           simp only [Option.bind_some]
           rw [ck_t (by omega)]
           simp only [Option.bind_some]
           rw [if_pos (by show (kidK M x.ID == 2) = true; rw [hk]; rfl), ck_t (by rw [ByteArray.size_append]; have : (⟨#[47]⟩ : ByteArray).size = 1 := rfl; omega)]
           simp only [Option.bind_some]
           rw [show (⟨#[47]⟩ : ByteArray) = slB from rfl, hrec]
           simp only [Option.bind_some]
           rw [if_neg (by simp), w64 (by omega) (by omega), hFx, List.length_map, List.map_map]
           have : ((fun q : ByteArray × Int => (⟨p ++ q.1, q.2⟩ : api_Item)) ∘ fun q : ByteArray × Int => ((x.Name ++ slB) ++ q.1, q.2)) = fun q => ⟨((p ++ x.Name) ++ slB) ++ q.1, q.2⟩ := funext fun q => by
             simp only [Function.comp_apply, ByteArray.append_assoc]
           rw [this]; rfl
         rw [iter_go hgo, im (i + 1) (by omega) _ _ (by omega) (by rw [List.length_append, List.length_map]; omega)]
         rw [List.length_append, List.map_append, List.append_assoc]
         congr 3
         simp only [Prod.mk.injEq, and_true]
         omega
       · have hFx : F x = [(x.Name, x.ID)] := by show (if _ then _ else _) = _; rw [if_neg hk]
         have hL1 : 1 ≤ L2 := by rw [hFx] at h1; simp at h1; omega
         have hgo : walk_walker_tree_o0_2_l0 ⟨M, L, out⟩ id p (walk_walker_tree_o0_2N n) ((i : Int), M, L2, o2) = some (.go (((i + 1 : Nat) : Int), M, L2 - (F x).length, o2 ++ (F x).map fun q => ⟨p ++ q.1, q.2⟩)) := by
           unfold walk_walker_tree_o0_2_l0
           simp only
           rw [if_pos hcond, hidx]
           simp only [Option.bind_some]
           rw [ck_t (by omega)]
           simp only [Option.bind_some]
           rw [if_neg (by show ¬ (kidK M x.ID == 2) = true; simpa using hk), w64 (by omega) (by omega), if_neg (by simp only [decide_eq_true_eq]; omega), ck_t (by rw [List.length_singleton]; omega), hFx, w64 (by omega) (by omega)]
           rfl
         rw [iter_go hgo, im (i + 1) (by omega) _ _ (by omega) (by rw [List.length_append, List.length_map]; omega)]
         rw [List.length_append, List.map_append, List.append_assoc]
         congr 3
         simp only [Prod.mk.injEq, and_true]
         omega
   have := key (kidI M id).length 0 (by omega) L out (by rw [List.drop_zero, ← hF]; exact hL) ho
   rw [List.drop_zero, ← hF] at this
   have h0 : iter (walk_walker_tree_o0_2_l0 ⟨M, L, out⟩ id p (walk_walker_tree_o0_2N n)) (0, M, L, out) = _ := this
   rw [h0]
   rfl
theorem leaves_fn {M : List (Int × api_Object)} (D : Dag M) : ∀ (n : Nat) (id : Int) (q r : ByteArray × Int), q ∈ leavesN M n id → r ∈ leavesN M n id → q.1 = r.1 → q.2 = r.2 := by
 intro n
 induction n with
 | zero => intro id q r hq; simp [leavesN] at hq
 | succ n ih =>
   intro id q r hq hr e
   simp only [leavesN, List.mem_flatMap] at hq hr
   obtain ⟨x, hx, hq⟩ := hq
   obtain ⟨y, hy, hr⟩ := hr
   have hsx := D.n1 hx
   have hsy := D.n1 hy
   have same : x.Name = y.Name → x = y := fun h => by
     obtain ⟨i, hi, rfl⟩ := List.getElem_of_mem hx
     obtain ⟨j, hj, rfl⟩ := List.getElem_of_mem hy
     have hi' : i < ((kidI M id).map (·.Name)).length := by rw [List.length_map]; exact hi
     have hj' : j < ((kidI M id).map (·.Name)).length := by rw [List.length_map]; exact hj
     have hij : ((kidI M id).map (·.Name))[i] = ((kidI M id).map (·.Name))[j] := by rw [List.getElem_map, List.getElem_map]; exact h
     have := (List.getElem_inj (D.nd id)).1 hij
     subst this; rfl
   have inj : ∀ {a b c d : ByteArray}, a.size = b.size → a ++ c = b ++ d → a = b ∧ c = d := fun {a b c d} hs h => by
     have h : (a ++ c).data.toList = (b ++ d).data.toList := by rw [h]
     rw [ByteArray.data_append, ByteArray.data_append, Array.toList_append, Array.toList_append] at h
     have := List.append_inj h (by rw [Array.length_toList, Array.length_toList]; exact hs)
     exact ⟨ByteArray.ext (Array.toList_inj.1 this.1), ByteArray.ext (Array.toList_inj.1 this.2)⟩
   have big : ∀ (a b : ByteArray) (z : ByteArray), a.size = 1 → (b.size = 1) → a = (b ++ slB) ++ z → False := fun a b z h1 h2 h => by
     have := congrArg ByteArray.size h
     rw [ByteArray.size_append, ByteArray.size_append, h1, h2] at this
     have : slB.size = 1 := rfl
     omega
   split at hq
   · obtain ⟨q', hq', rfl⟩ := List.mem_map.1 hq
     split at hr
     · obtain ⟨r', hr', rfl⟩ := List.mem_map.1 hr
       simp only at e ⊢
       obtain ⟨e1, e2⟩ := inj (by rw [ByteArray.size_append, ByteArray.size_append, hsx, hsy]) e
       obtain ⟨e3, _⟩ := inj (hsx.trans hsy.symm) e1
       have := same e3
       subst this
       exact ih _ _ _ hq' hr' e2
     · rw [List.mem_singleton] at hr
       subst hr
       exact (big _ _ _ hsy hsx e.symm).elim
   · rw [List.mem_singleton] at hq
     subst hq
     split at hr
     · obtain ⟨r', hr', rfl⟩ := List.mem_map.1 hr
       exact (big _ _ _ hsx hsy e).elim
     · rw [List.mem_singleton] at hr
       subst hr
       have := same e
       subst this; rfl
def trees (M : List (Int × api_Object)) (id : Int) : Nat := (M.filter fun q => q.2.Kind == 2 && decide (q.1 ≤ id)).length
theorem kid_mem {M : List (Int × api_Object)} {id : Int} (h : kidK M id = 2) : ∃ o, (id, o) ∈ M ∧ o.Kind = 2 := by
 unfold kidK at h
 cases hg : mget inE M id with
 | none => rw [hg] at h; simp at h
 | some o => rw [hg] at h; exact ⟨o, mgetI_mem hg, h⟩
theorem trees_lt {M : List (Int × api_Object)} {a b : Int} (h : a < b) (hb : kidK M b = 2) : trees M a < trees M b := by
 obtain ⟨o, ho, hk⟩ := kid_mem hb
 have e : (M.filter fun q => q.2.Kind == 2 && decide (q.1 ≤ a)) = (M.filter fun q => q.2.Kind == 2 && decide (q.1 ≤ b)).filter fun q => decide (q.1 ≤ a) := by
   rw [List.filter_filter]
   refine List.filter_congr fun q _ => ?_
   by_cases h1 : q.1 ≤ a
   · have h2 : q.1 ≤ b := by omega
     simp [h1, h2]
   · simp [h1]
 unfold trees
 rw [e, List.length_filter_lt_length_iff_exists]
 refine ⟨(b, o), List.mem_filter.2 ⟨ho, by simp [hk]⟩, by simp; omega⟩
theorem leaves_len {M : List (Int × api_Object)} (D : Dag M) : ∀ (n : Nat) (id : Int), kidK M id = 2 → (leavesN M n id).length ≤ 3 ^ trees M id := by
 intro n
 induction n with
 | zero => intro id _; simp [leavesN]
 | succ n ih =>
   intro id hid
   have h3 : (kidI M id).length ≤ 3 := by have := (D.sub id).length_le; simpa using this
   have hpos : ∃ t, trees M id = t + 1 := by
     have := trees_lt (a := id - 1) (by omega) hid
     exact ⟨trees M id - 1, by omega⟩
   obtain ⟨t, ht⟩ := hpos
   have one : ∀ x ∈ kidI M id, (if kidK M x.ID = 2 then (leavesN M n x.ID).map (fun q => ((x.Name ++ slB) ++ q.1, q.2)) else [(x.Name, x.ID)]).length ≤ 3 ^ t := fun x hx => by
     split
     · rename_i hk
       rw [List.length_map]
       have h1 := ih x.ID hk
       have h2 := trees_lt (D.dn id x hx).2 hid
       exact Nat.le_trans h1 (Nat.pow_le_pow_right (by decide) (by omega))
     · have : 0 < 3 ^ t := Nat.pow_pos (by decide)
       rw [List.length_singleton]; exact this
   have sum : ∀ (l : List api_Item), (∀ x ∈ l, (if kidK M x.ID = 2 then (leavesN M n x.ID).map (fun q => ((x.Name ++ slB) ++ q.1, q.2)) else [(x.Name, x.ID)]).length ≤ 3 ^ t) → (l.flatMap fun x => if kidK M x.ID = 2 then (leavesN M n x.ID).map (fun q => ((x.Name ++ slB) ++ q.1, q.2)) else [(x.Name, x.ID)]).length ≤ l.length * 3 ^ t := fun l => by
     induction l with
     | nil => intro _; simp
     | cons x l il =>
       intro h
       rw [List.flatMap_cons, List.length_append, List.length_cons, Nat.succ_mul]
       have h1 := h x (by simp)
       have h2 := il fun y hy => h y (by simp [hy])
       omega
   rw [ht, Nat.pow_succ]
   have := sum _ one
   have h4 : (kidI M id).length * 3 ^ t ≤ 3 * 3 ^ t := Nat.mul_le_mul_right _ h3
   show ((kidI M id).flatMap _).length ≤ _
   omega
end Go.Vl
namespace Go.Vl
open Go
def pre (p : ByteArray) (x : api_Item) : api_Item := ⟨p ++ x.Name, x.ID⟩
theorem app_lt : ∀ (p a b : List UInt8), p ++ a < p ++ b ↔ a < b
 | [], _, _ => Iff.rfl
 | c :: p, a, b => by
   rw [List.cons_append, List.cons_append, List.cons_lt_cons_iff]
   constructor
   · rintro (h | ⟨_, h⟩)
     · exact absurd h (UInt8.lt_irrefl c)
     · exact (app_lt p a b).1 h
   · exact fun h => .inr ⟨rfl, (app_lt p a b).2 h⟩
theorem cfI_pre (p : ByteArray) (x y : api_Item) : cfI (pre p x) (pre p y) < 0 ↔ cfI x y < 0 := by
 unfold cfI pre
 rw [cmpS_neg, cmpS_neg, ByteArray.toList_eq, ByteArray.toList_eq, ByteArray.toList_eq, ByteArray.toList_eq, ByteArray.data_append, ByteArray.data_append, Array.toList_append, Array.toList_append]
 exact app_lt _ _ _
theorem sortIt_map (p : ByteArray) (l : List api_Item) : sortIt (l.map (pre p)) = (sortIt l).map (pre p) := by
 unfold sortIt
 refine (List.map_mergeSort fun a _ b _ => ?_).symm
 have := cfI_pre p b a
 by_cases h : cfI b a < 0
 · rw [decide_eq_true h, decide_eq_true (this.2 h)]
 · rw [decide_eq_false h, decide_eq_false (fun h' => h (this.1 h'))]
theorem mfind_map {ν μ : Type} (g : ν → μ) (k : Int) : ∀ M : List (Int × ν), mfind inE k (M.map fun q => (q.1, g q.2)) = (mfind inE k M).map fun r => (r.1, g r.2)
 | [] => rfl
 | q :: M => by
   rw [List.map_cons, mfind, mfind]
   by_cases h : inE k q.1 = true
   · rw [if_pos h, if_pos h]; rfl
   · rw [if_neg h, if_neg h, mfind_map g k M]
     cases mfind inE k M <;> rfl
theorem mget_clean (M : List (Int × api_Object)) (k : Int) : mget inE (cleanM M) k = (mget inE M k).map fun o => { o with Items := liveIt M o.Items } := by
 unfold mget cleanM
 rw [mfind_map (fun o : api_Object => ({ o with Items := liveIt M o.Items } : api_Object))]
 cases mfind inE k M <;> rfl
theorem clean_dag {l : List api_Object} (h : ∀ o ∈ l, (o.Items.map (·.Name)).Sublist [nA, nB, nD] ∧ ∀ x ∈ o.Items, 1 ≤ x.ID ∧ x.ID < o.ID) : Dag (cleanM (objM l)) := by
 have key : ∀ id, kidI (cleanM (objM l)) id = [] ∨ ∃ o ∈ l, o.ID = id ∧ kidI (cleanM (objM l)) id = liveIt (objM l) o.Items := fun id => by
   unfold kidI
   rw [mget_clean]
   cases hg : mget inE (objM l) id with
   | none => exact .inl rfl
   | some o =>
     obtain ⟨o', ho', e⟩ := List.mem_map.1 (mgetI_mem hg)
     cases e
     exact .inr ⟨_, ho', rfl, rfl⟩
 refine ⟨fun id => ?_, fun id x hx => ?_⟩
 · rcases key id with e | ⟨o, ho, _, e⟩
   · rw [e]; simp
   · rw [e]
     exact ((List.filter_sublist (l := o.Items)).map _).trans (h o ho).1
 · rcases key id with e | ⟨o, ho, hid, e⟩
   · rw [e] at hx; cases hx
   · rw [e] at hx
     have := (h o ho).2 x (List.mem_filter.1 hx).1
     rw [hid] at this; exact this
theorem clean_kid {l : List api_Object} (hn : (l.map (·.ID)).Nodup) {o : api_Object} (ho : o ∈ l) : kidK (cleanM (objM l)) o.ID = o.Kind := by
 unfold kidK
 rw [mget_clean, objM_get hn ho]; rfl
theorem clean_trees {l : List api_Object} (id : Int) : trees (cleanM (objM l)) id ≤ tn l := by
 unfold trees tn cleanM objM
 rw [List.map_map]
 rw [List.filter_map, List.length_map]
 have e : (l.filter ((fun q : Int × api_Object => q.2.Kind == 2 && decide (q.1 ≤ id)) ∘ ((fun q : Int × api_Object => (q.1, ({ q.2 with Items := liveIt (l.map fun o => (o.ID, o)) q.2.Items } : api_Object))) ∘ fun o : api_Object => (o.ID, o)))) = (l.filter fun o => o.Kind == 2).filter fun o => decide (o.ID ≤ id) := by
   rw [List.filter_filter]
   refine List.filter_congr fun o _ => ?_
   simp only [Function.comp_apply]
   rw [Bool.and_comm]
 rw [e]
 exact List.length_filter_le _ _
end Go.Vl
namespace Go.Vl
open Go
theorem sortI_mem {l : List Int} {x : Int} : x ∈ sortI l ↔ x ∈ l := (List.mergeSort_perm l _).mem_iff
theorem sortI_nodup {l : List Int} (h : l.Nodup) : (sortI l).Nodup := (List.mergeSort_perm l _).nodup_iff.2 h
theorem nodup_lenE {α : Type} : ∀ {l m : List α}, l.Nodup → l ⊆ m → l.length ≤ m.length
 | [], _, _, _ => Nat.zero_le _
 | x :: l, m, h1, h2 => by
   rw [List.nodup_cons] at h1
   obtain ⟨s, t, rfl⟩ := List.append_of_mem (h2 (List.mem_cons_self ..))
   have : l ⊆ s ++ t := fun y hy => by
     rcases List.mem_append.1 (h2 (List.mem_cons_of_mem _ hy)) with h | h
     · exact List.mem_append_left _ h
     · rcases List.mem_cons.1 h with rfl | h
       · exact absurd hy h1.1
       · exact List.mem_append_right _ h
   have := nodup_lenE h1.2 this
   simp only [List.length_append, List.length_cons] at this ⊢
   omega
theorem mset_in {κ ν : Type} {e : κ → κ → Bool} {m : List (κ × ν)} {k : κ} {v : ν} {q : κ × ν} (h : q ∈ mset e m k v) : q = (k, v) ∨ q ∈ m := by
 induction m with
 | nil => rw [mset_nil] at h; exact .inl (List.mem_singleton.1 h)
 | cons r m ih =>
   rw [mset_cons] at h
   split at h
   · rcases List.mem_cons.1 h with h | h
     · exact .inl h
     · exact .inr (List.mem_cons_of_mem _ h)
   · rcases List.mem_cons.1 h with h | h
     · exact .inr (h ▸ List.mem_cons_self ..)
     · rcases ih h with h | h
       · exact .inl h
       · exact .inr (List.mem_cons_of_mem _ h)
theorem refsF_mem {t : Int} : ∀ {l : List api_RefEvent} {m : List (ByteArray × Int)} {q : ByteArray × Int}, q ∈ refsF t m l → q ∈ m ∨ ∃ e ∈ l, e.Kind = 1 ∧ e.Time ≤ t ∧ q = (e.Name, e.Commit)
 | [], m, q, h => .inl h
 | e :: l, m, q, h => by
   simp only [refsF] at h
   split at h
   · exact .inl h
   · rename_i ht
     rcases refsF_mem h with h | ⟨e', h1, h2⟩
     · unfold refStep at h
       split at h
       · rename_i hk
         rcases mset_in h with h | h
         · exact .inr ⟨e, List.mem_cons_self .., hk, by omega, h⟩
         · exact .inl h
       · exact .inl ((mdel_sub m e.Name).subset h)
     · exact .inr ⟨e', List.mem_cons_of_mem _ h1, h2⟩
theorem nl_commit {all : List (Int × api_Object)} : ∀ {l : List api_RefEvent} {m : List (ByteArray × Bool)}, nlB all l m = false → ∀ e ∈ l, e.Kind = 1 → kindM all e.Commit = 3
 | [], _, _, e, he, _ => by cases he
 | e' :: l, m, h, e, he, hk => by
   rw [nl_cons, Bool.or_eq_false_iff] at h
   rcases List.mem_cons.1 he with rfl | he
   · have := h.1
     unfold bareB at this
     rw [Bool.or_eq_false_iff, Bool.and_eq_false_iff] at this
     rcases this.1 with h2 | h2
     · simp [hk] at h2
     · simpa using h2
   · exact nl_commit h.2 e he hk
theorem wgt_le {n : Nat} : ∀ {l : List (Int × api_Object)}, (∀ q ∈ l, (namesO q.2).length ≤ n) → wgt (fun _ => false) l ≤ l.length * n
 | [], _ => by simp [wgt]
 | q :: l, h => by
   have h1 := h q (by simp)
   have h2 := wgt_le (l := l) fun r hr => h r (by simp [hr])
   simp only [wgt, Bool.false_eq_true, if_false, List.length_cons, Nat.add_mul]
   omega
theorem names_len (o : api_Object) : (namesO o).length ≤ o.Parents.length + o.Items.length + 1 := by
 unfold namesO
 split <;> simp <;> omega
section
variable {a0 : api_Repository} (V : OkV a0)
include V
theorem OkV.obj {o : api_Object} (h : o ∈ a0.Objects) : o.Data.length ≤ 65536 ∧ o.Items.length ≤ 64 ∧ o.Parents.length ≤ 8 := (objE_zero.1 (V.ob o h)).2.1
theorem OkV.idx : history_index a0 = some (objM a0.Objects, true) := by
 rw [index_eq (by have := V.no; omega), decide_eq_true (idxM_single.2 V.nd), idxM_nodup V.nd]
theorem OkV.okH : OkH a0 (objM a0.Objects) := by
 refine ⟨by have := V.ne; omega, by rw [objM_keys]; exact V.nd, fun q hq => ?_, ?_⟩
 · obtain ⟨o, ho, rfl⟩ := List.mem_map.1 hq
   have := V.obj ho
   simp only [fitO, Bool.and_eq_true, decide_eq_true_eq]; omega
 · have := wgt_le (n := 73) (l := objM a0.Objects) fun q hq => by
     obtain ⟨o, ho, rfl⟩ := List.mem_map.1 hq
     have h1 := V.obj ho
     have h2 := names_len o
     show (namesO o).length ≤ 73
     omega
   have h2 := V.no
   have h3 : (objM a0.Objects).length = a0.Objects.length := by simp [objM]
   rw [h3] at this
   omega
theorem OkV.get {o : api_Object} (h : o ∈ a0.Objects) : mget inE (objM a0.Objects) o.ID = some o := mget_of inE_eq (by rw [objM_keys]; exact V.nd) (List.mem_map.2 ⟨o, h, rfl⟩)
omit V in
theorem objM_mem {l : List api_Object} {id : Int} {o : api_Object} (h : mget inE (objM l) id = some o) : o ∈ l ∧ o.ID = id := by
 obtain ⟨o', h1, h2⟩ := List.mem_map.1 (mget_some inE_eq h)
 cases h2
 exact ⟨h1, rfl⟩
omit V in
theorem kind_in {l : List api_Object} {id : Int} (h : kindM (objM l) id ≠ 0) : ∃ o ∈ l, o.ID = id ∧ kindM (objM l) id = o.Kind := by
 unfold kindM at h ⊢
 cases hg : mget inE (objM l) id with
 | none => rw [hg] at h; exact absurd rfl h
 | some o => exact ⟨o, (objM_mem hg).1, (objM_mem hg).2, rfl⟩
theorem OkV.nm {o : api_Object} (h : o ∈ a0.Objects) : nmO (objM a0.Objects) o.ID = namesO o := by
 unfold nmO; rw [V.get h]; rfl
theorem OkV.named {o : api_Object} (h : o ∈ a0.Objects) {j : Int} (hj : j ∈ namesO o) : ∃ p ∈ a0.Objects, p.ID = j := by
 have h1 := V.hr o h
 unfold hereB at h1
 simp only [Bool.and_eq_true, List.all_eq_true, Bool.or_eq_true, beq_iff_eq, bne_iff_ne] at h1
 obtain ⟨h2, h3, h4⟩ := h1
 unfold namesO at hj
 simp only [List.mem_append, List.mem_map] at hj
 have hk : kindM (objM a0.Objects) j ≠ 0 := by
   rcases hj with (hj | ⟨x, hx, rfl⟩) | hj
   · rw [h3 j hj]; decide
   · rcases h2 x hx with e | e <;> rw [e] <;> decide
   · split at hj
     · rename_i hk
       rw [List.mem_singleton.1 hj]
       rcases h4 with e | e
       · exact absurd hk e
       · rw [e]; decide
     · cases hj
 obtain ⟨p, hp, h5, _⟩ := kind_in hk
 exact ⟨p, hp, h5⟩
theorem OkV.seeds {t id : Int} (h : id ∈ seedsAt a0 t) : ∃ p ∈ a0.Objects, p.ID = id ∧ p.Kind = 3 := by
 unfold seedsAt at h
 obtain ⟨q, hq, rfl⟩ := List.mem_map.1 h
 rcases refsF_mem hq with h | ⟨e, he, hk, _, rfl⟩
 · cases h
 · have := nl_commit V.nl e he hk
   obtain ⟨p, hp, h1, h2⟩ := kind_in (l := a0.Objects) (id := e.Commit) (by rw [this]; decide)
   exact ⟨p, hp, h1, by rw [← h2]; exact this⟩
theorem OkV.rch {seeds : List Int} (hs : ∀ id ∈ seeds, ∃ p ∈ a0.Objects, p.ID = id) {id : Int} (h : Rch (objM a0.Objects) seeds id) : ∃ p ∈ a0.Objects, p.ID = id := by
 induction h with
 | seed h => exact hs _ h
 | step _ h2 ih =>
   obtain ⟨p, hp, rfl⟩ := ih
   rw [V.nm hp] at h2
   exact V.named hp h2
theorem OkV.rchAt {t id : Int} (h : Rch (objM a0.Objects) (seedsAt a0 t) id) : ∃ p ∈ a0.Objects, p.ID = id := V.rch (fun id hid => by obtain ⟨p, hp, h1, _⟩ := V.seeds hid; exact ⟨p, hp, h1⟩) h
theorem OkV.reachM (t : Int) : ∃ m, RchM (objM a0.Objects) (seedsAt a0 t) m := by
 have H := V.okH
 have hl := seedsAt_len a0 t
 have hev := V.ne
 have hz := H.sz
 obtain ⟨m, _, h⟩ := reach_iter (all := objM a0.Objects) (seeds := seedsAt a0 t) (ss := seedsAt a0 t) ⟨H.nd, H.fit, by omega⟩ fun _ => Iff.rfl
 exact ⟨m, h⟩
theorem OkV.seenM (n : Nat) : ∃ m, SeenM a0 (objM a0.Objects) n m := by
 induction n with
 | zero => exact ⟨[], seen_zero _ _⟩
 | succ n ih =>
   obtain ⟨m, hm⟩ := ih
   cases he : a0.Events[n]? with
   | none => exact ⟨m, hm.nd, fun id => by rw [hm.eq]; simp only [seenF, he]; cases seenF a0 (objM a0.Objects) n id <;> rfl⟩
   | some e =>
     cases hs : sameNext a0.Events n e.Time with
     | true => exact ⟨m, seen_skip he hs hm⟩
     | false =>
       obtain ⟨rr, hr⟩ := V.reachM e.Time
       exact ⟨_, seen_take he hs hm hr (List.Perm.refl _)⟩
omit V in
theorem sub_len {l : List Int} {os : List api_Object} (h1 : l.Nodup) (h2 : ∀ x ∈ l, ∃ p ∈ os, p.ID = x) : l.length ≤ os.length := by
 have : l ⊆ os.map (·.ID) := fun x hx => by
   obtain ⟨p, hp, rfl⟩ := h2 x hx
   exact List.mem_map_of_mem hp
 have := nodup_lenE h1 this
 simpa using this
omit V in
theorem seen_char {all : List (Int × api_Object)} {id : Int} : ∀ (n : Nat), (seenF a0 all n id = none → ∀ i, i < n → ∀ e, a0.Events[i]? = some e → sameNext a0.Events i e.Time = false → ¬Rch all (seedsAt a0 e.Time) id) ∧
   ∀ u, seenF a0 all n id = some u → ∃ i, i < n ∧ ∃ e, a0.Events[i]? = some e ∧ sameNext a0.Events i e.Time = false ∧ Rch all (seedsAt a0 e.Time) id ∧ u = e.Time ∧ ∀ j, j < i → ∀ e', a0.Events[j]? = some e' → sameNext a0.Events j e'.Time = false → ¬Rch all (seedsAt a0 e'.Time) id
 | 0 => ⟨fun _ i hi => by omega, fun u h => by simp [seenF] at h⟩
 | n + 1 => by
   obtain ⟨h1, h2⟩ := seen_char (all := all) (id := id) n
   have hd : seenF a0 all (n + 1) id = match seenF a0 all n id with
     | some t => some t
     | none => match a0.Events[n]? with
       | some e => open Classical in if sameNext a0.Events n e.Time = false ∧ Rch all (seedsAt a0 e.Time) id then some e.Time else none
       | none => none := rfl
   cases hg : seenF a0 all n id with
   | some t =>
     rw [hg] at hd
     refine ⟨fun h => (by rw [hd] at h; cases h), fun u h => ?_⟩
     rw [hd] at h
     cases h
     obtain ⟨i, hi, e, h3⟩ := h2 t hg
     exact ⟨i, by omega, e, h3⟩
   | none =>
     rw [hg] at hd
     have hno := h1 hg
     cases he : a0.Events[n]? with
     | none =>
       rw [he] at hd
       refine ⟨fun _ i hi e hie hs => ?_, fun u h => (by rw [hd] at h; cases h)⟩
       rcases Nat.lt_succ_iff_lt_or_eq.1 hi with h3 | h3
       · exact hno i h3 e hie hs
       · subst h3; rw [he] at hie; cases hie
     | some e =>
       rw [he] at hd
       simp only at hd
       by_cases hc : sameNext a0.Events n e.Time = false ∧ Rch all (seedsAt a0 e.Time) id
       · rw [if_pos hc] at hd
         refine ⟨fun h => (by rw [hd] at h; cases h), fun u h => ?_⟩
         rw [hd] at h
         cases h
         exact ⟨n, by omega, e, he, hc.1, hc.2, rfl, hno⟩
       · rw [if_neg hc] at hd
         refine ⟨fun _ i hi e' hie hs hr => ?_, fun u h => (by rw [hd] at h; cases h)⟩
         rcases Nat.lt_succ_iff_lt_or_eq.1 hi with h3 | h3
         · exact hno i h3 e' hie hs hr
         · subst h3; rw [he] at hie; cases hie; exact hc ⟨hs, hr⟩
omit V in
theorem seen_rch {n : Nat} {id u : Int} (h : seenF a0 (objM a0.Objects) n id = some u) : Rch (objM a0.Objects) (seedsAt a0 u) id := by
 obtain ⟨i, _, e, _, _, h1, rfl, _⟩ := (seen_char n).2 u h
 exact h1
theorem OkV.ever_mem {x : Int} : x ∈ everL a0 (objM a0.Objects) ↔ (seenF a0 (objM a0.Objects) a0.Events.length x).isSome = true := by
 obtain ⟨m, hm⟩ := V.seenM a0.Events.length
 rw [← everL_eq hm, sortI_mem]; exact seen_key hm x
theorem OkV.ever_nd : (everL a0 (objM a0.Objects)).Nodup := by
 obtain ⟨m, hm⟩ := V.seenM a0.Events.length
 rw [← everL_eq hm]; exact sortI_nodup hm.nd
theorem OkV.ever_in {x : Int} (h : x ∈ everL a0 (objM a0.Objects)) : ∃ p ∈ a0.Objects, p.ID = x := by
 have h1 := V.ever_mem.1 h
 obtain ⟨u, hu⟩ := Option.isSome_iff_exists.1 h1
 exact V.rchAt (seen_rch hu)
theorem OkV.ever_len : (everL a0 (objM a0.Objects)).length ≤ 400 := by
 have := sub_len V.ever_nd fun x hx => V.ever_in hx
 have := V.no
 omega
variable (hf : FitR a0)
include hf
end
theorem refsF_congr {t t' : Int} : ∀ {l : List api_RefEvent} {m : List (ByteArray × Int)}, (∀ e ∈ l, t < e.Time ↔ t' < e.Time) → refsF t m l = refsF t' m l
 | [], _, _ => rfl
 | e :: l, m, h => by
   simp only [refsF]
   have h1 := h e (by simp)
   have h2 := refsF_congr (l := l) (m := refStep m e) fun x hx => h x (by simp [hx])
   by_cases hc : t < e.Time
   · rw [if_pos hc, if_pos (h1.1 hc)]
   · rw [if_neg hc, if_neg (fun g => hc (h1.2 g)), h2]
theorem last_ix {p : Nat → Prop} : ∀ {n : Nat}, (∃ i, i < n ∧ p i) → ∃ i, i < n ∧ p i ∧ ∀ j, i < j → j < n → ¬p j
 | 0, ⟨i, hi, _⟩ => by omega
 | n + 1, ⟨i, hi, h⟩ => by
   by_cases hn : p n
   · exact ⟨n, by omega, hn, fun j h1 h2 => by omega⟩
   · rcases Nat.lt_succ_iff_lt_or_eq.1 hi with h3 | h3
     · obtain ⟨k, h4, h5, h6⟩ := last_ix (n := n) ⟨i, h3, h⟩
       refine ⟨k, by omega, h5, fun j h7 h8 => ?_⟩
       rcases Nat.lt_succ_iff_lt_or_eq.1 h8 with h9 | h9
       · exact h6 j h7 h9
       · subst h9; exact hn
     · subst h3; exact absurd h hn
theorem rch_nil {all : List (Int × api_Object)} {id : Int} (h : Rch all [] id) : False := by
 induction h with
 | seed h => cases h
 | step _ _ ih => exact ih
theorem refsF_none {t : Int} : ∀ {l : List api_RefEvent} {m : List (ByteArray × Int)}, (∀ e ∈ l, t < e.Time) → refsF t m l = m
 | [], _, _ => rfl
 | e :: l, m, h => by simp only [refsF]; rw [if_pos (h e (by simp))]
theorem rch_seen {a0 : api_Repository} {all : List (Int × api_Object)} (so : a0.Events.Pairwise fun x y => x.Time ≤ y.Time) {t id : Int} (h : Rch all (seedsAt a0 t) id) : ∃ u, seenF a0 all a0.Events.length id = some u ∧ u ≤ t := by
 by_cases hx : ∃ i, i < a0.Events.length ∧ ∃ e, a0.Events[i]? = some e ∧ e.Time ≤ t
 · obtain ⟨i, hi, ⟨e, he, ht⟩, hlast⟩ := last_ix hx
   have hge : a0.Events[i] = e := by rw [List.getElem?_eq_getElem hi] at he; exact Option.some.inj he
   have hseeds : seedsAt a0 t = seedsAt a0 e.Time := by
     unfold seedsAt
     rw [refsF_congr fun x hx => ?_]
     obtain ⟨j, hj, rfl⟩ := List.getElem_of_mem hx
     by_cases hji : i < j
     · have h1 := hlast j hji hj
       have h2 : t < a0.Events[j].Time := by
         refine Classical.byContradiction fun hn => h1 ⟨_, List.getElem?_eq_getElem hj, by omega⟩
       constructor
       · intro _; omega
       · intro _; exact h2
     · have h2 : a0.Events[j].Time ≤ e.Time := by
         rcases Nat.lt_or_eq_of_le (Nat.le_of_not_lt hji) with h3 | h3
         · rw [← hge]; exact List.pairwise_iff_getElem.1 so j i hj hi h3
         · subst h3; rw [hge]; exact Int.le_refl _
       constructor <;> intro _ <;> omega
   have hs : sameNext a0.Events i e.Time = false := by
     unfold sameNext
     cases hn : a0.Events[i + 1]? with
     | none => rfl
     | some e' =>
       have hl : i + 1 < a0.Events.length := (List.getElem?_eq_some_iff.1 hn).1
       have h1 := hlast (i + 1) (by omega) hl
       have : ¬ e'.Time ≤ t := fun g => h1 ⟨e', hn, g⟩
       simp only [beq_eq_false_iff_ne]
       omega
   rw [hseeds] at h
   cases hg : seenF a0 all a0.Events.length id with
   | none => exact absurd h ((seen_char _).1 hg i hi e he hs)
   | some u =>
     refine ⟨u, rfl, ?_⟩
     obtain ⟨k, hk, e', h1, h2, h3, rfl, h4⟩ := (seen_char _).2 u hg
     have hki : k ≤ i := by
       refine Nat.le_of_not_lt fun g => h4 i g e he hs h
     have hge' : a0.Events[k] = e' := by rw [List.getElem?_eq_getElem hk] at h1; exact Option.some.inj h1
     rcases Nat.lt_or_eq_of_le hki with h5 | h5
     · have := List.pairwise_iff_getElem.1 so k i hk hi h5
       rw [hge, hge'] at this
       omega
     · subst h5
       rw [he] at h1; cases h1; exact ht
 · exfalso
   unfold seedsAt at h
   rw [refsF_none fun e he => ?_] at h
   · exact rch_nil h
   · obtain ⟨i, hi, rfl⟩ := List.getElem_of_mem he
     refine Classical.byContradiction fun hn => hx ⟨i, hi, _, List.getElem?_eq_getElem hi, by omega⟩
end Go.Vl
set_option linter.unusedSectionVars false
namespace Go.Vl
open Go
theorem flatMap_cg {α β : Type} {f g : α → List β} : ∀ {l : List α}, (∀ x ∈ l, f x = g x) → l.flatMap f = l.flatMap g
 | [], _ => rfl
 | x :: l, h => by
   rw [List.flatMap_cons, List.flatMap_cons, h x (by simp), flatMap_cg (l := l) fun y hy => h y (by simp [hy])]
theorem group_perm {α : Type} (k : α → Int) : ∀ (bs : List Int), bs.Nodup → ∀ W : List α, (∀ x ∈ W, k x ∈ bs) → (bs.flatMap fun b => W.filter fun x => k x == b).Perm W
 | [], _, W, h => by
   cases W with
   | nil => simp
   | cons x W => exact absurd (h x (by simp)) (by simp)
 | b :: bs, hn, W, h => by
   rw [List.nodup_cons] at hn
   rw [List.flatMap_cons]
   have e : (bs.flatMap fun c => W.filter fun x => k x == c) = bs.flatMap fun c => (W.filter fun x => !(k x == b)).filter fun x => k x == c := by
     refine flatMap_cg fun c hc => ?_
     rw [List.filter_filter]
     refine List.filter_congr fun x _ => ?_
     by_cases hx : k x = c
     · have : k x ≠ b := fun e => hn.1 (by rw [← e, hx]; exact hc)
       simp [hx, show ¬ c = b from fun e => this (hx.trans e)]
     · simp [hx]
   rw [e]
   refine (List.Perm.append_left _ (group_perm k bs hn.2 _ fun x hx => ?_)).trans (List.filter_append_perm ..)
   obtain ⟨h1, h2⟩ := List.mem_filter.1 hx
   rcases List.mem_cons.1 (h x h1) with h3 | h3
   · simp [h3] at h2
   · exact h3
theorem placeAt_get (t : Int) (L : List (Int × List api_Place)) (x : api_Item) (id : Int) : (mget inE (placeAt t L x) id).getD [] = (mget inE L id).getD [] ++ if x.ID = id then [⟨0, x.Name, t⟩] else [] := by
 unfold placeAt
 obtain ⟨h1, h2⟩ := mget_mset inE_eq L x.ID ((mget inE L x.ID).getD [] ++ [⟨0, x.Name, t⟩]) id
 by_cases h : x.ID = id
 · subst h; rw [h1 rfl, if_pos rfl]; rfl
 · rw [h2 (Ne.symm h), if_neg h, List.append_nil]
theorem placeF_get (t : Int) : ∀ (l : List api_Item) (L : List (Int × List api_Place)) (id : Int), (mget inE (l.foldl (placeAt t) L) id).getD [] = (mget inE L id).getD [] ++ (l.filter fun x => x.ID == id).map fun x => ⟨0, x.Name, t⟩
 | [], L, id => by simp
 | x :: l, L, id => by
   rw [List.foldl_cons, placeF_get t l, placeAt_get, List.filter_cons, List.append_assoc]
   by_cases h : x.ID = id <;> simp [h]
theorem placeC_get (sf : Int → Int) (lv : Int → List api_Item) : ∀ (cs : List Int) (L : List (Int × List api_Place)) (id : Int), (mget inE (cs.foldl (fun L c => (lv c).foldl (placeAt (sf c)) L) L) id).getD [] = (mget inE L id).getD [] ++ cs.flatMap fun c => ((lv c).filter fun x => x.ID == id).map fun x => ⟨0, x.Name, sf c⟩
 | [], L, id => by simp
 | c :: cs, L, id => by
   rw [List.foldl_cons, placeC_get sf lv cs, placeF_get, List.flatMap_cons, List.append_assoc]
theorem contP (objs : List (Int × api_Object)) (sf : Int → Int) (lv : Int → List api_Item) : ∀ (cs : List Int), (∀ c ∈ cs, ∀ left : Int, ((lv c).length : Int) ≤ left → left ≤ 2000 → walk_paths objs c left = some (lv c, true)) → ∀ (left : Int) (tot : Nat) (L : List (Int × List api_Place)), (((cs.map fun c => (lv c).length).sum : Nat) : Int) ≤ left → left ≤ 2000 → tot + (cs.map fun c => (lv c).length).sum ≤ 200000000 →
   contPlaces objs sf cs left tot L = some (some (cs.foldl (fun L c => (lv c).foldl (placeAt (sf c)) L) L))
 | [], _, _, _, _, _, _, _ => rfl
 | c :: cs, hw, left, tot, L, h1, h2, h3 => by
   rw [List.map_cons, List.sum_cons] at h1 h3
   rw [contPlaces, hw c (by simp) left (by omega) h2]
   simp only [Option.bind_some]
   rw [if_neg (by simp), ck_t (by omega)]
   simp only [Option.bind_some]
   rw [w64 (by omega) (by omega)]
   exact contP objs sf lv cs (fun c hc => hw c (by simp [hc])) _ _ _ (by omega) (by omega) (by omega)
theorem ba_inj {a b c d : ByteArray} (hs : a.size = b.size) (h : a ++ c = b ++ d) : a = b ∧ c = d := by
 have h : (a ++ c).data.toList = (b ++ d).data.toList := by rw [h]
 rw [ByteArray.data_append, ByteArray.data_append, Array.toList_append, Array.toList_append] at h
 have := List.append_inj h (by rw [Array.length_toList, Array.length_toList]; exact hs)
 exact ⟨ByteArray.ext (Array.toList_inj.1 this.1), ByteArray.ext (Array.toList_inj.1 this.2)⟩
theorem kid_item {l : List api_Object} {id : Int} {x : api_Item} (h : x ∈ kidI (cleanM (objM l)) id) : ∃ o ∈ l, o.ID = id ∧ x ∈ o.Items := by
 unfold kidI at h
 rw [mget_clean] at h
 cases hg : mget inE (objM l) id with
 | none => rw [hg] at h; cases h
 | some o =>
   rw [hg] at h
   obtain ⟨o', ho', e⟩ := List.mem_map.1 (mgetI_mem hg)
   cases e
   exact ⟨_, ho', rfl, (List.mem_filter.1 h).1⟩
section
variable {r : api_Repository} (M : MadeR r)
include M
theorem MadeR.leaf {seeds : List Int} : ∀ (n : Nat) (id : Int) (q : ByteArray × Int), q ∈ leavesN (cleanM (objM r.Objects)) n id → Rch (objM r.Objects) seeds id → Rch (objM r.Objects) seeds q.2 ∧ ∃ o ∈ r.Objects, o.ID = q.2 ∧ o.Kind = 1
 | 0, _, _, h, _ => by simp [leavesN] at h
 | n + 1, id, q, h, hr => by
   simp only [leavesN, List.mem_flatMap] at h
   obtain ⟨x, hx, h⟩ := h
   obtain ⟨o, ho, rfl, hxo⟩ := kid_item hx
   have hstep : Rch (objM r.Objects) seeds x.ID := .step hr (by
     rw [M.ok.nm ho]
     unfold namesO
     simp only [List.mem_append, List.mem_map]
     exact .inl (.inr ⟨x, hxo, rfl⟩))
   split at h
   · obtain ⟨q', hq', rfl⟩ := List.mem_map.1 h
     exact MadeR.leaf n x.ID q' hq' hstep
   · rename_i hk
     rw [List.mem_singleton] at h
     subst h
     refine ⟨hstep, ?_⟩
     cases M.o.obj o ho with
     | blob h1 h2 h3 => rw [h3] at hxo; cases hxo
     | commit h1 h2 h3 => rw [h3] at hxo; cases hxo
     | tree h1 h2 h3 h4 =>
       rcases (h4 x hxo).2 with ⟨o', h5, h6, h7⟩ | ⟨o', h5, h6, h7⟩
       · exact ⟨o', h5, h6, h7⟩
       · exact absurd (by rw [← h6, clean_kid M.o.nd h5]; exact h7) hk
theorem MadeR.dag : Dag (cleanM (objM r.Objects)) := by
 refine clean_dag fun o ho => ?_
 cases M.o.obj o ho with
 | blob h1 h2 h3 => rw [h3]; simp
 | tree h1 h2 h3 h4 => exact ⟨h3, fun x hx => ⟨by rcases (h4 x hx).2 with h | h <;> exact (M.o.le h).1, (h4 x hx).1⟩⟩
 | commit h1 h2 h3 => rw [h3]; simp
theorem MadeR.ctree {c : api_Object} (hc : c ∈ r.Objects) (hk : c.Kind = 3) : kidK (cleanM (objM r.Objects)) c.Tree = 2 ∧ 0 ≤ c.Tree ∧ c.Tree ≤ 400 := by
 cases M.o.obj c hc with
 | blob h1 => omega
 | tree h1 => omega
 | commit h1 h2 h3 h4 h5 =>
   have h6 := M.o.le h5
   have := M.lo
   obtain ⟨o, ho, e1, e2⟩ := h5
   refine ⟨?_, by omega, by omega⟩
   rw [← e1, clean_kid M.o.nd ho]; exact e2
end
theorem digs : ∀ k : Nat, k ≤ 13 → (decS (k : Int)).size ≤ 10 ∧ 58 ∉ (decS (k : Int)).data.toList := by decide +kernel
noncomputable def lvO (r : api_Repository) (c : api_Object) : List api_Item := (sortIt ((leavesN (cleanM (objM r.Objects)) (c.Tree.toNat + 1) c.Tree).map fun q => ⟨q.1, q.2⟩)).map (pre (decS c.ID ++ ⟨#[58]⟩))
noncomputable def getO (r : api_Repository) (id : Int) : api_Object := (mget inE (objM r.Objects) id).getD ⟨0, 0, [], [], 0, [], ByteArray.empty, 0⟩
noncomputable def lvC (r : api_Repository) (id : Int) : List api_Item := lvO r (getO r id)
section
variable {r : api_Repository} (M : MadeR r) {c : api_Object} (hc : c ∈ r.Objects)
include M hc
theorem MadeR.obj_of : getO r c.ID = c := by unfold Go.Vl.getO; rw [objM_get M.o.nd hc]; rfl
theorem MadeR.idb : 1 ≤ c.ID ∧ c.ID ≤ 13 := by
 have := M.o.id_le hc
 have := M.lo
 omega
theorem MadeR.dg : (decS c.ID).size ≤ 10 ∧ 58 ∉ (decS c.ID).data.toList := by
 have h := M.idb hc
 have := Go.Vl.digs c.ID.toNat (by omega)
 rw [show ((c.ID.toNat : Nat) : Int) = c.ID by omega] at this
 exact this
variable (hk : c.Kind = 3)
include hk
theorem MadeR.lv_len : (lvO r c).length ≤ 81 := by
 unfold lvO
 rw [List.length_map, sortIt_len, List.length_map]
 exact Nat.le_trans (leaves_len M.dag _ _ (M.ctree hc hk).1) (Nat.le_trans (Nat.pow_le_pow_right (by decide) (Nat.le_trans (clean_trees _) M.tn)) (by decide))
theorem MadeR.lv_mem {x : api_Item} : x ∈ lvO r c ↔ ∃ q ∈ leavesN (cleanM (objM r.Objects)) (c.Tree.toNat + 1) c.Tree, x = ⟨(decS c.ID ++ ⟨#[58]⟩) ++ q.1, q.2⟩ := by
 unfold lvO sortIt
 constructor
 · intro h
   obtain ⟨y, hy, rfl⟩ := List.mem_map.1 h
   rw [List.mem_mergeSort] at hy
   obtain ⟨q, hq, rfl⟩ := List.mem_map.1 hy
   exact ⟨q, hq, rfl⟩
 · rintro ⟨q, hq, rfl⟩
   exact List.mem_map.2 ⟨⟨q.1, q.2⟩, List.mem_mergeSort.2 (List.mem_map.2 ⟨q, hq, rfl⟩), rfl⟩
theorem MadeR.paths (left : Int) (h1 : ((lvO r c).length : Int) ≤ left) (h2 : left ≤ 2000) : walk_paths (cleanM (objM r.Objects)) c.ID left = some (lvO r c, true) := by
 have h58 : (⟨#[58]⟩ : ByteArray).size = 1 := rfl
 have gc : mget inE (cleanM (objM r.Objects)) c.ID = some { c with Items := liveIt (objM r.Objects) c.Items } := by rw [mget_clean, objM_get M.o.nd hc]; rfl
 have hid := M.idb hc
 obtain ⟨hs, _⟩ := M.dg hc
 obtain ⟨hT, h0, h400⟩ := M.ctree hc hk
 have D := M.dag
 unfold walk_paths
 rw [itoa_some (by omega)]
 simp only [Option.bind_some]
 rw [ck_t (by omega), gc]
 simp only [Option.bind_some, Option.getD_some]
 have hlen : ((leavesN (cleanM (objM r.Objects)) (c.Tree.toNat + 1) c.Tree).length : Int) ≤ left := by
   unfold lvO at h1
   rw [List.length_map, sortIt_len, List.length_map] at h1
   exact h1
 unfold lvO
 generalize cleanM (objM r.Objects) = N at *
 have htr := tree_of (tree_leaves D (c.Tree.toNat + 1) c.Tree (by omega) (decS c.ID ++ ⟨#[58]⟩) left [] hlen (by simp; omega) (by rw [ByteArray.size_append]; omega))
 rw [htr]
 simp only [Option.bind_some, List.nil_append]
 rw [if_neg (by simp)]
 have hm : ((leavesN N (c.Tree.toNat + 1) c.Tree).map fun q => (⟨(decS c.ID ++ ⟨#[58]⟩) ++ q.1, q.2⟩ : api_Item)) = ((leavesN N (c.Tree.toNat + 1) c.Tree).map fun q => (⟨q.1, q.2⟩ : api_Item)).map (pre (decS c.ID ++ ⟨#[58]⟩)) := by
   rw [List.map_map]; rfl
 rw [hm, sort_len (by simp; omega) (fun x hx y hy e => by
   obtain ⟨x', hx', rfl⟩ := List.mem_map.1 hx
   obtain ⟨y', hy', rfl⟩ := List.mem_map.1 hy
   obtain ⟨q, hq, rfl⟩ := List.mem_map.1 hx'
   obtain ⟨s, hr, rfl⟩ := List.mem_map.1 hy'
   simp only [pre] at e ⊢
   have he : q.1 = s.1 := (ba_inj rfl e).2
   rw [he, leaves_fn D _ _ q s hq hr he]), sortIt_map]
 simp only [Option.bind_some]
end
noncomputable def sfC (r : api_Repository) (c : Int) : Int := (seenF r (objM r.Objects) r.Events.length c).getD 0
theorem fold_app {α β : Type} (f : α → β) : ∀ (l : List α) (s : List β), l.foldl (fun s x => s ++ [f x]) s = s ++ l.map f
 | [], s => by simp
 | x :: l, s => by rw [List.foldl_cons, fold_app f l]; simp
section
variable {r : api_Repository} (M : MadeR r) (ht : ∀ e ∈ r.Events, e.Time ≤ 20)
include M
include ht
end
theorem find_eq {r : api_Repository} (M : MadeR r) {o : api_Object} (ho : o ∈ r.Objects) : history_Find r o.ID = some (o, true) := by
 have h := M.ok.obj ho
 unfold history_Find
 rw [ok_valid M.fit M.ok, M.ok.idx]
 simp only [Option.bind_some]
 rw [if_neg (by decide), objM_get M.o.nd ho]
 simp only [Option.getD_some, Option.isSome_some]
 unfold object_Copied slices_Clone_byte slices_Clone_api_Item slices_Clone_int
 rw [ck_t (by omega), ck_t (by omega), ck_t (by omega)]
 rfl
end Go.Vl
