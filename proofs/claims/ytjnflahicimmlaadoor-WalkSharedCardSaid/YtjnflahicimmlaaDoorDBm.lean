/- Plain functions that mirror functions of the given program. Conditions: none. -/
import Derived.Test.YtjnflahicimmlaaDoorDAm
import Derived.Test.YtjnflahicimmlaaDoorDz
set_option linter.unusedSimpArgs false
set_option linter.unusedVariables false
namespace Go.Vl
open Go
noncomputable def slices_Clone_api_Item (a0 : List api_Item) : Option (List api_Item) :=
  (ck ((a0).length ≤ 268435456)).bind fun _ =>
  some a0
noncomputable def internal_strconv_log10Pow2 (a0 : Int) : Option (Int) :=
  some (((IntKind.i64.wrap (a0 * 78913))).fdiv (2 ^ (min 18 IntKind.i64.bits)))
noncomputable def internal_strconv_bool2_int (a0 : Bool) : Option (Int) :=
  if a0 = true then
    some 1
  else
    some 0
noncomputable def internal_strconv_isPowerOfTwo (a0 : Int) : Option (Bool) :=
  some ((bAnd .i64 a0 (IntKind.i64.wrap (a0 - 1))) == 0)
noncomputable def slices_xorshift_Next (a0 : Int) : Option (Int × Int) :=
  some (bXor .u64 (bXor .u64 (bXor .u64 a0 (IntKind.u64.wrap (a0 * 2 ^ (min 13 IntKind.u64.bits)))) (((bXor .u64 a0 (IntKind.u64.wrap (a0 * 2 ^ (min 13 IntKind.u64.bits))))).fdiv (2 ^ (min 7 IntKind.u64.bits)))) (IntKind.u64.wrap ((bXor .u64 (bXor .u64 a0 (IntKind.u64.wrap (a0 * 2 ^ (min 13 IntKind.u64.bits)))) (((bXor .u64 a0 (IntKind.u64.wrap (a0 * 2 ^ (min 13 IntKind.u64.bits))))).fdiv (2 ^ (min 7 IntKind.u64.bits)))) * 2 ^ (min 17 IntKind.u64.bits))), bXor .u64 (bXor .u64 (bXor .u64 a0 (IntKind.u64.wrap (a0 * 2 ^ (min 13 IntKind.u64.bits)))) (((bXor .u64 a0 (IntKind.u64.wrap (a0 * 2 ^ (min 13 IntKind.u64.bits))))).fdiv (2 ^ (min 7 IntKind.u64.bits)))) (IntKind.u64.wrap ((bXor .u64 (bXor .u64 a0 (IntKind.u64.wrap (a0 * 2 ^ (min 13 IntKind.u64.bits)))) (((bXor .u64 a0 (IntKind.u64.wrap (a0 * 2 ^ (min 13 IntKind.u64.bits))))).fdiv (2 ^ (min 7 IntKind.u64.bits)))) * 2 ^ (min 17 IntKind.u64.bits))))
noncomputable def cmp_isNaN_string (a0 : ByteArray) : Option (Bool) :=
  some (!((a0).toList == (a0).toList))
noncomputable def cmp_Compare_string (a0 : ByteArray) (a1 : ByteArray) : Option (Int) :=
  (cmp_isNaN_string a0).bind fun y1 =>
  (cmp_isNaN_string a1).bind fun y2 =>
  if y1 = true then
    if y2 = true then
      some 0
    else
      some (-1)
  else
  if y2 = true then
    some 1
  else
  if (Op.bytesLess (a0).toList (a1).toList) = true then
    some (-1)
  else
  if (!(Op.bytesLess (a0).toList (a1).toList || (a0).toList == (a1).toList)) = true then
    some 1
  else
    some 0
noncomputable def walk_paths_1 (a0 : api_Item) (a1 : api_Item) : Option (Int) :=
  (cmp_Compare_string a0.Name a1.Name).bind fun y1 =>
  some y1
noncomputable def walk_walker_tree_o0_2_l0 (a0 : walk_walker) (a2 : Int) (a1 : ByteArray) (f0 : walk_walker → ByteArray → Int → Option (Bool × walk_walker)) (s2 : Int × (List (Int × api_Object)) × Int × (List api_Item)) : Option (Lp (Int × (List (Int × api_Object)) × Int × (List api_Item)) (((List (Int × api_Object)) × Int × (List api_Item)) ⊕ (Bool × walk_walker))) :=
  if (decide (s2.1 < ((((mget inE a0.objects a2).getD (⟨0, 0, [], [], 0, [], ByteArray.empty, 0⟩ : api_Object)).Items).length : Int))) = true then
    (idx (((mget inE a0.objects a2).getD (⟨0, 0, [], [], 0, [], ByteArray.empty, 0⟩ : api_Object)).Items) s2.1).bind fun x3 =>
    (ck ((a1).size + (x3.Name).size ≤ 9223372036854775807)).bind fun _ =>
    if ((((mget inE s2.2.1 x3.ID).getD (⟨0, 0, [], [], 0, [], ByteArray.empty, 0⟩ : api_Object)).Kind) == 2) = true then
      (ck (((a1 ++ x3.Name)).size + ((⟨#[47]⟩ : ByteArray)).size ≤ 9223372036854775807)).bind fun _ =>
      (f0 (⟨s2.2.1, s2.2.2.1, s2.2.2.2⟩ : walk_walker) ((a1 ++ x3.Name) ++ (⟨#[47]⟩ : ByteArray)) x3.ID).bind fun y4 =>
      if (!y4.1) = true then
        some (.out (.inr (false, y4.2)))
      else
        some (.go (IntKind.i64.wrap (s2.1 + 1), y4.2.objects, y4.2.left, y4.2.out))
    else
    if (decide ((IntKind.i64.wrap (s2.2.2.1 - 1)) < 0)) = true then
      some (.out (.inr (false, (⟨s2.2.1, IntKind.i64.wrap (s2.2.2.1 - 1), s2.2.2.2⟩ : walk_walker))))
    else
    (ck ((s2.2.2.2).length + ([(⟨(a1 ++ x3.Name), x3.ID⟩ : api_Item)]).length ≤ 268435456)).bind fun _ =>
    some (.go (IntKind.i64.wrap (s2.1 + 1), s2.2.1, IntKind.i64.wrap (s2.2.2.1 - 1), (s2.2.2.2 ++ [(⟨(a1 ++ x3.Name), x3.ID⟩ : api_Item)])))
  else
    some (.out (.inl (s2.2.1, s2.2.2.1, s2.2.2.2)))
noncomputable def walk_walker_tree_o0_2R (f0 : walk_walker → ByteArray → Int → Option (Bool × walk_walker)) (a0 : walk_walker) (a1 : ByteArray) (a2 : Int) : Option (Bool × walk_walker) :=
  (iter (walk_walker_tree_o0_2_l0 a0 a2 a1 f0) (0, a0.objects, a0.left, a0.out)).bind fun q6 =>
  match q6 with
  | .inl v1 =>
    some (true, (⟨v1.1, v1.2.1, v1.2.2⟩ : walk_walker))
  | .inr r5 =>
    some r5
noncomputable def walk_walker_tree_o0_2N : Nat → walk_walker → ByteArray → Int → Option (Bool × walk_walker)
  | 0 => fun _ _ _ => none
  | n + 1 => walk_walker_tree_o0_2R (walk_walker_tree_o0_2N n)
noncomputable def walk_walker_tree_o0_2 (a0 : walk_walker) (a1 : ByteArray) (a2 : Int) : Option (Bool × walk_walker) :=
  @dite _ (∃ n r, walk_walker_tree_o0_2N n a0 a1 a2 = some r) (Classical.propDecidable _) (fun h => walk_walker_tree_o0_2N (Classical.choose h) a0 a1 a2) (fun _ => none)
noncomputable def walk_paths (a0 : List (Int × api_Object)) (a1 : Int) (a2 : Int) : Option ((List api_Item) × Bool) :=
  (strconv_Itoa a1).bind fun y1 =>
  (ck ((y1).size + ((⟨#[58]⟩ : ByteArray)).size ≤ 9223372036854775807)).bind fun _ =>
  (walk_walker_tree_o0_2 (⟨a0, a2, []⟩ : walk_walker) (y1 ++ (⟨#[58]⟩ : ByteArray)) (((mget inE a0 a1).getD (⟨0, 0, [], [], 0, [], ByteArray.empty, 0⟩ : api_Object)).Tree)).bind fun y2 =>
  if (!y2.1) = true then
    some ([], false)
  else
  (slices_SortFunc_api_Item_vec0_at_walk_paths_1 y2.2.out).bind fun y3 =>
  some (y3, true)
noncomputable def walk_Paths (a0 : api_Repository) (a1 : Int) : Option ((List api_Item) × Int) :=
  (history_Valid a0).bind fun y1 =>
  if (y1 != 0) = true then
    some ([], y1)
  else
  (walk_index a0).bind fun y2 =>
  if ((((mget inE y2 a1).getD (⟨0, 0, [], [], 0, [], ByteArray.empty, 0⟩ : api_Object)).Kind) != 3) = true then
    some ([], 6)
  else
  (walk_paths y2 a1 2000).bind fun y3 =>
  if (!y3.2) = true then
    some ([], 3)
  else
    some (y3.1, 0)
noncomputable def law16_awake  : Option (Bool) :=
  (walk_Paths (⟨[(⟨3, 1, [], [], 0, [], ByteArray.empty, 0⟩ : api_Object), (⟨4, 2, [], [(⟨(⟨#[97]⟩ : ByteArray), 3⟩ : api_Item)], 0, [], ByteArray.empty, 0⟩ : api_Object), (⟨5, 2, [], [(⟨(⟨#[100]⟩ : ByteArray), 4⟩ : api_Item)], 0, [], ByteArray.empty, 0⟩ : api_Object), (⟨7, 3, [], [], 5, [], (⟨#[120]⟩ : ByteArray), 0⟩ : api_Object)], []⟩ : api_Repository) 7).bind fun y1 =>
  Option.bind (
    if (y1.2 == 0) = true then
      if (((y1.1).length : Int) == 1) = true then
        (idx y1.1 0).bind fun x3 =>
        some (((x3.Name).toList == ((⟨#[55, 58, 100, 47, 97]⟩ : ByteArray)).toList) && (x3.ID == 3))
      else
        some false
    else
      some false) fun v2 =>
  some v2
noncomputable def law16_WalkMany_l0 (a0 : Int) (s8 : Int × (List api_Object)) : Option (Lp (Int × (List api_Object)) (List api_Object)) :=
  if (decide (s8.1 < (IntKind.i64.wrap (1 + (((bAnd .i64 a0 255)).tmod 12))))) = true then
    (ck ((s8.2).length + ([(⟨IntKind.i64.wrap (3 + s8.1), 2, [], [(⟨(⟨#[120]⟩ : ByteArray), IntKind.i64.wrap (2 + s8.1)⟩ : api_Item), (⟨(⟨#[121]⟩ : ByteArray), IntKind.i64.wrap (2 + s8.1)⟩ : api_Item)], 0, [], ByteArray.empty, 0⟩ : api_Object)]).length ≤ 268435456)).bind fun _ =>
    some (.go (IntKind.i64.wrap (s8.1 + 1), (s8.2 ++ [(⟨IntKind.i64.wrap (3 + s8.1), 2, [], [(⟨(⟨#[120]⟩ : ByteArray), IntKind.i64.wrap (2 + s8.1)⟩ : api_Item), (⟨(⟨#[121]⟩ : ByteArray), IntKind.i64.wrap (2 + s8.1)⟩ : api_Item)], 0, [], ByteArray.empty, 0⟩ : api_Object)])))
  else
    some (.out s8.2)
noncomputable def law16_WalkMany (a0 : Int) : Option (Bool) :=
  (some ([(⟨1, 1, [], [], 0, [], ByteArray.empty, 0⟩ : api_Object), (⟨2, 2, [], [(⟨(⟨#[97]⟩ : ByteArray), 1⟩ : api_Item)], 0, [], ByteArray.empty, 0⟩ : api_Object)] : List api_Object)).bind fun l1 =>
  (iter (law16_WalkMany_l0 a0) (0, l1)).bind fun v2 =>
  (ck ((v2).length + ([(⟨99, 3, [], [], IntKind.i64.wrap (2 + (IntKind.i64.wrap (1 + (((bAnd .i64 a0 255)).tmod 12)))), [], (⟨#[97]⟩ : ByteArray), 0⟩ : api_Object)]).length ≤ 268435456)).bind fun _ =>
  (walk_Paths (⟨(v2 ++ [(⟨99, 3, [], [], IntKind.i64.wrap (2 + (IntKind.i64.wrap (1 + (((bAnd .i64 a0 255)).tmod 12)))), [], (⟨#[97]⟩ : ByteArray), 0⟩ : api_Object)]), []⟩ : api_Repository) 99).bind fun y3 =>
  (ck (¬ (IntKind.u64.wrap (IntKind.i64.wrap (1 + (((bAnd .i64 a0 255)).tmod 12)))) < 0)).bind fun _ =>
  if (decide (2000 < (IntKind.i64.wrap (1 * 2 ^ (min (Int.toNat (IntKind.u64.wrap (IntKind.i64.wrap (1 + (((bAnd .i64 a0 255)).tmod 12))))) IntKind.i64.bits))))) = true then
    Option.bind (
      if (y3.2 == 3) = true then
        if (((y3.1).length : Int) == 0) = true then
          (law16_awake).bind fun y5 =>
          some y5
        else
          some false
      else
        some false) fun v4 =>
    some v4
  else
  Option.bind (
    if (y3.2 == 0) = true then
      (ck (¬ (IntKind.u64.wrap (IntKind.i64.wrap (1 + (((bAnd .i64 a0 255)).tmod 12)))) < 0)).bind fun _ =>
      if (((y3.1).length : Int) == (IntKind.i64.wrap (1 * 2 ^ (min (Int.toNat (IntKind.u64.wrap (IntKind.i64.wrap (1 + (((bAnd .i64 a0 255)).tmod 12))))) IntKind.i64.bits)))) = true then
        (law16_awake).bind fun y7 =>
        some y7
      else
        some false
    else
      some false) fun v6 =>
  some v6
noncomputable def law16_WalkShared_l2  (s13 : ByteArray) : Option (Lp ByteArray ByteArray) :=
  Option.bind (
    if (decide (0 < ((s13).size : Int))) = true then
      (sidx s13 0).bind fun x15 =>
      some (x15 != 58)
    else
      some false) fun v14 =>
  if v14 = true then
    (ck (0 ≤ 1 ∧ 1 ≤ (((s13).size : Nat) : Int) ∧ (((s13).size : Nat) : Int) ≤ (((s13).size : Nat) : Int))).bind fun _ =>
    some (.go (ByteArray.extract s13 1 (s13).size))
  else
    some (.out s13)
noncomputable def law16_WalkShared_l1 (y3 : (List api_Item) × Int) (y4 : (List api_Item) × Int) (s8 : Int) : Option (Lp Int (Unit ⊕ Bool)) :=
  if (decide (s8 < ((y3.1).length : Int))) = true then
    (idx y3.1 s8).bind fun x9 =>
    (idx y4.1 s8).bind fun x10 =>
    (iter (law16_WalkShared_l2) x9.Name).bind fun v11 =>
    Option.bind (
      if (decide (((x10.Name).size : Int) < 4)) = true then
        some true
      else
      (ck (0 ≤ 0 ∧ 0 ≤ 3 ∧ 3 ≤ (((x10.Name).size : Nat) : Int))).bind fun _ =>
      if (!(((ByteArray.extract x10.Name 0 3)).toList == ((⟨#[49, 48, 48]⟩ : ByteArray)).toList)) = true then
        some true
      else
      (ck (0 ≤ 3 ∧ 3 ≤ (((x10.Name).size : Nat) : Int) ∧ (((x10.Name).size : Nat) : Int) ≤ (((x10.Name).size : Nat) : Int))).bind fun _ =>
      if (!(((ByteArray.extract x10.Name 3 (x10.Name).size)).toList == (v11).toList)) = true then
        some true
      else
        some (x9.ID != x10.ID)) fun v12 =>
    if v12 = true then
      some (.out (.inr false))
    else
      some (.go (IntKind.i64.wrap (s8 + 1)))
  else
    some (.out (.inl ()))
noncomputable def law16_WalkShared_l0 (y1 : api_Repository × make_Tape) (s18 : Int × Int × Int × (List Int) × (List api_Item) × Int × (List Int) × ByteArray × Int) : Option (Lp (Int × Int × Int × (List Int) × (List api_Item) × Int × (List Int) × ByteArray × Int) (Int × Int × (List Int) × (List api_Item) × Int × (List Int) × ByteArray × Int)) :=
  if (decide (s18.1 < ((y1.1.Objects).length : Int))) = true then
    (idx y1.1.Objects s18.1).bind fun x19 =>
    if (x19.Kind == 3) = true then
      some (.go (IntKind.i64.wrap (s18.1 + 1), x19.ID, x19.Kind, x19.Data, x19.Items, x19.Tree, x19.Parents, x19.Author, x19.Time))
    else
      some (.go (IntKind.i64.wrap (s18.1 + 1), s18.2.1, s18.2.2.1, s18.2.2.2.1, s18.2.2.2.2.1, s18.2.2.2.2.2.1, s18.2.2.2.2.2.2.1, s18.2.2.2.2.2.2.2.1, s18.2.2.2.2.2.2.2.2))
  else
    some (.out (s18.2.1, s18.2.2.1, s18.2.2.2.1, s18.2.2.2.2.1, s18.2.2.2.2.2.1, s18.2.2.2.2.2.2.1, s18.2.2.2.2.2.2.2.1, s18.2.2.2.2.2.2.2.2))
noncomputable def law16_WalkShared (a0 : List Int) : Option (Bool) :=
  (make_Repository (⟨a0, 0⟩ : make_Tape)).bind fun y1 =>
  (iter (law16_WalkShared_l0 y1) (0, 0, 0, [], [], 0, [], ByteArray.empty, 0)).bind fun v2 =>
  (ck ((([] : List api_Object)).length + (y1.1.Objects).length ≤ 268435456)).bind fun _ =>
  (ck (((([] : List api_Object) ++ y1.1.Objects)).length + ([(⟨100, v2.2.1, v2.2.2.1, v2.2.2.2.1, v2.2.2.2.2.1, v2.2.2.2.2.2.1, v2.2.2.2.2.2.2.1, v2.2.2.2.2.2.2.2⟩ : api_Object)]).length ≤ 268435456)).bind fun _ =>
  (walk_Paths (⟨((([] : List api_Object) ++ y1.1.Objects) ++ [(⟨100, v2.2.1, v2.2.2.1, v2.2.2.2.1, v2.2.2.2.2.1, v2.2.2.2.2.2.1, v2.2.2.2.2.2.2.1, v2.2.2.2.2.2.2.2⟩ : api_Object)]), y1.1.Events⟩ : api_Repository) v2.1).bind fun y3 =>
  (walk_Paths (⟨((([] : List api_Object) ++ y1.1.Objects) ++ [(⟨100, v2.2.1, v2.2.2.1, v2.2.2.2.1, v2.2.2.2.2.1, v2.2.2.2.2.2.1, v2.2.2.2.2.2.2.1, v2.2.2.2.2.2.2.2⟩ : api_Object)]), y1.1.Events⟩ : api_Repository) 100).bind fun y4 =>
  (some ((y3.2 != 0) || ((y4.2 != 0) || (((y3.1).length : Int) != ((y4.1).length : Int))))).bind fun v5 =>
  if v5 = true then
    some false
  else
  (iter (law16_WalkShared_l1 y3 y4) 0).bind fun q17 =>
  match q17 with
  | .inl v6 =>
    (law16_awake).bind fun y7 =>
    some y7
  | .inr r16 =>
    some r16
noncomputable def slices_Clone_int (a0 : List Int) : Option (List Int) :=
  (ck ((a0).length ≤ 268435456)).bind fun _ =>
  some a0
end Go.Vl
