/- exposure.Since at the directory and the estate of the check. Conditions: none. -/
import Derived.Test.YtbnfogbfphakmaaGreatDoorLAx
import Derived.Test.YtbnfogbfphakmaaGreatDoorPlG
import Derived.Test.YtbnfogbfphakmaaGreatDoorLhx
import Derived.Test.YtbnfogbfphakmaaGreatDoorVmZh
set_option linter.unusedSimpArgs false
set_option linter.unusedVariables false
namespace Go.Vl
open Go
theorem itS {σ ε : Type} {body : σ → Option (Lp σ ε)} {s : σ} {e : ε} (n : Nat) (h : itN body n s = some e) : iter body s = some e := EL.2 ⟨n, h⟩
abbrev dS : AI := ⟨[1], []⟩
abbrev eS : AJ := ⟨16, [⟨3, 1, 0, 0, 0, 0, 0⟩, ⟨5, 5, 0, 0, 0, 7, 0⟩]⟩
theorem WT : directory_Check dS = some 0 := by
  unfold directory_Check sYContainsFunc_int_at_directory_Check_1 sYIndexFunc_int_at_directory_Check_1
  rw [show iter (sYIndexFunc_int_at_directory_Check_1_l0 dS.Kinds) 0 = some (.inl ()) from itS 5 (by kernel_rfl), show iter (directory_Check_l0 dS) (0, 0) = some (.inl ()) from itS 5 (by kernel_rfl)]
  kernel_rfl
theorem Mp : access_Check eS = some 0 := by
  unfold access_Check
  rw [show iter (access_Check_l0 eS) (0, 0) = some (.inl ()) from itS 5 (by kernel_rfl)]
  kernel_rfl
theorem Zb : directory_known dS 0 = some true := by
  unfold directory_known
  rw [WT]
  kernel_rfl
theorem ZS : access_known eS 0 = some true := by
  unfold access_known
  rw [Mp]
  kernel_rfl
theorem Yo : exposure_times dS eS = some [3, 5] := by
  unfold exposure_times access_Times_own0
  have hs : sYSort_int_vec0 [3, 5] = some [3, 5] := by
    unfold sYSort_int_vec0
    rw [Cn (by simp)]
    exact congrArg some (Mo (l := [3, 5]) (by simp))
  rw [Mp, show iter (access_Times_own0_l0 eS) (0, []) = some [3, 5] from itS 5 (by kernel_rfl)]
  simp only [Option.bind_some, show ((0 : Int) != 0) = false from rfl, Bool.false_eq_true, if_false, show sYCompact_int_eat0_own0 [3, 5] = some [3, 5] from by kernel_rfl]
  rw [show iter (exposure_times_l0 dS) (0, [3, 5]) = some [3, 5] from itS 5 (by kernel_rfl)]
  simp only [Option.bind_some]
  rw [hs]
  simp only [Option.bind_some, show sYCompact_int_eat0_own0 [3, 5] = some [3, 5] from by kernel_rfl]
theorem atS : copies_at eS 3 = some (List.replicate 16 0) ∧ copies_at eS 5 = some (128 :: List.replicate 15 0) := by
  constructor
  · unfold copies_at
    simp only [show (ck (0 ≤ eS.Places ∧ eS.Places ≤ 268435456)) = some () from Cn (by decide), Option.bind_some, show List.replicate (Int.toNat eS.Places) (0 : Int) = List.replicate 16 0 from rfl]
    rw [show iter (copies_at_l0 eS 3) (0, List.replicate 16 0) = some (List.replicate 16 0) from itS 5 (by kernel_rfl)]; rfl
  · unfold copies_at
    simp only [show (ck (0 ≤ eS.Places ∧ eS.Places ≤ 268435456)) = some () from Cn (by decide), Option.bind_some, show List.replicate (Int.toNat eS.Places) (0 : Int) = List.replicate 16 0 from rfl]
    rw [show iter (copies_at_l0 eS 5) (0, List.replicate 16 0) = some (128 :: List.replicate 15 0) from itS 5 (by kernel_rfl)]; rfl
theorem Sb : copies_Where eS 7 3 = some [] ∧ copies_Where eS 7 5 = some [0] := by
  constructor
  · unfold copies_Where
    rw [Mp, atS.1]
    simp only [Option.bind_some, show ((0 : Int) != 0) = false from rfl, Bool.false_eq_true, if_false, show access_Content 7 = some true from by kernel_rfl, Bool.not_true]
    rw [show iter (copies_Where_l0 (List.replicate 16 0) 7) (0, []) = some [] from itS 20 (by kernel_rfl)]; rfl
  · unfold copies_Where
    rw [Mp, atS.2]
    simp only [Option.bind_some, show ((0 : Int) != 0) = false from rfl, Bool.false_eq_true, if_false, show access_Content 7 = some true from by kernel_rfl, Bool.not_true]
    rw [show iter (copies_Where_l0 (128 :: List.replicate 15 0) 7) (0, []) = some [0] from itS 20 (by kernel_rfl)]; rfl
theorem Oy : access_Linked eS 0 5 = some (0, false) := by
  unfold access_Linked
  rw [ZS]
  kernel_rfl
theorem Sc : access_Granted eS 0 5 = some [0] := by
  have s1 : Fy [0] = [0] := Mo (by simp)
  unfold access_Granted access_grants
  rw [ZS, show iter (access_grants_l0 eS 5 0) (0, []) = some [(0, 0)] from itS 5 (by kernel_rfl)]
  simp only [Option.bind_some, Bool.not_true, Bool.false_eq_true, if_false, List.map_cons, List.map_nil, s1]
  rw [Cn (by simp)]; rfl
theorem upS : directory_Upward dS 0 5 = some [0] := by
  have t0 : directory_table_upward [[false]] 0 = some [true] := by
    unfold directory_table_upward
    rw [Cn (by simp), Cn (by simp)]
    simp only [Option.bind_some]
    rw [Ga (s' := (1, [true], [])) ?_]
    · exact itS 1 (by kernel_rfl)
    · unfold directory_table_upward_l0
      show (idx _ _).bind _ = _
      rw [show idx [[false]] (0 : Int) = some [false] from rfl]
      simp only [Option.bind_some]
      rw [show iter (directory_table_upward_l1 0 [false]) (0, (List.replicate ([[false]] : List (List Bool)).length false).set (Int.toNat 0) true, [0]) = some ([true], [0]) from itS 5 (by kernel_rfl)]
      rfl
  have th0 : directory_those [true] = some [0] := by
    unfold directory_those
    rw [show iter (directory_those_l0 [true]) (0, []) = some [0] from itS 5 (by kernel_rfl)]; rfl
  unfold directory_Upward
  rw [Zb, show directory_at dS 5 = some [[false]] from by kernel_rfl]
  simp only [Option.bind_some, Bool.not_true, Bool.false_eq_true, if_false, t0, th0]
theorem WU : readers_Check dS eS = some 0 := by
  unfold readers_Check
  rw [WT]
  simp only [Option.bind_some, show ((0 : Int) != 0) = false from rfl, Bool.false_eq_true, if_false, Mp]
theorem ZT : readers_fine dS eS 0 0 = some true := by
  unfold readers_fine
  rw [WU]
  kernel_rfl
theorem Zc : readers_May dS eS 0 0 5 = some true := by
  have c1 : sYContains_int [0] 0 = some true := by
    unfold sYContains_int sYIndex_int
    rw [show iter (sYIndex_int_l0 [0] 0) 0 = some (.inr 0) from itS 5 (by kernel_rfl)]; rfl
  unfold readers_May readers_grant
  rw [ZT, Oy, upS, Sc]
  simp only [Option.bind_some, Bool.not_true, Bool.false_eq_true, if_false]
  rw [Cf (e := .inr (0, true)) (by
    unfold readers_grant_l0
    rw [show idx ([0] : List Int) 0 = some 0 from rfl]
    simp only [Option.bind_some, c1]
    rfl)]
  rfl
theorem Sd : exposure_place dS eS 7 0 3 = some (0, false) ∧ exposure_place dS eS 7 0 5 = some (0, true) := by
  constructor
  · unfold exposure_place
    rw [Sb.1]
    simp only [Option.bind_some]
    rw [show iter (exposure_place_l0 [] eS 3 0 dS) 0 = some (.inl ()) from Cf (by unfold exposure_place_l0; rfl)]
    rfl
  · unfold exposure_place
    rw [Sb.2]
    simp only [Option.bind_some]
    rw [Cf (e := .inr (0, true)) (by
      unfold exposure_place_l0
      rw [show idx ([0] : List Int) 0 = some 0 from rfl]
      simp only [show decide ((0 : Int) < (([0] : List Int).length : Int)) = true from rfl, if_true, Option.bind_some, Oy, show ((0 : Int) == -1) = false from rfl, show ((0 : Int) != -1) = true from rfl, Bool.false_eq_true, if_false, Zc])]
    rfl
theorem Yp : exposure_Since dS eS 7 0 = some (5, true) := by
  unfold exposure_Since exposure_check exposure_since
  rw [WU, Yo]
  simp only [Option.bind_some, show ((0 : Int) != 0) = false from rfl, Bool.false_eq_true, if_false, show access_Content 7 = some true from by kernel_rfl, Bool.not_true]
  rw [Ga (s' := 1) (by
      unfold exposure_since_l0
      rw [show idx ([3, 5] : List Int) 0 = some 3 from rfl]
      simp only [show decide ((0 : Int) < (([3, 5] : List Int).length : Int)) = true from rfl, if_true, Option.bind_some, Sd.1, Bool.false_eq_true, if_false]
      rfl),
    Cf (e := .inr (5, true)) (by
      unfold exposure_since_l0
      rw [show idx ([3, 5] : List Int) 1 = some 5 from rfl]
      simp only [show decide ((1 : Int) < (([3, 5] : List Int).length : Int)) = true from rfl, if_true, Option.bind_some, Sd.2])]
  rfl
end Go.Vl

namespace Go.Ev
open Go Go.Vl Go.RowKit Go.Proofs
def pre : List Int → List CV → Bool
  | [], _ => true
  | x :: xs, .int .i64 y :: l => x == y && pre xs l
  | _, _ => false
theorem Oz : ∀ {xs : List Int} {l : List CV}, pre xs l = true → ∀ {j : Nat} {x : Int}, xs[j]? = some x → l[j]? = some (.int .i64 x)
  | [], _, _, j, x, h => by simp at h
  | y :: xs, l, hp, j, x, h => by
    unfold pre at hp
    split at hp
    · exact absurd ‹y :: xs = []› (by simp)
    · rename_i y' xs' z l' e
      cases e
      simp only [Bool.and_eq_true, beq_iff_eq] at hp
      cases j with
      | zero => simp at h ⊢; rw [← h, hp.1]
      | succ j => simpa using Oz hp.2 (by simpa using h)
    · cases hp
theorem Se {w0 : Kp} {fr : List (Array Value)} {stk : List Env} {hp : Hp} {w : World} {p : Pm} (R : BD w0 fr stk hp w p) {n k z : Nat} {c : Option Nat} {v : Value} (hv : RV (lvH hp) p (.sl n 0 k c) v) {l : List CV} {z' : Nat} {m : Option TypeId} (hn : hp.get n = some (.cells l z' m))
    {rows : List (List D)} {xs : List Int} (hk : rows.length = k) (hz : ∀ r ∈ rows, r.length = z) (hx : rows.flatten = xs.map (.int .i64)) (hpre : pre xs l = true) : RD w (· < w.heap.size) (.slice rows) v := by
  subst hk
  cases hv with | sl h1 h2 h3 h4 =>
  rename_i cap
  obtain ⟨vs, ty, g1, g2, g3, g4, g5⟩ := R.ob n _ hn
  have key : ∀ (j : Nat) (d : D), rows.flatten[j]? = some d → ∃ x, d = .int .i64 x ∧ vs[j]? = some (.int .i64 x) := fun j d hd => by
    rw [hx, List.getElem?_map] at hd
    obtain ⟨x, hxj, rfl⟩ := Option.map_eq_some_iff.1 hd
    have hl := Oz hpre hxj
    have hj : j < vs.size := Nat.lt_of_lt_of_le (List.getElem?_eq_some_iff.1 hl).1 g2
    have hv := g3 j _ vs[j] hl (by simp [hj])
    refine ⟨x, rfl, ?_⟩
    rw [Array.getElem?_eq_getElem hj]
    generalize vs[j] = u at hv
    cases hv; rfl
  refine RD.slice z (fun j => vs.getD j undef) hz (Nat.lt_of_lt_of_le (R.lt h1) (Nat.le_refl _)) h2 (fun j hj => ?_) (fun j d hd => ?_)
  · obtain ⟨x, _, hv⟩ := key j _ (List.getElem?_eq_getElem hj)
    rw [Ah, Nat.zero_add]
    simp [World.cell?, g1, hv]
  · obtain ⟨x, rfl, hv⟩ := key j d hd
    simp only [Array.getD_eq_getD_getElem?, hv, Option.getD_some]
    exact .int
def kS : List Int := [1]
def evS : List Int := [3, 1, 0, 0, 0, 0, 0, 5, 5, 0, 0, 0, 7, 0]
def Yq : Ak := fun f args _ stk hp => match Nat.beq f 58, args with
  | true, [.agg [.sl n 0 1 _, .nils], .agg [.int .i64 16, .sl m 0 2 _], .int .i64 7, .int .i64 0] => match hp.get n, hp.get m with
    | some (.cells l1 _ _), some (.cells l2 _ _) => if pre kS l1 = true ∧ pre evS l2 = true then some ⟨.tup [.int .i64 5, .bool true], stk, hp⟩ else none
    | _, _ => none
  | _, _ => none
theorem WA (args : Array Value) (w : World) : (callFunc 58 args).run Tryz.prog w = .ok (.enter 58 args) w := enters_of Tryz.func58 (by kernel_rfl) rfl args w
theorem Yr (W : World) : DX Tryz.prog W (· < W.heap.size) := ID (by kernel_rfl)
theorem ZU {w : World} {ok : Nat → Prop} {p : Pl} {lv : Nm → Prop} {q : Pm} {a b : CV} {x y : AV} {v : Value} (h : RV lv q (.agg [a, b]) v) (hx : ∀ u, RV lv q a u → RA w ok p x u) (hy : ∀ u, RV lv q b u → RA w ok p y u) : RA w ok p (.agg [x, y]) v := by
  cases h with | agg hl h h1 =>
  refine .agg hl (fun i c u hc hu => ?_) h1
  match i, hc with
  | 0, hc => cases hc; exact hx u (h 0 _ u rfl hu)
  | 1, hc => cases hc; exact hy u (h 1 _ u rfl hu)
theorem WB : BH Tryz.prog Yq := fun w0 fr f args pth stk hp r av w p h R ha => by
  unfold Yq at h
  split at h
  case h_2 => cases h
  rename_i n c1 m c2 hf
  have e := Nat.eq_of_beq_eq_true hf
  subst e
  split at h
  case h_2 => cases h
  rename_i l1 z1 m1 l2 z2 m2 hn hm
  split at h
  case isFalse => cases h
  rename_i hpre
  cases h
  refine .inl ⟨WA _ w, ?_⟩
  refine ((G0 Yp).run w av (by rw [ha.1]; rfl) (fun i x v hx hv => ?_) (Yr w)).mono ?_
  · have key : ∀ (i : Nat) (c : CV), [CV.agg [.sl n 0 1 c1, .nils], .agg [.int .i64 16, .sl m 0 2 c2], .int .i64 7, .int .i64 0][i]? = some c → RV (lvH hp) p c v → True := fun _ _ _ _ => trivial
    match i, hx with
    | 0, hx =>
      cases hx
      exact ZU (ha.2 0 _ v rfl hv) (fun u hu => .d (Se R hu hn (rows := AB (AH .i64) dS.Kinds) (xs := kS) rfl (z := 1) (by decide) rfl hpre.1)) (fun u hu => by cases hu; exact .d .snil)
    | 1, hx =>
      cases hx
      exact ZU (ha.2 1 _ v rfl hv) (fun u hu => by cases hu; exact .d .int) (fun u hu => .d (Se R hu hm (rows := AB AK eS.Events) (xs := evS) rfl (z := 7) (by decide) rfl hpre.2))
    | 2, hx => cases hx; have := ha.2 2 _ v rfl hv; cases this; exact .d .int
    | 3, hx => cases hx; have := ha.2 3 _ v rfl hv; cases this; exact .d .int
  · rintro e w' ⟨v, rfl, hv, hB⟩
    refine ⟨v, p, rfl, R.world hB.size hB.os hB.tape hB.output hB.block, ?_⟩
    cases hv with | tup hl h =>
    refine .tup hl fun i c u hc hu => ?_
    match i, hc with
    | 0, hc => cases hc; have := h 0 _ u rfl hu; cases this with | d q => cases q; exact .int
    | 1, hc => cases hc; have := h 1 _ u rfl hu; cases this with | d q => cases q; exact .bool
end Go.Ev

namespace Go.Ev
open Go Go.Vl Go.RowKit Go.Proofs
def hkA : Ak := orC Rj (orC Rn (orC Rr (orC Rv (orC SH (orC SI Yq)))))
theorem Ys : BH Tryz.prog hkA := HY Rl (HY Ro (HY Rs (HY (Ry Tryz.underlying123) (HY SJ (HY SK WB)))))
noncomputable def okT : Option Rt → Bool
  | some r => match r.v with | .bool b => b | _ => false
  | none => false
theorem Zd : okT (MP hkA T0 300 60 5 [] 1 [] (hp0 6)) = true := by kernel_rfl
theorem Mq (m : Nm) : ∀ (n h : Nat), (hp0 n).get1 h m = none
  | 0, _ => rfl
  | n + 1, h => by
    show (match Nat.beq (h % 2) 0 with | true => (hp0 n).get1 (h / 2) m | false => (hp0 n).get1 (h / 2) m) = none
    split <;> exact Mq m n _
theorem Lf (n : Nat) (m : Nm) : (hp0 n).get m = none := Mq m n _
theorem Sf (w : World) : BD ⟨w, (· < w.heap.size), []⟩ [] [] (hp0 6) w ⟨fun _ => 0, fun _ => 0⟩ :=
  { size := Nat.le_refl _, os := rfl, tape := rfl, output := rfl, klt := fun _ h => h, old := fun _ _ => rfl
    pin := fun q h => by cases h
    stk := .nil
    ob := fun n o h => by rw [Lf] at h; cases h
    base := fun n o h => by rw [Lf] at h; cases h
    inj := fun n m h => by unfold lvH at h; rw [Lf] at h; cases h }
theorem Yt : BH Tryz.prog (MP hkA T0 300 60) := Ra (by kernel_rfl) Wx Wy ZK V2 V1 Ys 300 60
end Go.Ev
namespace Go.Vl
open Go Go.Ev Go.Proofs
noncomputable def top_awake44 : Option Bool := some true
theorem FT {r : Bool} (h0 : top_awake44 = some r) : Ac Tryz.prog 5 [] [] (.d (.bool r)) [] := by
  cases h0
  intro w ok io iv vs hpre hvs hargs hgl
  obtain rfl : io = [] := List.eq_nil_of_length_eq_zero hpre.len
  obtain rfl : iv = [] := List.eq_nil_of_length_eq_zero hpre.lenv
  obtain ⟨r, hr, hv⟩ : ∃ r, MP hkA T0 300 60 5 [] 1 [] (hp0 6) = some r ∧ r.v = .bool true := by
    have h := Zd
    unfold okT at h
    split at h
    · rename_i r hr
      refine ⟨r, hr, ?_⟩
      split at h
      · rename_i b hb; rw [hb, h]
      · cases h
    · cases h
  have hvs0 : vs.size = ([] : List CV).length := hvs
  rcases Yt _ [] 5 [] 1 [] (hp0 6) r vs w _ hr (Sf w) ⟨hvs0, fun i x v h => by simp at h⟩ with ⟨_, hc⟩ | ⟨v, w', he, _⟩
  · refine hc.mono ?_
    rintro e w' ⟨v, p', rfl, R, hrv⟩
    rw [hv] at hrv
    cases hrv
    exact ⟨_, [], rfl, .d .bool, ⟨rfl, List.nodup_nil, fun b hb => ⟨hb.2.1, by simp, by simp⟩, fun i b cs h => by simp at h, rfl, fun i b cs h => by simp at h, fun i j v u h => by simp at h, fun v h => by simp at h⟩, fun u h => by simp at h,
      ⟨R.size, R.os, R.tape, Nat.le_refl _, R.output, fun b hb _ _ => R.old b hb⟩⟩
  · rw [Tryz.call5] at he
    cases he
end Go.Vl
