/- The value logic, part 3: the operations that write nothing: definition and soundness. Conditions: none. -/
import Derived.Test.YtnnipdjbiblekaaVmB
set_option linter.unusedSimpArgs false
set_option linter.unusedVariables false
namespace Go.Vl
open Go

/-! Addresses of fields and elements -/
def offA (P : Program) (k : Nat) : AV → Option AV
  | .ptr n o => some (.ptr n (o + k))
  | .cptr row o => some (.cptr row (o + k))
  | .vptr n z i o => some (.vptr n z i (o + k))
  | _ => none
theorem offA_sound {w : World} {ok : Nat → Prop} {p : Pl} {P : Program} {k : Nat} {y x : AV} (h : offA P k y = some x) {u : Value} (hu : RA w ok p y u) :
    ∃ b : Addr, u = .pointer (some b) ∧ RA w ok p x (.pointer (some (b.add k))) := by
  cases hu with
  | ptr hn => simp [offA] at h; subst h; exact ⟨_, rfl, by rw [add_blk]; exact .ptr hn⟩
  | cptr vs hok hc hd => simp [offA] at h; subst h; exact ⟨_, rfl, by rw [add_add]; exact .cptr vs hok hc hd⟩
  | vptr hn hv => simp [offA] at h; subst h; exact ⟨_, rfl, by rw [add_blk, Nat.add_assoc]; exact .vptr hn hv⟩
  | _ => simp [offA] at h

def fieldA (P : Program) (s : TypeId) (f : Nat) (y : AV) : Option AV :=
  match P.underlying s with
  | some (.struct fs) => (fs[f]?).bind fun fd => match szOf P fd.type with
    | some (_ + 1) => offA P fd.offset y
    | _ => none
  | _ => none
theorem fieldA_sound {w : World} {ok : Nat → Prop} {p : Pl} {P : Program} {s : TypeId} {f : Nat} {y x : AV} (h : fieldA P s f y = some x) {u : Value} (hu : RA w ok p y u) :
    ∃ v, (Instr.fieldAt s u f).run P w = .ok v w ∧ RA w ok p x v := by
  unfold fieldA at h
  split at h
  case h_2 => cases h
  rename_i fs hs
  cases hf : fs[f]? with
  | none => simp [hf] at h
  | some fd =>
    simp only [hf, Option.bind_some] at h
    split at h
    case h_2 => cases h
    rename_i k hk
    obtain ⟨b, rfl, hb⟩ := offA_sound h hu
    exact ⟨_, by simp [Instr.fieldAt, Instr.sureAddr, run_underlying hs, hf, fieldPlace, run_szOf hk], hb⟩

def indexPA (P : Program) (t : TypeId) (y : AV) (i : Int) (st : St) : Option AV :=
  match P.underlying t with
  | some (.slice e) => if 0 ≤ i then (match y with
    | .d (.slice rows) => rows[i.toNat]?.bind fun row => if szOf P e = some row.length then some (.cptr row 0) else none
    | .full rows => rows[i.toNat]?.bind fun row => if szOf P e = some row.length then some (.cptr row 0) else none
    | .vec n => (get st.vec n).bind fun s => if i.toNat < s.rows.length ∧ szOf P e = some s.z ∧ s.isM = false then some (.vptr n s.z i.toNat 0) else none
    | .cut n z lo k => if i.toNat < k ∧ szOf P e = some z then some (.vptr n z (lo + i.toNat) 0) else none
    | _ => none) else none
  | some (.array len e) => if 0 ≤ i ∧ i < len then (szOf P e).bind fun z => offA P (i.toNat * z) y else none
  | _ => none

theorem row_ptr {w : World} {ok : Nat → Prop} {p : Pl} {P : Program} {t e : TypeId} (hs : P.underlying t = some (.slice e)) {rows : List (List D)} {row : List D} {k : IntKind} {i : Int} (h0 : 0 ≤ i) (hrow : rows[i.toNat]? = some row)
    (hz : szOf P e = some row.length) {u : Value} (h : RD w ok (.slice rows) u) : ∃ v, (Instr.indexAt t u (.int k i)).run P w = .ok v w ∧ RA w ok p (.cptr row 0) v := by
  have hi : i.toNat < rows.length := (List.getElem?_eq_some_iff.1 hrow).1
  cases h with
  | snil => simp at hi
  | slice z vs hzs hok hc hcell hd =>
    rename_i b c
    have hrl : row.length = z := hzs row (List.mem_of_getElem? hrow)
    refine ⟨.pointer (some (b.add (i.toNat * row.length))), ?_, ?_⟩
    · have h1 : i < (rows.length : Int) := by omega
      simp [Instr.indexAt, run_underlying hs, asIntOf, h0, h1, run_szOf hz]
    · rw [← add_zero (b.add _)]
      refine .cptr (fun j => vs (i.toNat * row.length + j)) (by rw [block_add]; exact hok) (fun j hj => ?_) (fun j x hx => ?_)
      · rw [add_add]
        refine hcell _ ?_
        rw [flat_len hzs]
        have : (i.toNat + 1) * z ≤ rows.length * z := Nat.mul_le_mul_right _ hi
        rw [Nat.add_mul] at this; rw [hrl] at hj ⊢; omega
      · have hj : j < z := by have := (List.getElem?_eq_some_iff.1 hx).1; omega
        refine hd _ _ ?_
        rw [hrl, flat_get hzs hrow hj]; exact hx

section
variable {K : Ctx} {st : St} {a : Act} {w : World} {p : Pl}
theorem indexPA_sound (R : Rel K st a w p) {P : Program} {t : TypeId} {k : IntKind} {i : Int} {y x : AV} (h : indexPA P t y i st = some x) {u : Value} (hu : RA w (okc K w p) p y u) :
    ∃ v, (Instr.indexAt t u (.int k i)).run P w = .ok v w ∧ RA w (okc K w p) p x v := by
  unfold indexPA at h
  split at h
  · rename_i e hs
    split at h
    case isFalse => cases h
    rename_i h0
    split at h
    · rename_i rows
      cases hrow : rows[i.toNat]? with
      | none => simp [hrow] at h
      | some row =>
        simp only [hrow, Option.bind_some] at h
        split at h
        case isFalse => cases h
        rename_i hz
        cases h
        cases hu with
        | d hd => exact row_ptr hs h0 hrow hz hd
    · rename_i rows
      cases hrow : rows[i.toNat]? with
      | none => simp [hrow] at h
      | some row =>
        simp only [hrow, Option.bind_some] at h
        split at h
        case isFalse => cases h
        rename_i hz
        cases h
        cases hu with
        | full hd => exact row_ptr hs h0 hrow hz hd
    · rename_i n
      cases hb : get st.vec n with
      | none => simp [hb] at h
      | some s =>
        simp only [hb, Option.bind_some] at h
        split at h
        case isFalse => cases h
        rename_i hh
        obtain ⟨hi, hz, hM⟩ := hh
        cases h
        cases hu with
        | vec hn =>
          obtain ⟨hat, hzs, _⟩ := R.vec n s hb
          obtain ⟨xs, hown, hd⟩ := hat.row hM
          rcases hown.2 with ⟨_, h1⟩ | ⟨g, cap, cur, hv, _, _, _, _, _, _⟩
          · omega
          · rw [hv]
            have h1 : i < (s.rows.length : Int) := by omega
            refine ⟨.pointer (some ⟨g, i.toNat * s.z + 0, none⟩), ?_, .vptr hn hv⟩
            simp [Instr.indexAt, run_underlying hs, asIntOf, h0, h1, run_szOf hz, add_blk]
    · rename_i n z lo k'
      split at h
      case isFalse => cases h
      rename_i hh
      obtain ⟨hi, hz⟩ := hh
      cases h
      cases hu with
      | cut hn hv ho hle =>
        rename_i o g c len
        have h1 : i < (k' : Int) := by omega
        have h2 : o = lo * z := ho.1.resolve_left (by omega)
        refine ⟨.pointer (some ⟨g, (lo + i.toNat) * z + 0, none⟩), ?_, .vptr hn hv⟩
        simp [Instr.indexAt, run_underlying hs, asIntOf, h0, h1, run_szOf hz, add_blk, h2, Nat.add_mul]
      | cut0 hn hv => omega
    · cases h
  · rename_i len e hs
    split at h
    case isFalse => cases h
    rename_i hh
    cases hz : szOf P e with
    | none => simp [hz] at h
    | some z =>
      simp only [hz, Option.bind_some] at h
      obtain ⟨b, rfl, hb⟩ := offA_sound h hu
      exact ⟨_, by simp [Instr.indexAt, Instr.sureAddr, run_underlying hs, asIntOf, hh, run_szOf hz], hb⟩
  · cases h
end

/-! Arithmetic -/
def bAnd (k : IntKind) (a b : Int) : Int := k.wrap ((BitVec.ofInt k.bits a &&& BitVec.ofInt k.bits b).toNat)
def bOr (k : IntKind) (a b : Int) : Int := k.wrap ((BitVec.ofInt k.bits a ||| BitVec.ofInt k.bits b).toNat)
def bXor (k : IntKind) (a b : Int) : Int := k.wrap ((BitVec.ofInt k.bits a ^^^ BitVec.ofInt k.bits b).toNat)
def bAndNot (k : IntKind) (a b : Int) : Int := k.wrap ((BitVec.ofInt k.bits a &&& ~~~ BitVec.ofInt k.bits b).toNat)
def intBin (op : BinOp) (k : IntKind) (a b : Int) : Option D :=
  match op with
  | .add => some (.int k (k.wrap (a + b)))
  | .sub => some (.int k (k.wrap (a - b)))
  | .mul => some (.int k (k.wrap (a * b)))
  | .quo => if b = 0 then none else some (.int k (k.wrap (a.tdiv b)))
  | .rem => if b = 0 then none else some (.int k (a.tmod b))
  | .and => some (.int k (bAnd k a b))
  | .or => some (.int k (bOr k a b))
  | .xor => some (.int k (bXor k a b))
  | .andNot => some (.int k (bAndNot k a b))
  | .eql => some (.bool (a == b))
  | .neq => some (.bool (a != b))
  | .lss => some (.bool (decide (a < b)))
  | .leq => some (.bool (decide (a ≤ b)))
  | .gtr => some (.bool (decide (b < a)))
  | .geq => some (.bool (decide (b ≤ a)))
  | .shl | .shr => none
def shBin (op : BinOp) (k : IntKind) (a b : Int) : Option D :=
  if b < 0 then none else
  match op with
  | .shl => some (.int k (k.wrap (a * 2 ^ (min b.toNat k.bits))))
  | .shr => some (.int k (a.fdiv (2 ^ (min b.toNat k.bits))))
  | _ => none

theorem shBin_sound {P : Program} {w : World} {op : BinOp} {k yk : IntKind} {t : TypeId} {a b : Int} {x : D} (h : shBin op k a b = some x) {ok : Nat → Prop} :
    ∃ v, (binOp op t (.int k a) (.int yk b)).run P w = .ok v w ∧ RD w ok x v := by
  unfold shBin at h
  split at h
  · cases h
  · rename_i hb
    cases op <;> simp at h <;> subst h
    · exact ⟨_, by simp [binOp, Op.shift, hb], .int⟩
    · exact ⟨_, by simp [binOp, Op.shift, hb], .int⟩

theorem intBin_sound {P : Program} {w : World} {op : BinOp} {k : IntKind} {t : TypeId} {a b : Int} {x : D} (h : intBin op k a b = some x) {ok : Nat → Prop} :
    ∃ v, (binOp op t (.int k a) (.int k b)).run P w = .ok v w ∧ RD w ok x v := by
  cases op <;> simp only [intBin] at h
  case quo | rem =>
    split at h
    · cases h
    · rename_i hb; cases h; exact ⟨_, (by simp [binOp, Op.intDiv, hb] <;> rfl), .int⟩
  case shl | shr => cases h
  case add | sub | mul => cases h; exact ⟨_, (by simp [binOp, Op.intArith] <;> rfl), .int⟩
  case and | or | xor | andNot => cases h; exact ⟨_, (by simp only [binOp, Op.intBits, ne_eq, not_true_eq_false, if_false]; rfl), .int⟩
  all_goals cases h; exact ⟨_, (by simp [binOp, Op.intCmp] <;> rfl), .bool⟩

def strBin (op : BinOp) (a b : ByteArray) : Option D :=
  match op with
  | .add => if a.size + b.size ≤ 9223372036854775807 then some (.str (a ++ b)) else none
  | .eql => some (.bool (a.toList == b.toList))
  | .neq => some (.bool (!(a.toList == b.toList)))
  | .lss => some (.bool (Op.bytesLess a.toList b.toList))
  | .leq => some (.bool (Op.bytesLess a.toList b.toList || a.toList == b.toList))
  | .gtr => some (.bool (!(Op.bytesLess a.toList b.toList || a.toList == b.toList)))
  | .geq => some (.bool (!(Op.bytesLess a.toList b.toList)))
  | _ => none
theorem strBin_sound {P : Program} {w : World} {op : BinOp} {t : TypeId} {a b : ByteArray} {x : D} (h : strBin op a b = some x) {ok : Nat → Prop} :
    ∃ v, (binOp op t (.string a) (.string b)).run P w = .ok v w ∧ RD w ok x v := by
  cases op <;> simp only [strBin] at h
  case add =>
    split at h
    · rename_i hle
      cases h
      refine ⟨.string (a ++ b), ?_, .str⟩
      have : ¬ (((a.size + b.size : Nat) : Int) > IntKind.i64.max) := by
        have : IntKind.i64.max = 9223372036854775807 := by decide
        rw [this]; omega
      simp only [binOp, Op.stringOp, if_neg this]; rfl
    · cases h
  case eql | neq | lss | leq | gtr | geq => cases h; exact ⟨_, (by simp [binOp, Op.stringOp] <;> rfl), .bool⟩
  all_goals cases h

def boolBin (P : Program) (op : BinOp) (t : TypeId) (a b : Bool) : Option D :=
  match op, P.underlying t with
  | .eql, some .bool => some (.bool (a == b))
  | .neq, some .bool => some (.bool (a != b))
  | _, _ => none
theorem boolBin_sound {P : Program} {w : World} {op : BinOp} {t : TypeId} {a b : Bool} {x : D} (h : boolBin P op t a b = some x) {ok : Nat → Prop} :
    ∃ v, (binOp op t (.bool a) (.bool b)).run P w = .ok v w ∧ RD w ok x v := by
  unfold boolBin at h
  split at h
  · rename_i hu; cases h
    exact ⟨_, by simp only [binOp, Sem.run_bind, run_equal_bool w t a b hu, Result.andThen_ok, Sem.run_pure], .bool⟩
  · rename_i hu; cases h
    exact ⟨.bool (!(a == b)), by simp only [binOp, Sem.run_bind, run_equal_bool w t a b hu, Result.andThen_ok, Sem.run_pure], .bool⟩
  · cases h

/-! Structs and arrays, compared -/
def eqCell (P : Program) (t : TypeId) (x y : AV) : Option Bool :=
  match P.underlying t, x, y with
  | some (.int _), .d (.int k a), .d (.int k' b) => if k = k' then some (a == b) else none
  | some .bool, .d (.bool a), .d (.bool b) => some (a == b)
  | some .string, .d (.str a), .d (.str b) => some (a.toList == b.toList)
  | _, _, _ => none
def eqFs (P : Program) : Nat → List Field → List AV → List AV → Option Bool
  | _, [], [], [] => some true
  | j, f :: fs, x :: l, y :: l' => if f.name ≠ "_" ∧ f.offset = j then (eqCell P f.type x y).bind fun b => (eqFs P (j + 1) fs l l').map fun r => b && r else none
  | _, _, _, _ => none
def eqEs (P : Program) (e : TypeId) : List AV → List AV → Option Bool
  | [], [] => some true
  | x :: l, y :: l' => (eqCell P e x y).bind fun b => (eqEs P e l l').map fun r => b && r
  | _, _ => none
/-- structs in structs, one deep -/
def eqFs2 (P : Program) : Nat → List Field → List AV → List AV → Option Bool
  | _, [], [], [] => some true
  | j, f :: fs, x :: l, y :: l' => if f.name ≠ "_" ∧ f.offset = j then
      (match P.underlying f.type with
        | some (.struct gs) => if P.stoodInHeld f.type then none else (szOf P f.type).bind fun z => if z ≤ l.length + 1 ∧ z ≤ l'.length + 1 then
            (eqFs P 0 gs.toList ((x :: l).take z) ((y :: l').take z)).bind fun b => (eqFs2 P (j + z) fs ((x :: l).drop z) ((y :: l').drop z)).map fun r => b && r else none
        | _ => (eqCell P f.type x y).bind fun b => (eqFs2 P (j + 1) fs l l').map fun r => b && r) else none
  | _, _, _, _ => none
def eqA (P : Program) (t : TypeId) (l l' : List AV) : Option Bool :=
  if P.eqGuardType P.depth t then none else
  match P.underlying t with
  | some (.struct fs) => if P.stoodInHeld t then none else eqFs2 P 0 fs.toList l l'
  | some (.array n e) => if szOf P e = some 1 ∧ l.length = n then eqEs P e l l' else none
  | _ => none

section
variable {P : Program} {w : World} {ok : Nat → Prop} {p : Pl}
theorem eqCell_sound {t : TypeId} {x y : AV} {r : Bool} (h : eqCell P t x y = some r) {u v : Value} (hu : RA w ok p x u) (hv : RA w ok p y v) (d : Nat) :
    (Op.equalIn (d + 1) t u v).run P w = .ok r w ∧ (∀ (cs : Array Value) (o : Nat) (z : Value), cs[o]? = some z → (part t cs o).run P w = .ok z w) := by
  unfold eqCell at h
  split at h
  · rename_i k0 k a k' b hut
    split at h
    case isFalse => cases h
    cases h
    rename_i hk
    subst hk
    cases hu with | d hu => cases hu with | int => cases hv with | d hv => cases hv with | int =>
    exact ⟨run_equalIn_int w d t k k0 a b hut, fun cs o z hz => by simp [part, isAgg, run_underlying hut, hz]⟩
  · rename_i a b hut
    cases h
    cases hu with | d hu => cases hu with | bool => cases hv with | d hv => cases hv with | bool =>
    exact ⟨run_equalIn_bool w d t a b hut, fun cs o z hz => by simp [part, isAgg, run_underlying hut, hz]⟩
  · rename_i a b hut
    cases h
    cases hu with | d hu => cases hu with | str => cases hv with | d hv => cases hv with | str =>
    exact ⟨run_equalIn_string w d t a b hut, fun cs o z hz => by simp [part, isAgg, run_underlying hut, hz]⟩
  · cases h

theorem eqFs_sound {xs ys : Array Value} (d : Nat) : ∀ (fs : List Field) (j : Nat) (l l' : List AV) (r : Bool), eqFs P j fs l l' = some r →
    (∀ (i : Nat) (a : AV), l[i]? = some a → ∃ v, xs[j + i]? = some v ∧ RA w ok p a v) → (∀ (i : Nat) (a : AV), l'[i]? = some a → ∃ v, ys[j + i]? = some v ∧ RA w ok p a v) →
    (Op.eqFields (d + 1) xs ys fs).run P w = .ok r w := by
  intro fs
  induction fs with
  | nil =>
    intro j l l' r h _ _
    cases l <;> cases l' <;> simp [eqFs] at h
    subst h
    simp [Op.eqFields]
  | cons f fs ih =>
    intro j l l' r h hx hy
    cases l with
    | nil => simp [eqFs] at h
    | cons x l =>
      cases l' with
      | nil => simp [eqFs] at h
      | cons y l' =>
        simp only [eqFs] at h
        split at h
        case isFalse => cases h
        rename_i hf
        obtain ⟨hn, ho⟩ := hf
        cases hb : eqCell P f.type x y with
        | none => simp [hb] at h
        | some b =>
          cases hr : eqFs P (j + 1) fs l l' with
          | none => simp [hb, hr] at h
          | some r' =>
            simp [hb, hr] at h
            obtain ⟨u, hu1, hu2⟩ := hx 0 x rfl
            obtain ⟨v, hv1, hv2⟩ := hy 0 y rfl
            obtain ⟨he, hp⟩ := eqCell_sound hb hu2 hv2 d
            have := ih (j + 1) l l' r' hr (fun i a ha => by have := hx (i + 1) a (by simpa using ha); rwa [show j + (i + 1) = j + 1 + i by omega] at this)
              (fun i a ha => by have := hy (i + 1) a (by simpa using ha); rwa [show j + (i + 1) = j + 1 + i by omega] at this)
            have p1 := hp xs f.offset u (by rw [ho]; exact hu1)
            have p2 := hp ys f.offset v (by rw [ho]; exact hv1)
            simp only [Op.eqFields, if_pos hn, Sem.run_bind, p1, p2, he, Result.andThen_ok, Sem.run_ite, this]
            cases b <;> simp_all

theorem eqFs2_sound {xs ys : Array Value} (d : Nat) : ∀ (fs : List Field) (j : Nat) (l l' : List AV) (r : Bool), eqFs2 P j fs l l' = some r →
    (∀ (i : Nat) (a : AV), l[i]? = some a → ∃ v, xs[j + i]? = some v ∧ RA w ok p a v) → (∀ (i : Nat) (a : AV), l'[i]? = some a → ∃ v, ys[j + i]? = some v ∧ RA w ok p a v) →
    (Op.eqFields (d + 2) xs ys fs).run P w = .ok r w := by
  intro fs
  induction fs with
  | nil =>
    intro j l l' r h _ _
    cases l <;> cases l' <;> simp [eqFs2] at h
    subst h
    simp [Op.eqFields]
  | cons f fs ih =>
    intro j l l' r h hx hy
    cases l with
    | nil => simp [eqFs2] at h
    | cons x l =>
      cases l' with
      | nil => simp [eqFs2] at h
      | cons y l' =>
        simp only [eqFs2] at h
        split at h
        case isFalse => cases h
        rename_i hf
        obtain ⟨hn, ho⟩ := hf
        split at h
        · rename_i gs hgs
          split at h
          · cases h
          rename_i hst
          cases hz : szOf P f.type with
          | none => simp [hz] at h
          | some z =>
            simp only [hz, Option.bind_some] at h
            split at h
            case isFalse => cases h
            rename_i hle
            cases hb : eqFs P 0 gs.toList ((x :: l).take z) ((y :: l').take z) with
            | none => simp [hb] at h
            | some b =>
              cases hr : eqFs2 P (j + z) fs ((x :: l).drop z) ((y :: l').drop z) with
              | none => simp [hb, hr] at h
              | some r' =>
                simp [hb, hr] at h
                have hag : isAggB P f.type = true := by unfold isAggB; rw [hgs]
                have hu : (P.underlying f.type).isSome = true := by rw [hgs]; rfl
                have p1 : (part f.type xs f.offset).run P w = .ok (.agg (xs.extract f.offset (f.offset + z))) w := by
                  simp only [part, Sem.run_bind, run_isAggB hu, hag, Result.andThen, if_true, run_szOf hz]; rfl
                have p2 : (part f.type ys f.offset).run P w = .ok (.agg (ys.extract f.offset (f.offset + z))) w := by
                  simp only [part, Sem.run_bind, run_isAggB hu, hag, Result.andThen, if_true, run_szOf hz]; rfl
                have get1 : ∀ {us : Array Value} {m : List AV}, (∀ (i : Nat) (a : AV), m[i]? = some a → ∃ v, us[j + i]? = some v ∧ RA w ok p a v) → ∀ (i : Nat) (a : AV), (m.take z)[i]? = some a → ∃ v, (us.extract f.offset (f.offset + z))[0 + i]? = some v ∧ RA w ok p a v := fun {us m} hm i a ha => by
                  rw [List.getElem?_take] at ha
                  split at ha
                  case isFalse => cases ha
                  rename_i hiz
                  obtain ⟨v, h1, h2⟩ := hm i a ha
                  refine ⟨v, ?_, h2⟩
                  have hlt := (Array.getElem?_eq_some_iff.1 h1).1
                  rw [Nat.zero_add, Array.getElem?_extract, if_pos (by omega), ho]; exact h1
                have he : (Op.equalIn (d + 2) f.type (.agg (xs.extract f.offset (f.offset + z))) (.agg (ys.extract f.offset (f.offset + z)))).run P w = .ok b w := by
                  have hfs : P.fieldsOf f.type = gs := by simp [Program.fieldsOf, hgs]
                  have := run_equalIn_struct (P := P) w (d + 1) f.type (xs.extract f.offset (f.offset + z)) (ys.extract f.offset (f.offset + z)) (by rw [hfs]; exact hgs) (by simpa using hst)
                  rw [hfs] at this
                  exact this.trans (eqFs_sound d gs.toList 0 _ _ b hb (get1 hx) (get1 hy))
                have drop1 : ∀ {us : Array Value} {m : List AV}, (∀ (i : Nat) (a : AV), m[i]? = some a → ∃ v, us[j + i]? = some v ∧ RA w ok p a v) → ∀ (i : Nat) (a : AV), (m.drop z)[i]? = some a → ∃ v, us[j + z + i]? = some v ∧ RA w ok p a v := fun {us m} hm i a ha => by
                  rw [List.getElem?_drop] at ha
                  have := hm (z + i) a ha
                  rwa [← Nat.add_assoc] at this
                have := ih (j + z) _ _ r' hr (drop1 hx) (drop1 hy)
                simp only [Op.eqFields, if_pos hn, Sem.run_bind, p1, p2, he, Result.andThen_ok, Sem.run_ite, this]
                cases b <;> simp_all
        · cases hb : eqCell P f.type x y with
          | none => simp [hb] at h
          | some b =>
            cases hr : eqFs2 P (j + 1) fs l l' with
            | none => simp [hb, hr] at h
            | some r' =>
              simp [hb, hr] at h
              obtain ⟨u, hu1, hu2⟩ := hx 0 x rfl
              obtain ⟨v, hv1, hv2⟩ := hy 0 y rfl
              obtain ⟨he, hp⟩ := eqCell_sound hb hu2 hv2 (d + 1)
              have := ih (j + 1) l l' r' hr (fun i a ha => by have := hx (i + 1) a (by simpa using ha); rwa [show j + (i + 1) = j + 1 + i by omega] at this)
                (fun i a ha => by have := hy (i + 1) a (by simpa using ha); rwa [show j + (i + 1) = j + 1 + i by omega] at this)
              have p1 := hp xs f.offset u (by rw [ho]; exact hu1)
              have p2 := hp ys f.offset v (by rw [ho]; exact hv1)
              simp only [Op.eqFields, if_pos hn, Sem.run_bind, p1, p2, he, Result.andThen_ok, Sem.run_ite, this]
              cases b <;> simp_all

theorem eqEs_sound {e : TypeId} {xs ys : Array Value} (d : Nat) : ∀ (l l' : List AV) (j : Nat) (r : Bool), eqEs P e l l' = some r →
    (∀ (i : Nat) (a : AV), l[i]? = some a → ∃ v, xs[j + i]? = some v ∧ RA w ok p a v) → (∀ (i : Nat) (a : AV), l'[i]? = some a → ∃ v, ys[j + i]? = some v ∧ RA w ok p a v) →
    (Op.eqItems (d + 1) e 1 xs ys (List.range' j l.length)).run P w = .ok r w := by
  intro l
  induction l with
  | nil =>
    intro l' j r h _ _
    cases l' <;> simp [eqEs] at h
    subst h
    simp [Op.eqItems]
  | cons x l ih =>
    intro l' j r h hx hy
    cases l' with
    | nil => simp [eqEs] at h
    | cons y l' =>
      simp only [eqEs] at h
      cases hb : eqCell P e x y with
      | none => simp [hb] at h
      | some b =>
        cases hr : eqEs P e l l' with
        | none => simp [hb, hr] at h
        | some r' =>
          simp [hb, hr] at h
          obtain ⟨u, hu1, hu2⟩ := hx 0 x rfl
          obtain ⟨v, hv1, hv2⟩ := hy 0 y rfl
          obtain ⟨he, hp⟩ := eqCell_sound hb hu2 hv2 d
          have := ih l' (j + 1) r' hr (fun i a ha => by have := hx (i + 1) a (by simpa using ha); rwa [show j + (i + 1) = j + 1 + i by omega] at this)
            (fun i a ha => by have := hy (i + 1) a (by simpa using ha); rwa [show j + (i + 1) = j + 1 + i by omega] at this)
          have p1 := hp xs (j * 1) u (by simpa using hu1)
          have p2 := hp ys (j * 1) v (by simpa using hv1)
          simp only [List.length_cons, List.range'_succ, Op.eqItems, Sem.run_bind, p1, p2, he, Result.andThen_ok, Sem.run_ite, this]
          cases b <;> simp_all

theorem eqA_sound {t : TypeId} {l l' : List AV} {r : Bool} (h : eqA P t l l' = some r) {u v : Value} (hu : RA w ok p (.agg l) u) (hv : RA w ok p (.agg l') v) :
    ∃ xs ys, u = .agg xs ∧ v = .agg ys ∧ (∀ op x y, (eqGuard op t x y u v).run P w = .ok () w) ∧ (binOp .eql t u v).run P w = .ok (.bool r) w ∧ (binOp .neq t u v).run P w = .ok (.bool (!r)) w := by
  cases hu with
  | agg hl hx hx1 =>
    rename_i xs
    cases hv with
    | agg hl' hy hy1 =>
      rename_i ys
      have hx' : ∀ (i : Nat) (a : AV), l[i]? = some a → ∃ v, xs[0 + i]? = some v ∧ RA w ok p a v := fun i a ha => by
        have hi : i < xs.size := by have := (List.getElem?_eq_some_iff.1 ha).1; omega
        exact ⟨xs[i], by simp [hi], hx i a _ ha (by simp [hi])⟩
      have hy' : ∀ (i : Nat) (a : AV), l'[i]? = some a → ∃ v, ys[0 + i]? = some v ∧ RA w ok p a v := fun i a ha => by
        have hi : i < ys.size := by have := (List.getElem?_eq_some_iff.1 ha).1; omega
        exact ⟨ys[i], by simp [hi], hy i a _ ha (by simp [hi])⟩
      unfold eqA at h
      split at h
      · cases h
      rename_i hg
      have hg' : P.eqGuardType P.depth t = false := by simpa using hg
      have key : (Op.equalIn 10000 t (.agg xs) (.agg ys)).run P w = .ok r w := by
        split at h
        · rename_i fs hs
          split at h
          · cases h
          rename_i hp
          have hfs : P.fieldsOf t = fs := by simp [Program.fieldsOf, hs]
          have := run_equalIn_struct (P := P) w 9999 t xs ys (by rw [hfs]; exact hs) (by simpa using hp)
          rw [hfs] at this
          exact this.trans (eqFs2_sound 9997 fs.toList 0 l l' r h hx' hy')
        · rename_i n e hs
          split at h
          case isFalse => cases h
          rename_i hh
          obtain ⟨hz, hn⟩ := hh
          have hi : ∃ i, P.info? e = some i := by
            unfold szOf at hz
            cases hi : P.info? e with
            | none => simp [hi] at hz
            | some i => exact ⟨i, rfl⟩
          obtain ⟨i, hi⟩ := hi
          have hc : P.cellsOf e = 1 := by simp [szOf, hi] at hz; simp [Program.cellsOf, hi, hz]
          have := run_equalIn_array (P := P) w 9999 xs ys hs hi
          rw [hc, List.range_eq_range', ← hn] at this
          exact this.trans (eqEs_sound 9998 l l' 0 r h hx' hy')
        · cases h
      exact ⟨xs, ys, rfl, rfl, fun op x y => run_eqGuard_agg w op t x y xs ys hg', by rw [run_eql_struct, key]; rfl, by rw [run_neq_struct, key]; rfl⟩
end

/-- what of an address, whether it is nil -/
def binA (P : Program) (op : BinOp) (t : TypeId) (x y : AV) : Option AV :=
  match x, y with
  | .d (.int k a), .d (.int k' b) => (match op with
    | .shl | .shr => shBin op k a b
    | _ => if k = k' then intBin op k a b else none).map .d
  | .d (.str a), .d (.str b) => (strBin op a b).map .d
  | .d (.bool a), .d (.bool b) => (boolBin P op t a b).map .d
  | .agg l, .agg l' => match op with
    | .eql => (eqA P t l l').map fun r => .d (.bool r)
    | .neq => (eqA P t l l').map fun r => .d (.bool !r)
    | _ => none
  | .d (.slice (_ :: _)), .nilS => match op, P.underlying t with
    | .eql, some (.slice _) => some (.d (.bool false))
    | .neq, some (.slice _) => some (.d (.bool true))
    | _, _ => none
  | .nilS, .nilS => match op, P.underlying t with
    | .eql, some (.slice _) => some (.d (.bool true))
    | .neq, some (.slice _) => some (.d (.bool false))
    | _, _ => none
  | .d .nilp, .d .nilp => match op, P.underlying t with
    | .eql, some (.pointer _) => some (.d (.bool true))
    | .neq, some (.pointer _) => some (.d (.bool false))
    | _, _ => none
  | .cptr _ _, .d .nilp => match op, P.underlying t with
    | .eql, some (.pointer _) => some (.d (.bool false))
    | .neq, some (.pointer _) => some (.d (.bool true))
    | _, _ => none
  | .ptr _ _, .d .nilp => match op, P.underlying t with
    | .eql, some (.pointer _) => some (.d (.bool false))
    | .neq, some (.pointer _) => some (.d (.bool true))
    | _, _ => none
  | _, _ => none

theorem run_slice_nilcmp {P : Program} {w : World} {t e : TypeId} (h : P.underlying t = some (.slice e)) (a : Option Addr) (n c : Nat) :
    (binOp .eql t (.slice a n c) (.slice none 0 0)).run P w = .ok (.bool a.isNone) w ∧ (binOp .neq t (.slice a n c) (.slice none 0 0)).run P w = .ok (.bool (!a.isNone)) w := by
  have h9 : (Op.equalIn 10000 t (.slice a n c) (.slice none 0 0)).run P w = .ok a.isNone w := by
    have : ∀ d, (Op.equalIn (d + 1) t (.slice a n c) (.slice none 0 0)).run P w = .ok a.isNone w := fun d => by
      cases a <;> simp [Op.equalIn, run_underlying h]
    exact this 9999
  constructor
  · simp only [binOp, Sem.run_bind, Op.equal, Op.maxDepth, h9, Result.andThen_ok, Sem.run_pure]
  · simp only [binOp, Sem.run_bind, Op.equal, Op.maxDepth, h9, Result.andThen_ok, Sem.run_pure]

theorem run_nilp_cmp {P : Program} {w : World} {t e : TypeId} (h : P.underlying t = some (.pointer e)) (a : Option Addr) :
    (binOp .eql t (.pointer a) (.pointer none)).run P w = .ok (.bool a.isNone) w ∧ (binOp .neq t (.pointer a) (.pointer none)).run P w = .ok (.bool (!a.isNone)) w := by
  have h9 : (Op.equalIn 10000 t (.pointer a) (.pointer none)).run P w = .ok a.isNone w := by
    have : ∀ d, (Op.equalIn (d + 1) t (.pointer a) (.pointer none)).run P w = .ok a.isNone w := fun d => by
      cases a <;> simp [Op.equalIn, run_underlying h]
    exact this 9999
  constructor
  · simp only [binOp, Sem.run_bind, Op.equal, Op.maxDepth, h9, Result.andThen_ok, Sem.run_pure]
  · simp only [binOp, Sem.run_bind, Op.equal, Op.maxDepth, h9, Result.andThen_ok, Sem.run_pure]

theorem binA_sound {P : Program} {w : World} {ok : Nat → Prop} {p : Pl} {op : BinOp} {t : TypeId} {x y z : AV} (h : binA P op t x y = some z) {u v : Value} (hu : RA w ok p x u) (hv : RA w ok p y v) (ox oy : Operand) :
    ∃ r, (do eqGuard op t ox oy u v; binOp op t u v : Sem Value).run P w = .ok r w ∧ RA w ok p z r := by
  unfold binA at h
  split at h
  · rename_i k a k' b
    cases hu with | d hu => cases hu with | int => cases hv with | d hv => cases hv with | int =>
    have hg : (eqGuard op t ox oy (.int k a) (.int k' b)).run P w = .ok () w := by cases op <;> simp [eqGuard]
    simp only [Sem.run_bind, hg, Result.andThen_ok]
    cases hd : (match op with | .shl | .shr => shBin op k a b | _ => if k = k' then intBin op k a b else none) with
    | none => rw [hd] at h; cases h
    | some d =>
      rw [hd] at h
      cases h
      have hs : ∀ (hq : shBin op k a b = some d), ∃ r, (binOp op t (.int k a) (.int k' b)).run P w = .ok r w ∧ RA w ok p (.d d) r := fun hq => by
        obtain ⟨r, h1, h2⟩ := shBin_sound (P := P) (w := w) (yk := k') (t := t) hq (ok := ok)
        exact ⟨r, h1, .d h2⟩
      have hi : ∀ (hq : (if k = k' then intBin op k a b else none) = some d), ∃ r, (binOp op t (.int k a) (.int k' b)).run P w = .ok r w ∧ RA w ok p (.d d) r := fun hq => by
        by_cases hk : k = k'
        · rw [if_pos hk] at hq
          obtain ⟨r, h1, h2⟩ := intBin_sound (P := P) (w := w) (t := t) hq (ok := ok)
          rw [← hk]
          exact ⟨r, h1, .d h2⟩
        · rw [if_neg hk] at hq; cases hq
      cases op <;> first | exact hs hd | exact hi hd
  · rename_i a b
    cases hu with | d hu => cases hu with | str => cases hv with | d hv => cases hv with | str =>
    have hg : (eqGuard op t ox oy (.string a) (.string b)).run P w = .ok () w := by cases op <;> simp [eqGuard]
    simp only [Sem.run_bind, hg, Result.andThen_ok]
    cases hd : strBin op a b with
    | none => rw [hd] at h; cases h
    | some d =>
      rw [hd] at h; cases h
      obtain ⟨r, h1, h2⟩ := strBin_sound (P := P) (w := w) (t := t) hd (ok := ok)
      exact ⟨r, h1, .d h2⟩
  · rename_i a b
    cases hu with | d hu => cases hu with | bool => cases hv with | d hv => cases hv with | bool =>
    have hg : (eqGuard op t ox oy (.bool a) (.bool b)).run P w = .ok () w := by cases op <;> simp [eqGuard]
    simp only [Sem.run_bind, hg, Result.andThen_ok]
    cases hd : boolBin P op t a b with
    | none => rw [hd] at h; cases h
    | some d =>
      rw [hd] at h; cases h
      obtain ⟨r, h1, h2⟩ := boolBin_sound (P := P) (w := w) (t := t) hd (ok := ok)
      exact ⟨r, h1, .d h2⟩
  · rename_i l l'
    split at h
    · cases hd : eqA P t l l' with
      | none => rw [hd] at h; cases h
      | some r =>
        rw [hd] at h; cases h
        obtain ⟨xs, ys, _, _, hg, h1, _⟩ := eqA_sound hd hu hv
        simp only [Sem.run_bind, hg, Result.andThen_ok]
        exact ⟨_, h1, .d .bool⟩
    · cases hd : eqA P t l l' with
      | none => rw [hd] at h; cases h
      | some r =>
        rw [hd] at h; cases h
        obtain ⟨xs, ys, _, _, hg, _, h1⟩ := eqA_sound hd hu hv
        simp only [Sem.run_bind, hg, Result.andThen_ok]
        exact ⟨_, h1, .d .bool⟩
    · cases h
  · cases hu with | d hu => cases hu with | slice z vs hz hok hc hcell hd => cases hv with | nilS =>
    rename_i b c
    have hg : ∀ op n c, (eqGuard op t ox oy (.slice (some b) n c) (.slice none 0 0)).run P w = .ok () w := fun op n c => by cases op <;> simp [eqGuard]
    simp only [Sem.run_bind, hg, Result.andThen_ok]
    split at h
    · rename_i e hs; cases h; exact ⟨_, (run_slice_nilcmp hs _ _ _).1, .d .bool⟩
    · rename_i e hs; cases h; exact ⟨_, (run_slice_nilcmp hs _ _ _).2, .d .bool⟩
    · cases h
  · cases hu with | nilS => cases hv with | nilS =>
    have hg : ∀ op, (eqGuard op t ox oy (.slice none 0 0) (.slice none 0 0)).run P w = .ok () w := fun op => by cases op <;> simp [eqGuard]
    simp only [Sem.run_bind, hg, Result.andThen_ok]
    split at h
    · rename_i e hs; cases h; exact ⟨_, (run_slice_nilcmp hs _ _ _).1, .d .bool⟩
    · rename_i e hs; cases h; exact ⟨_, (run_slice_nilcmp hs _ _ _).2, .d .bool⟩
    · cases h
  · cases hu with | d hu => cases hu with | nilp => cases hv with | d hv => cases hv with | nilp =>
    have hg : ∀ op a, (eqGuard op t ox oy (.pointer a) (.pointer none)).run P w = .ok () w := fun op a => by cases op <;> simp [eqGuard]
    simp only [Sem.run_bind, hg, Result.andThen_ok]
    split at h
    · rename_i e hs; cases h; exact ⟨_, (run_nilp_cmp hs _).1, .d .bool⟩
    · rename_i e hs; cases h; exact ⟨_, (run_nilp_cmp hs _).2, .d .bool⟩
    · cases h
  · cases hu with | cptr vs h1 h2 h3 => cases hv with | d hv => cases hv with | nilp =>
    have hg : ∀ op a, (eqGuard op t ox oy (.pointer a) (.pointer none)).run P w = .ok () w := fun op a => by cases op <;> simp [eqGuard]
    simp only [Sem.run_bind, hg, Result.andThen_ok]
    split at h
    · rename_i e hs; cases h; exact ⟨_, (run_nilp_cmp hs _).1, .d .bool⟩
    · rename_i e hs; cases h; exact ⟨_, (run_nilp_cmp hs _).2, .d .bool⟩
    · cases h
  · cases hu with | ptr hn => cases hv with | d hv => cases hv with | nilp =>
    have hg : ∀ op a, (eqGuard op t ox oy (.pointer a) (.pointer none)).run P w = .ok () w := fun op a => by cases op <;> simp [eqGuard]
    simp only [Sem.run_bind, hg, Result.andThen_ok]
    split at h
    · rename_i e hs; cases h; exact ⟨_, (run_nilp_cmp hs _).1, .d .bool⟩
    · rename_i e hs; cases h; exact ⟨_, (run_nilp_cmp hs _).2, .d .bool⟩
    · cases h
  · cases h

end Go.Vl
