/-
  The abstract layer, part 4: operations whose answer hangs on their operands alone.
-/
import Derived.Test.YtoiceinjademgaaDoorA3
namespace Go.Proofs.YtoiceinjademgaaDoor
open Go.RowKit

section inv
variable {c : Cx} {v : Value}
theorem RepV.int_inv {k : IntKind} {n : Int} (h : RepV c (.int k n) v) : v = .int k n := by cases h; rfl
theorem RepV.bool_inv {b : Bool} (h : RepV c (.bool b) v) : v = .bool b := by cases h; rfl
theorem RepV.str_inv {s : ByteArray} (h : RepV c (.str s) v) : v = .string s := by cases h; rfl
theorem RepV.imm_inv {u : Value} (h : RepV c (.imm u) v) : v = u := by cases h; rfl
theorem RepV.agg_inv {as : List AV} (h : RepV c (.agg as) v) : ∃ vs : Array Value, v = .agg vs ∧ vs.size = as.length ∧ ∀ (i : Nat) (a : AV), as[i]? = some a → RepV c a (vs.getD i undef) := by
  cases h with | agg _ vs hs hr => exact ⟨vs, rfl, hs, hr⟩
theorem RepV.tup_inv {as : List AV} (h : RepV c (.tup as) v) : ∃ vs : Array Value, v = .tuple vs ∧ vs.size = as.length ∧ ∀ (i : Nat) (a : AV), as[i]? = some a → RepV c a (vs.getD i undef) := by
  cases h with | tup _ vs hs hr => exact ⟨vs, rfl, hs, hr⟩
theorem RepV.fn_inv {f : Fn} {fs gs : List AV} (h : RepV c (.fn f fs gs) v) : ∃ us vs : Array Value, v = .func f us vs ∧ RepVs c fs us ∧ RepVs c gs vs := by
  cases h with | fn _ _ _ us vs h1 h2 h3 h4 => exact ⟨us, vs, rfl, ⟨h1, h3⟩, ⟨h2, h4⟩⟩
theorem RepV.list_inv {xs : List (List AV)} (h : RepV c (.list xs) v) : ∃ A cap, v = .slice A xs.length cap := by
  cases h with
  | list => exact ⟨_, _, rfl⟩
  | lnil A cap => exact ⟨A, cap, rfl⟩
theorem RepV.sl_inv {sz k n off len : Nat} (h : RepV c (.sl sz k n off len) v) : ∃ A cap, v = .slice A len cap := by
  cases h with | sl _ _ _ _ _ A cap => exact ⟨A, cap, rfl⟩
theorem RepV.iface_inv {t : TypeId} {a : AV} (h : RepV c (.iface t a) v) : ∃ u, v = .iface t u ∧ RepV c a u := by
  cases h with | iface _ _ u h => exact ⟨u, rfl, h⟩
theorem RepV.ptr_inv {k n i off : Nat} (h : RepV c (.ptr k n i off) v) : ∃ b o, v = .pointer (some ⟨b, o, none⟩) := by
  cases h with | ptr _ _ _ _ b o => exact ⟨b, o, rfl⟩
end inv

/-! ### Two operands -/
def arith (op : BinOp) (k : IntKind) (a b : Int) : Option AV :=
  match op with
  | .add => some (.int k (k.wrap (a + b)))
  | .sub => some (.int k (k.wrap (a - b)))
  | .mul => some (.int k (k.wrap (a * b)))
  | .quo => if b = 0 then none else some (.int k (k.wrap (a.tdiv b)))
  | .rem => if b = 0 then none else some (.int k (a.tmod b))
  | .and => some (.int k (bits .and k a b))
  | .or => some (.int k (bits .or k a b))
  | .xor => some (.int k (bits .xor k a b))
  | .eql => some (.bool (a == b))
  | .neq => some (.bool (a != b))
  | .lss => some (.bool (decide (a < b)))
  | .leq => some (.bool (decide (a ≤ b)))
  | .gtr => some (.bool (decide (b < a)))
  | .geq => some (.bool (decide (b ≤ a)))
  | _ => none

def eqCell : EqB → AV → AV → Option Bool
  | .i, .int k a, .int k' b => if k = k' then some (a == b) else none
  | .b, .bool a, .bool b => some (a == b)
  | .s, .str a, .str b => some (a == b)
  | _, _, _ => none

def eqCells : List EqB → List AV → List AV → Option Bool
  | [], [], [] => some true
  | k :: ks, a :: as, b :: bs => (eqCell k a b).bind fun x => (eqCells ks as bs).map fun y => x && y
  | _, _, _ => none

def binA (op : BinOp) (q : EqK) : AV → AV → Option AV
  | .int k a, .int k' b =>
    match op with
    | .shl => if b < 0 then none else some (.int k (k.wrap (a * 2 ^ (min b.toNat k.bits))))
    | .shr => if b < 0 then none else some (.int k (a.fdiv (2 ^ (min b.toNat k.bits))))
    | op => if k = k' then arith op k a b else none
  | .str a, .str b =>
    match op with
    | .add => if ((a.size + b.size : Nat) : Int) > IntKind.i64.max then none else some (.str (a ++ b))
    | .eql => some (.bool (a == b))
    | .neq => some (.bool (!(a == b)))
    | _ => none
  | .bool a, .bool b =>
    match op, q with
    | .eql, .bool => some (.bool (a == b))
    | .neq, .bool => some (.bool (!(a == b)))
    | _, _ => none
  | .agg as, .agg bs =>
    match op, q with
    | .eql, .cells ks => (eqCells ks as bs).map .bool
    | .neq, .cells ks => (eqCells ks as bs).map fun x => .bool (!x)
    | _, _ => none
  | .fn .., .imm .nilFunc =>
    match op, q with
    | .eql, .func => some (.bool false)
    | .neq, .func => some (.bool true)
    | _, _ => none
  | .imm .nilFunc, .imm .nilFunc =>
    match op, q with
    | .eql, .func => some (.bool true)
    | .neq, .func => some (.bool false)
    | _, _ => none
  | _, _ => none

theorem eqCell_sound {P : Program} {c : Cx} {t : TypeId} {q : EqB} (ht : basicK P t = some q) {a b : AV} {x y : Value} (hx : RepV c a x) (hy : RepV c b y) {r : Bool} (h : eqCell q a b = some r) (d : Nat) (w : World) :
    (Op.equalIn (d + 1) t x y).run P w = .ok r w := by
  unfold basicK at ht
  unfold eqCell at h
  split at h
  · rename_i k n k' m
    split at h
    · rename_i e
      subst e
      obtain rfl := hx.int_inv
      obtain rfl := hy.int_inv
      split at ht <;> simp at ht
      rename_i k2 hu
      rw [run_equalIn_int w d t k k2 n m hu]
      simp at h
      rw [h]
    · simp at h
  · rename_i p q
    obtain rfl := hx.bool_inv
    obtain rfl := hy.bool_inv
    split at ht <;> simp at ht
    rename_i hu
    rw [run_equalIn_bool' w d t p q hu]
    simp at h
    rw [h]
  · rename_i p q
    obtain rfl := hx.str_inv
    obtain rfl := hy.str_inv
    split at ht <;> simp at ht
    rename_i hu
    rw [run_equalIn_string w d t p q hu, ← beq_toListBytes]
    simp at h
    rw [h]
  · simp at h

theorem basicK_plain {P : Program} {t : TypeId} {q : EqB} (ht : basicK P t = some q) {xs : Array Value} {off : Nat} {v : Value} (hx : xs[off]? = some v) (w : World) : (part t xs off).run P w = .ok v w := by
  unfold basicK at ht
  split at ht <;> simp at ht <;> (rename_i hu; simp [part, isAgg, run_underlying hu, hx])

theorem eqFields_sound {P : Program} {c : Cx} (d : Nat) (xs ys : Array Value) (w : World) : ∀ (fs : List Field) (i : Nat) (ks : List EqB) (as bs : List AV) (r : Bool), flatF P i fs = some ks → eqCells ks as bs = some r →
    (∀ (j : Nat) (a : AV), as[j]? = some a → ∃ v, xs[i + j]? = some v ∧ RepV c a v) → (∀ (j : Nat) (a : AV), bs[j]? = some a → ∃ v, ys[i + j]? = some v ∧ RepV c a v) →
    (Op.eqFields (d + 1) xs ys fs).run P w = .ok r w
  | [], i, ks, as, bs, r, hf, he, _, _ => by
    simp only [flatF, Option.some.injEq] at hf
    subst hf
    cases as <;> cases bs <;> simp [eqCells] at he
    subst he
    simp [Op.eqFields]
  | f :: fs, i, ks, as, bs, r, hf, he, hx, hy => by
    simp only [flatF] at hf
    split at hf
    · rename_i hc
      simp only [Bool.and_eq_true, beq_iff_eq, bne_iff_ne] at hc
      simp only [Option.bind_eq_some_iff, Option.map_eq_some_iff] at hf
      obtain ⟨k, hk, ks', hks, rfl⟩ := hf
      cases as with
      | nil => simp [eqCells] at he
      | cons a as =>
        cases bs with
        | nil => simp [eqCells] at he
        | cons b bs =>
          simp only [eqCells, Option.bind_eq_some_iff, Option.map_eq_some_iff] at he
          obtain ⟨x, hx1, y, hy1, rfl⟩ := he
          obtain ⟨u, hu, ru⟩ := hx 0 a rfl
          obtain ⟨v, hv, rv⟩ := hy 0 b rfl
          rw [Nat.add_zero, ← hc.1] at hu hv
          have ih := eqFields_sound d xs ys w fs (i + 1) ks' as bs y hks hy1 (fun j z hz => by have := hx (j + 1) z (by simpa using hz); rwa [show i + (j + 1) = i + 1 + j by omega] at this)
            (fun j z hz => by have := hy (j + 1) z (by simpa using hz); rwa [show i + (j + 1) = i + 1 + j by omega] at this)
          simp only [Op.eqFields, if_pos hc.2, Sem.run_bind, basicK_plain hk hu, basicK_plain hk hv, Result.andThen_ok, eqCell_sound hk ru rv hx1 d w, Sem.run_ite, Sem.run_pure, ih]
          cases x <;> simp
    · simp at hf

theorem Op_equal_flat {P : Program} {c : Cx} {t : TypeId} {ks : List EqB} (ht : flatS P t = some ks) {as bs : List AV} {x y : Value} (hx : RepV c (.agg as) x) (hy : RepV c (.agg bs) y) {r : Bool} (h : eqCells ks as bs = some r) (w : World) :
    (Op.equal t x y).run P w = .ok r w ∧ ∀ op p q, (eqGuard op t p q x y).run P w = .ok () w := by
  unfold flatS at ht
  split at ht
  · rename_i fs hu
    split at ht
    · rename_i hc
      simp only [Bool.and_eq_true, Bool.not_eq_true'] at hc
      obtain ⟨xs, rfl, hxs, hxr⟩ := hx.agg_inv
      obtain ⟨ys, rfl, hys, hyr⟩ := hy.agg_inv
      have hfo : P.fieldsOf t = fs := by simp [Program.fieldsOf, hu]
      refine ⟨?_, fun op p q => run_eqGuard_agg w op t p q xs ys hc.2⟩
      show (Op.equalIn (9998 + 1 + 1) t (.agg xs) (.agg ys)).run P w = _
      rw [run_equalIn_struct w _ t xs ys (by rw [hfo]; exact hu) hc.1, hfo]
      refine eqFields_sound (c := c) _ xs ys w fs.toList 0 ks as bs r ht h (fun j a ha => ?_) (fun j a ha => ?_)
      · have hl : j < xs.size := by rw [hxs]; exact (List.getElem?_eq_some_iff.1 ha).1
        have := hxr j a ha
        simp only [hl, Array.getD_eq_getD_getElem?, Array.getElem?_eq_getElem, Option.getD_some] at this
        exact ⟨xs[j], by simp [hl], this⟩
      · have hl : j < ys.size := by rw [hys]; exact (List.getElem?_eq_some_iff.1 ha).1
        have := hyr j a ha
        simp only [hl, Array.getD_eq_getD_getElem?, Array.getElem?_eq_getElem, Option.getD_some] at this
        exact ⟨ys[j], by simp [hl], this⟩
    · simp at ht
  · simp at ht

theorem intArith_run (P : Program) (w : World) (t : TypeId) (op : BinOp) (k : IntKind) (a b : Int) (v : AV) (h : arith op k a b = some v) : ∃ u, (∀ c, RepV c v u) ∧ (binOp op t (.int k a) (.int k b)).run P w = .ok u w := by
  cases op <;> simp only [arith] at h
  case quo =>
    split at h
    · simp at h
    · rename_i hb
      simp only [Option.some.injEq] at h
      subst h
      exact ⟨_, fun c => .int _ _, by simp [go_sem, Op.intDiv, hb]⟩
  case rem =>
    split at h
    · simp at h
    · rename_i hb
      simp only [Option.some.injEq] at h
      subst h
      exact ⟨_, fun c => .int _ _, by simp [go_sem, Op.intDiv, hb]⟩
  case and => simp only [Option.some.injEq] at h; subst h; exact ⟨_, fun c => .int _ _, by simp only [go_sem]; rfl⟩
  case or => simp only [Option.some.injEq] at h; subst h; exact ⟨_, fun c => .int _ _, by simp only [go_sem]; rfl⟩
  case xor => simp only [Option.some.injEq] at h; subst h; exact ⟨_, fun c => .int _ _, by simp only [go_sem]; rfl⟩
  all_goals first
    | (simp at h; done)
    | (simp only [Option.some.injEq] at h; subst h; exact ⟨_, fun c => .int _ _, by simp only [go_sem]; rfl⟩)
    | (simp only [Option.some.injEq] at h; subst h; exact ⟨_, fun c => .bool _, by simp only [go_sem]; rfl⟩)

theorem run_equalIn_func (P : Program) (w : World) (d : Nat) (t : TypeId) (f : Fn) (us vs : Array Value) (a b : Array TypeId) (z : Bool) (h : P.underlying t = some (.func a b z)) : (Op.equalIn (d + 1) t (.func f us vs) .nilFunc).run P w = .ok false w := by
  simp [Op.equalIn, run_underlying h]
theorem run_equalIn_func' (P : Program) (w : World) (d : Nat) (t : TypeId) (a b : Array TypeId) (z : Bool) (h : P.underlying t = some (.func a b z)) : (Op.equalIn (d + 1) t .nilFunc .nilFunc).run P w = .ok true w := by
  simp [Op.equalIn, run_underlying h]

theorem binA_sound {P : Program} {c : Cx} {op : BinOp} {t : TypeId} {ax ay v : AV} {x y : Value} (hx : RepV c ax x) (hy : RepV c ay y) (h : binA op (eqk P t) ax ay = some v) :
    ∃ u, RepV c v u ∧ ∀ w p q, (eqGuard op t p q x y).run P w = .ok () w ∧ (binOp op t x y).run P w = .ok u w := by
  unfold binA at h
  split at h
  · rename_i k a k' b
    obtain rfl := hx.int_inv
    obtain rfl := hy.int_inv
    have hg : ∀ w p q, (eqGuard op t p q (.int k a) (.int k' b)).run P w = .ok () w := fun w p q => by cases op <;> rfl
    split at h
    · split at h
      · simp at h
      · rename_i hb
        simp only [Option.some.injEq] at h
        subst h
        exact ⟨_, .int _ _, fun w p q => ⟨hg w p q, by simp [go_sem, Op.shift, hb]⟩⟩
    · split at h
      · simp at h
      · rename_i hb
        simp only [Option.some.injEq] at h
        subst h
        exact ⟨_, .int _ _, fun w p q => ⟨hg w p q, by simp [go_sem, Op.shift, hb]⟩⟩
    · split at h
      · rename_i e
        subst e
        obtain ⟨u, hu, _⟩ := intArith_run P default t op k a b v h
        refine ⟨u, hu c, fun w p q => ⟨hg w p q, ?_⟩⟩
        obtain ⟨u', hu', hr⟩ := intArith_run P w t op k a b v h
        have e1 := hu' c
        have e2 := hu c
        have : u' = u := by
          cases op <;> simp only [arith] at h <;> first
            | (simp at h; done)
            | (split at h <;> first | (simp at h; done) | (simp only [Option.some.injEq] at h; subst h; rw [e1.int_inv, e2.int_inv]))
            | (simp only [Option.some.injEq] at h; subst h; rw [e1.int_inv, e2.int_inv])
            | (simp only [Option.some.injEq] at h; subst h; rw [e1.bool_inv, e2.bool_inv])
        exact this ▸ hr
      · simp at h
  · rename_i a b
    obtain rfl := hx.str_inv
    obtain rfl := hy.str_inv
    have hg : ∀ w p q, (eqGuard op t p q (.string a) (.string b)).run P w = .ok () w := fun w p q => by cases op <;> rfl
    split at h
    · split at h
      · simp at h
      · rename_i hb
        simp only [Option.some.injEq] at h
        subst h
        exact ⟨_, .str _, fun w p q => ⟨hg w p q, by simp only [binOp_string_add, Op.stringOp]; rw [if_neg hb]; rfl⟩⟩
    · simp only [Option.some.injEq] at h
      subst h
      exact ⟨_, .bool _, fun w p q => ⟨hg w p q, by rw [binOp_string_eql, beq_toListBytes]; rfl⟩⟩
    · simp only [Option.some.injEq] at h
      subst h
      exact ⟨_, .bool _, fun w p q => ⟨hg w p q, by rw [binOp_string_neq, beq_toListBytes]; rfl⟩⟩
    · simp at h
  · rename_i a b
    obtain rfl := hx.bool_inv
    obtain rfl := hy.bool_inv
    have hg : ∀ w p q, (eqGuard op t p q (.bool a) (.bool b)).run P w = .ok () w := fun w p q => by cases op <;> rfl
    have hu : eqk P t = .bool → P.underlying t = some .bool := fun he => by
      unfold eqk at he
      split at he
      · assumption
      · simp at he
      · split at he <;> simp at he
    split at h
    · rename_i he
      simp only [Option.some.injEq] at h
      subst h
      refine ⟨_, .bool _, fun w p q => ⟨hg w p q, ?_⟩⟩
      simp only [binOp, Sem.run_bind, Op.equal]
      rw [show Op.maxDepth = 9999 + 1 from rfl, run_equalIn_bool' w _ t a b (hu he)]
      rfl
    · rename_i he
      simp only [Option.some.injEq] at h
      subst h
      refine ⟨_, .bool _, fun w p q => ⟨hg w p q, ?_⟩⟩
      simp only [binOp, Sem.run_bind, Op.equal]
      rw [show Op.maxDepth = 9999 + 1 from rfl, run_equalIn_bool' w _ t a b (hu he)]
      rfl
    · simp at h
  · rename_i as bs
    have hu : ∀ ks, eqk P t = .cells ks → flatS P t = some ks := fun ks he => by
      unfold eqk at he
      split at he
      · simp at he
      · simp at he
      · split at he
        · rename_i h'
          simp only [EqK.cells.injEq] at he
          rw [h', he]
        · simp at he
    split at h
    · rename_i ks he
      simp only [Option.map_eq_some_iff] at h
      obtain ⟨r, hr, rfl⟩ := h
      refine ⟨_, .bool r, fun w p q => ?_⟩
      obtain ⟨h1, h2⟩ := Op_equal_flat (hu ks he) hx hy hr w
      obtain ⟨xs, rfl, _⟩ := hx.agg_inv
      obtain ⟨ys, rfl, _⟩ := hy.agg_inv
      refine ⟨h2 _ _ _, ?_⟩
      simp only [binOp, Sem.run_bind, h1]
      rfl
    · rename_i ks he
      simp only [Option.map_eq_some_iff] at h
      obtain ⟨r, hr, rfl⟩ := h
      refine ⟨_, .bool (!r), fun w p q => ?_⟩
      obtain ⟨h1, h2⟩ := Op_equal_flat (hu ks he) hx hy hr w
      obtain ⟨xs, rfl, _⟩ := hx.agg_inv
      obtain ⟨ys, rfl, _⟩ := hy.agg_inv
      refine ⟨h2 _ _ _, ?_⟩
      simp only [binOp, Sem.run_bind, h1]
      rfl
    · simp at h
  · rename_i f fs gs
    obtain ⟨us, vs, rfl, _⟩ := hx.fn_inv
    obtain rfl := hy.imm_inv
    have hu : eqk P t = .func → ∃ a b c, P.underlying t = some (.func a b c) := fun he => by
      unfold eqk at he
      split at he
      · simp at he
      · exact ⟨_, _, _, by assumption⟩
      · split at he <;> simp at he
    split at h
    · rename_i he
      simp only [Option.some.injEq] at h
      subst h
      obtain ⟨a, b, d, hu⟩ := hu he
      exact ⟨_, .bool _, fun w p q => ⟨rfl, by simp only [binOp, Sem.run_bind, Op.equal]; rw [show Op.maxDepth = 9999 + 1 from rfl, run_equalIn_func P w _ t f us vs a b d hu]; rfl⟩⟩
    · rename_i he
      simp only [Option.some.injEq] at h
      subst h
      obtain ⟨a, b, d, hu⟩ := hu he
      exact ⟨_, .bool _, fun w p q => ⟨rfl, by simp only [binOp, Sem.run_bind, Op.equal]; rw [show Op.maxDepth = 9999 + 1 from rfl, run_equalIn_func P w _ t f us vs a b d hu]; rfl⟩⟩
    · simp at h
  · obtain rfl := hx.imm_inv
    obtain rfl := hy.imm_inv
    have hu : eqk P t = .func → ∃ a b c, P.underlying t = some (.func a b c) := fun he => by
      unfold eqk at he
      split at he
      · simp at he
      · exact ⟨_, _, _, by assumption⟩
      · split at he <;> simp at he
    split at h
    · rename_i he
      simp only [Option.some.injEq] at h
      subst h
      obtain ⟨a, b, d, hu⟩ := hu he
      exact ⟨_, .bool _, fun w p q => ⟨rfl, by simp only [binOp, Sem.run_bind, Op.equal]; rw [show Op.maxDepth = 9999 + 1 from rfl, run_equalIn_func' P w _ t a b d hu]; rfl⟩⟩
    · rename_i he
      simp only [Option.some.injEq] at h
      subst h
      obtain ⟨a, b, d, hu⟩ := hu he
      exact ⟨_, .bool _, fun w p q => ⟨rfl, by simp only [binOp, Sem.run_bind, Op.equal]; rw [show Op.maxDepth = 9999 + 1 from rfl, run_equalIn_func' P w _ t a b d hu]; rfl⟩⟩
    · simp at h
  · simp at h

end Go.Proofs.YtoiceinjademgaaDoor
