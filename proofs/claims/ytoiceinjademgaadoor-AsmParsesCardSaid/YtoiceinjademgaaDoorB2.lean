/-
  The abstract layer, part 11: operations that read or write memory.
-/
import Derived.Test.YtoiceinjademgaaDoorB1
namespace Go.Proofs.YtoiceinjademgaaDoor
open Go.RowKit

/-- Slots and objects. -/
structure AS where
  t : Tm
  H : List AObj

/-- The row of cells that a pointer leads to, and where in it. -/
def rowOf (H : List AObj) : AV → Option (List AV × Nat)
  | .lptr row off => some (row, off)
  | .ptr k n i off => match H[k]? with
    | some (.vec _ xs) => if n = xs.length then (xs[i]?).map fun r => (r, off) else none
    | _ => none
  | _ => none

/-- A slice's elements. -/
def elems (H : List AObj) : AV → Option (List (List AV))
  | .list xs => some xs
  | .sl sz k n off len => match H[k]? with
    | some (.vec sz' xs) => if n = xs.length ∧ sz = sz' then some ((xs.drop off).take len) else none
    | _ => none
  | _ => none

def cellsOf : AV → Option (List AV)
  | .agg cs => some cs
  | .tup _ => none
  | .dead => none
  | a => if a.cell then some [a] else none

/-- Does a row of cells hold values of one cell each? -/
def allCells (l : List AV) : Bool := l.all AV.cell

def putRow (row : List AV) (off : Nat) (cs : List AV) : List AV := row.take off ++ cs ++ row.drop (off + cs.length)

/-- nil, as a slice. -/
abbrev AV.nils : AV := .imm (.slice none 0 0)

def keyIs : AV → AV → Option Bool
  | .int k a, .int k' b => if k = k' then some (a == b) else none
  | _, _ => none

def findKeyA (key : AV) : List (AV × AV) → Nat → Option (Option (Nat × AV))
  | [], _ => some none
  | (k, v) :: r, i => match keyIs key k with
    | some true => some (some (i, v))
    | some false => findKeyA key r (i + 1)
    | none => none

def isInt : AV → Bool
  | .int .. => true
  | _ => false

/-- Elements laid into rows. -/
def fillRows (e : Opd → AV) (sz : Nat) : List (List AV) → List (Nat × Opd) → Option (List (List AV))
  | xs, [] => some xs
  | xs, (i, x) :: r => (cellsOf (e x)).bind fun cs => if cs.length = sz ∧ i < xs.length then fillRows e sz (xs.set i cs) r else none

/-- Rows of one byte each. -/
def bytesOf : List (List AV) → Option (List UInt8)
  | [] => some []
  | [.int .u8 n] :: r => (bytesOf r).map fun l => UInt8.ofNat n.toNat :: l
  | _ => none

def byteRows (s : ByteArray) : List (List AV) := s.data.toList.map fun b => [.int .u8 (b.toNat : Int)]

/-- Are all rows of such a length, of cells? -/
def rowsOk (sz : Nat) (ys : List (List AV)) : Bool := ys.all fun r => r.length == sz && allCells r

def appendL (H : List AObj) (sz bytes : Nat) (s : AV) (ys : List (List AV)) : Option (AV × List AObj) :=
  match s with
  | .imm (.slice none 0 0) => if ys.length * bytes ≤ 140737488355328 ∧ ys.length ≤ maxLen then some (.sl sz H.length ys.length 0 ys.length, H ++ [.vec sz ys]) else none
  | .sl sz' k n off len => match H[k]? with
    | some (.vec z xs) => if n = xs.length ∧ sz = sz' ∧ z = sz ∧ off = 0 ∧ len = n ∧ (n + ys.length) * bytes ≤ 140737488355328 ∧ n + ys.length ≤ maxLen then
        some (.sl sz k (n + ys.length) 0 (n + ys.length), H.set k (.vec sz (xs ++ ys))) else none
    | _ => none
  | _ => none

/-- What an operation (no call) comes to, and the objects behind it. -/
def stepL (op : LOp) (σ : AS) : Option (AV × List AObj) :=
  match op with
  | .load agg sz a => (rowOf σ.H (ev σ.t a)).bind fun (row, off) => (partA agg sz off row).map fun v => (v, σ.H)
  | .alloc z => some (.ptr σ.H.length 1 0 0, σ.H ++ [.vec z.length [z]])
  | .box x => (cellsOf (ev σ.t x)).bind fun cs => if 0 < cs.length then some (.ptr σ.H.length 1 0 0, σ.H ++ [.vec cs.length [cs]]) else none
  | .store sz a x => match ev σ.t a with
    | .ptr k n i off => match σ.H[k]? with
      | some (.vec z xs) => if n = xs.length then (xs[i]?).bind fun row => (cellsOf (ev σ.t x)).bind fun cs =>
          if cs.length = sz ∧ off + sz ≤ z ∧ allCells cs = true then some (.dead, σ.H.set k (.vec z (xs.set i (putRow row off cs)))) else none
        else none
      | _ => none
    | _ => none
  | .bslice sz z len parts => (fillRows (ev σ.t) sz (List.replicate len z) parts).map fun xs => (.sl sz σ.H.length len 0 len, σ.H ++ [.vec sz xs])
  | .mkSlice sz bytes z len cap => match ev σ.t len, ev σ.t cap with
    | .int _ l, .int _ c => if 0 ≤ l ∧ l ≤ c ∧ (bytes : Int) * c ≤ 140737488355328 ∧ c ≤ 9223372036854775807 then some (.sl sz σ.H.length l.toNat 0 l.toNat, σ.H ++ [.vec sz (List.replicate l.toNat z)]) else none
    | _, _ => none
  | .append sz bytes s x => match ev σ.t x with
    | .imm (.slice none 0 0) => appendL σ.H sz bytes (ev σ.t s) []
    | x => (elems σ.H x).bind fun ys => if rowsOk sz ys = true then appendL σ.H sz bytes (ev σ.t s) ys else none
  | .appendS s x => match ev σ.t x with
    | .str b => appendL σ.H 1 1 (ev σ.t s) (byteRows b)
    | _ => none
  | .copy sz d s => match ev σ.t d, elems σ.H (ev σ.t s) with
    | .sl sz' k n off len, some ys => match σ.H[k]? with
      | some (.vec z xs) => if n = xs.length ∧ sz = sz' ∧ z = sz ∧ off + len ≤ n ∧ rowsOk sz ys = true then
          some (.int .i64 ((min ys.length len : Nat) : Int), σ.H.set k (.vec sz (xs.take off ++ ys.take (min ys.length len) ++ xs.drop (off + min ys.length len)))) else none
      | _ => none
    | _, _ => none
  | .toStr x => match ev σ.t x with
    | .imm (.slice none 0 0) => some (.str .empty, σ.H)
    | x => (elems σ.H x).bind fun xs => (bytesOf xs).map fun l => (.str ⟨l.toArray⟩, σ.H)
  | .mkMap => some (.map σ.H.length, σ.H ++ [.map []])
  | .lookup z x k ok => match ev σ.t x with
    | .map m => match σ.H[m]? with
      | some (.map es) => if isInt (ev σ.t k) = true then (findKeyA (ev σ.t k) es 0).map fun r => match r with
          | some (_, v) => (if ok then .tup [v, .bool true] else v, σ.H)
          | none => (if ok then .tup [z, .bool false] else z, σ.H)
        else none
      | _ => none
    | _ => none
  | .mapSet m k v => match ev σ.t m with
    | .map m => match σ.H[m]? with
      | some (.map es) => if isInt (ev σ.t k) = true then (findKeyA (ev σ.t k) es 0).map fun r => match r with
          | some (i, _) => (.dead, σ.H.set m (.map (es.set i (ev σ.t k, ev σ.t v))))
          | none => (.dead, σ.H.set m (.map (es ++ [(ev σ.t k, ev σ.t v)])))
        else none
      | _ => none
    | _ => none
  | .len .map x => match ev σ.t x with
    | .map m => match σ.H[m]? with
      | some (.map es) => some (.int .i64 (es.length : Int), σ.H)
      | _ => none
    | _ => none
  | .range x => match ev σ.t x with
    | .str s => some (.iter σ.H.length, σ.H ++ [.iter s 0])
    | _ => none
  | .next it => match ev σ.t it with
    | .iter k => match σ.H[k]? with
      | some (.iter s p) => if p < s.size then some (.tup [.bool true, .int .i64 (p : Int), .int .i32 ((Utf8.decode s p).1 : Int)], σ.H.set k (.iter s (p + (Utf8.decode s p).2))) else some (.tup [.bool false], σ.H)
      | _ => none
    | _ => none
  | op => (pureStep op (ev σ.t)).map fun v => (v, σ.H)

def Does (P : Program) (ρ : Operand → Value) (o : Oper) (c : Cx) (v : AV) (H' : List AObj) : Prop :=
  ∃ ι' w' n u, (execOp ρ o).run P c.w = .ok n w' ∧ (n = .value u ∨ (n = .skip ∧ u = undef)) ∧ RepH ⟨ι', H', w'⟩ ∧ Fr c ⟨ι', H', w'⟩ ∧ RepV ⟨ι', H', w'⟩ v u

section
variable {P : Program} {c : Cx} {ρ : Operand → Value} {t : Tm}

theorem loadVar_run {ty : TypeId} (ht : (P.underlying ty).isSome = true) {w : World} {b o off : Nat} {row : List AV} {v : AV} (hp : partA (aggOf P ty) (szOf P ty) off row = some v) (cs : Nat → Value)
    (hc : ∀ (j : Nat) (a : AV), row[j]? = some a → w.cell? ⟨b, o + j, none⟩ = some (cs j)) (hr : ∀ (j : Nat) (a : AV), row[j]? = some a → RepV c a (cs j)) :
    ∃ u, RepV c v u ∧ (loadVar ty ⟨b, o + off, none⟩).run P w = .ok u w := by
  unfold partA at hp
  cases hg : aggOf P ty with
  | true =>
    rw [hg, if_pos rfl] at hp
    split at hp
    · rename_i hle
      simp only [Option.some.injEq] at hp
      subst hp
      have hl := run_loadCells (P := P) w ⟨b, o + off, none⟩ (szOf P ty) (fun j => cs (off + j)) (fun j hj => by
        rw [add_zero', Nat.add_assoc]
        exact hc (off + j) _ (List.getElem?_eq_getElem (by omega)))
      refine ⟨_, .agg _ _ ?_ fun i a ha => ?_, by simp only [loadVar, Sem.run_bind, run_isAgg' ht, hg, Result.andThen_ok, if_true, run_sizeOf' (info_of_und ht), hl, Sem.run_pure]; rfl⟩
      · simp; omega
      · have hi : i < szOf P ty := by
          have := (List.getElem?_eq_some_iff.1 ha).1
          simp at this; omega
        rw [List.getElem?_take, if_pos hi, List.getElem?_drop] at ha
        have := hr _ a ha
        simpa [hi] using this
    · simp at hp
  | false =>
    rw [hg, if_neg (by simp)] at hp
    exact ⟨cs off, hr off v hp, by simp [loadVar, run_isAgg' ht, hg, hc off v hp]⟩

/-- What a pointer leads to, in a world. -/
theorem rowOf_spec {H : List AObj} {ι : Nat → Option Nat} {w : World} (hH : RepH ⟨ι, H, w⟩) {a : AV} {x : Value} (hx : RepV ⟨ι, H, w⟩ a x) {row : List AV} {off : Nat} (h : rowOf H a = some (row, off)) :
    ∃ b o, ∃ cs : Nat → Value, x = .pointer (some ⟨b, o + off, none⟩) ∧ (∀ (j : Nat) (a : AV), row[j]? = some a → w.cell? ⟨b, o + j, none⟩ = some (cs j)) ∧ (∀ (j : Nat) (a : AV), row[j]? = some a → RepV ⟨ι, H, w⟩ a (cs j)) := by
  unfold rowOf at h
  split at h
  · simp only [Option.some.injEq, Prod.mk.injEq] at h
    obtain ⟨rfl, rfl⟩ := h
    cases hx with
    | lptr _ _ b o cs h0 hw hst hc hr => exact ⟨b, o, cs, rfl, hc, hr⟩
  · rename_i k n i off'
    split at h
    · rename_i sz xs hk
      split at h
      · rename_i hn
        simp only [Option.map_eq_some_iff, Prod.mk.injEq] at h
        obtain ⟨r, hr, rfl, rfl⟩ := h
        have ho := hH.obj k _ hk
        obtain ⟨h0, hrow, _, h4⟩ := ho
        cases hx with
        | ptr _ _ _ _ b0 o0 hkl hle hv =>
          obtain ⟨hι, rfl⟩ := hv sz xs hk hn
          simp only at h4 hι
          rw [hι] at h4
          obtain ⟨cs, el, fr, h5, h6, h7, h8⟩ := h4
          have hi : i < xs.length := (List.getElem?_eq_some_iff.1 hr).1
          have hrl : r.length = sz := hrow r (List.mem_of_getElem? hr)
          refine ⟨b0, i * sz, fun j => cs.getD (i * sz + j) undef, rfl, fun j a ha => ?_, fun j a ha => h8 i j a (by simp [cellAt, hr, ha])⟩
          have hj : j < sz := by rw [← hrl]; exact (List.getElem?_eq_some_iff.1 ha).1
          have hlt : i * sz + j < cs.size := by
            have : (i + 1) * sz ≤ xs.length * sz := Nat.mul_le_mul_right sz hi
            rw [Nat.add_mul, Nat.one_mul] at this
            omega
          simp [World.cell?, h5, hlt]
      · simp at h
    · simp at h
  · simp at h

theorem Fr.same (c : Cx) (H : List AObj) (h : c.H = H) : Fr c ⟨c.ι, H, c.w⟩ := by
  subst h
  exact Fr.refl c

theorem s_load (hH : RepH c) (hρ : ∀ x, RepV c (ev t (lowX x)) (ρ x)) {o : Oper} {ty : TypeId} {a : Operand} (ho : o.op = .load ty a) (ht : (P.underlying ty).isSome = true) {v : AV} {H' : List AObj}
    (h : stepL (.load (aggOf P ty) (szOf P ty) (lowX a)) ⟨t, c.H⟩ = some (v, H')) : H' = c.H ∧ ∃ u, RepV c v u ∧ (execOp ρ o).run P c.w = .ok (.value u) c.w := by
  simp only [stepL, Option.bind_eq_some_iff, Option.map_eq_some_iff, Prod.mk.injEq] at h
  obtain ⟨⟨row, off⟩, h1, v', h2, rfl, rfl⟩ := h
  obtain ⟨b, o', cs, hx, hc, hr⟩ := rowOf_spec (ι := c.ι) (w := c.w) hH (hρ a) h1
  obtain ⟨u, hu, hrun⟩ := loadVar_run (c := c) ht (w := c.w) h2 cs hc hr
  exact ⟨rfl, u, hu, by simp [execOp, ho, Instr.loadAt, hx, Instr.sureAddr, hrun]⟩

theorem cellAt_one {z : List AV} {i j : Nat} {a : AV} (h : cellAt [z] i j = some a) : i = 0 ∧ z[j]? = some a := by
  cases i with
  | zero => exact ⟨rfl, by simpa [cellAt] using h⟩
  | succ i => simp [cellAt] at h

theorem push_ι (o : AObj) (β : Option Nat) (w : World) : (c.push o β w).ι c.H.length = β := by simp [Cx.push]
theorem push_get (o : AObj) (β : Option Nat) (w : World) : (c.push o β w).H[c.H.length]? = some o := by simp [Cx.push]
theorem push_len (o : AObj) (β : Option Nat) (w : World) : c.H.length < (c.push o β w).H.length := by simp [Cx.push]

/-- A new block. -/
theorem new_vec (hH : RepH c) {sz : Nat} {xs : List (List AV)} (cells : Array Value) (ty : TypeId) (fr : Nat × Nat) (h0 : 0 < sz) (hrows : ∀ r ∈ xs, r.length = sz) (hlen : xs.length ≤ maxLen) (hsz : xs.length * sz ≤ cells.size)
    (hfr : ∀ i, i < cells.size → ¬ (fr.1 ≤ i ∧ i < fr.2)) (hr : ∀ (i j : Nat) (a : AV), cellAt xs i j = some a → RepV c a (cells.getD (i * sz + j) undef)) :
    Fr c (c.push (.vec sz xs) (some c.w.heap.size) (c.w.alloc (.cells cells ty fr))) ∧ RepH (c.push (.vec sz xs) (some c.w.heap.size) (c.w.alloc (.cells cells ty fr))) := by
  have hb : ∀ b, b < c.w.heap.size → (c.w.alloc (.cells cells ty fr)).heap[b]? = c.w.heap[b]? := fun b hb => Below.heap_alloc c.w _ b hb
  have hnew : (c.w.alloc (.cells cells ty fr)).heap[c.w.heap.size]? = some (.cells cells ty fr) := by
    show (c.w.heap.push (.cells cells ty fr))[c.w.heap.size]? = _
    simp
  have hf : Fr c (c.push (.vec sz xs) (some c.w.heap.size) (c.w.alloc (.cells cells ty fr))) := Fr.push rfl rfl rfl (by simp) hb (fun b e => by cases e; exact Nat.le_refl _) hH.lt
  refine ⟨hf, hH.push rfl rfl rfl (by simp) hb (fun b e => by cases e; simp) ⟨h0, hrows, hlen, ?_⟩⟩
  rw [push_ι]
  exact ⟨cells, ty, fr, hnew, hsz, hfr, fun i j a ha => (hr i j a ha).mono hf⟩

/-- The pointer to the one element of a new object. -/
theorem new_ptr (sz : Nat) (row : List AV) (b : Nat) (w : World) : RepV (c.push (.vec sz [row]) (some b) w) (.ptr c.H.length 1 0 0) (.pointer (some ⟨b, 0, none⟩)) := by
  refine .ptr _ _ _ _ _ _ (push_len _ _ _) (fun sz' xs hx => ?_) (fun sz' xs hx hn => ⟨push_ι _ _ _, by simp⟩)
  rw [push_get] at hx
  simp only [Option.some.injEq, AObj.vec.injEq] at hx
  simp [← hx.2]

/-- The slice of all elements of a new object. -/
theorem new_sl (sz : Nat) (xs : List (List AV)) (b cap : Nat) (w : World) (hc : xs.length ≤ cap) (hcap : cellsIn w b / sz = cap) : RepV (c.push (.vec sz xs) (some b) w) (.sl sz c.H.length xs.length 0 xs.length) (.slice (some ⟨b, 0, none⟩) xs.length cap) := by
  refine .sl _ _ _ _ _ _ _ (push_len _ _ _) hc (fun _ => ⟨_, _, rfl⟩) (fun sz' ys hx => ?_) (fun ys hx hn => ⟨by omega, .inl ⟨b, push_ι _ _ _, by simp, ?_⟩⟩)
  · rw [push_get] at hx
    simp only [Option.some.injEq, AObj.vec.injEq] at hx
    exact ⟨hx.1.symm, by rw [← hx.2]; exact Nat.le_refl _⟩
  · show cap = cellsIn w b / sz - 0
    omega

theorem s_alloc (hH : RepH c) {o : Oper} {ty : TypeId} {z : List AV} (ho : o.op = .alloc ty) (hz : zeroOf P ty = some z) (hl : 0 < z.length) : Does P ρ o c (.ptr c.H.length 1 0 0) (c.H ++ [.vec z.length [z]]) := by
  obtain ⟨v, hv, hrep, _⟩ := zero_rep (P := P) c hz
  obtain ⟨h1, h2⟩ := new_vec hH (sz := z.length) (xs := [z]) v.cells ty (0, 0) hl (by simp) (by simp [maxLen]) (by rw [hrep.1]; simp) (by simp) (fun i j a ha => by
    obtain ⟨rfl, hj⟩ := cellAt_one ha
    simpa using hrep.2 j a hj)
  refine ⟨_, _, .value (.pointer (some ⟨c.w.heap.size, 0, none⟩)), _, ?_, .inl rfl, h2, h1, new_ptr _ _ _ _⟩
  simp only [execOp, ho, Instr.alloc, Sem.run_bind, hv, Result.andThen_ok, newVar, newRow, run_newObj, Sem.run_pure]
  rfl

/-- A vector's cells written. -/
theorem RepO_put {k : Nat} {sz : Nat} {xs : List (List AV)} {b : Nat} {cs : Array Value} {el : TypeId} {fr : Nat × Nat} {i off : Nat} {row as : List AV} {vs : List Value} {w' : World} {β : Option Nat} (hβ : β = some b)
    (hrows : ∀ r ∈ xs, r.length = sz) (hrow : xs[i]? = some row) (hle : off + as.length ≤ sz) (hsz : xs.length * sz ≤ cs.size) (hvl : vs.length = as.length)
    (hb : w'.heap[b]? = some (.cells (putAll cs (i * sz + off) vs) el fr)) (hfr : ∀ i, i < cs.size → ¬ (fr.1 ≤ i ∧ i < fr.2)) (h0 : 0 < sz) (hlen : xs.length ≤ maxLen)
    (hold : ∀ (m j : Nat) (a : AV), cellAt xs m j = some a → RepV (c.upd k (.vec sz (xs.set i (putRow row off as))) β w') a (cs.getD (m * sz + j) undef))
    (hnew : ∀ (j : Nat) (a : AV), as[j]? = some a → RepV (c.upd k (.vec sz (xs.set i (putRow row off as))) β w') a (vs.getD j undef)) :
    RepO (c.upd k (.vec sz (xs.set i (putRow row off as))) β w') k (.vec sz (xs.set i (putRow row off as))) := by
  have hi : i < xs.length := (List.getElem?_eq_some_iff.1 hrow).1
  have hrl : row.length = sz := hrows row (List.mem_of_getElem? hrow)
  have hpl : (putRow row off as).length = sz := by simp [putRow]; omega
  have hmul : (i + 1) * sz ≤ xs.length * sz := Nat.mul_le_mul_right sz hi
  rw [Nat.add_mul, Nat.one_mul] at hmul
  refine ⟨h0, fun r hr => ?_, by simpa using hlen, ?_⟩
  · rcases List.mem_or_eq_of_mem_set hr with h | h
    · exact hrows r h
    · rw [h]; exact hpl
  · have e : (c.upd k (.vec sz (xs.set i (putRow row off as))) β w').ι k = some b := by simp [Cx.upd, hβ]
    rw [e]
    refine ⟨_, el, fr, hb, by rw [putAll_size]; simpa using hsz, fun j hj => hfr j (by rwa [putAll_size] at hj), fun m j a ha => ?_⟩
    by_cases hm : m = i
    · subst hm
      have ha' : (putRow row off as)[j]? = some a := by
        simpa [cellAt, List.getElem?_set_self hi] using ha
      have hjl : j < sz := by rw [← hpl]; exact (List.getElem?_eq_some_iff.1 ha').1
      by_cases h1 : j < off
      · rw [putAll_out _ _ _ _ (.inl (by omega))]
        refine hold m j a ?_
        rw [putRow, List.append_assoc, List.getElem?_append_left (by simp; omega), List.getElem?_take, if_pos h1] at ha'
        simp [cellAt, hrow, ha']
      · by_cases h2 : j < off + as.length
        · obtain ⟨q, rfl⟩ : ∃ q, j = off + q := ⟨j - off, by omega⟩
          rw [show m * sz + (off + q) = m * sz + off + q by omega, putAll_in _ _ _ _ (by omega) (by omega)]
          refine hnew q a ?_
          rw [putRow, List.append_assoc, List.getElem?_append_right (by simp; omega), List.getElem?_append_left (by simp; omega)] at ha'
          have : off + q - (row.take off).length = q := by simp; omega
          rwa [this] at ha'
        · rw [putAll_out _ _ _ _ (.inr (by omega))]
          refine hold m j a ?_
          rw [putRow, List.getElem?_append_right (by simp; omega), List.getElem?_drop] at ha'
          have : off + as.length + (j - (row.take off ++ as).length) = j := by simp; omega
          rw [this] at ha'
          simp [cellAt, hrow, ha']
    · have ha' : cellAt xs m j = some a := by
        simpa [cellAt, List.getElem?_set_ne (Ne.symm hm)] using ha
      have hjl : j < sz := by
        simp only [cellAt, Option.bind_eq_some_iff] at ha'
        obtain ⟨r, hr, hj⟩ := ha'
        rw [← hrows r (List.mem_of_getElem? hr)]
        exact (List.getElem?_eq_some_iff.1 hj).1
      rw [putAll_out _ _ _ _ ?_]
      · exact hold m j a ha'
      · rcases Nat.lt_or_gt_of_ne hm with h | h
        · left
          have : (m + 1) * sz ≤ i * sz := Nat.mul_le_mul_right sz h
          rw [Nat.add_mul, Nat.one_mul] at this
          omega
        · right
          have : (i + 1) * sz ≤ m * sz := Nat.mul_le_mul_right sz h
          rw [Nat.add_mul, Nat.one_mul] at this
          omega

theorem cellsOf_spec {a : AV} {v : Value} {cs : List AV} (h : cellsOf a = some cs) (ha : allCells cs = true) (hr : RepV c a v) :
    v.cells.size = cs.length ∧ (∀ x ∈ v.cells.toList, x.oneCell' = true) ∧ ∀ (j : Nat) (x : AV), cs[j]? = some x → RepV c x (v.cells.toList.getD j undef) := by
  unfold cellsOf at h
  split at h
  · rename_i as
    simp only [Option.some.injEq] at h
    subst h
    obtain ⟨vs, rfl, hs, hrr⟩ := hr.agg_inv
    have hcells : (Value.agg vs).cells = vs := rfl
    rw [hcells]
    refine ⟨hs, fun x hx => ?_, fun j x hj => by simpa using hrr j x hj⟩
    obtain ⟨j, hj, rfl⟩ := List.getElem_of_mem hx
    have hj' : j < as.length := by simpa [← hs] using hj
    have h1 := hrr j as[j] (List.getElem?_eq_getElem hj')
    have h2 : as[j].cell = true := by
      have := List.all_eq_true.1 ha as[j] (List.getElem_mem hj')
      exact this
    have h3 : vs.getD j undef = vs.toList[j] := by
      have : j < vs.size := by omega
      simp [this]
    rw [h3] at h1
    exact h1.one h2
  · simp at h
  · simp at h
  · split at h
    · rename_i hc
      simp only [Option.some.injEq] at h
      subst h
      rw [hr.cells_one hc]
      refine ⟨rfl, fun x hx => by simp at hx; rw [hx]; exact hr.one hc, fun j x hj => ?_⟩
      cases j with
      | zero => simp at hj; subst hj; exact hr
      | succ j => simp at hj
    · simp at h

theorem s_store (hH : RepH c) (hρ : ∀ x, RepV c (ev t (lowX x)) (ρ x)) {o : Oper} {ty : TypeId} {a x : Operand} (ho : o.op = .store ty a x) (ht : (P.info? ty).isSome = true) {v : AV} {H' : List AObj}
    (h : stepL (.store (szOf P ty) (lowX a) (lowX x)) ⟨t, c.H⟩ = some (v, H')) : Does P ρ o c v H' := by
  simp only [stepL] at h
  split at h
  · rename_i k n i off hp
    split at h
    · rename_i z xs hk
      split at h
      · rename_i hn
        simp only [Option.bind_eq_some_iff] at h
        obtain ⟨row, hrow, cs, hcs, h⟩ := h
        split at h
        · rename_i hc
          obtain ⟨hc1, hc2, hc3⟩ := hc
          simp only [Option.some.injEq, Prod.mk.injEq] at h
          obtain ⟨rfl, rfl⟩ := h
          have hx := hρ x
          obtain ⟨g1, g2, g3⟩ := cellsOf_spec hcs hc3 hx
          have hpt := hρ a
          rw [hp] at hpt
          obtain ⟨h0, hrows, hlen, h4⟩ := hH.obj k _ hk
          generalize hva : ρ a = va at hpt
          cases hpt with
          | ptr _ _ _ _ b0 o0 hkl hle hv =>
            obtain ⟨hι, rfl⟩ := hv z xs hk hn
            rw [hι] at h4
            obtain ⟨cells, el, fr, h5, h6, h7, h8⟩ := h4
            have hi : i < xs.length := (List.getElem?_eq_some_iff.1 hrow).1
            have hmul : (i + 1) * z ≤ xs.length * z := Nat.mul_le_mul_right z hi
            rw [Nat.add_mul, Nat.one_mul] at hmul
            have gl : (ρ x).cells.toList.length = cs.length := by simpa using g1
            have hcell : ∀ j, j < (ρ x).cells.toList.length → c.w.cell? ⟨b0, i * z + off + 0 + j, none⟩ = some (cells.getD (i * z + off + j) undef) := fun j hj => by
              have : i * z + off + j < cells.size := by omega
              simp [World.cell?, h5, this]
            have hst := run_storeCells_cells (P := P) b0 (i * z + off) (ρ x).cells.toList 0 c.w (fun j hj => by rw [hcell j hj]; rfl) (fun j hj => by
              have hlt : i * z + off + j < cells.size := by omega
              have := h7 _ hlt
              simp only [World.frozen?, h5]
              simpa using this) g2
            let w' := c.w.setCells b0 (i * z + off) (ρ x).cells.toList
            have hw' : w'.heap[b0]? = some (.cells (putAll cells (i * z + off) (ρ x).cells.toList) el fr) := heap_setCells _ _ _ _ _ _ _ h5
            have u : Upd c k (.vec z xs) (.vec z (xs.set i (putRow row off cs))) (c.ι k) w' := ⟨hk, rfl, os_setCells _ _ _ _, tape_setCells _ _ _ _, output_setCells _ _ _ _, by rw [size_setCells]; exact Nat.le_refl _,
              fun b hb hne => heap_setCells_ne _ _ _ _ _ (fun e => hne (by rw [hι, e])), .inl rfl, fun sz ys he => by
                simp only [AObj.vec.injEq] at he
                obtain ⟨rfl, rfl⟩ := he
                refine ⟨xs, rfl, by simp, fun _ => ⟨rfl, fun b hb => ?_⟩⟩
                rw [hι] at hb
                simp only [Option.some.injEq] at hb
                subst hb
                simp [cellsIn, hw', h5, putAll_size], fun es he => by simp at he, fun s p he => by simp at he⟩
            have hf := u.fr hH
            refine ⟨_, w', .skip, undef, ?_, .inr ⟨rfl, rfl⟩, u.rep hH (RepO_put hι hrows hrow (by omega) h6 gl hw' h7 h0 hlen (fun i j a ha => (h8 i j a ha).mono hf) (fun j a ha => (g3 j a ha).mono hf)), hf, .dead _⟩
            have hszn : ¬ ((ρ x).cells.size ≠ szOf P ty) := by rw [g1, hc1]; simp
            simp only [execOp, ho, Instr.storeAt, Sem.run_bind, hva, Instr.sureAddr, Sem.run_pure, Result.andThen_ok, storeVar, run_sizeOf' ht]
            rw [if_neg hszn]
            rw [hst]
            rfl
        · simp at h
      · simp at h
    · simp at h
  · simp at h

end
end Go.Proofs.YtoiceinjademgaaDoor
