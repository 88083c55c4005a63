/-
  The abstract layer, part 15: slices written out or made; copy.
-/
import Derived.Test.YtoiceinjademgaaDoorB5
namespace Go.Proofs.YtoiceinjademgaaDoor
open Go.RowKit

section
variable {P : Program} {c : Cx} {ρ : Operand → Value} {t : Tm}

theorem cellAt_set {xs : List (List AV)} {i m j : Nat} {cs : List AV} {a : AV} (h : cellAt (xs.set i cs) m j = some a) : (m = i ∧ cs[j]? = some a ∧ i < xs.length) ∨ (m ≠ i ∧ cellAt xs m j = some a) := by
  by_cases e : i = m
  · subst e
    left
    by_cases hl : i < xs.length
    · simp only [cellAt, List.getElem?_set_self hl, Option.bind_some] at h
      exact ⟨rfl, h, hl⟩
    · simp only [cellAt, Option.bind_eq_some_iff] at h
      obtain ⟨r, hr, _⟩ := h
      have := (List.getElem?_eq_some_iff.1 hr).1
      simp at this
      omega
  · right
    simp only [cellAt, List.getElem?_set_ne e] at h
    exact ⟨fun h' => e h'.symm, h⟩

theorem row_apart {sz i m j : Nat} (hj : j < sz) (h : m ≠ i) : m * sz + j < i * sz ∨ i * sz + sz ≤ m * sz + j := by
  rcases Nat.lt_or_gt_of_ne h with h | h
  · left
    have : (m + 1) * sz ≤ i * sz := Nat.mul_le_mul_right sz h
    rw [Nat.add_mul, Nat.one_mul] at this
    omega
  · right
    have : (i + 1) * sz ≤ m * sz := Nat.mul_le_mul_right sz h
    rw [Nat.add_mul, Nat.one_mul] at this
    omega

theorem row_in {sz i n : Nat} (h : i < n) : i * sz + sz ≤ n * sz := by
  have : (i + 1) * sz ≤ n * sz := Nat.mul_le_mul_right sz h
  rw [Nat.add_mul, Nat.one_mul] at this
  exact this

/-- Rows in an array. -/
structure RepA (c : Cx) (sz : Nat) (xs : List (List AV)) (cells : Array Value) : Prop where
  rows : ∀ r ∈ xs, r.length = sz
  size : xs.length * sz ≤ cells.size
  val : ∀ (i j : Nat) (a : AV), cellAt xs i j = some a → RepV c a (cells.getD (i * sz + j) undef)

theorem cellsOf_spec' {a : AV} {v : Value} {cs : List AV} (h : cellsOf a = some cs) (hr : RepV c a v) : v.cells.size = cs.length ∧ ∀ (j : Nat) (x : AV), cs[j]? = some x → RepV c x (v.cells.toList.getD j undef) := by
  unfold cellsOf at h
  split at h
  · rename_i as
    simp only [Option.some.injEq] at h
    subst h
    obtain ⟨vs, rfl, hs, hrr⟩ := hr.agg_inv
    have hcells : (Value.agg vs).cells = vs := rfl
    rw [hcells]
    exact ⟨hs, fun j x hj => by simpa using hrr j x hj⟩
  · simp at h
  · simp at h
  · split at h
    · rename_i hc
      simp only [Option.some.injEq] at h
      subst h
      rw [hr.cells_one hc]
      refine ⟨rfl, fun j x hj => ?_⟩
      cases j with
      | zero => simp at hj; subst hj; exact hr
      | succ j => simp at hj
    · simp at h

theorem s_box (hH : RepH c) (hρ : ∀ x, RepV c (ev t (lowX x)) (ρ x)) {o : Oper} {ty : TypeId} {x : Operand} (ho : o.op = .box ty x) {v : AV} {H' : List AObj} (h : stepL (.box (lowX x)) ⟨t, c.H⟩ = some (v, H')) : Does P ρ o c v H' := by
  simp only [stepL, Option.bind_eq_some_iff] at h
  obtain ⟨cs, hcs, h⟩ := h
  split at h
  · rename_i hl
    simp only [Option.some.injEq, Prod.mk.injEq] at h
    obtain ⟨rfl, rfl⟩ := h
    obtain ⟨g1, g2⟩ := cellsOf_spec' hcs (hρ x)
    obtain ⟨h1, h2⟩ := new_vec hH (sz := cs.length) (xs := [cs]) (ρ x).cells ty (0, 0) hl (by simp) (by simp [maxLen]) (by rw [g1]; simp) (by simp) (fun i j a ha => by
      obtain ⟨rfl, hj⟩ := cellAt_one ha
      simpa using g2 j a hj)
    refine ⟨_, _, .value (.pointer (some ⟨c.w.heap.size, 0, none⟩)), _, ?_, .inl rfl, h2, h1, new_ptr _ _ _ _⟩
    simp only [execOp, ho, Instr.box, Sem.run_bind, newVar, newRow, run_newObj, Result.andThen_ok, Sem.run_pure]
    rfl
  · simp at h

theorem fillRows_sound (hρ : ∀ x, RepV c (ev t (lowX x)) (ρ x)) {sz : Nat} : ∀ (parts : List (Nat × Operand)) (xs r : List (List AV)) (cells : Array Value), RepA c sz xs cells → cells.size = xs.length * sz →
    fillRows (ev t) sz xs (parts.map fun (p : Nat × Operand) => (p.1, lowX p.2)) = some r → ∃ out, Instr.fill (fun i => some (i * sz, sz)) cells (parts.map fun p => (p.1, ρ p.2)) = some out ∧ RepA c sz r out ∧ r.length = xs.length
  | [], xs, r, cells, hA, _, h => by
    simp only [List.map_nil, fillRows, Option.some.injEq] at h
    subst h
    exact ⟨cells, rfl, hA, rfl⟩
  | (i, x) :: parts, xs, r, cells, hA, hs, h => by
    simp only [List.map_cons, fillRows, Option.bind_eq_some_iff] at h
    obtain ⟨cs, hcs, h⟩ := h
    split at h
    · rename_i hc
      obtain ⟨hcl, hi⟩ := hc
      obtain ⟨g1, g2⟩ := cellsOf_spec' hcs (hρ x)
      have hri := row_in (sz := sz) hi
      have gl : (ρ x).cells.toList.length = sz := by simpa [hcl] using g1
      have hA' : RepA c sz (xs.set i cs) (putAll cells (i * sz) (ρ x).cells.toList) := by
        refine ⟨fun r hr => ?_, by rw [putAll_size]; simpa using hA.size, fun m j a ha => ?_⟩
        · rcases List.mem_or_eq_of_mem_set hr with h | h
          · exact hA.rows r h
          · rw [h]; exact hcl
        · rcases cellAt_set ha with ⟨rfl, h2, _⟩ | ⟨h1, h2⟩
          · have hj : j < sz := by rw [← hcl]; exact (List.getElem?_eq_some_iff.1 h2).1
            rw [putAll_in _ _ _ _ (by omega) (by omega)]
            exact g2 j a h2
          · obtain ⟨_, hj, _⟩ := cellAt_lt hA.rows h2
            rw [putAll_out _ _ _ _ (by have := row_apart hj h1; omega)]
            exact hA.val m j a h2
      obtain ⟨out, ho, hR, hl⟩ := fillRows_sound hρ parts (xs.set i cs) r _ hA' (by rw [putAll_size]; simpa using hs) h
      refine ⟨out, ?_, hR, by simpa using hl⟩
      simp only [List.map_cons, Instr.fill]
      rw [if_neg (by rw [g1, hcl, hs]; simp; omega), fill_step]
      exact ho
    · simp at h

theorem zeros_get {z : Array Value} {n i j : Nat} (hj : j < z.size) (hi : i < n) : ((Array.range (n * z.size)).map (z[· % z.size]!)).getD (i * z.size + j) undef = z.getD j undef := by
  have hlt : i * z.size + j < n * z.size := by have := row_in (sz := z.size) hi; omega
  have e : (i * z.size + j) % z.size = j := by rw [Nat.mul_comm, Nat.mul_add_mod]; exact Nat.mod_eq_of_lt hj
  simp [hlt, e, hj]

theorem zeros_rep {z : List AV} {zs : Array Value} (hz : RepVs c z zs) (n m : Nat) (hnm : n ≤ m) : RepA c z.length (List.replicate n z) ((Array.range (m * zs.size)).map (zs[· % zs.size]!)) := by
  have hs := hz.1
  refine ⟨fun r hr => by rw [List.eq_of_mem_replicate hr], ?_, fun i j a ha => ?_⟩
  · simp only [List.length_replicate, Array.size_map, Array.size_range, hs]
    exact Nat.mul_le_mul_right _ hnm
  · simp only [cellAt, Option.bind_eq_some_iff] at ha
    obtain ⟨r, hr, hj⟩ := ha
    have hi : i < n := by have := (List.getElem?_eq_some_iff.1 hr).1; simpa using this
    have : r = z := by
      rw [List.getElem?_replicate, if_pos hi] at hr
      exact (Option.some.inj hr).symm
    subst this
    have hjl := (List.getElem?_eq_some_iff.1 hj).1
    rw [← hs, zeros_get (by omega) (by omega)]
    exact hz.2 j a hj

theorem s_bslice (hH : RepH c) (hρ : ∀ x, RepV c (ev t (lowX x)) (ρ x)) {o : Oper} {ty e : TypeId} {len : Nat} {parts : Array (Nat × Operand)} {z : List AV} (ho : o.op = .buildSlice ty len parts) (ht : P.underlying ty = some (.slice e)) (hz : zeroOf P e = some z) (h0 : 0 < z.length)
    (hsz : z.length = szOf P e) (hcap : len * szOf P e ≤ 2 ^ 24) {v : AV} {H' : List AObj} (h : stepL (.bslice (szOf P e) z len (parts.toList.map fun (x : Nat × Operand) => match x with | (i, x) => (i, lowX x))) ⟨t, c.H⟩ = some (v, H')) : Does P ρ o c v H' := by
  simp only [stepL, Option.map_eq_some_iff, Prod.mk.injEq] at h
  obtain ⟨xs, hxs, rfl, rfl⟩ := h
  obtain ⟨zv, hzr, hzz, hi⟩ := zero_rep (P := P) c hz
  have hs := hzz.1
  have hA := zeros_rep hzz len len (Nat.le_refl _)
  rw [hsz] at hA
  obtain ⟨out, hout, hR, hl⟩ := fillRows_sound (c := c) hρ parts.toList _ xs _ hA (by simp [hs, hsz]) hxs
  simp only [List.length_replicate] at hl
  have houts : out.size = len * szOf P e := by
    have : ∀ (l : List (Nat × Value)) (cells out : Array Value), Instr.fill (fun i => some (i * szOf P e, szOf P e)) cells l = some out → out.size = cells.size := by
      intro l
      induction l with
      | nil => intro cells out h; simp only [Instr.fill, Option.some.injEq] at h; rw [h]
      | cons p l ih =>
        intro cells out h
        obtain ⟨i, v⟩ := p
        simp only [Instr.fill] at h
        split at h
        · simp at h
        · rw [ih _ _ h, fill_step, putAll_size]
    rw [this _ _ _ hout]
    simp [hs, hsz]
  have hlen : xs.length ≤ maxLen := by
    have : len ≤ len * szOf P e := Nat.le_mul_of_pos_right _ (by omega)
    simp [maxLen]; omega
  obtain ⟨h1, h2⟩ := new_vec hH (sz := szOf P e) (xs := xs) out e (0, 0) (by omega) hR.rows hlen hR.size (by simp) hR.val
  have hsl := new_sl (c := c) (szOf P e) xs c.w.heap.size len (c.w.alloc (.cells out e (0, 0))) (by omega) (by rw [cellsIn_alloc, houts]; exact Nat.mul_div_cancel _ (by omega))
  rw [hl] at hsl
  refine ⟨_, _, .value (.slice (some ⟨c.w.heap.size, 0, none⟩) len len), _, ?_, .inl rfl, h2, h1, hsl⟩
  have hn : ¬ (len * szOf P e > 2 ^ 24) := by omega
  have e1 : (parts.map fun (x : Nat × Operand) => match x with | (i, x) => (i, ρ x)).toList = parts.toList.map fun p => (p.1, ρ p.2) := by simp
  simp only [execOp, ho, Instr.buildSlice, Sem.run_bind, run_underlying ht, Result.andThen_ok, run_sizeOf' hi]
  rw [if_neg hn]
  by_cases hz0 : len * szOf P e = 0
  · have hlen0 : len = 0 := by
      rcases Nat.mul_eq_zero.1 hz0 with h | h
      · exact h
      · omega
    subst hlen0
    have hrange : (Array.range (0 * szOf P e)).map ((#[] : Array Value)[· % (#[] : Array Value).size]!) = (Array.range (0 * zv.cells.size)).map (zv.cells[· % zv.cells.size]!) := by simp
    simp only [hz0, if_true, Sem.run_bind, Sem.run_pure, Result.andThen_ok, e1]
    rw [show (Array.range 0).map ((#[] : Array Value)[· % (#[] : Array Value).size]!) = (Array.range (0 * zv.cells.size)).map (zv.cells[· % zv.cells.size]!) by simp, hout]
    simp only [Sem.run_bind, newRow, run_newObj, Result.andThen_ok, Sem.run_pure]
    rfl
  · simp only [hz0, if_false, Sem.run_bind, hzr, Result.andThen_ok, Sem.run_pure, e1]
    rw [show len * szOf P e = len * zv.cells.size by rw [hs, hsz], hout]
    simp only [Sem.run_bind, newRow, run_newObj, Result.andThen_ok, Sem.run_pure]
    rfl

theorem s_mkSlice (hH : RepH c) (hρ : ∀ x, RepV c (ev t (lowX x)) (ρ x)) {o : Oper} {ty e : TypeId} {l m : Operand} {z : List AV} (ho : o.op = .makeSlice ty l m) (ht : P.underlying ty = some (.slice e)) (hz : zeroOf P e = some z) (h0 : 0 < z.length)
    (hsz : z.length = szOf P e) {v : AV} {H' : List AObj} (h : stepL (.mkSlice (szOf P e) (bytesOf' P e) z (lowX l) (lowX m)) ⟨t, c.H⟩ = some (v, H')) : Does P ρ o c v H' := by
  simp only [stepL] at h
  split at h
  · rename_i k1 a k2 b hl hm
    split at h
    · rename_i hc
      obtain ⟨g1, g2, g3, g4⟩ := hc
      simp only [Option.some.injEq, Prod.mk.injEq] at h
      obtain ⟨rfl, rfl⟩ := h
      have e1 := hρ l
      rw [hl] at e1
      have e2 := hρ m
      rw [hm] at e2
      simp only [zeroOf, Option.map_eq_some_iff, Option.bind_eq_some_iff] at hz
      obtain ⟨zv, ⟨i, hi, hzv⟩, hzl⟩ := hz
      have hs : zv.cells.size = z.length := by rw [← hzl]; simp
      have hi1 : i.size = szOf P e := by simp [szOf, hi]
      have hi2 : i.bytes = bytesOf' P e := by simp [bytesOf', hi]
      have hzz : RepVs c z zv.cells := by
        refine ⟨hs, fun j a ha => ?_⟩
        rw [← hzl] at ha
        simp only [List.getElem?_map, Option.map_eq_some_iff] at ha
        obtain ⟨u, hu, rfl⟩ := ha
        rw [Array.getElem?_toList] at hu
        simp only [Array.getD_eq_getD_getElem?, hu, Option.getD_some]
        exact absC_rep c u
      have hrun := run_make (P := P) c.w ty e i zv ht hi hzv k1 k2 a b g1 g2 (by rw [hi2]; omega) g4
      have hA := zeros_rep hzz a.toNat b.toNat (by omega)
      rw [hsz] at hA
      have hcells : madeCells zv.cells (b.toNat * i.size) = (Array.range (b.toNat * zv.cells.size)).map (zv.cells[· % zv.cells.size]!) := by rw [show i.size = zv.cells.size by omega]; rfl
      rw [hcells] at hrun
      obtain ⟨h1, h2⟩ := new_vec hH (sz := szOf P e) (xs := List.replicate a.toNat z) _ e (0, 0) (by omega) hA.rows (by simp [maxLen]; omega) hA.size (by simp) hA.val
      have hsl := new_sl (c := c) (szOf P e) (List.replicate a.toNat z) c.w.heap.size b.toNat (c.w.alloc (.cells ((Array.range (b.toNat * zv.cells.size)).map (zv.cells[· % zv.cells.size]!)) e (0, 0))) (by simp; omega) (by
        rw [cellsIn_alloc]
        simp only [Array.size_map, Array.size_range, hs, hsz]
        exact Nat.mul_div_cancel _ (by omega))
      simp only [List.length_replicate] at hsl
      exact ⟨_, _, .value (.slice (some ⟨c.w.heap.size, 0, none⟩) a.toNat b.toNat), _, by simp only [execOp, ho, Sem.run_bind, e1.int_inv, e2.int_inv, hrun, Result.andThen_ok, Sem.run_pure], .inl rfl, h2, h1, hsl⟩
    · simp at h
  · simp at h

end
end Go.Proofs.YtoiceinjademgaaDoor
