/-
  The abstract layer, part 8: each operation by itself, and all together.
-/
import Derived.Test.YtoiceinjademgaaDoorA7
namespace Go.Proofs.YtoiceinjademgaaDoor
open Go.RowKit

section
variable {P : Program} {c : Cx} {ρ : Operand → Value} {e : Opd → AV} (hρ : ∀ x, RepV c (e (lowX x)) (ρ x))
include hρ

theorem p_bin {o : Oper} {op : BinOp} {t yt : TypeId} {x y : Operand} (ho : o.op = .binOp op t x y yt) {v : AV} (h : pureStep (.bin op (eqk P t) (lowX x) (lowX y)) e = some v) : ∃ u, RepV c v u ∧ Gives P ρ o u := by
  obtain ⟨u, hu, hr⟩ := binA_sound (hρ x) (hρ y) h
  refine ⟨u, hu, fun w => ?_⟩
  obtain ⟨h1, h2⟩ := hr w x y
  simp [execOp, ho, h1, h2]

theorem p_faddr {o : Oper} {t : TypeId} {x : Operand} {i : Nat} {fs : Array Field} {f : Field} (ho : o.op = .fieldAddr t x i) (hu : P.underlying t = some (.struct fs)) (hf : fs[i]? = some f) (hs : 0 < szOf P f.type) {v : AV}
    (h : pureStep (.faddr f.offset (lowX x)) e = some v) : ∃ u, RepV c v u ∧ Gives P ρ o u := by
  have run : ∀ b o', ρ x = .pointer (some ⟨b, o', none⟩) → Gives P ρ o (.pointer (some ⟨b, o' + f.offset, none⟩)) := fun b o' hx w => by
    have : szOf P f.type ≠ 0 := by omega
    simp [execOp, ho, Instr.fieldAt, run_underlying hu, hf, Instr.sureAddr, hx, fieldPlace, run_sizeOf' (info_of_sz hs), this, add_zero']
  have hx := hρ x
  generalize hv : ρ x = vx at hx
  simp only [pureStep] at h
  split at h
  · rename_i k n i' o' hs'
    rw [hs'] at hx
    simp only [Option.some.injEq] at h
    subst h
    cases hx with
    | ptr _ _ _ _ b0 o0 hk hn hval =>
      exact ⟨_, .ptr _ _ _ _ b0 (o0 + f.offset) hk hn (fun sz xs hx hn' => by obtain ⟨h1, h2⟩ := hval sz xs hx hn'; exact ⟨h1, by omega⟩), run _ _ hv⟩
  · rename_i row o' hs'
    rw [hs'] at hx
    simp only [Option.some.injEq] at h
    subst h
    cases hx with
    | lptr _ _ b o1 cs h0 hw hst hc hr =>
      exact ⟨_, .lptr row (o' + f.offset) b o1 cs h0 hw hst hc hr, by have := run _ _ hv; rwa [Nat.add_assoc] at this⟩
  · simp at h

theorem p_field {o : Oper} {t : TypeId} {x : Operand} {i : Nat} {fs : Array Field} {f : Field} (ho : o.op = .field t x i) (hu : P.underlying t = some (.struct fs)) (hf : fs[i]? = some f) (hs : (P.underlying f.type).isSome = true) {v : AV}
    (h : pureStep (.field (aggOf P f.type) (szOf P f.type) f.offset (lowX x)) e = some v) : ∃ u, RepV c v u ∧ Gives P ρ o u := by
  have hx := hρ x
  simp only [pureStep] at h
  split at h
  · rename_i cs hcs
    rw [hcs] at hx
    obtain ⟨vs, hv, hl, hr⟩ := hx.agg_inv
    obtain ⟨u, hu', hrun⟩ := part_sound hs h hl hr
    exact ⟨u, hu', fun w => by simp [execOp, ho, Instr.field, run_underlying hu, hf, hv, asAgg, hrun]⟩
  · simp at h

theorem ix_run {n : Nat} {i : Operand} {j : Nat} (h : ixA n (e (lowX i)) = some j) : ∃ k z, ρ i = .int k z ∧ 0 ≤ z ∧ z < (n : Int) ∧ j = z.toNat ∧ j < n := by
  obtain ⟨k, z, h1, h2, h3, h4, h5⟩ := ixA_spec h
  have := hρ i
  rw [h1] at this
  exact ⟨k, z, this.int_inv, h2, h3, h4, h5⟩

theorem p_iaddrS {o : Oper} {t et : TypeId} {x i : Operand} (ho : o.op = .indexAddr t x i) (hu : P.underlying t = some (.slice et)) (hi' : (P.info? et).isSome = true) {v : AV} (h : pureStep (.iaddrS (szOf P et) (lowX x) (lowX i)) e = some v) :
    ∃ u, RepV c v u ∧ Gives P ρ o u := by
  have run : ∀ b o' len cap j, ρ x = .slice (some ⟨b, o', none⟩) len cap → ixA len (e (lowX i)) = some j → Gives P ρ o (.pointer (some ⟨b, o' + j * szOf P et, none⟩)) := fun b o' len cap j hx hj w => by
    obtain ⟨k, z, h1, h2, h3, rfl, _⟩ := ix_run hρ hj
    simp [execOp, ho, Instr.indexAt, h1, asIntOf, run_underlying hu, hx, h2, h3, run_sizeOf' hi', add_zero']
  have hx := hρ x
  generalize hv : ρ x = vx at hx
  simp only [pureStep] at h
  split at h
  · rename_i xs hs
    rw [hs] at hx
    simp only [Option.bind_eq_some_iff] at h
    obtain ⟨j, hj, h⟩ := h
    split at h
    · rename_i hrow
      simp only [Option.some.injEq] at h
      subst h
      have hjl : j < xs.length := by obtain ⟨_, _, _, _, _, _, h⟩ := ixA_spec hj; exact h
      cases hx with
      | lnil A cap => simp at hjl
      | list sz _ b off cap cs h0 hn hrows hlen hcap hw hst hc hr =>
        have hget : xs.getD j [] = xs[j] := by simp [hjl]
        have hsz : szOf P et = sz := by rw [← hrow, hget]; exact hrows _ (List.getElem_mem _)
        have hca : ∀ (i : Nat) (a : AV), (xs.getD j [])[i]? = some a → cellAt xs j i = some a := fun i a ha => by
          rw [hget] at ha
          simp [cellAt, hjl, ha]
        have hr' := RepV.lptr (c := c) (xs.getD j []) 0 b (off + j * sz) (fun i => cs j i) (fun h' => by rw [h', hsz] at hrow; simp at hrow; omega) hw (fun i a ha => hst j i a (hca i a ha))
          (fun i a ha => by rw [← hc j i a (hca i a ha)]; congr 2; omega) (fun i a ha => hr j i a (hca i a ha))
        exact ⟨_, hr', by have := run _ _ _ _ _ hv hj; rw [hsz] at this; simpa using this⟩
    · simp at h
  · rename_i sz' k n off len hs
    rw [hs] at hx
    split at h
    · rename_i hsz
      subst hsz
      simp only [Option.map_eq_some_iff] at h
      obtain ⟨j, hj, rfl⟩ := h
      have hjl : j < len := by obtain ⟨_, _, _, _, _, _, h⟩ := ixA_spec hj; exact h
      cases hx with
      | sl _ _ _ _ _ A cap hk hcl hA hn hval =>
        obtain ⟨b, o', rfl⟩ := hA (by omega)
        refine ⟨_, .ptr _ _ _ _ b (o' + j * szOf P et) hk (fun sz xs hx => (hn sz xs hx).2) (fun sz xs hx hn' => ?_), run _ _ _ _ _ hv hj⟩
        obtain ⟨rfl, _⟩ := hn sz xs hx
        obtain ⟨_, h4⟩ := hval xs hx hn'
        rcases h4 with ⟨b', hb', h5, _⟩ | ⟨h5, _⟩
        · simp only [Option.some.injEq, Addr.mk.injEq, and_true] at h5
          obtain ⟨rfl, rfl⟩ := h5
          exact ⟨hb', by rw [Nat.add_mul, Nat.add_zero]⟩
        · omega
    · simp at h
  · simp at h

theorem p_iaddrA {o : Oper} {t et : TypeId} {len : Nat} {x i : Operand} (ho : o.op = .indexAddr t x i) (hu : P.underlying t = some (.array len et)) (hi' : (P.info? et).isSome = true) {v : AV} (h : pureStep (.iaddrA len (szOf P et) (lowX x) (lowX i)) e = some v) :
    ∃ u, RepV c v u ∧ Gives P ρ o u := by
  have run : ∀ b o' j, ρ x = .pointer (some ⟨b, o', none⟩) → ixA len (e (lowX i)) = some j → Gives P ρ o (.pointer (some ⟨b, o' + j * szOf P et, none⟩)) := fun b o' j hx hj w => by
    obtain ⟨k, z, h1, h2, h3, rfl, _⟩ := ix_run hρ hj
    simp [execOp, ho, Instr.indexAt, h1, asIntOf, run_underlying hu, hx, h2, h3, run_sizeOf' hi', add_zero', Instr.sureAddr]
  have hx := hρ x
  generalize hv : ρ x = vx at hx
  simp only [pureStep] at h
  split at h
  · rename_i k n i' o' hs'
    rw [hs'] at hx
    simp only [Option.map_eq_some_iff] at h
    obtain ⟨j, hj, rfl⟩ := h
    cases hx with
    | ptr _ _ _ _ b0 o0 hk hn hval =>
      exact ⟨_, .ptr _ _ _ _ b0 (o0 + j * szOf P et) hk hn (fun sz xs hx hn' => by obtain ⟨h1, h2⟩ := hval sz xs hx hn'; exact ⟨h1, by omega⟩), run _ _ _ hv hj⟩
  · rename_i row o' hs'
    rw [hs'] at hx
    simp only [Option.map_eq_some_iff] at h
    obtain ⟨j, hj, rfl⟩ := h
    cases hx with
    | lptr _ _ b o1 cs h0 hw hst hc hr =>
      exact ⟨_, .lptr row (o' + j * szOf P et) b o1 cs h0 hw hst hc hr, by have := run _ _ _ hv hj; rwa [Nat.add_assoc] at this⟩
  · simp at h

theorem p_idxA {o : Oper} {t et : TypeId} {len : Nat} {x i : Operand} (ho : o.op = .index t x i) (hu : P.underlying t = some (.array len et)) (hi' : (P.underlying et).isSome = true) {v : AV} (h : pureStep (.idxA len (aggOf P et) (szOf P et) (lowX x) (lowX i)) e = some v) :
    ∃ u, RepV c v u ∧ Gives P ρ o u := by
  have hx := hρ x
  simp only [pureStep] at h
  split at h
  · rename_i cs hcs
    rw [hcs] at hx
    simp only [Option.bind_eq_some_iff] at h
    obtain ⟨j, hj, h⟩ := h
    obtain ⟨k, z, h1, h2, h3, rfl, _⟩ := ix_run hρ hj
    obtain ⟨vs, hv, hl, hr⟩ := hx.agg_inv
    obtain ⟨u, hu', hrun⟩ := part_sound hi' h hl hr
    exact ⟨u, hu', fun w => by simp [execOp, ho, Instr.index, h1, asIntOf, run_underlying hu, hv, h2, h3, run_sizeOf' (info_of_und hi'), hrun]⟩
  · simp at h

theorem p_idxS {o : Oper} {t : TypeId} {x i : Operand} (ho : o.op = .index t x i) (hu : P.underlying t = some .string) {v : AV} (h : pureStep (.idxS (lowX x) (lowX i)) e = some v) : ∃ u, RepV c v u ∧ Gives P ρ o u := by
  have hx := hρ x
  simp only [pureStep] at h
  split at h
  · rename_i s hs
    rw [hs] at hx
    simp only [Option.map_eq_some_iff] at h
    obtain ⟨j, hj, rfl⟩ := h
    obtain ⟨k, z, h1, h2, h3, rfl, h5⟩ := ix_run hρ hj
    have hv := hx.str_inv
    refine ⟨_, .int _ _, fun w => ?_⟩
    have hg : s[z.toNat]? = some (s.get! z.toNat) := by
      have : s.get! z.toNat = s[z.toNat] := by
        have hlt : z.toNat < s.data.size := h5
        show s.data[z.toNat]! = s.data[z.toNat]
        exact getElem!_pos s.data z.toNat hlt
      simp [h5, this]
    simp [execOp, ho, Instr.index, h1, asIntOf, run_underlying hu, hv, h2, hg]
  · simp at h

omit hρ in
theorem len_run {o : Oper} {cl : Call} {x : Operand} (ho : o.op = .call cl) (hc : cl.callee = .builtin .len) (ha : cl.args = #[x]) (n : Nat) (hr : ∀ w, (Builtin.len_ cl.argTypes o.type #[ρ x]).run P w = .ok (goInt n) w) : Gives P ρ o (.int .i64 n) := fun w => by
  simp [execOp, ho, resolve, hc, ha, invoke, builtin, hr, goInt]

theorem p_lenS {o : Oper} {cl : Call} {x : Operand} {et : TypeId} (ho : o.op = .call cl) (hc : cl.callee = .builtin .len) (ha : cl.args = #[x]) (ht : (cl.argTypes[0]?).bind P.underlying = some (.slice et)) {v : AV}
    (h : pureStep (.len .slice (lowX x)) e = some v) : ∃ u, RepV c v u ∧ Gives P ρ o u := by
  have hx := hρ x
  obtain ⟨t, ht1, ht2⟩ := Option.bind_eq_some_iff.1 ht
  simp only [pureStep] at h
  split at h
  · rename_i xs hs
    rw [hs] at hx
    simp only [Option.some.injEq] at h
    subst h
    obtain ⟨A, cap, hv⟩ := hx.list_inv
    exact ⟨_, .int _ _, len_run ho hc ha _ fun w => by simp [Builtin.len_, ht1, run_underlying ht2, hv]⟩
  · rename_i sz k n off len hs
    rw [hs] at hx
    simp only [Option.some.injEq] at h
    subst h
    obtain ⟨A, cap, hv⟩ := hx.sl_inv
    exact ⟨_, .int _ _, len_run ho hc ha _ fun w => by simp [Builtin.len_, ht1, run_underlying ht2, hv]⟩
  · rename_i hs
    rw [hs] at hx
    simp only [Option.some.injEq] at h
    subst h
    have hv := hx.imm_inv
    exact ⟨_, .int _ _, len_run (n := 0) ho hc ha fun w => by simp [Builtin.len_, ht1, run_underlying ht2, hv]⟩
  · simp at h

theorem p_lenT {o : Oper} {cl : Call} {x : Operand} (ho : o.op = .call cl) (hc : cl.callee = .builtin .len) (ha : cl.args = #[x]) (ht : (cl.argTypes[0]?).bind P.underlying = some .string) {v : AV}
    (h : pureStep (.len .str (lowX x)) e = some v) : ∃ u, RepV c v u ∧ Gives P ρ o u := by
  have hx := hρ x
  obtain ⟨t, ht1, ht2⟩ := Option.bind_eq_some_iff.1 ht
  simp only [pureStep] at h
  split at h
  · rename_i s hs
    rw [hs] at hx
    simp only [Option.some.injEq] at h
    subst h
    have hv := hx.str_inv
    exact ⟨_, .int _ _, len_run ho hc ha _ fun w => by simp [Builtin.len_, ht1, run_underlying ht2, hv]⟩
  · simp at h

theorem foldI_all {xs : Array Operand} (f : Int → Int → Int) (g : Value → Value → Sem Value) (hg : ∀ k a b w, (g (.int k a) (.int k b)).run P w = .ok (.int k (f a b)) w) {v : AV} (h : foldI f ((xs.toList.map lowX).map e) = some v) :
    ∃ u y ys, (xs.map ρ).toList = y :: ys ∧ RepV c v u ∧ ∀ w, (ys.foldlM g y).run P w = .ok u w := by
  have hl : (xs.map ρ).toList = xs.toList.map ρ := by simp
  rw [hl]
  generalize xs.toList = l at h
  cases l with
  | nil => simp [foldI] at h
  | cons x r =>
    simp only [List.map_cons] at h
    have hx := hρ x
    unfold foldI at h
    split at h
    · rename_i heq; simp at heq
    · rename_i k a r' heq
      simp only [List.cons.injEq] at heq
      obtain ⟨h1, rfl⟩ := heq
      rw [h1] at hx
      have hv := hx.int_inv
      obtain ⟨u, hu, hrun⟩ := foldI_spec (P := P) (c := c) f g hg ((r.map lowX).map e) (r.map ρ) k a v (by simp) (fun i z hz => by
        simp only [List.map_map, List.getElem?_map, Option.map_eq_some_iff] at hz ⊢
        obtain ⟨y, hy, rfl⟩ := hz
        exact ⟨_, ⟨y, hy, rfl⟩, hρ y⟩) h
      exact ⟨u, ρ x, r.map ρ, rfl, hu, fun w => by rw [hv]; exact hrun w⟩
    · simp at h

theorem p_min {o : Oper} {cl : Call} (ho : o.op = .call cl) (hc : cl.callee = .builtin .min) {v : AV} (h : pureStep (.min (cl.args.toList.map lowX)) e = some v) : ∃ u, RepV c v u ∧ Gives P ρ o u := by
  obtain ⟨u, y, ys, h1, hu, hr⟩ := foldI_all (P := P) hρ min2 Builtin.min2 (fun k a b w => by simp [Builtin.min2, min2]) h
  refine ⟨u, hu, fun w => ?_⟩
  have e1 : cl.args.map ρ = (y :: ys).toArray := by rw [← h1]
  simp [execOp, ho, resolve, hc, invoke, builtin, Builtin.min_, e1, hr]

theorem p_max {o : Oper} {cl : Call} (ho : o.op = .call cl) (hc : cl.callee = .builtin .max) {v : AV} (h : pureStep (.max (cl.args.toList.map lowX)) e = some v) : ∃ u, RepV c v u ∧ Gives P ρ o u := by
  obtain ⟨u, y, ys, h1, hu, hr⟩ := foldI_all (P := P) hρ max2 Builtin.max2 (fun k a b w => by simp [Builtin.max2, max2]) h
  refine ⟨u, hu, fun w => ?_⟩
  have e1 : cl.args.map ρ = (y :: ys).toArray := by rw [← h1]
  simp [execOp, ho, resolve, hc, invoke, builtin, Builtin.max_, e1, hr]

theorem RepVs_map (xs : Array Operand) : RepVs c ((xs.toList.map lowX).map e) (xs.map ρ) := by
  refine ⟨by simp, fun i a ha => ?_⟩
  simp only [List.map_map, List.getElem?_map, Option.map_eq_some_iff] at ha
  obtain ⟨x, hx, rfl⟩ := ha
  have : (xs.map ρ).getD i undef = ρ x := by
    rw [Array.getElem?_toList] at hx
    simp [hx]
  rw [this]
  exact hρ x

theorem p_mkFn {o : Oper} {f : Fn} {a b : Array Operand} (ho : o.op = .makeFunc f a b) {v : AV} (h : pureStep (.mkFn f (a.toList.map lowX) (b.toList.map lowX)) e = some v) : ∃ u, RepV c v u ∧ Gives P ρ o u := by
  simp only [pureStep, Option.some.injEq] at h
  subst h
  obtain ⟨h1, h2⟩ := RepVs_map hρ a
  obtain ⟨h3, h4⟩ := RepVs_map hρ b
  exact ⟨_, .fn _ _ _ _ _ h1 h3 h2 h4, fun w => by simp [execOp, ho, Instr.makeFunc]⟩

end
end Go.Proofs.YtoiceinjademgaaDoor
