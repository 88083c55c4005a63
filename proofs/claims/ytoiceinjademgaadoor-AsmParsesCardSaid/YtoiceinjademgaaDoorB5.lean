/-
  The abstract layer, part 14: texts out of bytes, slices made, maps, ranges over texts.
-/
import Derived.Test.YtoiceinjademgaaDoorB4
namespace Go.Proofs.YtoiceinjademgaaDoor
open Go.RowKit

section
variable {P : Program} {c : Cx} {ρ : Operand → Value} {t : Tm}

theorem isU8_spec {t : TypeId} (h : isU8 P t = true) : P.underlying t = some (.int .u8) := by
  unfold isU8 at h
  split at h
  · assumption
  · simp at h

theorem bytesOf_news : ∀ (ys : List (List AV)) (l : List UInt8) (news : List Value), bytesOf ys = some l → (∀ (i j : Nat) (a : AV), cellAt ys i j = some a → RepV c a (news.getD (i * 1 + j) undef)) → news.length = ys.length →
    ∃ ns : List Int, news = ns.map (fun n => .int .u8 n) ∧ l = ns.map fun n => UInt8.ofNat n.toNat
  | [], l, news, h, _, hl => by
    simp only [bytesOf, Option.some.injEq] at h
    subst h
    exact ⟨[], by simpa using List.eq_nil_of_length_eq_zero hl, rfl⟩
  | r :: ys, l, news, h, hv, hl => by
    cases news with
    | nil => simp at hl
    | cons u news =>
      unfold bytesOf at h
      split at h
      · rename_i heq; simp at heq
      · rename_i n r' heq
        simp only [List.cons.injEq] at heq
        obtain ⟨rfl, rfl⟩ := heq
        simp only [Option.map_eq_some_iff] at h
        obtain ⟨l', hl', rfl⟩ := h
        obtain ⟨ns, h1, h2⟩ := bytesOf_news ys l' news hl' (fun i j a ha => by
          have := hv (i + 1) j a (by simpa [cellAt] using ha)
          rw [show (i + 1) * 1 + j = (i * 1 + j) + 1 by omega] at this
          simpa using this) (by simpa using hl)
        have h0 := hv 0 0 (.int .u8 n) rfl
        have hu : u = .int .u8 n := by simpa using h0.int_inv
        exact ⟨n :: ns, by rw [hu, h1]; rfl, by rw [h2]; rfl⟩
      · simp at h

theorem bytesToString_zero (A : Option Addr) (cap : Nat) (w : World) : (Conv.bytesToString (.slice A 0 cap)).run P w = .ok (.string .empty) w := by
  cases A with
  | none => simp [Conv.bytesToString]
  | some a => exact run_bytesToString w a 0 cap [] (by simp [loadCells, loadCellsFrom])

theorem s_toStr (hH : RepH c) (hρ : ∀ x, RepV c (ev t (lowX x)) (ρ x)) {o : Oper} {s d e : TypeId} {x : Operand} (ho : o.op = .convert s d x) (hs : P.underlying s = some (.slice e)) (hd : P.underlying d = some .string) (he : isU8 P e = true) {v : AV} {H' : List AObj}
    (h : stepL (.toStr (lowX x)) ⟨t, c.H⟩ = some (v, H')) : Does P ρ o c v H' := by
  have hu := isU8_spec he
  have fin : ∀ (b : ByteArray), (convert s d (ρ x)).run P c.w = .ok (.string b) c.w → Does P ρ o c (.str b) c.H := fun b hb =>
    ⟨c.ι, c.w, .value (.string b), .string b, by simp only [execOp, ho, Sem.run_bind, hb, Result.andThen_ok, Sem.run_pure], .inl rfl, hH, Fr.refl c, .str b⟩
  have hx := hρ x
  simp only [stepL] at h
  split at h
  · rename_i hxe
    rw [hxe] at hx
    simp only [Option.some.injEq, Prod.mk.injEq] at h
    obtain ⟨rfl, rfl⟩ := h
    exact fin _ (by rw [hx.imm_inv, run_convert_bytes_string c.w s d e _ _ _ hs hu hd]; exact bytesToString_zero _ _ _)
  · simp only [Option.bind_eq_some_iff, Option.map_eq_some_iff, Prod.mk.injEq] at h
    obtain ⟨ys, hys, l, hl, rfl, rfl⟩ := h
    obtain ⟨A, cap, hv, hd'⟩ := elems_spec hH hx hys
    rcases hd' with ⟨rfl, _⟩ | ⟨sz, b, o', news, h0, rfl, h1, h2⟩
    · simp only [bytesOf, Option.some.injEq] at hl
      subst hl
      refine fin _ ?_
      rw [hv, run_convert_bytes_string c.w s d e _ _ _ hs hu hd]
      exact bytesToString_zero _ _ _
    · refine fin _ ?_
      cases ys with
      | nil =>
        simp only [bytesOf, Option.some.injEq] at hl
        subst hl
        rw [hv, run_convert_bytes_string c.w s d e _ _ _ hs hu hd]
        exact bytesToString_zero _ _ _
      | cons y ys =>
        have hsz : sz = 1 := by
          have := h1.rows y (by simp)
          unfold bytesOf at hl
          split at hl
          · rename_i heq; simp at heq
          · rename_i n r heq
            simp only [List.cons.injEq] at heq
            rw [heq.1] at this
            simpa using this.symm
          · simp at hl
        subst hsz
        obtain ⟨ns, hn1, hn2⟩ := bytesOf_news _ l news hl h1.val (by rw [h1.len, Nat.mul_one])
        have := run_convert_bytes_arg (P := P) c.w s e hs hu b o' (y :: ys).length cap ns (by rw [← Nat.mul_one (y :: ys).length, ← h1.len, hn1]; simp) (fun i hi => h2 i _ (by
          have hl : news.length = (y :: ys).length := by rw [h1.len, Nat.mul_one]
          have hns : ns.length = (y :: ys).length := by rw [← hl, hn1]; simp
          rw [hn1, List.getElem?_map, List.getElem?_eq_getElem (by omega)]
          simp [show i < ns.length by omega])) d hd
        rw [hv, this, hn2]
        rfl

end
end Go.Proofs.YtoiceinjademgaaDoor
