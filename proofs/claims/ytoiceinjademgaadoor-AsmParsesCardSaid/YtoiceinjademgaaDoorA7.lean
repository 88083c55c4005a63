/-
  The abstract layer, part 7: each operation by itself.
-/
import Derived.Test.YtoiceinjademgaaDoorA6
namespace Go.Proofs.YtoiceinjademgaaDoor
open Go.RowKit

section
variable {P : Program} {c : Cx} {ρ : Operand → Value} {e : Opd → AV} (hρ : ∀ x, RepV c (e (lowX x)) (ρ x))
include hρ

theorem bd_none {n d : Nat} (z : Option Operand) {l : Nat} (h : bdA n d ((z.map lowX).map e) = some l) :
    (z = none ∧ l = d) ∨ ∃ x k i, z = some x ∧ ρ x = .int k i ∧ 0 ≤ i ∧ i ≤ (n : Int) ∧ l = i.toNat ∧ l ≤ n := by
  cases z with
  | none => exact .inl ⟨rfl, bdA_none h⟩
  | some x =>
    obtain ⟨k, i, h1, h2, h3, h4, h5⟩ := bdA_some h
    have := hρ x
    rw [h1] at this
    exact .inr ⟨x, k, i, rfl, this.int_inv, h2, h3, h4, h5⟩

omit hρ in
theorem run_sliceBound (k : IntKind) (i : Int) (y : Nat) (code : BoundsCode) (h0 : 0 ≤ i) (h1 : i ≤ (y : Int)) (w : World) : (Instr.sliceBound (.int k i) y code).run P w = .ok i.toNat w := by
  simp [Instr.sliceBound, asIntOf, h0, h1]

/-- Both bounds of a slice or of a text. -/
theorem run_bounds (b : Bool) (len cap : Nat) (hlc : len ≤ cap) (hb : b = false → len = cap) (lo hi : Option Operand) {h l : Nat} (hh : bdA len len ((hi.map lowX).map e) = some h) (hl : bdA h 0 ((lo.map lowX).map e) = some l) :
    l ≤ h ∧ h ≤ len ∧ ∀ w, (Instr.sliceBounds b len cap (lo.map ρ) (hi.map ρ) none).run P w = .ok (l, h, cap) w := by
  have hhl : h ≤ len := by
    rcases bd_none hρ hi hh with ⟨_, e⟩ | ⟨_, _, _, _, _, _, _, _, e⟩ <;> omega
  refine ⟨?_, hhl, fun w => ?_⟩
  · rcases bd_none hρ lo hl with ⟨_, e⟩ | ⟨_, _, _, _, _, _, _, _, e⟩ <;> omega
  · have up : ∀ (k : IntKind) (i : Int) (code : BoundsCode), 0 ≤ i → i ≤ (cap : Int) → (Instr.sliceBound (.int k i) cap code).run P w = .ok i.toNat w := fun k i code h0 h1 => run_sliceBound k i cap code h0 h1 w
    have lo' : ∀ (k : IntKind) (i : Int) (code : BoundsCode), 0 ≤ i → i ≤ (h : Int) → (Instr.sliceBound (.int k i) h code).run P w = .ok i.toNat w := fun k i code h0 h1 => run_sliceBound k i h code h0 h1 w
    rcases bd_none hρ hi hh with ⟨e1, e2⟩ | ⟨x, k, i, e1, e2, h1, h2, h3, h4⟩
    · rcases bd_none hρ lo hl with ⟨f1, f2⟩ | ⟨y, k', i', f1, f2, g1, g2, g3, g4⟩
      · subst e1; subst f1; subst e2; subst f2
        simp [Instr.sliceBounds]
      · subst e1; subst f1; subst e2
        simp [Instr.sliceBounds, f2, lo' k' i' _ g1 g2, g3]
    · rcases bd_none hρ lo hl with ⟨f1, f2⟩ | ⟨y, k', i', f1, f2, g1, g2, g3, g4⟩
      · subst e1; subst f1; subst f2
        simp [Instr.sliceBounds, e2, up k i _ h1 (by omega), h3]
      · subst e1; subst f1
        rw [h3] at lo'
        simp [Instr.sliceBounds, e2, f2, up k i _ h1 (by omega), lo' k' i' _ g1 (by omega), h3, g3]

omit hρ in
theorem ev_map {l : List Operand} : (l.map lowX).map e = l.map fun x => e (lowX x) := by simp

theorem p_sliceS {o : Oper} {t : TypeId} {x : Operand} {lo hi : Option Operand} (ho : o.op = .slice t x lo hi none) (hu : P.underlying t = some .string) {v : AV} (h : pureStep (.sliceS (lowX x) (lo.map lowX) (hi.map lowX)) e = some v) :
    ∃ u, RepV c v u ∧ Gives P ρ o u := by
  simp only [pureStep] at h
  split at h
  · rename_i s hs
    have hx := hρ x
    rw [hs] at hx
    have hv := hx.str_inv
    simp only [Option.bind_eq_some_iff, Option.map_eq_some_iff] at h
    obtain ⟨hh, h1, l, h2, rfl⟩ := h
    obtain ⟨_, _, hb⟩ := run_bounds (P := P) hρ false s.size s.size (Nat.le_refl _) (fun _ => rfl) lo hi h1 h2
    refine ⟨_, .str _, fun w => ?_⟩
    simp [execOp, ho, Instr.sliceAt, run_underlying hu, Instr.slice, hv, hb]
  · simp at h

theorem p_slice {o : Oper} {t et : TypeId} {x : Operand} {lo hi : Option Operand} (ho : o.op = .slice t x lo hi none) (hu : P.underlying t = some (.slice et)) (hi' : (P.info? et).isSome = true) {v : AV} (h : pureStep (.slice (szOf P et) (lowX x) (lo.map lowX) (hi.map lowX) none) e = some v) :
    ∃ u, RepV c v u ∧ Gives P ρ o u := by
  have run : ∀ (A : Option Addr) (len cap l h : Nat), ρ x = .slice A len cap → (∀ w, (Instr.sliceBounds true len cap (lo.map ρ) (hi.map ρ) none).run P w = .ok (l, h, cap) w) →
      Gives P ρ o (.slice (if cap = l then A else A.map (·.add (l * szOf P et))) (h - l) (cap - l)) := fun A len cap l h hx hb w => by
    simp [execOp, ho, Instr.sliceAt, run_underlying hu, Instr.slice, hx, hb, run_sizeOf' hi']
  simp only [pureStep] at h
  split at h
  · rename_i xs hs
    have hx := hρ x
    rw [hs] at hx
    simp only [Option.bind_eq_some_iff] at h
    obtain ⟨hh, h1, l, h2, h3⟩ := h
    split at h3
    · rename_i hsz
      simp only [Option.some.injEq] at h3
      subst h3
      generalize hv : ρ x = vx at hx
      cases hx with
      | lnil A cap =>
        simp only [List.length_nil] at h1
        obtain ⟨hl1, hl2, hb⟩ := run_bounds (P := P) hρ true 0 cap (Nat.zero_le _) (by simp) lo hi h1 h2
        obtain rfl : l = 0 := by omega
        obtain rfl : hh = 0 := by omega
        exact ⟨_, by simpa using RepV.lnil _ _, run _ _ _ _ _ hv hb⟩
      | list sz xs b off cap cs h0 hn hrow hlen hcap hw hst hc hr =>
        obtain ⟨hl1, hl2, hb⟩ := run_bounds (P := P) hρ true xs.length cap hcap (by simp) lo hi h1 h2
        refine ⟨_, ?_, run _ _ _ _ _ hv hb⟩
        by_cases hz : hh - l = 0
        · rw [hz]
          simpa using RepV.lnil _ _
        · have hne : cap ≠ l := by omega
          have hsz' : szOf P et = sz := by
            rcases hsz with h | h
            · exact absurd h hn
            · cases xs with
              | nil => exact absurd rfl hn
              | cons r rs => simp at h; rw [← h]; exact hrow r (by simp)
          rw [if_neg hne]
          simp only [Option.map_some, add_zero', hsz']
          have hcell : ∀ (i j : Nat) (a : AV), cellAt ((xs.drop l).take (hh - l)) i j = some a → cellAt xs (l + i) j = some a := fun i j a ha => by
            simp only [cellAt, List.getElem?_take] at ha ⊢
            split at ha
            · rwa [List.getElem?_drop] at ha
            · simp at ha
          have hlen' : ((xs.drop l).take (hh - l)).length = hh - l := by simp; omega
          have := RepV.list (c := c) sz ((xs.drop l).take (hh - l)) b (off + l * sz) (cap - l) (fun i j => cs (l + i) j) h0 (by intro h'; rw [h'] at hlen'; simp at hlen'; omega)
            (fun r hr' => hrow r (List.mem_of_mem_drop (List.mem_of_mem_take hr'))) (by omega) (by omega) hw (fun i j a ha => hst _ _ a (hcell i j a ha))
            (fun i j a ha => by rw [← hc _ _ a (hcell i j a ha)]; congr 2; rw [Nat.add_mul]; omega) (fun i j a ha => hr _ _ a (hcell i j a ha))
          rwa [hlen'] at this
    · simp at h3
  · rename_i sz' k n off len hs
    have hx := hρ x
    rw [hs] at hx
    split at h
    · rename_i hsz
      simp only [Option.bind_eq_some_iff, Option.map_eq_some_iff] at h
      obtain ⟨hh, h1, l, h2, rfl⟩ := h
      generalize hv : ρ x = vx at hx
      cases hx with
      | sl _ _ _ _ _ A cap hk hcl hA hn hval =>
        subst hsz
        obtain ⟨hl1, hl2, hb⟩ := run_bounds (P := P) hρ true len cap hcl (by simp) lo hi h1 h2
        refine ⟨_, .sl _ _ _ _ _ _ _ hk (by omega) (fun hp => ?_) hn (fun xs hx hn' => ?_), run _ _ _ _ _ hv hb⟩
        · rw [if_neg (by omega)]
          obtain ⟨b, o', rfl⟩ := hA (by omega)
          exact ⟨b, o' + l * szOf P et, by simp [add_zero']⟩
        · obtain ⟨h3, h4⟩ := hval xs hx hn'
          refine ⟨by omega, ?_⟩
          rcases h4 with ⟨b, hb', rfl, h5⟩ | ⟨h5, h6⟩
          · by_cases hcl' : cap = l
            · right; omega
            · left
              refine ⟨b, hb', ?_, by omega⟩
              rw [if_neg hcl']
              simp only [Option.map_some, add_zero', Option.some.injEq, Addr.mk.injEq, and_true, true_and]
              rw [Nat.add_mul]
          · right; omega
    · simp at h
  · simp at h

end
end Go.Proofs.YtoiceinjademgaaDoor
