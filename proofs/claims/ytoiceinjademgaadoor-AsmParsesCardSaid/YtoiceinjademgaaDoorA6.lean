/-
  The abstract layer, part 6: what 'pureStep' says is so.
-/
import Derived.Test.YtoiceinjademgaaDoorA5
namespace Go.Proofs.YtoiceinjademgaaDoor
open Go.RowKit

theorem ixA_spec {n : Nat} {a : AV} {j : Nat} (h : ixA n a = some j) : ∃ k i, a = .int k i ∧ 0 ≤ i ∧ i < (n : Int) ∧ j = i.toNat ∧ j < n := by
  unfold ixA at h
  split at h
  · rename_i k i
    split at h
    · rename_i hc
      simp only [Option.some.injEq] at h
      exact ⟨k, i, rfl, hc.1, hc.2, h.symm, by omega⟩
    · simp at h
  · simp at h

theorem bdA_none {n d l : Nat} (h : bdA n d none = some l) : l = d := by simp [bdA] at h; exact h.symm
theorem bdA_some {n d l : Nat} {a : AV} (h : bdA n d (some a) = some l) : ∃ k i, a = .int k i ∧ 0 ≤ i ∧ i ≤ (n : Int) ∧ l = i.toNat ∧ l ≤ n := by
  unfold bdA at h
  split at h
  · rename_i h'; simp at h'
  · rename_i k i h'
    simp only [Option.some.injEq] at h'
    split at h
    · rename_i hc
      simp only [Option.some.injEq] at h
      exact ⟨k, i, h', hc.1, hc.2, h.symm, by omega⟩
    · simp at h
  · simp at h

theorem add_zero' (b o : Nat) (n : Nat) : (⟨b, o, none⟩ : Addr).add n = ⟨b, o + n, none⟩ := by unfold Addr.add; split <;> simp_all

section
variable {P : Program} {c : Cx} {ρ : Operand → Value} {e : Opd → AV}

theorem run_sizeOf' {t : TypeId} (h : (P.info? t).isSome = true) (w : World) : (sizeOf t).run P w = .ok (szOf P t) w := by
  obtain ⟨i, hi⟩ := Option.isSome_iff_exists.1 h
  simp [sizeOf, typeInfo, hi, szOf]

theorem info_of_und {t : TypeId} (h : (P.underlying t).isSome = true) : (P.info? t).isSome = true := by
  obtain ⟨d, hd⟩ := Option.isSome_iff_exists.1 h
  obtain ⟨i, hi⟩ := info_of_underlying hd
  simp [hi]

theorem info_of_sz {t : TypeId} (h : 0 < szOf P t) : (P.info? t).isSome = true := by
  unfold szOf at h
  cases hi : P.info? t with
  | none => simp [hi] at h
  | some i => rfl

theorem run_isAgg' {t : TypeId} (h : (P.underlying t).isSome = true) (w : World) : (isAgg t).run P w = .ok (aggOf P t) w := by
  obtain ⟨d, hd⟩ := Option.isSome_iff_exists.1 h
  cases d <;> simp [isAgg, run_underlying hd, aggOf, hd]

theorem RepVs_get {as : List AV} {vs : Array Value} (hs : vs.size = as.length) (hr : ∀ (i : Nat) (a : AV), as[i]? = some a → RepV c a (vs.getD i undef)) {i : Nat} {a : AV} (h : as[i]? = some a) : ∃ v, vs[i]? = some v ∧ RepV c a v := by
  have hl : i < vs.size := by rw [hs]; exact (List.getElem?_eq_some_iff.1 h).1
  have := hr i a h
  simp only [hl, Array.getD_eq_getD_getElem?, Array.getElem?_eq_getElem, Option.getD_some] at this
  exact ⟨vs[i], by simp [hl], this⟩

theorem part_sound {t : TypeId} (ht : (P.underlying t).isSome = true) {off : Nat} {row : List AV} {a : AV} {vs : Array Value} (h : partA (aggOf P t) (szOf P t) off row = some a) (hs : vs.size = row.length)
    (hr : ∀ (i : Nat) (a : AV), row[i]? = some a → RepV c a (vs.getD i undef)) : ∃ u, RepV c a u ∧ ∀ w, (part t vs off).run P w = .ok u w := by
  unfold partA at h
  cases hg : aggOf P t with
  | true =>
    rw [hg, if_pos rfl] at h
    split at h
    · rename_i hle
      simp only [Option.some.injEq] at h
      subst h
      refine ⟨.agg (vs.extract off (off + szOf P t)), .agg _ _ ?_ fun i a ha => ?_, fun w => ?_⟩
      · simp only [Array.size_extract, List.length_take, List.length_drop]; omega
      · have hi : i < szOf P t := by
          have := (List.getElem?_eq_some_iff.1 ha).1
          simp at this; omega
        have ha' : row[off + i]? = some a := by
          rw [List.getElem?_take, if_pos hi, List.getElem?_drop] at ha
          exact ha
        have hl : off + i < vs.size := by rw [hs]; exact (List.getElem?_eq_some_iff.1 ha').1
        have := hr (off + i) a ha'
        have e : (vs.extract off (off + szOf P t)).getD i undef = vs.getD (off + i) undef := by
          simp only [Array.getD_eq_getD_getElem?, Array.getElem?_extract]
          rw [if_pos (by omega)]
        rw [e]; exact this
      · simp only [part, Sem.run_bind, run_isAgg' ht, hg, Result.andThen_ok, if_true, run_sizeOf' (info_of_und ht), Sem.run_pure]
    · simp at h
  | false =>
    rw [hg, if_neg (by simp)] at h
    obtain ⟨v, hv, hrep⟩ := RepVs_get hs hr h
    refine ⟨v, hrep, fun w => ?_⟩
    simp only [part, Sem.run_bind, run_isAgg' ht, hg, Result.andThen_ok, Bool.false_eq_true, if_false, hv, Sem.run_pure]

theorem foldI_spec (f : Int → Int → Int) (g : Value → Value → Sem Value) (hg : ∀ k a b w, (g (.int k a) (.int k b)).run P w = .ok (.int k (f a b)) w) :
    ∀ (r : List AV) (rs : List Value) (k : IntKind) (a : Int) (v : AV), rs.length = r.length → (∀ (i : Nat) (x : AV), r[i]? = some x → ∃ y, rs[i]? = some y ∧ RepV c x y) →
      r.foldl (fun (acc : Option AV) x => match acc, x with | some (.int k a), .int k' b => if k = k' then some (.int k (f a b)) else none | _, _ => none) (some (.int k a)) = some v →
      ∃ u, RepV c v u ∧ ∀ w, (rs.foldlM g (.int k a)).run P w = .ok u w
  | [], [], k, a, v, _, _, h => by
    simp only [List.foldl_nil, Option.some.injEq] at h
    subst h
    exact ⟨_, .int k a, fun w => rfl⟩
  | [], _ :: _, k, a, v, hl, _, _ => by simp at hl
  | x :: r, [], k, a, v, hl, _, _ => by simp at hl
  | x :: r, y :: rs, k, a, v, hl, hr, h => by
    have dead : ∀ (r : List AV), r.foldl (fun (acc : Option AV) x => match acc, x with | some (.int k a), .int k' b => if k = k' then some (.int k (f a b)) else none | _, _ => none) none = none := by
      intro r
      induction r with
      | nil => rfl
      | cons z r ih => simpa using ih
    simp only [List.foldl_cons] at h
    obtain ⟨y', hy, hx⟩ := hr 0 x rfl
    simp only [List.getElem?_cons_zero, Option.some.injEq] at hy
    subst hy
    cases x with
    | int k' b =>
      simp only at h
      split at h
      · rename_i e
        subst e
        obtain rfl := hx.int_inv
        obtain ⟨u, hu, hrun⟩ := foldI_spec f g hg r rs k (f a b) v (by simpa using hl) (fun i x hx => by simpa using hr (i + 1) x (by simpa using hx)) h
        exact ⟨u, hu, fun w => by simp only [List.foldlM_cons, Sem.run_bind, hg, Result.andThen_ok, hrun]⟩
      · rw [dead] at h; simp at h
    | _ => simp only at h; rw [dead] at h; simp at h

end
end Go.Proofs.YtoiceinjademgaaDoor
