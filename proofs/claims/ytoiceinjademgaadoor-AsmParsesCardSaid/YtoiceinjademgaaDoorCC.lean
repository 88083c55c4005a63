/-
  The abstract layer, part 30: slices of one's own that lie in cells become lists; closures; small rules.
-/
import Derived.Test.YtoiceinjademgaaDoorCB
import Derived.Test.YtoiceinjademgaaDoorC6
namespace Go.Proofs.YtoiceinjademgaaDoor
open Go.RowKit
set_option linter.unusedVariables false
set_option linter.unusedSimpArgs false

/-- An object, and what may be said of it when objects from m on are forgotten. -/
def ObjV (H : List AObj) (m : Nat) (o p : AObj) : Prop :=
  (p = o ∧ o.clean m) ∨ ∃ sz xs ys, o = .vec sz xs ∧ p = .vec sz ys ∧ ys.length = xs.length ∧ (∀ r ∈ ys, r.length = sz) ∧ ∀ i j b, cellAt ys i j = some b → ∃ a, cellAt xs i j = some a ∧ View H m a b

theorem RepO.take1 {c : Cx} {m k : Nat} {o : AObj} (hcl : o.clean m) (ho : RepO c k o) : RepO (c.take m) k o := by
  cases o with
  | vec sz xs =>
    obtain ⟨h1, h2, h3, h4⟩ := ho
    refine ⟨h1, h2, h3, ?_⟩
    show match c.ι k with
      | none => xs = []
      | some b => _
    cases hi : c.ι k with
    | none => rw [hi] at h4; exact h4
    | some b =>
      rw [hi] at h4
      obtain ⟨cs, e, fr, h5, h6, h7, h8⟩ := h4
      exact ⟨cs, e, fr, h5, h6, h7, fun i j a ha => (h8 i j a ha).take (hcl i j a ha)⟩
  | map es =>
    obtain ⟨b, ents, clock, h1, h2, h3, h4⟩ := ho
    refine ⟨b, ents, clock, h1, h2, h3, fun i p hp => ?_⟩
    obtain ⟨e, he, hk, hv⟩ := h4 i p hp
    exact ⟨e, he, hk.take (hcl i p hp).1, hv.take (hcl i p hp).2⟩
  | iter s p => exact ho
  | gone => exact ho

section
variable {c : Cx} {m : Nat} {HV : List AObj}
theorem objV_live {H : List AObj} {o p : AObj} (h : ObjV H m o p) : p.live = o.live := by
  rcases h with ⟨rfl, _⟩ | ⟨sz, xs, ys, rfl, rfl, _⟩ <;> rfl
theorem objV_back (hl : HV.length = m) (hm : m ≤ c.H.length) (ho : ∀ (k : Nat) (o p : AObj), c.H[k]? = some o → HV[k]? = some p → ObjV c.H m o p) {k : Nat} {p : AObj} (hk : HV[k]? = some p) : ∃ o, c.H[k]? = some o ∧ (c.H.take m)[k]? = some o ∧ ObjV c.H m o p := by
  have hlt : k < m := by rw [← hl]; exact (List.getElem?_eq_some_iff.1 hk).1
  have : k < c.H.length := by omega
  refine ⟨c.H[k], by simp [this], by simp [List.getElem?_take, hlt, this], ho k _ p (by simp [this]) hk⟩
theorem Fr.viewH (hl : HV.length = m) (hm : m ≤ c.H.length) (ho : ∀ (k : Nat) (o p : AObj), c.H[k]? = some o → HV[k]? = some p → ObjV c.H m o p) : Fr (c.take m) ⟨c.ι, HV, c.w⟩ where
  os := rfl
  tape := rfl
  output := rfl
  size := Nat.le_refl _
  keep := fun b hb hw => ⟨rfl, fun ⟨k, p, h1, h2, h3⟩ => by
    obtain ⟨o, g1, g2, g3⟩ := objV_back hl hm ho h1
    exact hw ⟨k, o, g2, by rw [← objV_live g3]; exact h2, h3⟩⟩
  len := by simp [Cx.take, hl]; omega
  vec := fun k sz xs' hk hx => by
    obtain ⟨o, g1, g2, g3⟩ := objV_back hl hm ho hx
    rcases g3 with ⟨rfl, _⟩ | ⟨sz', xs, ys, rfl, e, hlen, _⟩
    · exact ⟨xs', g2, Nat.le_refl _, fun _ => ⟨rfl, fun _ _ => rfl⟩⟩
    · cases e
      exact ⟨xs, g2, by omega, fun _ => ⟨rfl, fun _ _ => rfl⟩⟩
  map := fun k es hk hx => by
    obtain ⟨o, g1, g2, g3⟩ := objV_back hl hm ho hx
    rcases g3 with ⟨rfl, _⟩ | ⟨sz', xs, ys, rfl, e, hlen, _⟩
    · exact ⟨⟨es, g2⟩, rfl⟩
    · cases e
  iter := fun k s p hk hx => by
    obtain ⟨o, g1, g2, g3⟩ := objV_back hl hm ho hx
    rcases g3 with ⟨rfl, _⟩ | ⟨sz', xs, ys, rfl, e, hlen, _⟩
    · exact ⟨⟨s, p, g2⟩, rfl⟩
    · cases e
theorem RepH.viewH (h : RepH c) (hl : HV.length = m) (hm : m ≤ c.H.length) (ho : ∀ (k : Nat) (o p : AObj), c.H[k]? = some o → HV[k]? = some p → ObjV c.H m o p) : RepH ⟨c.ι, HV, c.w⟩ where
  obj := fun k p hk => by
    have F := Fr.viewH hl hm ho
    obtain ⟨o, g1, g2, g3⟩ := objV_back hl hm ho hk
    have hO := h.obj k o g1
    rcases g3 with ⟨rfl, hcl⟩ | ⟨sz, xs, ys, rfl, rfl, hlen, hrow, hcell⟩
    · exact (RepO.take1 hcl hO).mono F rfl (fun _ _ _ => rfl)
    · obtain ⟨h1, h2, h3, h4⟩ := hO
      refine ⟨h1, hrow, by omega, ?_⟩
      show match c.ι k with
        | none => ys = []
        | some b => _
      cases hi : c.ι k with
      | none =>
        rw [hi] at h4
        simp only at h4
        subst h4
        exact List.length_eq_zero_iff.1 (by simpa using hlen)
      | some b =>
        rw [hi] at h4
        obtain ⟨cs, e, fr, h5, h6, h7, h8⟩ := h4
        exact ⟨cs, e, fr, h5, by rw [hlen]; exact h6, h7, fun i j b hb => by
          obtain ⟨a, ha, hv⟩ := hcell i j b hb
          exact (view_sound h hv (h8 i j a ha)).mono F⟩
  lt := fun k p b hk hlv hi => by
    obtain ⟨o, g1, g2, g3⟩ := objV_back hl hm ho hk
    exact h.lt k o b g1 (by rw [← objV_live g3]; exact hlv) hi
  inj := fun k l p q b hk hl' h1 h2 h3 h4 => by
    obtain ⟨o, g1, g2, g3⟩ := objV_back hl hm ho hk
    obtain ⟨o', f1, f2, f3⟩ := objV_back hl hm ho hl'
    exact h.inj k l o o' b g1 f1 (by rw [← objV_live g3]; exact h1) (by rw [← objV_live f3]; exact h2) h3 h4
  glob := fun g row hg => by
    have F := Fr.viewH hl hm ho
    obtain ⟨h0, hw, hc'⟩ := h.glob g row hg
    refine ⟨h0, fun ⟨k, p, h1, h2, h3⟩ => ?_, fun j a ha => ?_⟩
    · obtain ⟨o, g1, g2, g3⟩ := objV_back hl hm ho h1
      exact hw ⟨k, o, g1, by rw [← objV_live g3]; exact h2, h3⟩
    · obtain ⟨h1, v, h2, h3⟩ := hc' j a ha
      exact ⟨h1, v, h2, (h3.take (AV.clean_mono (Nat.zero_le m) h3 h1)).mono F⟩
end

/-- A state that says less: objects are forgotten, slices of one's own become lists, in slots and in cells. -/
theorem Weak.viewH {B N : Nat} {t : Tm} {H L L' : List AObj} {sl : List (Nat × AV)} (hH : Clean H.length H) (hB : B ≤ H.length + L'.length) (hL : L'.length ≤ L.length)
    (ho : ∀ (i : Nat) (o p : AObj), L[i]? = some o → L'[i]? = some p → ObjV (H ++ L) (H.length + L'.length) o p) (hs : ∀ p ∈ sl, View (H ++ L) (H.length + L'.length) (t p.1) p.2) : Weak B N ⟨t, H ++ L⟩ ⟨mkT sl, H ++ L'⟩ := fun ι a w hr => by
  have hT : ∀ n, View (H ++ L) (H.length + L'.length) (t n) (mkT sl n) := fun n => by
    induction sl with
    | nil => exact .dead _
    | cons p r ih =>
      obtain ⟨k, v⟩ := p
      rw [mkT_cons]
      split
      · rename_i e; subst e; exact hs (n, v) (by simp)
      · exact ih fun p hp => hs p (by simp [hp])
  have ho' : ∀ (k : Nat) (o p : AObj), (H ++ L)[k]? = some o → (H ++ L')[k]? = some p → ObjV (H ++ L) (H.length + L'.length) o p := fun k o p h1 h2 => by
    rcases Nat.lt_or_ge k H.length with hk | hk
    · rw [List.getElem?_append_left hk] at h1 h2
      rw [h1] at h2
      cases h2
      left
      refine ⟨rfl, ?_⟩
      have := (hH.le (show H.length ≤ H.length + L'.length by omega)) k o h1
      exact this
    · rw [List.getElem?_append_right hk] at h1 h2
      exact ho _ _ _ h1 h2
  have hl : (H ++ L').length = H.length + L'.length := by simp
  have hm : H.length + L'.length ≤ (H ++ L).length := by simp; omega
  have F := Fr.viewH (c := ⟨ι, H ++ L, w⟩) hl hm ho'
  exact ⟨ι, ⟨hr.h.viewH hl hm ho', ⟨hr.t.size, fun n => (view_sound hr.h (hT n) (hr.t.val n)).mono F, hr.t.defers⟩⟩, fun c0 hb hf => (hf.take (by omega)).trans F⟩

/-- One cell that holds a slice of one's own. -/
theorem ObjV.cell {H : List AObj} {m : Nat} {a b : AV} (h : View H m a b) : ObjV H m (.vec 1 [[a]]) (.vec 1 [[b]]) := by
  refine .inr ⟨1, [[a]], [[b]], rfl, rfl, rfl, by simp, fun i j x hx => ?_⟩
  match i, j with
  | 0, 0 => simp [cellAt] at hx ⊢; subst hx; exact h
  | 0, j + 1 => simp [cellAt] at hx
  | i + 1, j => simp [cellAt] at hx
theorem ObjV.same {H : List AObj} {m : Nat} {o : AObj} (h : o.clean m) : ObjV H m o o := .inl ⟨rfl, h⟩

/-- nil in a cell becomes a slice that can grow. -/
theorem Weak.growCellAt {B N : Nat} {t : Tm} {H L : List AObj} (i sz : Nat) (h0 : 0 < sz) (hi : L[i]? = some (.vec 1 [[.imm (.slice none 0 0)]])) :
    Weak B N ⟨t, H ++ L⟩ ⟨t, H ++ (L.set i (.vec 1 [[.sl sz (H.length + L.length) 0 0 0]]) ++ [.vec sz []])⟩ := by
  have hlt : i < L.length := (List.getElem?_eq_some_iff.1 hi).1
  have := Weak.growCell (B := B) (N := N) (σ := ⟨t, H ++ L⟩) (H.length + i) 0 0 sz 1 h0 (xs := [[.imm (.slice none 0 0)]]) (row := [.imm (.slice none 0 0)]) (by show (H ++ L)[H.length + i]? = _; rw [List.getElem?_append_right (by omega)]; simpa using hi) rfl rfl
  have e : (H ++ L).set (H.length + i) (.vec 1 [[.sl sz (H.length + L.length) 0 0 0]]) = H ++ L.set i (.vec 1 [[.sl sz (H.length + L.length) 0 0 0]]) := by
    rw [List.set_append_right _ _ (by omega)]
    simp
  simp only [List.length_append, List.set_cons_zero] at this
  rw [e, List.append_assoc] at this
  exact this

theorem CallA_fn2 {P : Program} {f : FuncId} {first cap args : List AV} {H : List AObj} {K : AV → List AObj → Prop} : CallA P (.fn (.func f) first cap) args H K = ACalls P f (first ++ args ++ cap) H K := rfl
end Go.Proofs.YtoiceinjademgaaDoor
