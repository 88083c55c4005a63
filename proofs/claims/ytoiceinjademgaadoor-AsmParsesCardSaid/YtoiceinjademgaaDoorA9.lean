/-
  The abstract layer, part 9: structs and arrays that are built; all quiet operations together.
-/
import Derived.Test.YtoiceinjademgaaDoorA8
namespace Go.Proofs.YtoiceinjademgaaDoor
open Go.RowKit

theorem foldl_putAll (l : List Value) : ∀ (k off : Nat) (cells : Array Value), (l.zipIdx k).foldl (fun (cs : Array Value) (p : Value × Nat) => cs.setIfInBounds (off + p.2) p.1) cells = putAll cells (off + k) l := by
  induction l with
  | nil => intro k off cells; rfl
  | cons v r ih =>
    intro k off cells
    simp only [List.zipIdx_cons, List.foldl_cons, putAll]
    rw [ih]
    rfl

theorem fill_step (cs : Array Value) (off : Nat) (v : Value) : v.cells.zipIdx.foldl (fun (cs : Array Value) (x : Value × Nat) => match x with | (c, j) => cs.setIfInBounds (off + j) c) cs = putAll cs off v.cells.toList := by
  have := foldl_putAll v.cells.toList 0 off cs
  rw [Nat.add_zero] at this
  rw [← this, ← Array.foldl_toList]
  simp only [Array.toList_zipIdx]

section
variable {P : Program} {c : Cx} {ρ : Operand → Value} {e : Opd → AV} (hρ : ∀ x, RepV c (e (lowX x)) (ρ x))

theorem RepVs_put {z as : List AV} {cells : Array Value} {vs : List Value} {off : Nat} (hz : RepVs c z cells) (hl : vs.length = as.length) (hr : ∀ (i : Nat) (a : AV), as[i]? = some a → RepV c a (vs.getD i undef)) (ho : off + as.length ≤ z.length) :
    RepVs c (z.take off ++ as ++ z.drop (off + as.length)) (putAll cells off vs) := by
  have hzl := hz.1
  refine ⟨by rw [putAll_size]; simp; omega, fun i a ha => ?_⟩
  by_cases h1 : i < off
  · rw [putAll_out _ _ _ _ (.inl h1)]
    refine hz.2 i a ?_
    rw [List.append_assoc, List.getElem?_append_left (by simp; omega), List.getElem?_take, if_pos h1] at ha
    exact ha
  · by_cases h2 : i < off + as.length
    · obtain ⟨j, rfl⟩ : ∃ j, i = off + j := ⟨i - off, by omega⟩
      rw [putAll_in _ _ _ _ (by omega) (by omega)]
      refine hr j a ?_
      rw [List.append_assoc, List.getElem?_append_right (by simp; omega), List.getElem?_append_left (by simp; omega)] at ha
      have : off + j - (z.take off).length = j := by simp; omega
      rwa [this] at ha
    · rw [putAll_out _ _ _ _ (.inr (by omega))]
      refine hz.2 i a ?_
      rw [List.getElem?_append_right (by simp; omega), List.getElem?_drop] at ha
      have : off + as.length + (i - (z.take off ++ as).length) = i := by simp; omega
      rwa [this] at ha

theorem RepV.cells_one {a : AV} {v : Value} (h : RepV c a v) (hc : a.cell = true) : v.cells = #[v] := by
  have := h.one hc
  cases v <;> first | rfl | simp [Value.oneCell'] at this

include hρ in
theorem fill_sound (place : Nat → Option (Nat × Nat)) : ∀ (parts : List (Nat × Operand)) (ps : List (Nat × Nat × Opd)) (z r : List AV) (cells : Array Value), ps.length = parts.length →
    (∀ (j i : Nat) (x : Operand), parts[j]? = some (i, x) → ∃ off sz, ps[j]? = some (off, sz, lowX x) ∧ place i = some (off, sz)) →
    RepVs c z cells → fillA e z ps = some r → ∃ out, Instr.fill place cells (parts.map fun p => (p.1, ρ p.2)) = some out ∧ RepVs c r out
  | [], [], z, r, cells, _, _, hz, h => by
    simp only [fillA, Option.some.injEq] at h
    subst h
    exact ⟨cells, rfl, hz⟩
  | [], _ :: _, z, r, cells, hl, _, _, _ => by simp at hl
  | _ :: _, [], z, r, cells, hl, _, _, _ => by simp at hl
  | (i, x) :: parts, p :: ps, z, r, cells, hl, hp, hz, h => by
    obtain ⟨off, sz, h1, h2⟩ := hp 0 i x rfl
    simp only [List.getElem?_cons_zero, Option.some.injEq] at h1
    subst h1
    have hx := hρ x
    have rest : ∀ (z' : List AV) (vs : List Value) (as : List AV), (ρ x).cells.toList = vs → vs.length = as.length → as.length = sz → off + sz ≤ z.length → (∀ (i : Nat) (a : AV), as[i]? = some a → RepV c a (vs.getD i undef)) →
        z' = z.take off ++ as ++ z.drop (off + sz) → fillA e z' ps = some r → ∃ out, Instr.fill place cells (((i, x) :: parts).map fun p => (p.1, ρ p.2)) = some out ∧ RepVs c r out := fun z' vs as hv hvl hal hle hr hz' hf => by
      subst hal
      have hz2 := RepVs_put hz hvl hr hle
      rw [← hz'] at hz2
      obtain ⟨out, ho, hr'⟩ := fill_sound place parts ps z' r (putAll cells off vs) (by simpa using hl) (fun j i x hj => by simpa using hp (j + 1) i x (by simpa using hj)) hz2 hf
      refine ⟨out, ?_, hr'⟩
      have hsz : (ρ x).cells.size = as.length := by rw [← hvl, ← hv]; simp
      simp only [List.map_cons, Instr.fill, h2]
      rw [if_neg (by rw [hsz, hz.1]; simp; omega), fill_step, hv]
      exact ho
    simp only [fillA] at h
    split at h
    · rename_i cs hcs
      rw [hcs] at hx
      split at h
      · rename_i hc
        obtain ⟨vs, hv, hs, hr⟩ := hx.agg_inv
        refine rest _ vs.toList cs (by rw [hv]; rfl) (by simpa using hs) hc.1 hc.2 (fun i a ha => ?_) rfl h
        have := hr i a ha
        simpa using this
      · simp at h
    · split at h
      · rename_i a _ hc
        obtain ⟨rfl, h3, h4⟩ := hc
        refine rest _ [ρ x] [e (lowX x)] (by rw [hx.cells_one h3]) rfl rfl h4 (fun i a ha => ?_) rfl h
        cases i with
        | zero => simp at ha; subst ha; exact hx
        | succ i => simp at ha
      · simp at h

theorem zero_rep (c : Cx) {t : TypeId} {z : List AV} (h : zeroOf P t = some z) : ∃ v, (∀ w, (zeroValue t).run P w = .ok v w) ∧ RepVs c z v.cells ∧ (P.info? t).isSome = true := by
  simp only [zeroOf, Option.map_eq_some_iff, Option.bind_eq_some_iff] at h
  obtain ⟨v, ⟨i, hi, hz⟩, rfl⟩ := h
  refine ⟨v, fun w => by simp [zeroValue, typeInfo, hi, hz], ⟨by simp, fun j a ha => ?_⟩, by simp [hi]⟩
  simp only [List.getElem?_map, Option.map_eq_some_iff] at ha
  obtain ⟨u, hu, rfl⟩ := ha
  rw [Array.getElem?_toList] at hu
  simp only [Array.getD_eq_getD_getElem?, hu, Option.getD_some]
  exact absC_rep c u

theorem lowParts_get (fs : Array Field) : ∀ (l : List (Nat × Operand)) (ps : List (Nat × Nat × Opd)), lowParts P fs l = some ps → ps.length = l.length ∧
    ∀ (j i : Nat) (x : Operand), l[j]? = some (i, x) → ∃ f, fs[i]? = some f ∧ ps[j]? = some (f.offset, szOf P f.type, lowX x)
  | [], ps, h => by
    simp only [lowParts, Option.some.injEq] at h
    subst h
    exact ⟨rfl, fun j i x hj => by simp at hj⟩
  | (i, x) :: r, ps, h => by
    simp only [lowParts] at h
    split at h
    · rename_i f ps' hf hps
      simp only [Option.some.injEq] at h
      subst h
      obtain ⟨h1, h2⟩ := lowParts_get fs r ps' hps
      refine ⟨by simp [h1], fun j i' x' hj => ?_⟩
      cases j with
      | zero =>
        simp only [List.getElem?_cons_zero, Option.some.injEq, Prod.mk.injEq] at hj
        obtain ⟨rfl, rfl⟩ := hj
        exact ⟨f, hf, rfl⟩
      | succ j => simpa using h2 j i' x' (by simpa using hj)
    · simp at h

include hρ in
theorem p_buildS {o : Oper} {t : TypeId} {parts : Array (Nat × Operand)} {fs : Array Field} {z : List AV} {ps : List (Nat × Nat × Opd)} (ho : o.op = .build t parts) (hu : P.underlying t = some (.struct fs)) (hz : zeroOf P t = some z)
    (hps : lowParts P fs parts.toList = some ps) (hfs : fs.all (fun f => (P.info? f.type).isSome) = true) {v : AV} (h : pureStep (.build z ps) e = some v) : ∃ u, RepV c v u ∧ Gives P ρ o u := by
  simp only [pureStep, Option.map_eq_some_iff] at h
  obtain ⟨r, hr, rfl⟩ := h
  obtain ⟨zv, hzr, hzz, _⟩ := zero_rep (P := P) c hz
  have hmap : ∀ w, (fs.mapM fun f => do pure (f.offset, ← sizeOf f.type) : Sem (Array (Nat × Nat))).run P w = .ok (fs.map fun f => (f.offset, szOf P f.type)) w := by
    intro w
    obtain ⟨l⟩ := fs
    simp only [List.mapM_toArray, Sem.run_map]
    have : ∀ (l : List Field) (w : World), (∀ f ∈ l, (P.info? f.type).isSome = true) → (l.mapM fun f => do pure (f.offset, ← sizeOf f.type) : Sem (List (Nat × Nat))).run P w = .ok (l.map fun f => (f.offset, szOf P f.type)) w := by
      intro l
      induction l with
      | nil => intro w _; rfl
      | cons f l ih =>
        intro w hl
        simp only [List.mapM_cons, Sem.run_bind, run_sizeOf' (hl f (by simp)), Result.andThen_ok, Sem.run_pure, ih w (fun g hg => hl g (by simp [hg])), List.map_cons]
    rw [this l w (by simpa using hfs)]
    simp [Result.andThen]
  obtain ⟨hl, hg⟩ := lowParts_get fs parts.toList ps hps
  obtain ⟨out, hout, hrep⟩ := fill_sound (c := c) hρ (fun i => (fs.map fun f => (f.offset, szOf P f.type))[i]?) parts.toList ps z r zv.cells hl (fun j i x hj => by
      obtain ⟨f, hf, hp⟩ := hg j i x hj
      exact ⟨_, _, hp, by simp [hf]⟩) hzz hr
  refine ⟨_, .agg _ _ hrep.1 hrep.2, fun w => ?_⟩
  have e1 : (parts.map fun (x : Nat × Operand) => match x with | (i, x) => (i, ρ x)).toList = parts.toList.map fun p => (p.1, ρ p.2) := by simp
  simp only [execOp, ho, Instr.build, Sem.run_bind, hzr, Result.andThen_ok, run_underlying hu, hmap, e1, hout, Sem.run_pure]

include hρ in
theorem p_buildA {o : Oper} {t et : TypeId} {n : Nat} {parts : Array (Nat × Operand)} {z : List AV} (ho : o.op = .build t parts) (hu : P.underlying t = some (.array n et)) (hz : zeroOf P t = some z)
    (hi : (P.info? et).isSome = true) {v : AV} (h : pureStep (.build z (parts.toList.map fun (x : Nat × Operand) => match x with | (i, x) => (i * szOf P et, szOf P et, lowX x))) e = some v) : ∃ u, RepV c v u ∧ Gives P ρ o u := by
  simp only [pureStep, Option.map_eq_some_iff] at h
  obtain ⟨r, hr, rfl⟩ := h
  obtain ⟨zv, hzr, hzz, _⟩ := zero_rep (P := P) c hz
  obtain ⟨out, hout, hrep⟩ := fill_sound (c := c) hρ (fun i => some (i * szOf P et, szOf P et)) parts.toList _ z r zv.cells (by simp) (fun j i x hj => ⟨_, _, by simp [hj], rfl⟩) hzz hr
  refine ⟨_, .agg _ _ hrep.1 hrep.2, fun w => ?_⟩
  have e1 : (parts.map fun (x : Nat × Operand) => match x with | (i, x) => (i, ρ x)).toList = parts.toList.map fun p => (p.1, ρ p.2) := by simp
  simp only [execOp, ho, Instr.build, Sem.run_bind, hzr, Result.andThen_ok, run_underlying hu, run_sizeOf' hi, e1, hout, Sem.run_pure]

end
end Go.Proofs.YtoiceinjademgaaDoor
