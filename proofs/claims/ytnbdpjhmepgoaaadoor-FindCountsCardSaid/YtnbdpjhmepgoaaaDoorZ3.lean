/-
  Texts of this claim, put together.
-/
import Derived.Test.YtnbdpjhmepgoaaaDoorZ2
namespace Go.Proofs.YtnbdpjhmepgoaaaDoor
open Go.RowKit
set_option linter.unusedVariables false
set_option linter.unusedSimpArgs false
set_option linter.unusedSectionVars false
theorem fillA_congr {e e' : Opd → AV} : ∀ (ps : List (Nat × Nat × Opd)) (z : List AV), (∀ x ∈ ps.map (fun p => p.2.2), e x = e' x) → fillA e z ps = fillA e' z ps
  | [], z, _ => by simp [fillA]
  | (o, s, x) :: ps, z, h => by
    have h1 := h x (by simp)
    have h2 : ∀ z, fillA e z ps = fillA e' z ps := fun z => fillA_congr ps z fun y hy => h y (by simp at hy ⊢; exact .inr hy)
    simp only [fillA, h1, h2]
theorem fillRows_congr {e e' : Opd → AV} {sz : Nat} : ∀ (ps : List (Nat × Opd)) (xs : List (List AV)), (∀ x ∈ ps.map (fun p => p.2), e x = e' x) → fillRows e sz xs ps = fillRows e' sz xs ps
  | [], z, _ => by simp [fillRows]
  | (i, x) :: ps, z, h => by
    have h1 := h x (by simp)
    have h2 : ∀ z, fillRows e sz z ps = fillRows e' sz z ps := fun z => fillRows_congr ps z fun y hy => h y (by simp at hy ⊢; exact .inr hy)
    simp only [fillRows, h1, h2]
theorem map_congr' {e e' : Opd → AV} {l : List Opd} (h : ∀ x ∈ l, e x = e' x) : l.map e = l.map e' := List.map_congr_left h
theorem omap_congr {e e' : Opd → AV} {o : Option Opd} (h : ∀ x ∈ o.toList, e x = e' x) : o.map e = o.map e' := by
  cases o with
  | none => rfl
  | some x => simp at h ⊢; exact h
theorem stepL_congr {op : LOp} {t t' : Tm} {H : List AObj} (h : ∀ x ∈ op.opds, ev t x = ev t' x) : stepL op ⟨t, H⟩ = stepL op ⟨t', H⟩ := by
  cases op with
  | build z ps => simp only [stepL, pureStep, fillA_congr ps z h]
  | bslice s z n ps => simp only [stepL, fillRows_congr ps _ h]
  | mkFn f a b => simp only [stepL, pureStep, map_congr' (fun x hx => h x (by simp [LOp.opds, hx]) : ∀ x ∈ a, ev t x = ev t' x), map_congr' (fun x hx => h x (by simp [LOp.opds, hx]) : ∀ x ∈ b, ev t x = ev t' x)]
  | sliceS x lo hi => simp only [stepL, pureStep, h x (by simp [LOp.opds]), omap_congr (fun y hy => h y (by simp [LOp.opds] at hy ⊢; simp [hy]) : ∀ x ∈ lo.toList, ev t x = ev t' x), omap_congr (fun y hy => h y (by simp [LOp.opds] at hy ⊢; simp [hy]) : ∀ x ∈ hi.toList, ev t x = ev t' x)]
  | slice s x lo hi mx =>
    have h1 := h x (by simp [LOp.opds])
    have h2 := omap_congr (fun y hy => h y (by simp [LOp.opds] at hy ⊢; simp [hy]) : ∀ x ∈ lo.toList, ev t x = ev t' x)
    have h3 := omap_congr (fun y hy => h y (by simp [LOp.opds] at hy ⊢; simp [hy]) : ∀ x ∈ hi.toList, ev t x = ev t' x)
    cases mx <;> simp only [stepL, pureStep, h1, h2, h3]
  | sliceA n s x lo hi => rfl
  | min xs => simp only [stepL, pureStep, map_congr' (show ∀ x ∈ xs, ev t x = ev t' x from h)]
  | max xs => simp only [stepL, pureStep, map_congr' (show ∀ x ∈ xs, ev t x = ev t' x from h)]
  | extract x n => simp only [stepL, pureStep, h x (by simp [LOp.opds])]
  | call f args => rfl
  | pick c a b => simp only [stepL, pureStep, h c (by simp [LOp.opds]), h a (by simp [LOp.opds]), h b (by simp [LOp.opds])]
  | store s a x => simp only [stepL, h a (by simp [LOp.opds]), h x (by simp [LOp.opds])]
  | bin o k x y => simp only [stepL, pureStep, h x (by simp [LOp.opds]), h y (by simp [LOp.opds])]
  | mkSlice s b z l c => simp only [stepL, h l (by simp [LOp.opds]), h c (by simp [LOp.opds])]
  | iaddrS s x i => simp only [stepL, pureStep, h x (by simp [LOp.opds]), h i (by simp [LOp.opds])]
  | iaddrA n s x i => simp only [stepL, pureStep, h x (by simp [LOp.opds]), h i (by simp [LOp.opds])]
  | idxA n a s x i => simp only [stepL, pureStep, h x (by simp [LOp.opds]), h i (by simp [LOp.opds])]
  | idxS x i => simp only [stepL, pureStep, h x (by simp [LOp.opds]), h i (by simp [LOp.opds])]
  | lookup z x k ok => simp only [stepL, h x (by simp [LOp.opds]), h k (by simp [LOp.opds])]
  | mapSet m k v => simp only [stepL, h m (by simp [LOp.opds]), h k (by simp [LOp.opds]), h v (by simp [LOp.opds])]
  | append s b x y => simp only [stepL, h x (by simp [LOp.opds]), h y (by simp [LOp.opds])]
  | appendS x y => simp only [stepL, h x (by simp [LOp.opds]), h y (by simp [LOp.opds])]
  | copy s x y => simp only [stepL, h x (by simp [LOp.opds]), h y (by simp [LOp.opds])]
  | len k x => cases k <;> simp only [stepL, pureStep, h x (by simp [LOp.opds])]
  | alloc z => rfl
  | mkMap => rfl
  | bad => rfl
  | toBytes x => rfl
  | _ => rename_i x; simp only [stepL, pureStep, h x (by simp [LOp.opds])]
theorem step_pure {op : LOp} (hk : op.kind = 0) {t : Tm} {H H' : List AObj} {v : AV} (h : stepL op ⟨t, H⟩ = some (v, H')) : H' = H ∧ ∀ G, stepL op ⟨t, G⟩ = some (v, G) := by
  have hl : op.loud = false := by
    cases op <;> first | rfl | (simp [LOp.kind] at hk; done) | skip
    rename_i k x
    cases k <;> first | rfl | (simp [LOp.kind] at hk; done)
  rw [stepL_quiet hl] at h
  simp only [Option.map_eq_some_iff, Prod.mk.injEq] at h
  obtain ⟨v', hv, rfl, rfl⟩ := h
  exact ⟨rfl, fun G => by rw [stepL_quiet hl]; simp [hv]⟩
theorem get_app {H : List AObj} {k : Nat} {o p : AObj} (h : H[k]? = some p) : (H ++ [o])[k]? = some p := by
  rw [List.getElem?_append_left (List.getElem?_eq_some_iff.1 h).1]; exact h
theorem rowOf_app {H : List AObj} {o : AObj} {x : AV} {p : List AV × Nat} (h : rowOf H x = some p) : rowOf (H ++ [o]) x = some p := by
  cases x with
  | ptr k n i off =>
    simp only [rowOf] at h ⊢
    cases hk : H[k]? with
    | none => rw [hk] at h; simp at h
    | some q => rw [hk] at h; rw [get_app hk]; exact h
  | lptr row off => exact h
  | _ => simp [rowOf] at h
theorem elems_app {H : List AObj} {o : AObj} {x : AV} {p : List (List AV)} (h : elems H x = some p) : elems (H ++ [o]) x = some p := by
  cases x with
  | sl s k n off len =>
    simp only [elems] at h ⊢
    cases hk : H[k]? with
    | none => rw [hk] at h; simp at h
    | some q => rw [hk] at h; rw [get_app hk]; exact h
  | list xs => exact h
  | _ => simp [elems] at h
theorem step_read {op : LOp} (hk : op.kind = 1) {t : Tm} {H H' : List AObj} {v : AV} (h : stepL op ⟨t, H⟩ = some (v, H')) : H' = H ∧ ∀ o, stepL op ⟨t, H ++ [o]⟩ = some (v, H ++ [o]) := by
  cases op with
  | load a s x =>
    simp only [stepL, Option.bind_eq_some_iff, Option.map_eq_some_iff, Prod.mk.injEq] at h
    obtain ⟨⟨row, off⟩, h1, v', h2, rfl, rfl⟩ := h
    exact ⟨rfl, fun o => by simp only [stepL, rowOf_app h1, Option.bind_some, h2, Option.map_some]⟩
  | lookup z x k ok =>
    simp only [stepL] at h ⊢
    cases hx : ev t x with
    | map m =>
      rw [hx] at h
      simp only at h
      cases hm : H[m]? with
      | none => rw [hm] at h; simp at h
      | some q =>
        rw [hm] at h
        cases q with
        | map es =>
          simp only at h
          split at h
          · rename_i hi
            simp only [Option.map_eq_some_iff] at h
            obtain ⟨r, h1, h2⟩ := h
            have e : H' = H := by cases r <;> (simp only [Prod.mk.injEq] at h2; exact h2.2.symm)
            refine ⟨e, fun o => ?_⟩
            simp only [get_app hm, hi, if_true, h1, Option.map_some]
            cases r <;> (simp only [Prod.mk.injEq] at h2 ⊢; simp [h2.1])
          · simp at h
        | _ => simp at h
    | _ => rw [hx] at h; simp at h
  | len k x =>
    cases k with
    | map =>
      simp only [stepL] at h ⊢
      cases hx : ev t x with
      | map m =>
        rw [hx] at h
        simp only at h
        cases hm : H[m]? with
        | none => rw [hm] at h; simp at h
        | some q =>
          rw [hm] at h
          cases q with
          | map es =>
            simp only [Option.some.injEq, Prod.mk.injEq] at h
            obtain ⟨rfl, rfl⟩ := h
            exact ⟨rfl, fun o => by simp only [get_app hm]⟩
          | _ => simp at h
      | _ => rw [hx] at h; simp at h
    | _ => simp [LOp.kind] at hk
  | toStr x =>
    simp only [stepL] at h ⊢
    have key : ∀ (y : AV), ((elems H y).bind fun xs => (bytesOf xs).map fun l => ((.str ⟨l.toArray⟩ : AV), H)) = some (v, H') → H' = H ∧ ∀ o, ((elems (H ++ [o]) y).bind fun xs => (bytesOf xs).map fun l => ((.str ⟨l.toArray⟩ : AV), H ++ [o])) = some (v, H ++ [o]) := fun y hy => by
      simp only [Option.bind_eq_some_iff, Option.map_eq_some_iff, Prod.mk.injEq] at hy
      obtain ⟨xs, h1, l, h2, rfl, rfl⟩ := hy
      exact ⟨rfl, fun o => by simp [elems_app h1, h2]⟩
    split at h
    · simp only [Option.some.injEq, Prod.mk.injEq] at h
      obtain ⟨rfl, rfl⟩ := h
      exact ⟨rfl, fun o => rfl⟩
    · exact key _ h
  | _ => simp [LOp.kind] at hk
theorem step_alloc {op : LOp} (hk : op.kind = 2) {t : Tm} {H H' : List AObj} {v : AV} (h : stepL op ⟨t, H⟩ = some (v, H')) : ∃ o, H' = H ++ [o] ∧ ∀ G : List AObj, G.length = H.length → stepL op ⟨t, G⟩ = some (v, G ++ [o]) := by
  cases op with
  | alloc z =>
    simp only [stepL, Option.some.injEq, Prod.mk.injEq] at h
    obtain ⟨rfl, rfl⟩ := h
    exact ⟨_, rfl, fun G hG => by simp only [stepL, hG]⟩
  | box x =>
    simp only [stepL, Option.bind_eq_some_iff] at h
    obtain ⟨cs, h1, h2⟩ := h
    split at h2
    · rename_i h3
      simp only [Option.some.injEq, Prod.mk.injEq] at h2
      obtain ⟨rfl, rfl⟩ := h2
      exact ⟨_, rfl, fun G hG => by simp only [stepL, h1, Option.bind_some, h3, if_true, hG]⟩
    · simp at h2
  | bslice s z n ps =>
    simp only [stepL, Option.map_eq_some_iff, Prod.mk.injEq] at h
    obtain ⟨xs, h1, rfl, rfl⟩ := h
    exact ⟨_, rfl, fun G hG => by simp only [stepL, h1, Option.map_some, hG]⟩
  | mkSlice s b z l c =>
    simp only [stepL] at h ⊢
    split at h
    · rename_i k1 n1 k2 n2 e1 e2
      split at h
      · rename_i h3
        simp only [Option.some.injEq, Prod.mk.injEq] at h
        obtain ⟨rfl, rfl⟩ := h
        exact ⟨_, rfl, fun G hG => by simp only [h3, and_self, if_true, hG]⟩
      · simp at h
    · simp at h
  | mkMap =>
    simp only [stepL, Option.some.injEq, Prod.mk.injEq] at h
    obtain ⟨rfl, rfl⟩ := h
    exact ⟨_, rfl, fun G hG => by simp only [stepL, hG]⟩
  | range x =>
    simp only [stepL] at h ⊢
    split at h
    · simp only [Option.some.injEq, Prod.mk.injEq] at h
      obtain ⟨rfl, rfl⟩ := h
      exact ⟨_, rfl, fun G hG => by simp only [hG]⟩
    · simp at h
  | len k x => cases k <;> simp [LOp.kind] at hk
  | _ => simp [LOp.kind] at hk
theorem step_store {op : LOp} (hk : op.kind = 4) {t : Tm} {H H' : List AObj} {v : AV} (h : stepL op ⟨t, H⟩ = some (v, H')) : H'.length = H.length ∧ ∀ o, stepL op ⟨t, H ++ [o]⟩ = some (v, H' ++ [o]) := by
  cases op with
  | store s a x =>
    simp only [stepL] at h ⊢
    cases ha : ev t a with
    | ptr k n i off =>
      rw [ha] at h
      simp only at h
      cases hm : H[k]? with
      | none => rw [hm] at h; simp at h
      | some q =>
        rw [hm] at h
        cases q with
        | vec z xs =>
          simp only at h
          split at h
          · rename_i hn
            simp only [Option.bind_eq_some_iff] at h
            obtain ⟨row, h1, cs, h2, h3⟩ := h
            split at h3
            · rename_i h4
              simp only [Option.some.injEq, Prod.mk.injEq] at h3
              obtain ⟨rfl, rfl⟩ := h3
              have hlt : k < H.length := (List.getElem?_eq_some_iff.1 hm).1
              refine ⟨by simp, fun o => ?_⟩
              simp only [get_app hm, hn, if_true, h1, Option.bind_some, h2, h4, and_self]
              rw [List.set_append, if_pos hlt]
            · simp at h3
          · simp at h
        | _ => simp at h
    | _ => rw [ha] at h; simp at h
  | len k x => cases k <;> simp [LOp.kind] at hk
  | _ => simp [LOp.kind] at hk
theorem kind_call {op : LOp} : op.kind = 3 ↔ ∃ f args, op = .call f args := by
  cases op <;> simp [LOp.kind]
  rename_i k x
  cases k <;> simp [LOp.kind]
theorem step_swap {a b : LOp} {t : Tm} {H Ha Hab : List AObj} {va vb : AV} (hc : compat a.kind b.kind = true) (ha3 : a.kind ≠ 3) (hb3 : b.kind ≠ 3) (h1 : stepL a ⟨t, H⟩ = some (va, Ha)) (h2 : stepL b ⟨t, Ha⟩ = some (vb, Hab)) :
    ∃ Hb, stepL b ⟨t, H⟩ = some (vb, Hb) ∧ stepL a ⟨t, Hb⟩ = some (va, Hab) := by
  simp only [compat, Bool.or_eq_true, Bool.and_eq_true, beq_iff_eq] at hc
  rcases hc with ((((h0 | h0) | h0) | h0) | ⟨h0, h0' | h0'⟩) | ⟨h0, h0'⟩
  · obtain ⟨rfl, hG⟩ := step_pure h0 h1
    exact ⟨Hab, h2, hG Hab⟩
  · exact absurd h0 ha3
  · obtain ⟨rfl, hG⟩ := step_pure h0 h2
    exact ⟨H, hG H, h1⟩
  · exact absurd h0 hb3
  · obtain ⟨rfl, hG⟩ := step_read h0 h1
    obtain ⟨rfl, _⟩ := step_read h0' h2
    exact ⟨_, h2, h1⟩
  · obtain ⟨e, hG⟩ := step_read h0 h1
    subst e
    obtain ⟨o, e, _⟩ := step_alloc h0' h2
    subst e
    exact ⟨_, h2, hG o⟩
  · obtain ⟨hl, hG⟩ := step_store h0 h1
    obtain ⟨o, rfl, hA⟩ := step_alloc h0' h2
    exact ⟨H ++ [o], hA H hl.symm, hG o⟩
def wxO (P : Program) (o : LOper) (K : AS → Prop) (σ : AS) : Prop :=
  match o.op with
  | .call f args => ∃ g first cap r, ev σ.t f = .fn (.func g) first cap ∧ Pure P g (first ++ args.map (ev σ.t) ++ cap) r ∧ K ⟨σ.t.put o.dst r, σ.H⟩
  | op => thenS (stepL op σ) (Later K σ.t o.dst)
def wxG (P : Program) (o : LOper) (K : AS → Prop) (σ : AS) : Prop :=
  match o.guard with
  | none => wxO P o K σ
  | some (g, b) => match σ.t g with
    | .bool x => (x = b → wxO P o K σ) ∧ (x ≠ b → K ⟨σ.t.put o.dst (.imm undef), σ.H⟩)
    | .imm u => u = undef ∧ K ⟨σ.t.put o.dst (.imm undef), σ.H⟩
    | _ => False
def Comes (P : Program) (o : LOper) (σ : AS) (v : AV) (H' : List AObj) : Prop :=
  (∃ f args g first cap, o.op = .call f args ∧ ev σ.t f = .fn (.func g) first cap ∧ Pure P g (first ++ args.map (ev σ.t) ++ cap) v ∧ H' = σ.H) ∨ (o.op.kind ≠ 3 ∧ stepL o.op σ = some (v, H'))
def ComesG (P : Program) (o : LOper) (σ : AS) (v : AV) (H' : List AObj) : Prop :=
  match o.guard with
  | none => Comes P o σ v H'
  | some (g, b) => (σ.t g = .bool b ∧ Comes P o σ v H') ∨ ((σ.t g = .bool (!b) ∨ σ.t g = .imm undef) ∧ v = .imm undef ∧ H' = σ.H)
section
variable {P : Program} {N B : Nat} {Q : Exit → AS → Prop} {σ : AS} {K : AS → Prop}
theorem wxO_iff {o : LOper} : wxO P o K σ ↔ ∃ v H', Comes P o σ v H' ∧ K ⟨σ.t.put o.dst v, H'⟩ := by
  unfold wxO Comes
  split
  · rename_i f args hop
    constructor
    · rintro ⟨g, first, cap, r, h1, h2, h3⟩
      exact ⟨r, σ.H, .inl ⟨f, args, g, first, cap, hop, h1, h2, rfl⟩, h3⟩
    · rintro ⟨v, H', h | ⟨h, _⟩, hk⟩
      · obtain ⟨f', args', g, first, cap, h0, h1, h2, rfl⟩ := h
        rw [hop] at h0
        cases h0
        exact ⟨g, first, cap, v, h1, h2, hk⟩
      · rw [hop] at h; exact absurd rfl h
  · rename_i hop
    have h3 : o.op.kind ≠ 3 := fun h => by
      obtain ⟨f, args, h⟩ := kind_call.1 h
      exact hop f args h
    unfold thenS
    split
    · rename_i v H' hst
      constructor
      · intro h; exact ⟨v, H', .inr ⟨h3, hst⟩, h⟩
      · rintro ⟨v', H'', h | ⟨_, h⟩, hk⟩
        · obtain ⟨f', args', _, _, _, h0, _⟩ := h
          exact absurd h0 (hop f' args')
        · rw [hst] at h
          cases h
          exact hk
    · rename_i hst
      constructor
      · intro h; exact h.elim
      · rintro ⟨v', H'', h | ⟨_, h⟩, hk⟩
        · obtain ⟨f', args', _, _, _, h0, _⟩ := h
          exact absurd h0 (hop f' args')
        · rw [hst] at h; cases h
theorem wxG_iff {o : LOper} : wxG P o K σ ↔ ∃ v H', ComesG P o σ v H' ∧ K ⟨σ.t.put o.dst v, H'⟩ := by
  unfold wxG ComesG
  cases hg : o.guard with
  | none => exact wxO_iff
  | some p =>
    obtain ⟨g, b⟩ := p
    simp only
    constructor
    · intro h
      split at h
      · rename_i x hx
        by_cases hxb : x = b
        · obtain ⟨v, H', h1, h2⟩ := wxO_iff.1 (h.1 hxb)
          exact ⟨v, H', .inl ⟨by rw [hx, hxb], h1⟩, h2⟩
        · refine ⟨_, _, .inr ⟨.inl ?_, rfl, rfl⟩, h.2 hxb⟩
          rw [hx]
          cases x <;> cases b <;> simp at hxb ⊢
      · rename_i u hu
        obtain ⟨rfl, hk⟩ := h
        exact ⟨_, _, .inr ⟨.inr hu, rfl, rfl⟩, hk⟩
      · exact h.elim
    · rintro ⟨v, H', ⟨h1, h2⟩ | ⟨h1 | h1, rfl, rfl⟩, hk⟩
      · rw [h1]
        exact ⟨fun _ => wxO_iff.2 ⟨v, H', h2, hk⟩, fun h => absurd rfl h⟩
      · rw [h1]
        exact ⟨fun h => absurd h (by cases b <;> simp), fun _ => hk⟩
      · rw [h1]
        exact ⟨rfl, hk⟩
theorem ev_put {t : Tm} {d : Option Nat} {v : AV} {x : Opd} (h : ∀ n, d = some n → x ≠ .tmp n) : ev (t.put d v) x = ev t x := by
  cases d with
  | none => rfl
  | some d =>
    cases x with
    | cst a => rfl
    | tmp n =>
      show (if n = d then v else t n) = t n
      rw [if_neg]
      rintro rfl
      exact h n rfl rfl
theorem mem_looks {o : LOper} {n : Nat} (h : Opd.tmp n ∈ o.op.opds) : n ∈ o.looks := by
  unfold LOper.looks
  rw [List.mem_append]
  exact .inl (List.mem_filterMap.2 ⟨.tmp n, h, rfl⟩)
theorem ComesG.put {o : LOper} {d : Option Nat} {u v : AV} {H' : List AObj} (hd : ∀ n, d = some n → n ∉ o.looks) : ComesG P o ⟨σ.t.put d u, σ.H⟩ v H' ↔ ComesG P o σ v H' := by
  have hx : ∀ x ∈ o.op.opds, ev (σ.t.put d u) x = ev σ.t x := fun x hx => ev_put fun n hn e => hd n hn (mem_looks (e ▸ hx))
  have hC : Comes P o ⟨σ.t.put d u, σ.H⟩ v H' ↔ Comes P o σ v H' := by
    clear hd
    have h2 : stepL o.op ⟨σ.t.put d u, σ.H⟩ = stepL o.op σ := stepL_congr hx
    unfold Comes
    rw [h2]
    refine or_congr ?_ Iff.rfl
    constructor
    · rintro ⟨f, args, g, first, cap, h0, h1, h2, h3⟩
      rw [h0] at hx
      refine ⟨f, args, g, first, cap, h0, by rw [← hx f (by simp [LOp.opds])]; exact h1, ?_, h3⟩
      rw [← map_congr' (fun x hx' => hx x (by simp [LOp.opds, hx']) : ∀ x ∈ args, ev (σ.t.put d u) x = ev σ.t x)]
      exact h2
    · rintro ⟨f, args, g, first, cap, h0, h1, h2, h3⟩
      rw [h0] at hx
      refine ⟨f, args, g, first, cap, h0, by rw [hx f (by simp [LOp.opds])]; exact h1, ?_, h3⟩
      rw [map_congr' (fun x hx' => hx x (by simp [LOp.opds, hx']) : ∀ x ∈ args, ev (σ.t.put d u) x = ev σ.t x)]
      exact h2
  unfold ComesG
  cases hg : o.guard with
  | none => exact hC
  | some p =>
    obtain ⟨g, b⟩ := p
    have hgl : σ.t.put d u g = σ.t g := by
      have : g ∈ o.looks := by unfold LOper.looks; rw [hg]; simp
      cases d with
      | none => rfl
      | some d =>
        show (if g = d then u else σ.t g) = σ.t g
        rw [if_neg]
        rintro rfl
        exact hd g rfl this
    simp only [hgl, hC]
theorem ComesG.swap {a b : LOper} {va vb : AV} {Ha Hab : List AObj} (hc : compat a.op.kind b.op.kind = true) (h1 : ComesG P a σ va Ha) (h2 : ComesG P b ⟨σ.t, Ha⟩ vb Hab) : ∃ Hb, ComesG P b σ vb Hb ∧ ComesG P a ⟨σ.t, Hb⟩ va Hab := by
  have core : ∀ va vb Ha Hab, Comes P a σ va Ha → Comes P b ⟨σ.t, Ha⟩ vb Hab → ∃ Hb, Comes P b σ vb Hb ∧ Comes P a ⟨σ.t, Hb⟩ va Hab := by
    intro va vb Ha Hab h1 h2
    rcases h1 with ⟨f, args, g, first, cap, h0, k1, k2, rfl⟩ | ⟨h3, h1⟩
    · exact ⟨Hab, h2, .inl ⟨f, args, g, first, cap, h0, k1, k2, rfl⟩⟩
    · rcases h2 with ⟨f, args, g, first, cap, h0, k1, k2, rfl⟩ | ⟨h4, h2⟩
      · exact ⟨σ.H, .inl ⟨f, args, g, first, cap, h0, k1, k2, rfl⟩, .inr ⟨h3, h1⟩⟩
      · obtain ⟨Hb, g1, g2⟩ := step_swap hc h3 h4 h1 h2
        exact ⟨Hb, .inr ⟨h4, g1⟩, .inr ⟨h3, g2⟩⟩
  unfold ComesG at h1 h2 ⊢
  cases ha : a.guard with
  | none =>
    rw [ha] at h1
    cases hb : b.guard with
    | none => rw [hb] at h2; exact core _ _ _ _ h1 h2
    | some q =>
      obtain ⟨gb, bb⟩ := q
      rw [hb] at h2
      simp only at h1 h2 ⊢
      rcases h2 with ⟨g2, h2⟩ | ⟨g2, rfl, rfl⟩
      · obtain ⟨Hb, k1, k2⟩ := core _ _ _ _ h1 h2
        exact ⟨Hb, .inl ⟨g2, k1⟩, k2⟩
      · exact ⟨σ.H, .inr ⟨g2, rfl, rfl⟩, h1⟩
  | some p =>
    obtain ⟨ga, ba⟩ := p
    rw [ha] at h1
    simp only at h1
    rcases h1 with ⟨g1, h1⟩ | ⟨g1, rfl, rfl⟩
    · cases hb : b.guard with
      | none =>
        rw [hb] at h2
        obtain ⟨Hb, k1, k2⟩ := core _ _ _ _ h1 h2
        exact ⟨Hb, k1, .inl ⟨g1, k2⟩⟩
      | some q =>
        obtain ⟨gb, bb⟩ := q
        rw [hb] at h2
        simp only at h2 ⊢
        rcases h2 with ⟨g2, h2⟩ | ⟨g2, rfl, rfl⟩
        · obtain ⟨Hb, k1, k2⟩ := core _ _ _ _ h1 h2
          exact ⟨Hb, .inl ⟨g2, k1⟩, .inl ⟨g1, k2⟩⟩
        · exact ⟨σ.H, .inr ⟨g2, rfl, rfl⟩, .inl ⟨g1, h1⟩⟩
    · exact ⟨Hab, h2, .inr ⟨g1, rfl, rfl⟩⟩
theorem put_comm' {t : Tm} {d e : Option Nat} {u v : AV} (h : ∀ n, d = some n → e ≠ some n) : (t.put d u).put e v = (t.put e v).put d u := by
  cases d with
  | none => rfl
  | some d =>
    cases e with
    | none => rfl
    | some e =>
      have hne : e ≠ d := fun x => h d rfl (by rw [x])
      funext n
      show (if n = e then v else if n = d then u else t n) = if n = d then u else if n = e then v else t n
      split
      · rename_i h1
        rw [if_neg (by omega)]
      · rfl
theorem wxG_swap {a b : LOper} (hc : compat a.op.kind b.op.kind = true) (hap : a.apart b = true) (h : wxG P a (fun σ => wxG P b K σ) σ) : wxG P b (fun σ => wxG P a K σ) σ := by
  have s1 : ∀ n, a.dst = some n → n ∉ b.looks := fun n hn => by
    simp [LOper.apart, hn] at hap
    exact hap.1.1
  have s2 : ∀ n, a.dst = some n → b.dst ≠ some n := fun n hn => by
    simp [LOper.apart, hn] at hap
    exact hap.1.2
  have s3 : ∀ n, b.dst = some n → n ∉ a.looks := fun n hn => by
    simp [LOper.apart, hn] at hap
    exact hap.2
  obtain ⟨va, Ha, h1, h2⟩ := wxG_iff.1 h
  obtain ⟨vb, Hab, h3, h4⟩ := wxG_iff.1 h2
  rw [ComesG.put (σ := ⟨σ.t, Ha⟩) s1] at h3
  obtain ⟨Hb, h5, h6⟩ := ComesG.swap hc h1 h3
  refine wxG_iff.2 ⟨vb, Hb, h5, wxG_iff.2 ⟨va, Hab, (ComesG.put (σ := ⟨σ.t, Hb⟩) s3).2 h6, ?_⟩⟩
  rw [put_comm' (fun n hn e => s2 n e hn)]
  exact h4
theorem wxG_mono {a : LOper} {K' : AS → Prop} (hk : ∀ σ, K σ → K' σ) (h : wxG P a K σ) : wxG P a K' σ := by
  obtain ⟨v, H', h1, h2⟩ := wxG_iff.1 h
  exact wxG_iff.2 ⟨v, H', h1, hk _ h2⟩
theorem wxO_wpO {o : LOper} (h : wxO P o K σ) : wpO P o K σ := by
  obtain ⟨d, op, g⟩ := o
  by_cases hop : op.isCall = true
  · cases op with
    | call f args =>
      obtain ⟨g', first, cap, r, h1, h2, h3⟩ := h
      rw [wo_call, h1]
      exact ACalls.pure h2 h3
    | _ => simp [LOp.isCall] at hop
  · rw [wo_op (by simpa using hop)]
    unfold wxO at h
    split at h
    · rename_i f args e
      simp only at e
      subst e
      simp [LOp.isCall] at hop
    · exact h
theorem wxG_wpG {o : LOper} (h : wxG P o K σ) : wpG P o K σ := by
  unfold wxG at h
  unfold wpG
  split
  · rename_i hg
    rw [hg] at h
    exact wxO_wpO h
  · rename_i g b hg
    rw [hg] at h
    simp only at h
    split at h
    · rename_i x hx
      rw [hx]
      exact ⟨fun e => wxO_wpO (h.1 e), h.2⟩
    · rename_i u hu
      rw [hu]
      exact h
    · exact h.elim
def AnyX (P : Program) (ops : Array Oper) (l : List LOper) (K : AS → Prop) : Nat → Array Bool → AS → Prop
  | 0, listed, σ => Region.ready .any ops listed = [] ∧ K σ
  | n + 1, listed, σ => (Region.ready .any ops listed = [] → K σ) ∧ ∀ i ∈ Region.ready .any ops listed, ∃ o, l[i]? = some o ∧ wxG P o (AnyX P ops l K n (listed.setIfInBounds i true)) σ
theorem AnyX_sound {ops : Array Oper} {c0 : Cx} : ∀ (n : Nat) (listed : Array Bool) (σ : AS) (ι : Nat → Option Nat) (a : Act) (w : World), AnyX P ops (ops.toList.map (lowOperN P N ops)) (Q .normal) n listed σ →
    RepS N ι σ a w → Fr c0 ⟨ι, σ.H, w⟩ → wpAny P .any ops (Good c0 N Q) n listed a w
  | 0, listed, σ, ι, a, w, h, hs, hf => wpAny_done h.1 ⟨trivial, σ, ι, hs, hf, h.2⟩ 0
  | n + 1, listed, σ, ι, a, w, h, hs, hf => by
    refine ⟨fun e => ⟨trivial, σ, ι, hs, hf, h.1 e⟩, fun i hi => ?_⟩
    obtain ⟨o, ho, hg⟩ := h.2 i hi
    simp only [List.getElem?_map, Array.getElem?_toList, Option.map_eq_some_iff] at ho
    obtain ⟨oo, hoo, rfl⟩ := ho
    have hsound := wpG_sound (P := P) (N := N) (wxG_wpG hg) hs hf (Good c0 N Q)
    have rest : ∀ a w, Next' c0 N (AnyX P ops (ops.toList.map (lowOperN P N ops)) (Q .normal) n (listed.setIfInBounds i true)) a w → wpAny P .any ops (Good c0 N Q) n (listed.setIfInBounds i true) a w := fun a w ⟨σ', ι', g1, g2, g3⟩ => AnyX_sound n _ σ' ι' a w g3 g1 g2
    unfold wpOp
    simp only [hoo]
    split
    · rename_i hw
      rw [if_pos hw] at hsound
      exact .inl (Oper.wp_mono rest hsound)
    · rename_i hw
      rw [if_neg hw] at hsound
      exact rest _ _ hsound
theorem AnyX_front {ops : Array Oper} {l : List LOper} {i : Nat} {oi : LOper} {D : List Nat} (hi : l[i]? = some oi) (hl : l.length = ops.size) : ∀ (n : Nat) (listed : Array Bool) (σ : AS),
    (∀ k ∈ D, listed.getD k true = false ∧ ∃ o, ops[k]? = some o ∧ ∃ e ∈ o.after, Region.binds .any e = true ∧ (e.on = i ∨ e.on ∈ D)) →
    (∀ j oj, l[j]? = some oj → j ≠ i → listed.getD j true = false → j ∉ D → compat oi.op.kind oj.op.kind = true ∧ oi.apart oj = true) →
    i ∈ Region.ready .any ops listed → wxG P oi (AnyX P ops l K n (listed.setIfInBounds i true)) σ → AnyX P ops l K (n + 1) listed σ := by
  intro n
  have getL : ∀ j o, ops[j]? = some o → ∃ oj, l[j]? = some oj := fun j o h => by
    have : j < ops.size := (Array.getElem?_eq_some_iff.1 h).1
    exact ⟨l[j]'(by omega), List.getElem?_eq_getElem (by omega)⟩
  induction n with
  | zero =>
    intro listed σ hD hfree hr h
    refine ⟨fun e => (by rw [e] at hr; cases hr), fun j hj => ?_⟩
    by_cases hji : j = i
    · subst hji; exact ⟨oi, hi, h⟩
    · have h1 := ready_mono hj hji
      obtain ⟨v, H', _, h2, _⟩ := wxG_iff.1 h
      rw [h2] at h1
      cases h1
  | succ n ih =>
    intro listed σ hD hfree hr h
    refine ⟨fun e => (by rw [e] at hr; cases hr), fun j hj => ?_⟩
    by_cases hji : j = i
    · subst hji; exact ⟨oi, hi, h⟩
    · obtain ⟨hjun, o, ho, hall⟩ := mem_ready.1 hj
      obtain ⟨oj, hoj⟩ := getL j o ho
      have hiun := (mem_ready.1 hr).1
      have unl : ∀ k, listed.getD k true = false → listed.getD k false = true → False := fun k h1 h0 => by
        rcases Nat.lt_or_ge k listed.size with h' | h'
        · simp [h'] at h0 h1; rw [h0] at h1; cases h1
        · simp [Array.getElem?_eq_none h'] at h0
      have hjD : j ∉ D := fun hjD => by
        obtain ⟨_, o', ho', e, he, hb, hon⟩ := hD j hjD
        rw [ho] at ho'
        cases ho'
        have h1 := hall e he hb
        rcases hon with hon | hon
        · rw [hon] at h1; exact unl i hiun h1
        · exact unl _ (hD _ hon).1 h1
      obtain ⟨hc, hap⟩ := hfree j oj hoj hji hjun hjD
      refine ⟨oj, hoj, ?_⟩
      have h2 : wxG P oi (fun σ => wxG P oj (AnyX P ops l K n ((listed.setIfInBounds i true).setIfInBounds j true)) σ) σ := wxG_mono (fun σ' hσ => by
        obtain ⟨oj', hoj', hg⟩ := hσ.2 j (ready_mono hj hji)
        rw [hoj] at hoj'
        cases hoj'
        exact hg) h
      refine wxG_mono (fun σ' hσ => ?_) (wxG_swap hc hap h2)
      rw [Array.setIfInBounds_comm _ _ (Ne.symm hji)] at hσ
      refine ih (listed.setIfInBounds j true) σ' (fun k hk => ?_) (fun j' oj' hoj' hne hun => ?_) (ready_mono hr (Ne.symm hji)) hσ
      · rw [getD_set_ne true (fun (e : j = k) => hjD (by rw [e]; exact hk))]
        exact hD k hk
      · refine hfree j' oj' hoj' hne ?_
        by_cases hjj : j = j'
        · subst hjj; exact hjun
        · rw [getD_set_ne true hjj] at hun; exact hun
mutual
def wpX (P : Program) (l : List LOper) : Plan → (AS → Prop) → AS → Prop
  | .done, K, σ => K σ
  | .front i p, K, σ => match l[i]? with
    | some o => wxG P o (wpX P l p K) σ
    | none => False
  | .all ps, K, σ => wpXs P l ps K σ
  | .both _ q, K, σ => wpX P l q K σ
  | .no, _, _ => False
  | .take _ _, _, _ => False
def wpXs (P : Program) (l : List LOper) : List (Nat × Plan) → (AS → Prop) → AS → Prop
  | [], _, _ => True
  | (i, p) :: r, K, σ => (match l[i]? with
    | some o => wxG P o (wpX P l p K) σ
    | none => False) ∧ wpXs P l r K σ
end
theorem okPlans2_mem {ops : Array Oper} {l : Array LOper} {n : Nat} {listed : Array Bool} : ∀ {ps : List (Nat × Plan)}, okPlans2 ops l n listed ps = true → ∀ i p, (i, p) ∈ ps → okPlan2 ops l n (listed.setIfInBounds i true) p = true
  | [], _, i, p, h => by simp at h
  | (j, q) :: r, h, i, p, hm => by
    simp only [okPlans2, Bool.and_eq_true] at h
    rcases List.mem_cons.1 hm with e | hm
    · cases e; exact h.1
    · exact okPlans2_mem h.2 i p hm
theorem wpXs_mem {l : List LOper} : ∀ {ps : List (Nat × Plan)}, wpXs P l ps K σ → ∀ i p, (i, p) ∈ ps → ∃ o, l[i]? = some o ∧ wxG P o (wpX P l p K) σ
  | [], _, i, p, h => by simp at h
  | (j, q) :: r, h, i, p, hm => by
    simp only [wpXs] at h
    rcases List.mem_cons.1 hm with e | hm
    · cases e
      have h1 := h.1
      split at h1
      · exact ⟨_, by assumption, h1⟩
      · exact h1.elim
    · exact wpXs_mem h.2 i p hm
theorem wpX_sound {ops : Array Oper} {l : List LOper} (hl : l.length = ops.size) : ∀ (n : Nat) (listed : Array Bool) (p : Plan) (σ : AS), okPlan2 ops l.toArray n listed p = true → wpX P l p K σ → AnyX P ops l K n listed σ := by
  intro n
  induction n with
  | zero =>
    intro listed p σ hok h
    cases p with
    | done =>
      simp only [okPlan2] at hok
      exact ⟨by simpa using hok, h⟩
    | _ => simp [okPlan2] at hok
  | succ n ih =>
    intro listed p σ hok h
    cases p with
    | done =>
      simp only [okPlan2] at hok
      have hr : Region.ready .any ops listed = [] := by simpa using hok
      exact ⟨fun _ => h, by rw [hr]; simp⟩
    | no => simp [okPlan2] at hok
    | take i p => simp [okPlan2] at hok
    | both p q => simp [okPlan2] at hok
    | front i p =>
      simp only [okPlan2, Bool.and_eq_true] at hok
      simp only [wpX] at h
      cases hi : l[i]? with
      | none => rw [hi] at h; exact h.elim
      | some oi =>
        rw [hi] at h
        simp only at h
        have hf := hok.1.2
        have hia : l.toArray[i]? = some oi := by simpa using hi
        simp only [frontOk, hia, Bool.and_eq_true, List.all_eq_true, List.mem_range] at hf
        refine AnyX_front (D := behind ops listed i) hi hl n listed σ (fun k hk => ?_) (fun j oj hj hne hun hjD => ?_) (by simpa using hok.1.1) (wxG_mono (fun σ' hσ => ih _ p σ' hok.2 hσ) h)
        · have h1 := hf.1 k hk
          refine ⟨by simpa using h1.1, ?_⟩
          have h2 := h1.2
          split at h2
          · rename_i o ho
            obtain ⟨e, he, hb⟩ := Array.any_eq_true'.1 h2
            simp only [Bool.and_eq_true, Bool.or_eq_true, beq_iff_eq, List.contains_iff_mem] at hb
            exact ⟨o, ho, e, he, hb.1, hb.2⟩
          · cases h2
        · have hlt : j < ops.size := by rw [← hl]; exact (List.getElem?_eq_some_iff.1 hj).1
          have h1 := hf.2 j hlt
          have hja : l.toArray[j]? = some oj := by simpa using hj
          simp only [hja, Bool.or_eq_true, beq_iff_eq, hne, false_or, hun, Bool.false_eq_true, List.contains_iff_mem, hjD, Bool.and_eq_true] at h1
          exact h1
    | all ps =>
      simp only [okPlan2, Bool.and_eq_true, beq_iff_eq] at hok
      simp only [wpX] at h
      refine ⟨fun e => ?_, fun i hi => ?_⟩
      · rw [hok.1.1] at e
        have := hok.1.2
        simp only [List.map_eq_nil_iff] at e
        rw [e] at this
        simp at this
      · rw [hok.1.1] at hi
        obtain ⟨⟨j, q⟩, hm, rfl⟩ := List.mem_map.1 hi
        obtain ⟨o, ho, hg⟩ := wpXs_mem h j q hm
        exact ⟨o, ho, wxG_mono (fun σ' hσ => ih _ q σ' (okPlans2_mem hok.2 j q hm) hσ) hg⟩
theorem LC_anyX {q : Bool} {l : List LOper} {p : Plan} (h : wpX P l p (Q .normal) σ) : LC P N (.any q l p) Q σ := by
  intro code hc c0 ι a w hs hf
  obtain ⟨id, ops, rfl, h1, h2, rfl, _, p1, p2, rfl, _, h4⟩ := low_any hc
  simp only [wpX] at h
  rcases h4 with rfl | h4
  · simp [wpX] at h
  · exact wp_region_any h2 (AnyX_sound _ _ σ ι a _ (wpX_sound (by simp) _ _ p2 σ h4 h) hs.drew (hf.trans (Fr.drew ⟨ι, σ.H, w⟩)))
theorem R.anyX {q : Bool} {l : List LOper} {p : Plan} (h : wpX P l p (Q .normal) σ) : LCB P N B (.any q l p) Q σ := .of (LC_anyX h)
variable {d : Option Nat} {op : LOp} {g : Nat} {b : Bool} {l : List LOper}
theorem wpX_done : wpX P l .done K σ = K σ := by simp [wpX]
theorem wpX_front {i : Nat} {p : Plan} : wpX P l (.front i p) K σ = match l[i]? with | some o => wxG P o (wpX P l p K) σ | none => False := by simp only [wpX]
theorem wpX_all {ps : List (Nat × Plan)} : wpX P l (.all ps) K σ = wpXs P l ps K σ := by simp only [wpX]
theorem wpX_both {p q : Plan} : wpX P l (.both p q) K σ = wpX P l q K σ := by simp only [wpX]
theorem wpXs_nil : wpXs P l [] K σ = True := by simp only [wpXs]
theorem wpXs_cons {i : Nat} {p : Plan} {r : List (Nat × Plan)} : wpXs P l ((i, p) :: r) K σ = ((match l[i]? with | some o => wxG P o (wpX P l p K) σ | none => False) ∧ wpXs P l r K σ) := by simp only [wpXs]
theorem wxG_none : wxG P ⟨d, op, none⟩ K σ = wxO P ⟨d, op, none⟩ K σ := rfl
theorem wxG_hit (h : σ.t g = .bool b) : wxG P ⟨d, op, some (g, b)⟩ K σ = wxO P ⟨d, op, none⟩ K σ := by
  unfold wxG
  simp [h]
  rfl
theorem wxG_miss (h : σ.t g = .bool (!b)) : wxG P ⟨d, op, some (g, b)⟩ K σ = K ⟨σ.t.put d (.imm undef), σ.H⟩ := by
  unfold wxG
  cases b <;> simp [h]
theorem wxG_skip (h : σ.t g = .imm undef) : wxG P ⟨d, op, some (g, b)⟩ K σ = K ⟨σ.t.put d (.imm undef), σ.H⟩ := by
  unfold wxG
  simp [h]
theorem wxG_split {x : Bool} (h : σ.t g = .bool x) (h1 : x = true → wxG P ⟨d, op, some (g, b)⟩ K σ) (h2 : x = false → wxG P ⟨d, op, some (g, b)⟩ K σ) : wxG P ⟨d, op, some (g, b)⟩ K σ := by
  cases x
  · exact h2 rfl
  · exact h1 rfl
def CallX (P : Program) (fv : AV) (args : List AV) (L : AV → Prop) : Prop := ∃ g first cap r, fv = .fn (.func g) first cap ∧ Pure P g (first ++ args ++ cap) r ∧ L r
theorem wxO_call {f : Opd} {as : List Opd} : wxO P ⟨d, .call f as, none⟩ K σ = CallX P (ev σ.t f) (as.map (ev σ.t)) (LaterP K σ.t d σ.H) := rfl
theorem CallX.pure {g : FuncId} {args : List AV} {r : AV} {L : AV → Prop} (h : Pure P g args r) (hk : L r) : CallX P (.fn (.func g) [] []) args L := ⟨g, [], [], r, rfl, by simpa using h, hk⟩
theorem CallX.inst {g : FuncId} {args : List AV} {r : AV} {L : AV → Prop} [h : PureC P g args r] (hk : L r) : CallX P (.fn (.func g) [] []) args L := CallX.pure h.ok hk
theorem wxO_op (h : op.isCall = false) : wxO P ⟨d, op, none⟩ K σ = thenS (stepL op σ) (Later K σ.t d) := by
  unfold wxO
  split
  · rename_i f args e
    simp only at e
    subst e
    simp [LOp.isCall] at h
  · rfl
end
section
variable {P : Program} {K : AS → Prop} {σ : AS} {d : Option Nat}
theorem st_alloc {σ : AS} {z : List AV} : stepL (.alloc z) σ = some (.ptr σ.H.length 1 0 0, σ.H ++ [.vec z.length [z]]) := rfl
theorem wx_mv {x} : wxO P ⟨d, .mv x, none⟩ K σ = thenS (stepL (.mv x) σ) (Later K σ.t d) := wxO_op rfl
theorem wx_pick {c} {a} {b} : wxO P ⟨d, .pick c a b, none⟩ K σ = thenS (stepL (.pick c a b) σ) (Later K σ.t d) := wxO_op rfl
theorem wx_alloc {z} : wxO P ⟨d, .alloc z, none⟩ K σ = thenS (stepL (.alloc z) σ) (Later K σ.t d) := wxO_op rfl
theorem wx_box {x} : wxO P ⟨d, .box x, none⟩ K σ = thenS (stepL (.box x) σ) (Later K σ.t d) := wxO_op rfl
theorem wx_build {z} {ps} : wxO P ⟨d, .build z ps, none⟩ K σ = thenS (stepL (.build z ps) σ) (Later K σ.t d) := wxO_op rfl
theorem wx_bslice {n} {z} {m} {ps} : wxO P ⟨d, .bslice n z m ps, none⟩ K σ = thenS (stepL (.bslice n z m ps) σ) (Later K σ.t d) := wxO_op rfl
theorem wx_load {a} {n} {x} : wxO P ⟨d, .load a n x, none⟩ K σ = thenS (stepL (.load a n x) σ) (Later K σ.t d) := wxO_op rfl
theorem wx_store {n} {x} {y} : wxO P ⟨d, .store n x y, none⟩ K σ = thenS (stepL (.store n x y) σ) (Later K σ.t d) := wxO_op rfl
theorem wx_nilc {x} : wxO P ⟨d, .nilc x, none⟩ K σ = thenS (stepL (.nilc x) σ) (Later K σ.t d) := wxO_op rfl
theorem wx_bin {o} {k} {x} {y} : wxO P ⟨d, .bin o k x y, none⟩ K σ = thenS (stepL (.bin o k x y) σ) (Later K σ.t d) := wxO_op rfl
theorem wx_not {x} : wxO P ⟨d, .not x, none⟩ K σ = thenS (stepL (.not x) σ) (Later K σ.t d) := wxO_op rfl
theorem wx_neg {x} : wxO P ⟨d, .neg x, none⟩ K σ = thenS (stepL (.neg x) σ) (Later K σ.t d) := wxO_op rfl
theorem wx_toInt {k} {x} : wxO P ⟨d, .toInt k x, none⟩ K σ = thenS (stepL (.toInt k x) σ) (Later K σ.t d) := wxO_op rfl
theorem wx_toStr {x} : wxO P ⟨d, .toStr x, none⟩ K σ = thenS (stepL (.toStr x) σ) (Later K σ.t d) := wxO_op rfl
theorem wx_assertT {k} {z} {x} : wxO P ⟨d, .assertT k z x, none⟩ K σ = thenS (stepL (.assertT k z x) σ) (Later K σ.t d) := wxO_op rfl
theorem wx_mkIface {k} {x} : wxO P ⟨d, .mkIface k x, none⟩ K σ = thenS (stepL (.mkIface k x) σ) (Later K σ.t d) := wxO_op rfl
theorem wx_mkFn {f} {a} {b} : wxO P ⟨d, .mkFn f a b, none⟩ K σ = thenS (stepL (.mkFn f a b) σ) (Later K σ.t d) := wxO_op rfl
theorem wx_mkMap  : wxO P ⟨d, .mkMap, none⟩ K σ = thenS (stepL (.mkMap) σ) (Later K σ.t d) := wxO_op rfl
theorem wx_mkSlice {n} {m} {z} {x} {y} : wxO P ⟨d, .mkSlice n m z x y, none⟩ K σ = thenS (stepL (.mkSlice n m z x y) σ) (Later K σ.t d) := wxO_op rfl
theorem wx_sliceS {x} {a} {b} : wxO P ⟨d, .sliceS x a b, none⟩ K σ = thenS (stepL (.sliceS x a b) σ) (Later K σ.t d) := wxO_op rfl
theorem wx_slice {n} {x} {a} {b} {c} : wxO P ⟨d, .slice n x a b c, none⟩ K σ = thenS (stepL (.slice n x a b c) σ) (Later K σ.t d) := wxO_op rfl
theorem wx_faddr {n} {x} : wxO P ⟨d, .faddr n x, none⟩ K σ = thenS (stepL (.faddr n x) σ) (Later K σ.t d) := wxO_op rfl
theorem wx_field {a} {n} {m} {x} : wxO P ⟨d, .field a n m x, none⟩ K σ = thenS (stepL (.field a n m x) σ) (Later K σ.t d) := wxO_op rfl
theorem wx_iaddrS {n} {x} {y} : wxO P ⟨d, .iaddrS n x y, none⟩ K σ = thenS (stepL (.iaddrS n x y) σ) (Later K σ.t d) := wxO_op rfl
theorem wx_iaddrA {n} {m} {x} {y} : wxO P ⟨d, .iaddrA n m x y, none⟩ K σ = thenS (stepL (.iaddrA n m x y) σ) (Later K σ.t d) := wxO_op rfl
theorem wx_idxA {n} {a} {m} {x} {y} : wxO P ⟨d, .idxA n a m x y, none⟩ K σ = thenS (stepL (.idxA n a m x y) σ) (Later K σ.t d) := wxO_op rfl
theorem wx_idxS {x} {y} : wxO P ⟨d, .idxS x y, none⟩ K σ = thenS (stepL (.idxS x y) σ) (Later K σ.t d) := wxO_op rfl
theorem wx_lookup {z} {x} {y} {a} : wxO P ⟨d, .lookup z x y a, none⟩ K σ = thenS (stepL (.lookup z x y a) σ) (Later K σ.t d) := wxO_op rfl
theorem wx_mapSet {x} {y} {z} : wxO P ⟨d, .mapSet x y z, none⟩ K σ = thenS (stepL (.mapSet x y z) σ) (Later K σ.t d) := wxO_op rfl
theorem wx_range {x} : wxO P ⟨d, .range x, none⟩ K σ = thenS (stepL (.range x) σ) (Later K σ.t d) := wxO_op rfl
theorem wx_next {x} : wxO P ⟨d, .next x, none⟩ K σ = thenS (stepL (.next x) σ) (Later K σ.t d) := wxO_op rfl
theorem wx_extract {x} {n} : wxO P ⟨d, .extract x n, none⟩ K σ = thenS (stepL (.extract x n) σ) (Later K σ.t d) := wxO_op rfl
theorem wx_len {k} {x} : wxO P ⟨d, .len k x, none⟩ K σ = thenS (stepL (.len k x) σ) (Later K σ.t d) := wxO_op rfl
theorem wx_min {xs} : wxO P ⟨d, .min xs, none⟩ K σ = thenS (stepL (.min xs) σ) (Later K σ.t d) := wxO_op rfl
theorem wx_max {xs} : wxO P ⟨d, .max xs, none⟩ K σ = thenS (stepL (.max xs) σ) (Later K σ.t d) := wxO_op rfl
theorem wx_append {n} {m} {x} {y} : wxO P ⟨d, .append n m x y, none⟩ K σ = thenS (stepL (.append n m x y) σ) (Later K σ.t d) := wxO_op rfl
theorem wx_appendS {x} {y} : wxO P ⟨d, .appendS x y, none⟩ K σ = thenS (stepL (.appendS x y) σ) (Later K σ.t d) := wxO_op rfl
theorem wx_copy {n} {x} {y} : wxO P ⟨d, .copy n x y, none⟩ K σ = thenS (stepL (.copy n x y) σ) (Later K σ.t d) := wxO_op rfl
end
set_option linter.defProp false in
def ev5 := And.intro @wx_assertT (And.intro @wpX_done (And.intro @wpX_front (And.intro @wpX_all (And.intro @wpX_both (And.intro @wpXs_nil (And.intro @wpXs_cons (And.intro @wxG_none (And.intro @wxG_hit (And.intro @wxG_miss (And.intro @wxG_skip (And.intro @wxO_call (And.intro @st_mv (And.intro @st_pick (And.intro @st_alloc (And.intro @wx_mv (And.intro @wx_pick (And.intro @wx_alloc (And.intro @wx_box (And.intro @wx_build (And.intro @wx_bslice (And.intro @wx_load (And.intro @wx_store (And.intro @wx_nilc (And.intro @wx_bin (And.intro @wx_not (And.intro @wx_neg (And.intro @wx_toInt (And.intro @wx_toStr (And.intro @wx_mkIface (And.intro @wx_mkFn (And.intro @wx_mkMap (And.intro @wx_mkSlice (And.intro @wx_sliceS (And.intro @wx_slice (And.intro @wx_faddr (And.intro @wx_field (And.intro @wx_iaddrS (And.intro @wx_iaddrA (And.intro @wx_idxA (And.intro @wx_idxS (And.intro @wx_lookup (And.intro @wx_mapSet (And.intro @wx_range (And.intro @wx_next (And.intro @wx_extract (And.intro @wx_len (And.intro @wx_min (And.intro @wx_max (And.intro @wx_append (And.intro @wx_appendS (@wx_copy)))))))))))))))))))))))))))))))))))))))))))))))))))
theorem Weak.growRow {B N : Nat} {t : Tm} {H L : List AObj} (i j sz : Nat) {z : Nat} {row : List AV} (h0 : 0 < sz) (hi : L[i]? = some (.vec z [row])) (hj : row[j]? = some (.imm (.slice none 0 0))) :
    Weak B N ⟨t, H ++ L⟩ ⟨t, H ++ (L.set i (.vec z [row.set j (.sl sz (H.length + L.length) 0 0 0)]) ++ [.vec sz []])⟩ := by
  have hlt : i < L.length := (List.getElem?_eq_some_iff.1 hi).1
  have := Weak.growCell (B := B) (N := N) (σ := ⟨t, H ++ L⟩) (H.length + i) 0 j sz z h0 (xs := [row]) (row := row) (by show (H ++ L)[H.length + i]? = _; rw [List.getElem?_append_right (by omega)]; simpa using hi) rfl hj
  have e : (H ++ L).set (H.length + i) (.vec z [row.set j (.sl sz (H.length + L.length) 0 0 0)]) = H ++ L.set i (.vec z [row.set j (.sl sz (H.length + L.length) 0 0 0)]) := by
    rw [List.set_append_right _ _ (by omega)]
    simp
  simp only [List.length_append, List.set_cons_zero] at this
  rw [e, List.append_assoc] at this
  exact this
set_option linter.defProp false in
def evx := And.intro @evo (@ev5)
section
variable {P : Program} {N B : Nat} {Q : Exit → AS → Prop} {σ : AS} {K : AS → Prop} {d : Option Nat} {op : LOp} {i : Nat} {b x : Bool} {c : Opd} {y z : LCode}
theorem zA {t : Bool} (ht : t = true → LCB P N B y Q σ) (hf : t = false → LCB P N B z Q σ) (hc : ev σ.t c = .bool t := by simp only [seval, evo] <;> rfl) : LCB P N B (.cond c y z) Q σ := LCB.cond hc ht hf
theorem zB {t : Bool} (ht : t = true → LCB P N B y Q σ) (hf : t = false → LCB P N B z Q σ) (hc : ev σ.t c = .bool t := by simp only [seval, evx] <;> rfl) : LCB P N B (.cond c y z) Q σ := LCB.cond hc ht hf
theorem zC (h1 : x = true → wpG P ⟨d, op, some (i, b)⟩ K σ) (h2 : x = false → wpG P ⟨d, op, some (i, b)⟩ K σ) (h : σ.t i = .bool x := by simp only [seval, evo] <;> rfl) : wpG P ⟨d, op, some (i, b)⟩ K σ := wpG_split h h1 h2
theorem zD (h1 : x = true → wpG P ⟨d, op, some (i, b)⟩ K σ) (h2 : x = false → wpG P ⟨d, op, some (i, b)⟩ K σ) (h : σ.t i = .bool x := by simp only [seval, evx] <;> rfl) : wpG P ⟨d, op, some (i, b)⟩ K σ := wpG_split h h1 h2
theorem zE (h1 : x = true → wqG P ⟨d, op, some (i, b)⟩ K σ) (h2 : x = false → wqG P ⟨d, op, some (i, b)⟩ K σ) (h : σ.t i = .bool x := by simp only [seval, evo] <;> rfl) : wqG P ⟨d, op, some (i, b)⟩ K σ := wqG_split h h1 h2
theorem zF (h1 : x = true → wxG P ⟨d, op, some (i, b)⟩ K σ) (h2 : x = false → wxG P ⟨d, op, some (i, b)⟩ K σ) (h : σ.t i = .bool x := by simp only [seval, evx] <;> rfl) : wxG P ⟨d, op, some (i, b)⟩ K σ := wxG_split h h1 h2
end
theorem zG : type_of% @R.seq := @R.seq
theorem zH : type_of% @LCB.text := @LCB.text
theorem zI : type_of% @LCB.quiet := @LCB.quiet
theorem zJ : type_of% @R.calls := @R.calls
theorem zK : type_of% @R.anyX := @R.anyX
theorem zL : type_of% @R.block := @R.block
theorem zM : type_of% @LCB.skip := @LCB.skip
theorem zN : type_of% @LCB.exit := @LCB.exit
theorem zO : type_of% @LCB.ret := @LCB.ret
theorem zP : type_of% @RetOk.val := @RetOk.val
theorem zQ : type_of% @Weak.at := @Weak.at
theorem zR : type_of% @ACalls.inst := @ACalls.inst
theorem zS : type_of% @CallP.inst := @CallP.inst
theorem zT : type_of% @ACalls.pure := @ACalls.pure
theorem zU : type_of% @CallX.pure := @CallX.pure
theorem zV : type_of% @CallP.pure := @CallP.pure
end Go.Proofs.YtnbdpjhmepgoaaaDoor
