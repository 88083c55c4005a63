/-
  The abstract layer, part 2: what new objects, writes, growth and forgetting do to a heap.
-/
import Derived.Test.YtoiceinjademgaaDoorA1
import Derived.Laws.IdiomCopy
namespace Go.Proofs.YtoiceinjademgaaDoor
open Go.RowKit

/-! ### Worlds -/
def putAll (cs : Array Value) : Nat → List Value → Array Value
  | _, [] => cs
  | o, v :: r => putAll (cs.setIfInBounds o v) (o + 1) r

theorem putAll_size : ∀ (vs : List Value) (cs : Array Value) (o : Nat), (putAll cs o vs).size = cs.size
  | [], _, _ => rfl
  | v :: r, cs, o => by simp [putAll, putAll_size r]

theorem putAll_out : ∀ (vs : List Value) (cs : Array Value) (o i : Nat), (i < o ∨ o + vs.length ≤ i) → (putAll cs o vs).getD i undef = cs.getD i undef
  | [], _, _, _, _ => rfl
  | v :: r, cs, o, i, h => by
    rw [putAll, putAll_out r _ _ _ (by simp at h; omega)]
    have : o ≠ i := by simp at h; omega
    simp [Array.getElem?_setIfInBounds_ne this]

theorem putAll_in : ∀ (vs : List Value) (cs : Array Value) (o j : Nat), j < vs.length → o + vs.length ≤ cs.size → (putAll cs o vs).getD (o + j) undef = vs.getD j undef
  | v :: r, cs, o, 0, _, h => by
    rw [putAll, putAll_out r _ _ _ (by omega)]
    have : o < cs.size := by simp at h; omega
    simp [this]
  | v :: r, cs, o, j + 1, hj, h => by
    have := putAll_in r (cs.setIfInBounds o v) (o + 1) j (by simpa using hj) (by simp at h ⊢; omega)
    rw [putAll, show o + (j + 1) = o + 1 + j by omega, this]
    simp

theorem heap_setCells : ∀ (vs : List Value) (w : World) (b o : Nat) (cs : Array Value) (e : TypeId) (fr : Nat × Nat), w.heap[b]? = some (.cells cs e fr) → (w.setCells b o vs).heap[b]? = some (.cells (putAll cs o vs) e fr)
  | [], _, _, _, _, _, _, h => h
  | v :: r, w, b, o, cs, e, fr, h => by
    rw [World.setCells, putAll]
    refine heap_setCells r _ b (o + 1) _ e fr ?_
    simp [World.setCell, Array.getElem?_modify, h]

theorem heap_setCells_ne : ∀ (vs : List Value) (w : World) (b o x : Nat), x ≠ b → (w.setCells b o vs).heap[x]? = w.heap[x]?
  | [], _, _, _, _, _ => rfl
  | v :: r, w, b, o, x, h => by
    rw [World.setCells, heap_setCells_ne r _ b _ x h]
    simp [World.setCell, Array.getElem?_modify, Ne.symm h]

theorem size_setCells : ∀ (vs : List Value) (w : World) (b o : Nat), (w.setCells b o vs).heap.size = w.heap.size
  | [], _, _, _ => rfl
  | v :: r, w, b, o => by rw [World.setCells, size_setCells r]; simp
theorem os_setCells : ∀ (vs : List Value) (w : World) (b o : Nat), (w.setCells b o vs).os = w.os
  | [], _, _, _ => rfl
  | v :: r, w, b, o => by rw [World.setCells, os_setCells r]; rfl
theorem tape_setCells : ∀ (vs : List Value) (w : World) (b o : Nat), (w.setCells b o vs).tape = w.tape
  | [], _, _, _ => rfl
  | v :: r, w, b, o => by rw [World.setCells, tape_setCells r]; rfl
theorem output_setCells : ∀ (vs : List Value) (w : World) (b o : Nat), (w.setCells b o vs).output = w.output
  | [], _, _, _ => rfl
  | v :: r, w, b, o => by rw [World.setCells, output_setCells r]; rfl

/-! ### Contexts -/
def Cx.drew (c : Cx) : Cx := ⟨c.ι, c.H, c.w.drew⟩

theorem Fr.drew (c : Cx) : Fr c c.drew :=
  ⟨rfl, rfl, rfl, Nat.le_refl _, fun _ _ h => ⟨rfl, h⟩, Nat.le_refl _, fun _ _ xs _ h => ⟨xs, h, Nat.le_refl _, fun _ => ⟨rfl, fun _ _ => rfl⟩⟩, fun _ es _ h => ⟨⟨es, h⟩, rfl⟩, fun _ s p _ h => ⟨⟨s, p, h⟩, rfl⟩⟩

theorem RepH.drew {c : Cx} (h : RepH c) : RepH c.drew :=
  ⟨fun k o hk => (h.obj k o hk).mono (Fr.drew c) rfl fun _ _ _ => rfl, fun k o b h1 h2 h3 => h.lt k o b h1 h2 h3, fun k l o p b h1 h2 h3 h4 h5 h6 => h.inj k l o p b h1 h2 h3 h4 h5 h6, h.glob.mono (Fr.drew c)⟩

/-- One more object. -/
def Cx.push (c : Cx) (o : AObj) (β : Option Nat) (w : World) : Cx := ⟨fun j => if j = c.H.length then β else c.ι j, c.H ++ [o], w⟩

theorem get_push {H : List AObj} {o p : AObj} {k : Nat} (h : (H ++ [o])[k]? = some p) : (k < H.length ∧ H[k]? = some p) ∨ (k = H.length ∧ p = o) := by
  rcases Nat.lt_trichotomy k H.length with h1 | h1 | h1
  · left
    rw [List.getElem?_append_left h1] at h
    exact ⟨h1, h⟩
  · right
    subst h1
    simp at h
    exact ⟨rfl, h.symm⟩
  · rw [List.getElem?_append_right (by omega)] at h
    rw [List.getElem?_eq_none (by simp; omega)] at h
    exact absurd h (by simp)

theorem Fr.push {c : Cx} {o : AObj} {β : Option Nat} {w : World} (hos : w.os = c.w.os) (htape : w.tape = c.w.tape) (hout : w.output = c.w.output) (hsize : c.w.heap.size ≤ w.heap.size)
    (hb : ∀ b, b < c.w.heap.size → w.heap[b]? = c.w.heap[b]?) (hβ : ∀ b, β = some b → c.w.heap.size ≤ b) (hlt : ∀ k o b, c.H[k]? = some o → o.live = true → c.ι k = some b → b < c.w.heap.size) : Fr c (c.push o β w) where
  os := hos
  tape := htape
  output := hout
  size := hsize
  keep := fun b hlt hw => ⟨hb b hlt, fun ⟨k, p, hk, hl, hi⟩ => by
    rcases get_push hk with ⟨h1, h2⟩ | ⟨rfl, rfl⟩
    · simp [Cx.push, Nat.ne_of_lt h1] at hi
      exact hw ⟨k, p, h2, hl, hi⟩
    · simp [Cx.push] at hi
      have := hβ b hi
      omega⟩
  len := by simp [Cx.push]
  vec := fun k sz xs hk hx => by
    rcases get_push hx with ⟨h1, h2⟩ | ⟨rfl, _⟩
    · refine ⟨xs, h2, Nat.le_refl _, fun _ => ⟨by simp [Cx.push, Nat.ne_of_lt h1], fun b hb' => ?_⟩⟩
      have := hlt k _ b h2 rfl hb'
      simp only [cellsIn, Cx.push]
      rw [hb b this]
    · omega
  map := fun k es hk hx => by
    rcases get_push hx with ⟨h1, h2⟩ | ⟨rfl, _⟩
    · exact ⟨⟨es, h2⟩, by simp [Cx.push, Nat.ne_of_lt h1]⟩
    · omega
  iter := fun k s p hk hx => by
    rcases get_push hx with ⟨h1, h2⟩ | ⟨rfl, _⟩
    · exact ⟨⟨s, p, h2⟩, by simp [Cx.push, Nat.ne_of_lt h1]⟩
    · omega

theorem RepH.push {c : Cx} {o : AObj} {β : Option Nat} {w : World} (h : RepH c) (hos : w.os = c.w.os) (htape : w.tape = c.w.tape) (hout : w.output = c.w.output) (hsize : c.w.heap.size ≤ w.heap.size)
    (hb : ∀ b, b < c.w.heap.size → w.heap[b]? = c.w.heap[b]?) (hβ : ∀ b, β = some b → c.w.heap.size ≤ b ∧ b < w.heap.size) (ho : RepO (c.push o β w) c.H.length o) : RepH (c.push o β w) where
  glob := h.glob.mono (Fr.push hos htape hout hsize hb (fun b e => (hβ b e).1) h.lt)
  obj := fun k p hk => by
    rcases get_push hk with ⟨h1, h2⟩ | ⟨rfl, rfl⟩
    · refine (h.obj k p h2).mono (Fr.push hos htape hout hsize hb (fun b e => (hβ b e).1) h.lt) (by simp [Cx.push, Nat.ne_of_lt h1]) fun hl b hi => ?_
      exact hb b (h.lt k p b h2 hl hi)
    · exact ho
  lt := fun k p b hk hl hi => by
    rcases get_push hk with ⟨h1, h2⟩ | ⟨rfl, rfl⟩
    · simp [Cx.push, Nat.ne_of_lt h1] at hi
      exact Nat.lt_of_lt_of_le (h.lt k p b h2 hl hi) hsize
    · simp [Cx.push] at hi
      exact (hβ b hi).2
  inj := fun k l p q b hk hl hp hq hi hj => by
    rcases get_push hk with ⟨h1, h2⟩ | ⟨rfl, rfl⟩
    · simp [Cx.push, Nat.ne_of_lt h1] at hi
      rcases get_push hl with ⟨h3, h4⟩ | ⟨rfl, rfl⟩
      · simp [Cx.push, Nat.ne_of_lt h3] at hj
        exact h.inj k l p q b h2 h4 hp hq hi hj
      · simp [Cx.push] at hj
        have := h.lt k p b h2 hp hi
        have := (hβ b hj).1
        omega
    · simp [Cx.push] at hi
      rcases get_push hl with ⟨h3, h4⟩ | ⟨rfl, rfl⟩
      · simp [Cx.push, Nat.ne_of_lt h3] at hj
        have := h.lt l q b h4 hq hj
        have := (hβ b hi).1
        omega
      · rfl

/-- Object k becomes another one. -/
def Cx.upd (c : Cx) (k : Nat) (o : AObj) (β : Option Nat) (w : World) : Cx := ⟨fun j => if j = k then β else c.ι j, c.H.set k o, w⟩

theorem get_upd {H : List AObj} {o p : AObj} {k j : Nat} (h : (H.set k o)[j]? = some p) : (j ≠ k ∧ H[j]? = some p) ∨ (j = k ∧ p = o ∧ k < H.length) := by
  by_cases e : k = j
  · subst e
    have hl : k < H.length := by
      have := (List.getElem?_eq_some_iff.1 h).1
      simpa using this
    right
    rw [List.getElem?_set_self hl] at h
    exact ⟨rfl, (Option.some.inj h).symm, hl⟩
  · left
    rw [List.getElem?_set_ne e] at h
    exact ⟨fun h' => e h'.symm, h⟩

structure Upd (c : Cx) (k : Nat) (o o' : AObj) (β : Option Nat) (w : World) : Prop where
  hk : c.H[k]? = some o
  live : o.live = true
  os : w.os = c.w.os
  tape : w.tape = c.w.tape
  output : w.output = c.w.output
  size : c.w.heap.size ≤ w.heap.size
  hb : ∀ b, b < c.w.heap.size → c.ι k ≠ some b → w.heap[b]? = c.w.heap[b]?
  hβ : β = c.ι k ∨ ∃ b, β = some b ∧ c.w.heap.size ≤ b ∧ b < w.heap.size
  vec : ∀ sz xs', o' = .vec sz xs' → ∃ xs, o = .vec sz xs ∧ xs.length ≤ xs'.length ∧ (xs.length = xs'.length → β = c.ι k ∧ ∀ b, c.ι k = some b → cellsIn w b = cellsIn c.w b)
  map : ∀ es', o' = .map es' → (∃ es, o = .map es) ∧ β = c.ι k
  iter : ∀ s p, o' = .iter s p → (∃ s p, o = .iter s p) ∧ β = c.ι k

theorem Upd.fr {c : Cx} {k : Nat} {o o' : AObj} {β : Option Nat} {w : World} (u : Upd c k o o' β w) (hH : RepH c) : Fr c (c.upd k o' β w) where
  os := u.os
  tape := u.tape
  output := u.output
  size := u.size
  keep := fun b hlt hw => by
    have hne : c.ι k ≠ some b := fun e => hw ⟨k, o, u.hk, u.live, e⟩
    refine ⟨u.hb b hlt hne, fun ⟨j, p, hj, hl, hi⟩ => ?_⟩
    rcases get_upd hj with ⟨h1, h2⟩ | ⟨rfl, rfl, _⟩
    · simp [Cx.upd, h1] at hi
      exact hw ⟨j, p, h2, hl, hi⟩
    · simp [Cx.upd] at hi
      rcases u.hβ with e | ⟨b', e, h1, _⟩
      · exact hne (e ▸ hi)
      · rw [e] at hi
        cases hi
        omega
  len := by simp [Cx.upd]
  vec := fun j sz xs hj hx => by
    rcases get_upd hx with ⟨h1, h2⟩ | ⟨rfl, e, _⟩
    · refine ⟨xs, h2, Nat.le_refl _, fun _ => ⟨by simp [Cx.upd, h1], fun b hi => ?_⟩⟩
      have hlt := hH.lt j _ b h2 rfl hi
      have hne : c.ι k ≠ some b := fun e' => h1 (hH.inj j k _ o b h2 u.hk rfl u.live hi e')
      simp only [cellsIn, Cx.upd]
      rw [u.hb b hlt hne]
    · obtain ⟨ys, hy, h1, h2⟩ := u.vec sz xs e.symm
      refine ⟨ys, hy ▸ u.hk, h1, fun he => ?_⟩
      obtain ⟨e1, e2⟩ := h2 he
      exact ⟨by simp [Cx.upd, e1], e2⟩
  map := fun j es hj hx => by
    rcases get_upd hx with ⟨h1, h2⟩ | ⟨rfl, e, _⟩
    · exact ⟨⟨es, h2⟩, by simp [Cx.upd, h1]⟩
    · obtain ⟨⟨ys, hy⟩, h2⟩ := u.map es e.symm
      exact ⟨⟨ys, hy ▸ u.hk⟩, by simp [Cx.upd, h2]⟩
  iter := fun j s p hj hx => by
    rcases get_upd hx with ⟨h1, h2⟩ | ⟨rfl, e, _⟩
    · exact ⟨⟨s, p, h2⟩, by simp [Cx.upd, h1]⟩
    · obtain ⟨⟨s1, p1, hy⟩, h2⟩ := u.iter s p e.symm
      exact ⟨⟨s1, p1, hy ▸ u.hk⟩, by simp [Cx.upd, h2]⟩

theorem Upd.rep {c : Cx} {k : Nat} {o o' : AObj} {β : Option Nat} {w : World} (u : Upd c k o o' β w) (hH : RepH c) (ho : RepO (c.upd k o' β w) k o') : RepH (c.upd k o' β w) where
  glob := hH.glob.mono (u.fr hH)
  obj := fun j p hj => by
    rcases get_upd hj with ⟨h1, h2⟩ | ⟨rfl, rfl, _⟩
    · refine (hH.obj j p h2).mono (u.fr hH) (by simp [Cx.upd, h1]) fun hl b hi => ?_
      exact u.hb b (hH.lt j p b h2 hl hi) fun e => h1 (hH.inj j k p o b h2 u.hk hl u.live hi e)
    · exact ho
  lt := fun j p b hj hl hi => by
    rcases get_upd hj with ⟨h1, h2⟩ | ⟨rfl, rfl, _⟩
    · simp [Cx.upd, h1] at hi
      exact Nat.lt_of_lt_of_le (hH.lt j p b h2 hl hi) u.size
    · simp [Cx.upd] at hi
      rcases u.hβ with e | ⟨b', e, _, h2⟩
      · exact Nat.lt_of_lt_of_le (hH.lt j o b u.hk u.live (e ▸ hi)) u.size
      · rw [e] at hi
        cases hi
        exact h2
  inj := fun j l p q b hj hl hp hq hi hi' => by
    have old : ∀ m r, m ≠ k → c.H[m]? = some r → r.live = true → c.ι m = some b → β = some b → False := fun m r hm hr hl e1 e2 => by
      rcases u.hβ with e | ⟨b', e, h1, _⟩
      · exact hm (hH.inj m k r o b hr u.hk hl u.live e1 (e ▸ e2))
      · rw [e] at e2
        cases e2
        have := hH.lt m r b hr hl e1
        omega
    rcases get_upd hj with ⟨h1, h2⟩ | ⟨rfl, rfl, _⟩
    · simp [Cx.upd, h1] at hi
      rcases get_upd hl with ⟨h3, h4⟩ | ⟨rfl, rfl, _⟩
      · simp [Cx.upd, h3] at hi'
        exact hH.inj j l p q b h2 h4 hp hq hi hi'
      · simp [Cx.upd] at hi'
        exact (old j p h1 h2 hp hi hi').elim
    · simp [Cx.upd] at hi
      rcases get_upd hl with ⟨h3, h4⟩ | ⟨rfl, rfl, _⟩
      · simp [Cx.upd, h3] at hi'
        exact (old l q h3 h4 hq hi' hi).elim
      · rfl

end Go.Proofs.YtoiceinjademgaaDoor
