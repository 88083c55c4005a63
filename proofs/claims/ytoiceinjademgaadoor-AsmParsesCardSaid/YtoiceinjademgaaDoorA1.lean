/-
  The abstract layer, part 1: abstract values, heaps of objects, what they stand for in a world, frames, views.
-/
import Derived.WalkKit
import Derived.OrdersHeld
namespace Go.Proofs.YtoiceinjademgaaDoor
open Go.RowKit

/-- Abstract values. -/
inductive AV where
  | int (k : IntKind) (n : Int)
  | bool (b : Bool)
  | str (s : ByteArray)
  | imm (v : Value)
  | list (xs : List (List AV))
  | sl (sz k n off len : Nat)
  | ptr (k n i off : Nat)
  | lptr (row : List AV) (off : Nat)
  | iter (k : Nat)
  | map (k : Nat)
  | fn (f : Fn) (first cap : List AV)
  | iface (t : TypeId) (v : AV)
  | agg (cs : List AV)
  | tup (vs : List AV)
  | dead

instance : Inhabited AV := ⟨.dead⟩

/-- The operations' words and fields. -/
def shapeTbl : List (ByteArray × ByteArray) := [(⟨#[99, 111, 110, 115, 116]⟩, ⟨#[100, 78]⟩), (⟨#[109, 111, 118]⟩, ⟨#[100, 97]⟩), (⟨#[115, 119, 97, 112]⟩, ⟨#[100, 97]⟩), (⟨#[97, 100, 100]⟩, ⟨#[68, 65, 66]⟩), (⟨#[115, 117, 98]⟩, ⟨#[68, 65, 66]⟩), (⟨#[109, 117, 108]⟩, ⟨#[68, 65, 66]⟩), (⟨#[100, 105, 118]⟩, ⟨#[68, 65, 66]⟩), (⟨#[97, 110, 100]⟩, ⟨#[68, 65, 66]⟩), (⟨#[111, 114]⟩, ⟨#[68, 65, 66]⟩), (⟨#[120, 111, 114]⟩, ⟨#[68, 65, 66]⟩), (⟨#[108, 101, 115, 115]⟩, ⟨#[68, 65, 66]⟩), (⟨#[115, 97, 109, 101]⟩, ⟨#[68, 65, 66]⟩), (⟨#[108, 111, 97, 100]⟩, ⟨#[68, 65]⟩), (⟨#[115, 116, 111, 114, 101]⟩, ⟨#[65, 66]⟩), (⟨#[99, 97, 108, 108]⟩, ⟨#[68, 65, 78]⟩), (⟨#[106, 117, 109, 112]⟩, ⟨#[84]⟩), (⟨#[122, 101, 114, 111]⟩, ⟨#[65, 84]⟩), (⟨#[114, 101, 116]⟩, ⟨#[65]⟩)]

/-- What package-level variables hold that are never written. -/
def GT : Nat → Option (List AV) := fun g => if g = 0 then some (shapeTbl.flatMap fun p => [.str p.1, .str p.2]) else none

/-- Abstract objects. -/
inductive AObj where
  | vec (sz : Nat) (xs : List (List AV))
  | map (es : List (AV × AV))
  | iter (s : ByteArray) (pos : Nat)
  | gone

instance : Inhabited AObj := ⟨.gone⟩

/-- Where the objects of an abstract heap lie in a world. -/
structure Cx where
  ι : Nat → Option Nat
  H : List AObj
  w : World

def AObj.live : AObj → Bool
  | .gone => false
  | _ => true

/-- May the block be written? -/
def Cx.wr (c : Cx) (b : Nat) : Prop := ∃ k o, c.H[k]? = some o ∧ o.live = true ∧ c.ι k = some b

/-- How many cells a block has. -/
def cellsIn (w : World) (b : Nat) : Nat := match w.heap[b]? with | some (.cells c _ _) => c.size | _ => 0

def cellAt (xs : List (List AV)) (i j : Nat) : Option AV := (xs[i]?).bind (·[j]?)

mutual
/-- No reference to an object from m on. (What stands in a list has none at all.) -/
def AV.clean (m : Nat) : AV → Bool
  | .sl _ k _ _ _ => decide (k < m)
  | .ptr k _ _ _ => decide (k < m)
  | .iter k => decide (k < m)
  | .map k => decide (k < m)
  | .fn _ f g => cleanAll m f && cleanAll m g
  | .iface _ a => a.clean m
  | .agg as => cleanAll m as
  | .tup as => cleanAll m as
  | _ => true
def cleanAll (m : Nat) : List AV → Bool
  | [] => true
  | a :: r => a.clean m && cleanAll m r
end

inductive RepV (c : Cx) : AV → Value → Prop where
  | int (k : IntKind) (n : Int) : RepV c (.int k n) (.int k n)
  | bool (b : Bool) : RepV c (.bool b) (.bool b)
  | str (s : ByteArray) : RepV c (.str s) (.string s)
  | imm (v : Value) : RepV c (.imm v) v
  | list (sz : Nat) (xs : List (List AV)) (b o cap : Nat) (cs : Nat → Nat → Value) (h0 : 0 < sz) (hn : xs ≠ []) (hsz : ∀ r ∈ xs, r.length = sz) (hlen : xs.length ≤ maxLen) (hcap : xs.length ≤ cap) (hw : ¬ c.wr b)
      (hst : ∀ (i j : Nat) (a : AV), cellAt xs i j = some a → a.clean 0 = true)
      (hc : ∀ (i j : Nat) (a : AV), cellAt xs i j = some a → c.w.cell? ⟨b, o + (i * sz + j), none⟩ = some (cs i j))
      (hr : ∀ (i j : Nat) (a : AV), cellAt xs i j = some a → RepV c a (cs i j)) : RepV c (.list xs) (.slice (some ⟨b, o, none⟩) xs.length cap)
  | lnil (A : Option Addr) (cap : Nat) : RepV c (.list []) (.slice A 0 cap)
  | sl (sz k n off len : Nat) (A : Option Addr) (cap : Nat) (hk : k < c.H.length) (hcl : len ≤ cap) (hA : 0 < len → ∃ b o, A = some ⟨b, o, none⟩)
      (hn : ∀ sz' xs, c.H[k]? = some (.vec sz' xs) → sz' = sz ∧ n ≤ xs.length)
      (hv : ∀ xs, c.H[k]? = some (.vec sz xs) → n = xs.length → off + len ≤ n ∧
      ((∃ b, c.ι k = some b ∧ A = some ⟨b, off * sz, none⟩ ∧ cap = cellsIn c.w b / sz - off) ∨ (len = 0 ∧ cap = 0))) : RepV c (.sl sz k n off len) (.slice A len cap)
  | ptr (k n i off : Nat) (b0 o0 : Nat) (hk : k < c.H.length) (hn : ∀ sz xs, c.H[k]? = some (.vec sz xs) → n ≤ xs.length)
      (hv : ∀ sz xs, c.H[k]? = some (.vec sz xs) → n = xs.length → c.ι k = some b0 ∧ o0 = i * sz + off) : RepV c (.ptr k n i off) (.pointer (some ⟨b0, o0, none⟩))
  | lptr (row : List AV) (off : Nat) (b o : Nat) (cs : Nat → Value) (h0 : row ≠ []) (hw : ¬ c.wr b) (hst : ∀ (j : Nat) (a : AV), row[j]? = some a → a.clean 0 = true) (hc : ∀ (j : Nat) (a : AV), row[j]? = some a → c.w.cell? ⟨b, o + j, none⟩ = some (cs j))
      (hr : ∀ (j : Nat) (a : AV), row[j]? = some a → RepV c a (cs j)) : RepV c (.lptr row off) (.pointer (some ⟨b, o + off, none⟩))
  | iter (k : Nat) (A : Option Addr) (hk : k < c.H.length) (hv : ∀ s p, c.H[k]? = some (.iter s p) → ∃ b, c.ι k = some b ∧ A = some ⟨b, 0, none⟩) : RepV c (.iter k) (.pointer A)
  | map (k : Nat) (r : Option Nat) (hk : k < c.H.length) (hv : ∀ es, c.H[k]? = some (.map es) → ∃ b, c.ι k = some b ∧ r = some b) : RepV c (.map k) (.map r)
  | fn (f : Fn) (first cap : List AV) (fs gs : Array Value) (hf : fs.size = first.length) (hg : gs.size = cap.length)
      (hfr : ∀ (i : Nat) (a : AV), first[i]? = some a → RepV c a (fs.getD i undef)) (hgr : ∀ (i : Nat) (a : AV), cap[i]? = some a → RepV c a (gs.getD i undef)) : RepV c (.fn f first cap) (.func f fs gs)
  | iface (t : TypeId) (a : AV) (v : Value) (h : RepV c a v) : RepV c (.iface t a) (.iface t v)
  | agg (as : List AV) (vs : Array Value) (hs : vs.size = as.length) (hr : ∀ (i : Nat) (a : AV), as[i]? = some a → RepV c a (vs.getD i undef)) : RepV c (.agg as) (.agg vs)
  | tup (as : List AV) (vs : Array Value) (hs : vs.size = as.length) (hr : ∀ (i : Nat) (a : AV), as[i]? = some a → RepV c a (vs.getD i undef)) : RepV c (.tup as) (.tuple vs)
  | dead (v : Value) : RepV c .dead v

/-- Lists of values. -/
def RepVs (c : Cx) (as : List AV) (vs : Array Value) : Prop := vs.size = as.length ∧ ∀ (i : Nat) (a : AV), as[i]? = some a → RepV c a (vs.getD i undef)

/-- Is it the value of one cell? -/
def AV.cell : AV → Bool
  | .agg _ | .tup _ | .dead => false
  | .imm v => v.oneCell'
  | _ => true

theorem RepV.one {c : Cx} {a : AV} {v : Value} (h : RepV c a v) (hc : a.cell = true) : v.oneCell' = true := by
  cases h <;> first | rfl | exact hc | simp [AV.cell] at hc

/-- An object in its block. -/
def RepO (c : Cx) (k : Nat) : AObj → Prop
  | .gone => True
  | .iter s p => ∃ b, c.ι k = some b ∧ c.w.heap[b]? = some (.stringIter s p)
  | .map es => ∃ b ents clock, c.ι k = some b ∧ c.w.heap[b]? = some (.map ents clock) ∧ ents.size = es.length ∧
      ∀ (i : Nat) (p : AV × AV), es[i]? = some p → ∃ e : MapEntry, ents[i]? = some e ∧ RepV c p.1 e.key ∧ RepV c p.2 e.val
  | .vec sz xs => 0 < sz ∧ (∀ r ∈ xs, r.length = sz) ∧ xs.length ≤ maxLen ∧
      match c.ι k with
      | none => xs = []
      | some b => ∃ cs e fr, c.w.heap[b]? = some (.cells cs e fr) ∧ xs.length * sz ≤ cs.size ∧ (∀ i, i < cs.size → ¬ (fr.1 ≤ i ∧ i < fr.2)) ∧
          ∀ (i j : Nat) (a : AV), cellAt xs i j = some a → RepV c a (cs.getD (i * sz + j) undef)

/-- The variables are as the table says. -/
def GlobOk (c : Cx) : Prop := ∀ g row, GT g = some row → row ≠ [] ∧ ¬ c.wr g ∧ ∀ (j : Nat) (a : AV), row[j]? = some a → a.clean 0 = true ∧ ∃ v, c.w.cell? ⟨g, j, none⟩ = some v ∧ RepV c a v

/-- A heap. -/
structure RepH (c : Cx) : Prop where
  obj : ∀ k o, c.H[k]? = some o → RepO c k o
  lt : ∀ k o b, c.H[k]? = some o → o.live = true → c.ι k = some b → b < c.w.heap.size
  inj : ∀ k l o p b, c.H[k]? = some o → c.H[l]? = some p → o.live = true → p.live = true → c.ι k = some b → c.ι l = some b → k = l
  glob : GlobOk c

/-- What one stretch of a run may do to the rest. -/
structure Fr (c c' : Cx) : Prop where
  os : c'.w.os = c.w.os
  tape : c'.w.tape = c.w.tape
  output : c'.w.output = c.w.output
  size : c.w.heap.size ≤ c'.w.heap.size
  keep : ∀ b, b < c.w.heap.size → ¬ c.wr b → c'.w.heap[b]? = c.w.heap[b]? ∧ ¬ c'.wr b
  len : c.H.length ≤ c'.H.length
  vec : ∀ k sz xs', k < c.H.length → c'.H[k]? = some (.vec sz xs') → ∃ xs, c.H[k]? = some (.vec sz xs) ∧ xs.length ≤ xs'.length ∧
      (xs.length = xs'.length → c'.ι k = c.ι k ∧ ∀ b, c.ι k = some b → cellsIn c'.w b = cellsIn c.w b)
  map : ∀ k es', k < c.H.length → c'.H[k]? = some (.map es') → (∃ es, c.H[k]? = some (.map es)) ∧ c'.ι k = c.ι k
  iter : ∀ k s p, k < c.H.length → c'.H[k]? = some (.iter s p) → (∃ s p, c.H[k]? = some (.iter s p)) ∧ c'.ι k = c.ι k

theorem Fr.refl (c : Cx) : Fr c c :=
  ⟨rfl, rfl, rfl, Nat.le_refl _, fun _ _ h => ⟨rfl, h⟩, Nat.le_refl _, fun _ _ xs _ h => ⟨xs, h, Nat.le_refl _, fun _ => ⟨rfl, fun _ _ => rfl⟩⟩, fun _ es _ h => ⟨⟨es, h⟩, rfl⟩, fun _ s p _ h => ⟨⟨s, p, h⟩, rfl⟩⟩

theorem Fr.trans {a b c : Cx} (h : Fr a b) (k : Fr b c) : Fr a c where
  os := k.os.trans h.os
  tape := k.tape.trans h.tape
  output := k.output.trans h.output
  size := Nat.le_trans h.size k.size
  keep := fun x hx hw => by
    obtain ⟨e1, w1⟩ := h.keep x hx hw
    obtain ⟨e2, w2⟩ := k.keep x (Nat.lt_of_lt_of_le hx h.size) w1
    exact ⟨e2.trans e1, w2⟩
  len := Nat.le_trans h.len k.len
  vec := fun i sz xs hi hx => by
    obtain ⟨ys, hy, h1, h2⟩ := k.vec i sz xs (Nat.lt_of_lt_of_le hi h.len) hx
    obtain ⟨zs, hz, h3, h4⟩ := h.vec i sz ys hi hy
    refine ⟨zs, hz, Nat.le_trans h3 h1, fun e => ?_⟩
    obtain ⟨e1, e2⟩ := h2 (by omega)
    obtain ⟨e3, e4⟩ := h4 (by omega)
    exact ⟨e1.trans e3, fun b hb => (e2 b (e3.trans hb)).trans (e4 b hb)⟩
  map := fun i es hi hx => by
    obtain ⟨⟨ys, hy⟩, e1⟩ := k.map i es (Nat.lt_of_lt_of_le hi h.len) hx
    obtain ⟨hz, e2⟩ := h.map i ys hi hy
    exact ⟨hz, e1.trans e2⟩
  iter := fun i s p hi hx => by
    obtain ⟨⟨s1, p1, hy⟩, e1⟩ := k.iter i s p (Nat.lt_of_lt_of_le hi h.len) hx
    obtain ⟨hz, e2⟩ := h.iter i s1 p1 hi hy
    exact ⟨hz, e1.trans e2⟩

theorem cell_lt {w : World} {a : Addr} {v : Value} (h : w.cell? a = some v) : a.block < w.heap.size := World.block_lt_of_cell? w a h

theorem cell_same {w w' : World} {a : Addr} (h : w'.heap[a.block]? = w.heap[a.block]?) : w'.cell? a = w.cell? a := by
  unfold World.cell?
  rw [h]

theorem cellAt_ne {xs : List (List AV)} {sz : Nat} (h0 : 0 < sz) (hn : xs ≠ []) (hsz : ∀ r ∈ xs, r.length = sz) : ∃ a, cellAt xs 0 0 = some a := by
  cases xs with
  | nil => exact absurd rfl hn
  | cons r rs =>
    have := hsz r (by simp)
    cases r with
    | nil => simp at this; omega
    | cons a as => exact ⟨a, rfl⟩

theorem RepV.mono {c c' : Cx} (hf : Fr c c') {a : AV} {v : Value} (h : RepV c a v) : RepV c' a v := by
  induction h with
  | int k n => exact .int k n
  | bool b => exact .bool b
  | str s => exact .str s
  | imm v => exact .imm v
  | list sz xs b o cap cs h0 hn hsz hlen hcap hw hst hc hr ih =>
    obtain ⟨a0, ha0⟩ := cellAt_ne h0 hn hsz
    have hb : b < c.w.heap.size := cell_lt (hc 0 0 a0 ha0)
    obtain ⟨e, hw'⟩ := hf.keep b hb hw
    exact .list sz xs b o cap cs h0 hn hsz hlen hcap hw' hst (fun i j a ha => (cell_same e).trans (hc i j a ha)) ih
  | lnil A cap => exact .lnil A cap
  | sl sz k n off len A cap hk hcl hA hn hv =>
    refine .sl sz k n off len A cap (Nat.lt_of_lt_of_le hk hf.len) hcl hA (fun sz' xs hx => ?_) (fun xs hx hl => ?_)
    · obtain ⟨ys, hy, h1, _⟩ := hf.vec k sz' xs hk hx
      exact ⟨(hn sz' ys hy).1, Nat.le_trans (hn sz' ys hy).2 h1⟩
    · obtain ⟨ys, hy, h1, h2⟩ := hf.vec k sz xs hk hx
      have := (hn sz ys hy).2
      obtain ⟨e1, e2⟩ := h2 (by omega)
      obtain ⟨h3, h5⟩ := hv ys hy (by omega)
      refine ⟨h3, h5.imp (fun ⟨b, hb, hA, hc⟩ => ⟨b, e1.trans hb, hA, by rw [e2 b hb]; exact hc⟩) id⟩
  | ptr k n i off b0 o0 hk hn hv =>
    refine .ptr k n i off b0 o0 (Nat.lt_of_lt_of_le hk hf.len) (fun sz xs hx => ?_) (fun sz xs hx hl => ?_)
    · obtain ⟨ys, hy, h1, _⟩ := hf.vec k sz xs hk hx
      exact Nat.le_trans (hn sz ys hy) h1
    · obtain ⟨ys, hy, h1, h2⟩ := hf.vec k sz xs hk hx
      have := hn sz ys hy
      obtain ⟨e1, _⟩ := h2 (by omega)
      obtain ⟨hb, hA⟩ := hv sz ys hy (by omega)
      exact ⟨e1.trans hb, hA⟩
  | lptr row off b o cs h0 hw hst hc hr ih =>
    cases row with
    | nil => exact absurd rfl h0
    | cons a as =>
      obtain ⟨e, hw'⟩ := hf.keep b (cell_lt (hc 0 a rfl)) hw
      exact .lptr (a :: as) off b o cs h0 hw' hst (fun j x hx => (cell_same e).trans (hc j x hx)) ih
  | iter k A hk hv =>
    refine .iter k A (Nat.lt_of_lt_of_le hk hf.len) (fun s p hx => ?_)
    obtain ⟨⟨s1, p1, hy⟩, e⟩ := hf.iter k s p hk hx
    obtain ⟨b, hb, hA⟩ := hv s1 p1 hy
    exact ⟨b, e.trans hb, hA⟩
  | map k r hk hv =>
    refine .map k r (Nat.lt_of_lt_of_le hk hf.len) (fun es hx => ?_)
    obtain ⟨⟨ys, hy⟩, e⟩ := hf.map k es hk hx
    obtain ⟨b, hb, hA⟩ := hv ys hy
    exact ⟨b, e.trans hb, hA⟩
  | fn f first cap fs gs hf' hg _ _ ih1 ih2 => exact .fn f first cap fs gs hf' hg ih1 ih2
  | iface t a v _ ih => exact .iface t a v ih
  | agg as vs hs _ ih => exact .agg as vs hs ih
  | tup as vs hs _ ih => exact .tup as vs hs ih
  | dead v => exact .dead v

theorem GlobOk.mono {c c' : Cx} (hf : Fr c c') (h : GlobOk c) : GlobOk c' := fun g row hg => by
  obtain ⟨h0, hw, hc⟩ := h g row hg
  obtain ⟨a0, ha0⟩ : ∃ a0, row[0]? = some a0 := by
    cases row with
    | nil => exact absurd rfl h0
    | cons a r => exact ⟨a, rfl⟩
  obtain ⟨_, v0, hv0, _⟩ := hc 0 a0 ha0
  obtain ⟨e, hw'⟩ := hf.keep g (cell_lt hv0) hw
  exact ⟨h0, hw', fun j a ha => by
    obtain ⟨h1, v, h2, h3⟩ := hc j a ha
    exact ⟨h1, v, (cell_same e).trans h2, h3.mono hf⟩⟩

theorem GlobOk.ptr {c : Cx} (h : GlobOk c) {g : Nat} {row : List AV} (hg : GT g = some row) : RepV c (.lptr row 0) (.pointer (some ⟨g, 0, none⟩)) := by
  obtain ⟨h0, hw, hc⟩ := h g row hg
  have := RepV.lptr (c := c) row 0 g 0 (fun j => (c.w.cell? ⟨g, j, none⟩).getD undef) h0 hw (fun j a ha => (hc j a ha).1)
    (fun j a ha => by
      obtain ⟨_, v, h2, _⟩ := hc j a ha
      rw [Nat.zero_add, h2]; rfl)
    (fun j a ha => by
      obtain ⟨_, v, h2, h3⟩ := hc j a ha
      rw [h2]; exact h3)
  exact this

theorem RepVs.mono {c c' : Cx} (hf : Fr c c') {as : List AV} {vs : Array Value} (h : RepVs c as vs) : RepVs c' as vs := ⟨h.1, fun i a ha => (h.2 i a ha).mono hf⟩

/-- An object whose block stays as it is. -/
theorem RepO.mono {c c' : Cx} (hf : Fr c c') {k : Nat} {o : AObj} (hi : c'.ι k = c.ι k) (hb0 : o.live = true → ∀ b, c.ι k = some b → c'.w.heap[b]? = c.w.heap[b]?) (h : RepO c k o) : RepO c' k o := by
  cases o with
  | gone => exact h
  | iter s p =>
    obtain ⟨b, h1, h2⟩ := h
    exact ⟨b, hi.trans h1, (hb0 rfl b h1).trans h2⟩
  | map es =>
    have hb := hb0 rfl
    obtain ⟨b, ents, clock, h1, h2, h3, h4⟩ := h
    refine ⟨b, ents, clock, hi.trans h1, (hb b h1).trans h2, h3, fun i p hp => ?_⟩
    obtain ⟨e, he, hk, hv⟩ := h4 i p hp
    exact ⟨e, he, hk.mono hf, hv.mono hf⟩
  | vec sz xs =>
    have hb := hb0 rfl
    obtain ⟨h1, h2, h3, h4⟩ := h
    refine ⟨h1, h2, h3, ?_⟩
    rw [hi]
    cases hk : c.ι k with
    | none => rw [hk] at h4; exact h4
    | some b =>
      rw [hk] at h4
      obtain ⟨cs, e, fr, h5, h6, h7, h8⟩ := h4
      exact ⟨cs, e, fr, (hb b hk).trans h5, h6, h7, fun i j a ha => (h8 i j a ha).mono hf⟩

theorem cleanAll_iff {m : Nat} : ∀ {l : List AV}, cleanAll m l = true ↔ ∀ (i : Nat) (a : AV), l[i]? = some a → a.clean m = true
  | [] => by simp [cleanAll]
  | a :: r => by
    simp only [cleanAll, Bool.and_eq_true, cleanAll_iff (l := r)]
    constructor
    · rintro ⟨h1, h2⟩ i x hx
      cases i with
      | zero => simp at hx; exact hx ▸ h1
      | succ i => exact h2 i x (by simpa using hx)
    · intro h
      exact ⟨h 0 a rfl, fun i x hx => h (i + 1) x (by simpa using hx)⟩

theorem AV.clean_mono {c : Cx} {m n : Nat} (hmn : m ≤ n) {a : AV} {v : Value} (hr : RepV c a v) (h : a.clean m = true) : a.clean n = true := by
  induction hr with
  | sl _ k _ _ _ _ _ => simp [AV.clean] at h ⊢; omega
  | ptr k _ _ _ _ _ => simp [AV.clean] at h ⊢; omega
  | iter k _ => simp [AV.clean] at h ⊢; omega
  | map k _ => simp [AV.clean] at h ⊢; omega
  | fn f first cap fs gs _ _ _ _ ih1 ih2 =>
    simp only [AV.clean, Bool.and_eq_true, cleanAll_iff] at h ⊢
    exact ⟨fun i a ha => ih1 i a ha (h.1 i a ha), fun i a ha => ih2 i a ha (h.2 i a ha)⟩
  | iface t a v _ ih => simp only [AV.clean] at h ⊢; exact ih h
  | agg as vs _ _ ih => simp only [AV.clean, cleanAll_iff] at h ⊢; exact fun i a ha => ih i a ha (h i a ha)
  | tup as vs _ _ ih => simp only [AV.clean, cleanAll_iff] at h ⊢; exact fun i a ha => ih i a ha (h i a ha)
  | _ => rfl

/-- What stands for something has no reference to nowhere. -/
theorem RepV.clean {c : Cx} {a : AV} {v : Value} (hr : RepV c a v) : a.clean c.H.length = true := by
  induction hr with
  | sl _ k _ _ _ _ _ hk => simpa [AV.clean] using hk
  | ptr k _ _ _ _ _ hk => simpa [AV.clean] using hk
  | iter k _ hk => simpa [AV.clean] using hk
  | map k _ hk => simpa [AV.clean] using hk
  | fn f first cap fs gs _ _ _ _ ih1 ih2 => simp only [AV.clean, Bool.and_eq_true, cleanAll_iff]; exact ⟨ih1, ih2⟩
  | iface t a v _ ih => simpa only [AV.clean] using ih
  | agg as vs _ _ ih => simp only [AV.clean, cleanAll_iff]; exact ih
  | tup as vs _ _ ih => simp only [AV.clean, cleanAll_iff]; exact ih
  | _ => rfl

/-- Of an object. -/
def AObj.clean (m : Nat) : AObj → Prop
  | .vec _ xs => ∀ (i j : Nat) (a : AV), cellAt xs i j = some a → a.clean m = true
  | .map es => ∀ (i : Nat) (p : AV × AV), es[i]? = some p → p.1.clean m = true ∧ p.2.clean m = true
  | _ => True

def Clean (m : Nat) (H : List AObj) : Prop := ∀ (k : Nat) (o : AObj), H[k]? = some o → o.clean m

theorem RepH.clean {c : Cx} (h : RepH c) : Clean c.H.length c.H := by
  intro k o hk
  have ho := h.obj k o hk
  cases o with
  | vec sz xs =>
    intro i j a ha
    obtain ⟨_, _, _, h4⟩ := ho
    cases hi : c.ι k with
    | none => rw [hi] at h4; subst h4; simp [cellAt] at ha
    | some b =>
      rw [hi] at h4
      obtain ⟨cs, e, fr, _, _, _, h8⟩ := h4
      exact (h8 i j a ha).clean
  | map es =>
    obtain ⟨b, ents, clock, _, _, _, h4⟩ := ho
    intro i p hp
    obtain ⟨e, _, hk, hv⟩ := h4 i p hp
    exact ⟨hk.clean, hv.clean⟩
  | _ => trivial

/-- The objects from m on are forgotten. -/
def Cx.take (c : Cx) (m : Nat) : Cx := ⟨c.ι, c.H.take m, c.w⟩

theorem get_take {H : List AObj} {m k : Nat} {o : AObj} (h : (H.take m)[k]? = some o) : k < m ∧ H[k]? = some o := by
  rw [List.getElem?_take] at h
  split at h
  · exact ⟨by assumption, h⟩
  · simp at h

theorem Cx.wr_take {c : Cx} {m b : Nat} (h : (c.take m).wr b) : c.wr b := by
  obtain ⟨k, o, h1, h2, h3⟩ := h
  exact ⟨k, o, (get_take h1).2, h2, h3⟩

theorem RepV.take {c : Cx} {m : Nat} {a : AV} {v : Value} (hr : RepV c a v) (h : a.clean m = true) : RepV (c.take m) a v := by
  induction hr with
  | int k n => exact .int k n
  | bool b => exact .bool b
  | str s => exact .str s
  | imm v => exact .imm v
  | list sz xs b o cap cs h0 hn hsz hlen hcap hw hst hc hr ih =>
    exact .list sz xs b o cap cs h0 hn hsz hlen hcap (fun h => hw (Cx.wr_take h)) hst hc fun i j a ha => ih i j a ha (AV.clean_mono (Nat.zero_le m) (hr i j a ha) (hst i j a ha))
  | lnil A cap => exact .lnil A cap
  | sl sz k n off len A cap hk hcl hA hn hv =>
    simp only [AV.clean, decide_eq_true_eq] at h
    exact .sl sz k n off len A cap (by simp [Cx.take]; omega) hcl hA (fun sz xs hx => hn sz xs (get_take hx).2) fun xs hx => hv xs (get_take hx).2
  | ptr k n i off b0 o0 hk hn hv =>
    simp only [AV.clean, decide_eq_true_eq] at h
    exact .ptr k n i off b0 o0 (by simp [Cx.take]; omega) (fun sz xs hx => hn sz xs (get_take hx).2) fun sz xs hx => hv sz xs (get_take hx).2
  | lptr row off b o cs h0 hw hst hc hr ih =>
    exact .lptr row off b o cs h0 (fun h => hw (Cx.wr_take h)) hst hc fun j a ha => ih j a ha (AV.clean_mono (Nat.zero_le m) (hr j a ha) (hst j a ha))
  | iter k A hk hv =>
    simp only [AV.clean, decide_eq_true_eq] at h
    exact .iter k A (by simp [Cx.take]; omega) fun s p hx => hv s p (get_take hx).2
  | map k r hk hv =>
    simp only [AV.clean, decide_eq_true_eq] at h
    exact .map k r (by simp [Cx.take]; omega) fun es hx => hv es (get_take hx).2
  | fn f first cap fs gs hf hg _ _ ih1 ih2 =>
    simp only [AV.clean, Bool.and_eq_true, cleanAll_iff] at h
    exact .fn f first cap fs gs hf hg (fun i a ha => ih1 i a ha (h.1 i a ha)) fun i a ha => ih2 i a ha (h.2 i a ha)
  | iface t a v _ ih => exact .iface t a v (ih (by simpa only [AV.clean] using h))
  | agg as vs hs _ ih =>
    simp only [AV.clean, cleanAll_iff] at h
    exact .agg as vs hs fun i a ha => ih i a ha (h i a ha)
  | tup as vs hs _ ih =>
    simp only [AV.clean, cleanAll_iff] at h
    exact .tup as vs hs fun i a ha => ih i a ha (h i a ha)
  | dead v => exact .dead v

theorem RepH.take {c : Cx} {m : Nat} (h : RepH c) (hc : Clean m (c.H.take m)) : RepH (c.take m) where
  obj := fun k o hk => by
    have hcl := hc k o hk
    have ho := h.obj k o (get_take hk).2
    cases o with
    | vec sz xs =>
      obtain ⟨h1, h2, h3, h4⟩ := ho
      refine ⟨h1, h2, h3, ?_⟩
      show match c.ι k with
        | none => xs = []
        | some b => _
      cases hi : c.ι k with
      | none => rw [hi] at h4; exact h4
      | some b =>
        rw [hi] at h4
        obtain ⟨cs, e, fr, h5, h6, h7, h8⟩ := h4
        exact ⟨cs, e, fr, h5, h6, h7, fun i j a ha => (h8 i j a ha).take (hcl i j a ha)⟩
    | map es =>
      obtain ⟨b, ents, clock, h1, h2, h3, h4⟩ := ho
      refine ⟨b, ents, clock, h1, h2, h3, fun i p hp => ?_⟩
      obtain ⟨e, he, hk, hv⟩ := h4 i p hp
      exact ⟨e, he, hk.take (hcl i p hp).1, hv.take (hcl i p hp).2⟩
    | iter s p => exact ho
    | gone => exact ho
  lt := fun k o b hk => h.lt k o b (get_take hk).2
  inj := fun k l o p b hk hl => h.inj k l o p b (get_take hk).2 (get_take hl).2
  glob := fun g row hg => by
    obtain ⟨h0, hw, hc'⟩ := h.glob g row hg
    exact ⟨h0, fun ⟨k, o, h1, h2, h3⟩ => hw ⟨k, o, (get_take h1).2, h2, h3⟩, fun j a ha => by
      obtain ⟨h1, v, h2, h3⟩ := hc' j a ha
      exact ⟨h1, v, h2, h3.take (AV.clean_mono (Nat.zero_le m) h3 h1)⟩⟩

theorem Fr.take {c c' : Cx} {m : Nat} (h : Fr c c') (hm : c.H.length ≤ m) : Fr c (c'.take m) where
  os := h.os
  tape := h.tape
  output := h.output
  size := h.size
  keep := fun b hb hw => ⟨(h.keep b hb hw).1, fun h' => (h.keep b hb hw).2 (Cx.wr_take h')⟩
  len := by have := h.len; simp [Cx.take]; omega
  vec := fun k sz xs hk hx => h.vec k sz xs hk (get_take hx).2
  map := fun k es hk hx => h.map k es hk (get_take hx).2
  iter := fun k s p hk hx => h.iter k s p hk (get_take hx).2

end Go.Proofs.YtoiceinjademgaaDoor
