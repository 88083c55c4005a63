/-
  Texts of this claim, put together.
-/
import Derived.WalkKit
import Derived.OrdersHeld
import Derived.Laws.IdiomCopy
import Derived.WalkLawsBesides
import Derived.Deep.AppendSrc
import Derived.Laws.MakeOwn
namespace Go.Proofs.YtnbdpjhmepgoaaaDoor
theorem fm : type_of% (And.intro @List.forall_mem_cons.{0} (And.intro @List.forall_mem_map.{0,0} (And.intro @List.forall_mem_append.{0} @List.not_mem_nil.{0}))) :=
  And.intro @List.forall_mem_cons.{0} (And.intro @List.forall_mem_map.{0,0} (And.intro @List.forall_mem_append.{0} @List.not_mem_nil.{0}))
open Go.RowKit
inductive AV where
  | int (k : IntKind) (n : Int)
  | bool (b : Bool)
  | str (s : ByteArray)
  | imm (v : Value)
  | list (xs : List (List AV))
  | sl (sz k n off len : Nat)
  | ptr (k n i off : Nat)
  | lptr (row : List AV) (off : Nat)
  | iter (k : Nat)
  | map (k : Nat)
  | fn (f : Fn) (first cap : List AV)
  | iface (t : TypeId) (v : AV)
  | agg (cs : List AV)
  | tup (vs : List AV)
  | dead
instance : Inhabited AV := ⟨.dead⟩
def shapeTbl : List (ByteArray × ByteArray) := [(⟨#[99, 111, 110, 115, 116]⟩, ⟨#[100, 78]⟩), (⟨#[109, 111, 118]⟩, ⟨#[100, 97]⟩), (⟨#[115, 119, 97, 112]⟩, ⟨#[100, 97]⟩), (⟨#[97, 100, 100]⟩, ⟨#[68, 65, 66]⟩), (⟨#[115, 117, 98]⟩, ⟨#[68, 65, 66]⟩), (⟨#[109, 117, 108]⟩, ⟨#[68, 65, 66]⟩), (⟨#[100, 105, 118]⟩, ⟨#[68, 65, 66]⟩), (⟨#[97, 110, 100]⟩, ⟨#[68, 65, 66]⟩), (⟨#[111, 114]⟩, ⟨#[68, 65, 66]⟩), (⟨#[120, 111, 114]⟩, ⟨#[68, 65, 66]⟩), (⟨#[108, 101, 115, 115]⟩, ⟨#[68, 65, 66]⟩), (⟨#[115, 97, 109, 101]⟩, ⟨#[68, 65, 66]⟩), (⟨#[108, 111, 97, 100]⟩, ⟨#[68, 65]⟩), (⟨#[115, 116, 111, 114, 101]⟩, ⟨#[65, 66]⟩), (⟨#[99, 97, 108, 108]⟩, ⟨#[68, 65, 78]⟩), (⟨#[106, 117, 109, 112]⟩, ⟨#[84]⟩), (⟨#[122, 101, 114, 111]⟩, ⟨#[65, 84]⟩), (⟨#[114, 101, 116]⟩, ⟨#[65]⟩)]
def GT : Nat → Option (List AV) := fun g => if g = 0 then some (shapeTbl.flatMap fun p => [.str p.1, .str p.2]) else none
inductive AObj where
  | vec (sz : Nat) (xs : List (List AV))
  | map (es : List (AV × AV))
  | iter (s : ByteArray) (pos : Nat)
  | gone
instance : Inhabited AObj := ⟨.gone⟩
structure Cx where
  ι : Nat → Option Nat
  H : List AObj
  w : World
def AObj.live : AObj → Bool
  | .gone => false
  | _ => true
def Cx.wr (c : Cx) (b : Nat) : Prop := ∃ k o, c.H[k]? = some o ∧ o.live = true ∧ c.ι k = some b
def cellsIn (w : World) (b : Nat) : Nat := match w.heap[b]? with | some (.cells c _ _) => c.size | _ => 0
def cellAt (xs : List (List AV)) (i j : Nat) : Option AV := (xs[i]?).bind (·[j]?)
mutual
def AV.clean (m : Nat) : AV → Bool
  | .sl _ k _ _ _ => decide (k < m)
  | .ptr k _ _ _ => decide (k < m)
  | .iter k => decide (k < m)
  | .map k => decide (k < m)
  | .fn _ f g => cleanAll m f && cleanAll m g
  | .iface _ a => a.clean m
  | .agg as => cleanAll m as
  | .tup as => cleanAll m as
  | _ => true
def cleanAll (m : Nat) : List AV → Bool
  | [] => true
  | a :: r => a.clean m && cleanAll m r
end
inductive RepV (c : Cx) : AV → Value → Prop where
  | int (k : IntKind) (n : Int) : RepV c (.int k n) (.int k n)
  | bool (b : Bool) : RepV c (.bool b) (.bool b)
  | str (s : ByteArray) : RepV c (.str s) (.string s)
  | imm (v : Value) : RepV c (.imm v) v
  | list (sz : Nat) (xs : List (List AV)) (b o cap : Nat) (cs : Nat → Nat → Value) (h0 : 0 < sz) (hn : xs ≠ []) (hsz : ∀ r ∈ xs, r.length = sz) (hlen : xs.length ≤ maxLen) (hcap : xs.length ≤ cap) (hw : ¬ c.wr b)
      (hst : ∀ (i j : Nat) (a : AV), cellAt xs i j = some a → a.clean 0 = true)
      (hc : ∀ (i j : Nat) (a : AV), cellAt xs i j = some a → c.w.cell? ⟨b, o + (i * sz + j), none⟩ = some (cs i j))
      (hr : ∀ (i j : Nat) (a : AV), cellAt xs i j = some a → RepV c a (cs i j)) : RepV c (.list xs) (.slice (some ⟨b, o, none⟩) xs.length cap)
  | lnil (A : Option Addr) (cap : Nat) : RepV c (.list []) (.slice A 0 cap)
  | sl (sz k n off len : Nat) (A : Option Addr) (cap : Nat) (hk : k < c.H.length) (hcl : len ≤ cap) (hA : 0 < len → ∃ b o, A = some ⟨b, o, none⟩)
      (hn : ∀ sz' xs, c.H[k]? = some (.vec sz' xs) → sz' = sz ∧ n ≤ xs.length)
      (hv : ∀ xs, c.H[k]? = some (.vec sz xs) → n = xs.length → off + len ≤ n ∧
      ((∃ b, c.ι k = some b ∧ A = some ⟨b, off * sz, none⟩ ∧ cap = cellsIn c.w b / sz - off) ∨ (len = 0 ∧ cap = 0))) : RepV c (.sl sz k n off len) (.slice A len cap)
  | ptr (k n i off : Nat) (b0 o0 : Nat) (hk : k < c.H.length) (hn : ∀ sz xs, c.H[k]? = some (.vec sz xs) → n ≤ xs.length)
      (hv : ∀ sz xs, c.H[k]? = some (.vec sz xs) → n = xs.length → c.ι k = some b0 ∧ o0 = i * sz + off) : RepV c (.ptr k n i off) (.pointer (some ⟨b0, o0, none⟩))
  | lptr (row : List AV) (off : Nat) (b o : Nat) (cs : Nat → Value) (h0 : row ≠ []) (hw : ¬ c.wr b) (hst : ∀ (j : Nat) (a : AV), row[j]? = some a → a.clean 0 = true) (hc : ∀ (j : Nat) (a : AV), row[j]? = some a → c.w.cell? ⟨b, o + j, none⟩ = some (cs j))
      (hr : ∀ (j : Nat) (a : AV), row[j]? = some a → RepV c a (cs j)) : RepV c (.lptr row off) (.pointer (some ⟨b, o + off, none⟩))
  | iter (k : Nat) (A : Option Addr) (hk : k < c.H.length) (hv : ∀ s p, c.H[k]? = some (.iter s p) → ∃ b, c.ι k = some b ∧ A = some ⟨b, 0, none⟩) : RepV c (.iter k) (.pointer A)
  | map (k : Nat) (r : Option Nat) (hk : k < c.H.length) (hv : ∀ es, c.H[k]? = some (.map es) → ∃ b, c.ι k = some b ∧ r = some b) : RepV c (.map k) (.map r)
  | fn (f : Fn) (first cap : List AV) (fs gs : Array Value) (hf : fs.size = first.length) (hg : gs.size = cap.length)
      (hfr : ∀ (i : Nat) (a : AV), first[i]? = some a → RepV c a (fs.getD i undef)) (hgr : ∀ (i : Nat) (a : AV), cap[i]? = some a → RepV c a (gs.getD i undef)) : RepV c (.fn f first cap) (.func f fs gs)
  | iface (t : TypeId) (a : AV) (v : Value) (h : RepV c a v) : RepV c (.iface t a) (.iface t v)
  | agg (as : List AV) (vs : Array Value) (hs : vs.size = as.length) (hr : ∀ (i : Nat) (a : AV), as[i]? = some a → RepV c a (vs.getD i undef)) : RepV c (.agg as) (.agg vs)
  | tup (as : List AV) (vs : Array Value) (hs : vs.size = as.length) (hr : ∀ (i : Nat) (a : AV), as[i]? = some a → RepV c a (vs.getD i undef)) : RepV c (.tup as) (.tuple vs)
  | dead (v : Value) : RepV c .dead v
def RepVs (c : Cx) (as : List AV) (vs : Array Value) : Prop := vs.size = as.length ∧ ∀ (i : Nat) (a : AV), as[i]? = some a → RepV c a (vs.getD i undef)
def AV.cell : AV → Bool
  | .agg _ | .tup _ | .dead => false
  | .imm v => v.oneCell'
  | _ => true
theorem RepV.one {c : Cx} {a : AV} {v : Value} (h : RepV c a v) (hc : a.cell = true) : v.oneCell' = true := by
  cases h <;> first | rfl | exact hc | simp [AV.cell] at hc
def RepO (c : Cx) (k : Nat) : AObj → Prop
  | .gone => True
  | .iter s p => ∃ b, c.ι k = some b ∧ c.w.heap[b]? = some (.stringIter s p)
  | .map es => ∃ b ents clock, c.ι k = some b ∧ c.w.heap[b]? = some (.map ents clock) ∧ ents.size = es.length ∧
      ∀ (i : Nat) (p : AV × AV), es[i]? = some p → ∃ e : MapEntry, ents[i]? = some e ∧ RepV c p.1 e.key ∧ RepV c p.2 e.val
  | .vec sz xs => 0 < sz ∧ (∀ r ∈ xs, r.length = sz) ∧ xs.length ≤ maxLen ∧
      match c.ι k with
      | none => xs = []
      | some b => ∃ cs e fr, c.w.heap[b]? = some (.cells cs e fr) ∧ xs.length * sz ≤ cs.size ∧ (∀ i, i < cs.size → ¬ (fr.1 ≤ i ∧ i < fr.2)) ∧
          ∀ (i j : Nat) (a : AV), cellAt xs i j = some a → RepV c a (cs.getD (i * sz + j) undef)
def GlobOk (c : Cx) : Prop := ∀ g row, GT g = some row → row ≠ [] ∧ ¬ c.wr g ∧ ∀ (j : Nat) (a : AV), row[j]? = some a → a.clean 0 = true ∧ ∃ v, c.w.cell? ⟨g, j, none⟩ = some v ∧ RepV c a v
structure RepH (c : Cx) : Prop where
  obj : ∀ k o, c.H[k]? = some o → RepO c k o
  lt : ∀ k o b, c.H[k]? = some o → o.live = true → c.ι k = some b → b < c.w.heap.size
  inj : ∀ k l o p b, c.H[k]? = some o → c.H[l]? = some p → o.live = true → p.live = true → c.ι k = some b → c.ι l = some b → k = l
  glob : GlobOk c
structure Fr (c c' : Cx) : Prop where
  os : c'.w.os = c.w.os
  tape : c'.w.tape = c.w.tape
  output : c'.w.output = c.w.output
  size : c.w.heap.size ≤ c'.w.heap.size
  keep : ∀ b, b < c.w.heap.size → ¬ c.wr b → c'.w.heap[b]? = c.w.heap[b]? ∧ ¬ c'.wr b
  len : c.H.length ≤ c'.H.length
  vec : ∀ k sz xs', k < c.H.length → c'.H[k]? = some (.vec sz xs') → ∃ xs, c.H[k]? = some (.vec sz xs) ∧ xs.length ≤ xs'.length ∧
      (xs.length = xs'.length → c'.ι k = c.ι k ∧ ∀ b, c.ι k = some b → cellsIn c'.w b = cellsIn c.w b)
  map : ∀ k es', k < c.H.length → c'.H[k]? = some (.map es') → (∃ es, c.H[k]? = some (.map es)) ∧ c'.ι k = c.ι k
  iter : ∀ k s p, k < c.H.length → c'.H[k]? = some (.iter s p) → (∃ s p, c.H[k]? = some (.iter s p)) ∧ c'.ι k = c.ι k
theorem Fr.refl (c : Cx) : Fr c c :=
  ⟨rfl, rfl, rfl, Nat.le_refl _, fun _ _ h => ⟨rfl, h⟩, Nat.le_refl _, fun _ _ xs _ h => ⟨xs, h, Nat.le_refl _, fun _ => ⟨rfl, fun _ _ => rfl⟩⟩, fun _ es _ h => ⟨⟨es, h⟩, rfl⟩, fun _ s p _ h => ⟨⟨s, p, h⟩, rfl⟩⟩
theorem Fr.trans {a b c : Cx} (h : Fr a b) (k : Fr b c) : Fr a c where
  os := k.os.trans h.os
  tape := k.tape.trans h.tape
  output := k.output.trans h.output
  size := Nat.le_trans h.size k.size
  keep := fun x hx hw => by
    obtain ⟨e1, w1⟩ := h.keep x hx hw
    obtain ⟨e2, w2⟩ := k.keep x (Nat.lt_of_lt_of_le hx h.size) w1
    exact ⟨e2.trans e1, w2⟩
  len := Nat.le_trans h.len k.len
  vec := fun i sz xs hi hx => by
    obtain ⟨ys, hy, h1, h2⟩ := k.vec i sz xs (Nat.lt_of_lt_of_le hi h.len) hx
    obtain ⟨zs, hz, h3, h4⟩ := h.vec i sz ys hi hy
    refine ⟨zs, hz, Nat.le_trans h3 h1, fun e => ?_⟩
    obtain ⟨e1, e2⟩ := h2 (by omega)
    obtain ⟨e3, e4⟩ := h4 (by omega)
    exact ⟨e1.trans e3, fun b hb => (e2 b (e3.trans hb)).trans (e4 b hb)⟩
  map := fun i es hi hx => by
    obtain ⟨⟨ys, hy⟩, e1⟩ := k.map i es (Nat.lt_of_lt_of_le hi h.len) hx
    obtain ⟨hz, e2⟩ := h.map i ys hi hy
    exact ⟨hz, e1.trans e2⟩
  iter := fun i s p hi hx => by
    obtain ⟨⟨s1, p1, hy⟩, e1⟩ := k.iter i s p (Nat.lt_of_lt_of_le hi h.len) hx
    obtain ⟨hz, e2⟩ := h.iter i s1 p1 hi hy
    exact ⟨hz, e1.trans e2⟩
theorem cell_lt {w : World} {a : Addr} {v : Value} (h : w.cell? a = some v) : a.block < w.heap.size := World.block_lt_of_cell? w a h
theorem cell_same {w w' : World} {a : Addr} (h : w'.heap[a.block]? = w.heap[a.block]?) : w'.cell? a = w.cell? a := by
  unfold World.cell?
  rw [h]
theorem cellAt_ne {xs : List (List AV)} {sz : Nat} (h0 : 0 < sz) (hn : xs ≠ []) (hsz : ∀ r ∈ xs, r.length = sz) : ∃ a, cellAt xs 0 0 = some a := by
  cases xs with
  | nil => exact absurd rfl hn
  | cons r rs =>
    have := hsz r (by simp)
    cases r with
    | nil => simp at this; omega
    | cons a as => exact ⟨a, rfl⟩
theorem RepV.mono {c c' : Cx} (hf : Fr c c') {a : AV} {v : Value} (h : RepV c a v) : RepV c' a v := by
  induction h with
  | int k n => exact .int k n
  | bool b => exact .bool b
  | str s => exact .str s
  | imm v => exact .imm v
  | list sz xs b o cap cs h0 hn hsz hlen hcap hw hst hc hr ih =>
    obtain ⟨a0, ha0⟩ := cellAt_ne h0 hn hsz
    have hb : b < c.w.heap.size := cell_lt (hc 0 0 a0 ha0)
    obtain ⟨e, hw'⟩ := hf.keep b hb hw
    exact .list sz xs b o cap cs h0 hn hsz hlen hcap hw' hst (fun i j a ha => (cell_same e).trans (hc i j a ha)) ih
  | lnil A cap => exact .lnil A cap
  | sl sz k n off len A cap hk hcl hA hn hv =>
    refine .sl sz k n off len A cap (Nat.lt_of_lt_of_le hk hf.len) hcl hA (fun sz' xs hx => ?_) (fun xs hx hl => ?_)
    · obtain ⟨ys, hy, h1, _⟩ := hf.vec k sz' xs hk hx
      exact ⟨(hn sz' ys hy).1, Nat.le_trans (hn sz' ys hy).2 h1⟩
    · obtain ⟨ys, hy, h1, h2⟩ := hf.vec k sz xs hk hx
      have := (hn sz ys hy).2
      obtain ⟨e1, e2⟩ := h2 (by omega)
      obtain ⟨h3, h5⟩ := hv ys hy (by omega)
      refine ⟨h3, h5.imp (fun ⟨b, hb, hA, hc⟩ => ⟨b, e1.trans hb, hA, by rw [e2 b hb]; exact hc⟩) id⟩
  | ptr k n i off b0 o0 hk hn hv =>
    refine .ptr k n i off b0 o0 (Nat.lt_of_lt_of_le hk hf.len) (fun sz xs hx => ?_) (fun sz xs hx hl => ?_)
    · obtain ⟨ys, hy, h1, _⟩ := hf.vec k sz xs hk hx
      exact Nat.le_trans (hn sz ys hy) h1
    · obtain ⟨ys, hy, h1, h2⟩ := hf.vec k sz xs hk hx
      have := hn sz ys hy
      obtain ⟨e1, _⟩ := h2 (by omega)
      obtain ⟨hb, hA⟩ := hv sz ys hy (by omega)
      exact ⟨e1.trans hb, hA⟩
  | lptr row off b o cs h0 hw hst hc hr ih =>
    cases row with
    | nil => exact absurd rfl h0
    | cons a as =>
      obtain ⟨e, hw'⟩ := hf.keep b (cell_lt (hc 0 a rfl)) hw
      exact .lptr (a :: as) off b o cs h0 hw' hst (fun j x hx => (cell_same e).trans (hc j x hx)) ih
  | iter k A hk hv =>
    refine .iter k A (Nat.lt_of_lt_of_le hk hf.len) (fun s p hx => ?_)
    obtain ⟨⟨s1, p1, hy⟩, e⟩ := hf.iter k s p hk hx
    obtain ⟨b, hb, hA⟩ := hv s1 p1 hy
    exact ⟨b, e.trans hb, hA⟩
  | map k r hk hv =>
    refine .map k r (Nat.lt_of_lt_of_le hk hf.len) (fun es hx => ?_)
    obtain ⟨⟨ys, hy⟩, e⟩ := hf.map k es hk hx
    obtain ⟨b, hb, hA⟩ := hv ys hy
    exact ⟨b, e.trans hb, hA⟩
  | fn f first cap fs gs hf' hg _ _ ih1 ih2 => exact .fn f first cap fs gs hf' hg ih1 ih2
  | iface t a v _ ih => exact .iface t a v ih
  | agg as vs hs _ ih => exact .agg as vs hs ih
  | tup as vs hs _ ih => exact .tup as vs hs ih
  | dead v => exact .dead v
theorem GlobOk.mono {c c' : Cx} (hf : Fr c c') (h : GlobOk c) : GlobOk c' := fun g row hg => by
  obtain ⟨h0, hw, hc⟩ := h g row hg
  obtain ⟨a0, ha0⟩ : ∃ a0, row[0]? = some a0 := by
    cases row with
    | nil => exact absurd rfl h0
    | cons a r => exact ⟨a, rfl⟩
  obtain ⟨_, v0, hv0, _⟩ := hc 0 a0 ha0
  obtain ⟨e, hw'⟩ := hf.keep g (cell_lt hv0) hw
  exact ⟨h0, hw', fun j a ha => by
    obtain ⟨h1, v, h2, h3⟩ := hc j a ha
    exact ⟨h1, v, (cell_same e).trans h2, h3.mono hf⟩⟩
theorem GlobOk.ptr {c : Cx} (h : GlobOk c) {g : Nat} {row : List AV} (hg : GT g = some row) : RepV c (.lptr row 0) (.pointer (some ⟨g, 0, none⟩)) := by
  obtain ⟨h0, hw, hc⟩ := h g row hg
  have := RepV.lptr (c := c) row 0 g 0 (fun j => (c.w.cell? ⟨g, j, none⟩).getD undef) h0 hw (fun j a ha => (hc j a ha).1)
    (fun j a ha => by
      obtain ⟨_, v, h2, _⟩ := hc j a ha
      rw [Nat.zero_add, h2]; rfl)
    (fun j a ha => by
      obtain ⟨_, v, h2, h3⟩ := hc j a ha
      rw [h2]; exact h3)
  exact this
theorem RepVs.mono {c c' : Cx} (hf : Fr c c') {as : List AV} {vs : Array Value} (h : RepVs c as vs) : RepVs c' as vs := ⟨h.1, fun i a ha => (h.2 i a ha).mono hf⟩
theorem RepO.mono {c c' : Cx} (hf : Fr c c') {k : Nat} {o : AObj} (hi : c'.ι k = c.ι k) (hb0 : o.live = true → ∀ b, c.ι k = some b → c'.w.heap[b]? = c.w.heap[b]?) (h : RepO c k o) : RepO c' k o := by
  cases o with
  | gone => exact h
  | iter s p =>
    obtain ⟨b, h1, h2⟩ := h
    exact ⟨b, hi.trans h1, (hb0 rfl b h1).trans h2⟩
  | map es =>
    have hb := hb0 rfl
    obtain ⟨b, ents, clock, h1, h2, h3, h4⟩ := h
    refine ⟨b, ents, clock, hi.trans h1, (hb b h1).trans h2, h3, fun i p hp => ?_⟩
    obtain ⟨e, he, hk, hv⟩ := h4 i p hp
    exact ⟨e, he, hk.mono hf, hv.mono hf⟩
  | vec sz xs =>
    have hb := hb0 rfl
    obtain ⟨h1, h2, h3, h4⟩ := h
    refine ⟨h1, h2, h3, ?_⟩
    rw [hi]
    cases hk : c.ι k with
    | none => rw [hk] at h4; exact h4
    | some b =>
      rw [hk] at h4
      obtain ⟨cs, e, fr, h5, h6, h7, h8⟩ := h4
      exact ⟨cs, e, fr, (hb b hk).trans h5, h6, h7, fun i j a ha => (h8 i j a ha).mono hf⟩
theorem cleanAll_iff {m : Nat} : ∀ {l : List AV}, cleanAll m l = true ↔ ∀ (i : Nat) (a : AV), l[i]? = some a → a.clean m = true
  | [] => by simp [cleanAll]
  | a :: r => by
    simp only [cleanAll, Bool.and_eq_true, cleanAll_iff (l := r)]
    constructor
    · rintro ⟨h1, h2⟩ i x hx
      cases i with
      | zero => simp at hx; exact hx ▸ h1
      | succ i => exact h2 i x (by simpa using hx)
    · intro h
      exact ⟨h 0 a rfl, fun i x hx => h (i + 1) x (by simpa using hx)⟩
theorem AV.clean_mono {c : Cx} {m n : Nat} (hmn : m ≤ n) {a : AV} {v : Value} (hr : RepV c a v) (h : a.clean m = true) : a.clean n = true := by
  induction hr with
  | sl _ k _ _ _ _ _ => simp [AV.clean] at h ⊢; omega
  | ptr k _ _ _ _ _ => simp [AV.clean] at h ⊢; omega
  | iter k _ => simp [AV.clean] at h ⊢; omega
  | map k _ => simp [AV.clean] at h ⊢; omega
  | fn f first cap fs gs _ _ _ _ ih1 ih2 =>
    simp only [AV.clean, Bool.and_eq_true, cleanAll_iff] at h ⊢
    exact ⟨fun i a ha => ih1 i a ha (h.1 i a ha), fun i a ha => ih2 i a ha (h.2 i a ha)⟩
  | iface t a v _ ih => simp only [AV.clean] at h ⊢; exact ih h
  | agg as vs _ _ ih => simp only [AV.clean, cleanAll_iff] at h ⊢; exact fun i a ha => ih i a ha (h i a ha)
  | tup as vs _ _ ih => simp only [AV.clean, cleanAll_iff] at h ⊢; exact fun i a ha => ih i a ha (h i a ha)
  | _ => rfl
theorem RepV.clean {c : Cx} {a : AV} {v : Value} (hr : RepV c a v) : a.clean c.H.length = true := by
  induction hr with
  | sl _ k _ _ _ _ _ hk => simpa [AV.clean] using hk
  | ptr k _ _ _ _ _ hk => simpa [AV.clean] using hk
  | iter k _ hk => simpa [AV.clean] using hk
  | map k _ hk => simpa [AV.clean] using hk
  | fn f first cap fs gs _ _ _ _ ih1 ih2 => simp only [AV.clean, Bool.and_eq_true, cleanAll_iff]; exact ⟨ih1, ih2⟩
  | iface t a v _ ih => simpa only [AV.clean] using ih
  | agg as vs _ _ ih => simp only [AV.clean, cleanAll_iff]; exact ih
  | tup as vs _ _ ih => simp only [AV.clean, cleanAll_iff]; exact ih
  | _ => rfl
def AObj.clean (m : Nat) : AObj → Prop
  | .vec _ xs => ∀ (i j : Nat) (a : AV), cellAt xs i j = some a → a.clean m = true
  | .map es => ∀ (i : Nat) (p : AV × AV), es[i]? = some p → p.1.clean m = true ∧ p.2.clean m = true
  | _ => True
def Clean (m : Nat) (H : List AObj) : Prop := ∀ (k : Nat) (o : AObj), H[k]? = some o → o.clean m
theorem RepH.clean {c : Cx} (h : RepH c) : Clean c.H.length c.H := by
  intro k o hk
  have ho := h.obj k o hk
  cases o with
  | vec sz xs =>
    intro i j a ha
    obtain ⟨_, _, _, h4⟩ := ho
    cases hi : c.ι k with
    | none => rw [hi] at h4; subst h4; simp [cellAt] at ha
    | some b =>
      rw [hi] at h4
      obtain ⟨cs, e, fr, _, _, _, h8⟩ := h4
      exact (h8 i j a ha).clean
  | map es =>
    obtain ⟨b, ents, clock, _, _, _, h4⟩ := ho
    intro i p hp
    obtain ⟨e, _, hk, hv⟩ := h4 i p hp
    exact ⟨hk.clean, hv.clean⟩
  | _ => trivial
def Cx.take (c : Cx) (m : Nat) : Cx := ⟨c.ι, c.H.take m, c.w⟩
theorem get_take {H : List AObj} {m k : Nat} {o : AObj} (h : (H.take m)[k]? = some o) : k < m ∧ H[k]? = some o := by
  rw [List.getElem?_take] at h
  split at h
  · exact ⟨by assumption, h⟩
  · simp at h
theorem Cx.wr_take {c : Cx} {m b : Nat} (h : (c.take m).wr b) : c.wr b := by
  obtain ⟨k, o, h1, h2, h3⟩ := h
  exact ⟨k, o, (get_take h1).2, h2, h3⟩
theorem RepV.take {c : Cx} {m : Nat} {a : AV} {v : Value} (hr : RepV c a v) (h : a.clean m = true) : RepV (c.take m) a v := by
  induction hr with
  | int k n => exact .int k n
  | bool b => exact .bool b
  | str s => exact .str s
  | imm v => exact .imm v
  | list sz xs b o cap cs h0 hn hsz hlen hcap hw hst hc hr ih =>
    exact .list sz xs b o cap cs h0 hn hsz hlen hcap (fun h => hw (Cx.wr_take h)) hst hc fun i j a ha => ih i j a ha (AV.clean_mono (Nat.zero_le m) (hr i j a ha) (hst i j a ha))
  | lnil A cap => exact .lnil A cap
  | sl sz k n off len A cap hk hcl hA hn hv =>
    simp only [AV.clean, decide_eq_true_eq] at h
    exact .sl sz k n off len A cap (by simp [Cx.take]; omega) hcl hA (fun sz xs hx => hn sz xs (get_take hx).2) fun xs hx => hv xs (get_take hx).2
  | ptr k n i off b0 o0 hk hn hv =>
    simp only [AV.clean, decide_eq_true_eq] at h
    exact .ptr k n i off b0 o0 (by simp [Cx.take]; omega) (fun sz xs hx => hn sz xs (get_take hx).2) fun sz xs hx => hv sz xs (get_take hx).2
  | lptr row off b o cs h0 hw hst hc hr ih =>
    exact .lptr row off b o cs h0 (fun h => hw (Cx.wr_take h)) hst hc fun j a ha => ih j a ha (AV.clean_mono (Nat.zero_le m) (hr j a ha) (hst j a ha))
  | iter k A hk hv =>
    simp only [AV.clean, decide_eq_true_eq] at h
    exact .iter k A (by simp [Cx.take]; omega) fun s p hx => hv s p (get_take hx).2
  | map k r hk hv =>
    simp only [AV.clean, decide_eq_true_eq] at h
    exact .map k r (by simp [Cx.take]; omega) fun es hx => hv es (get_take hx).2
  | fn f first cap fs gs hf hg _ _ ih1 ih2 =>
    simp only [AV.clean, Bool.and_eq_true, cleanAll_iff] at h
    exact .fn f first cap fs gs hf hg (fun i a ha => ih1 i a ha (h.1 i a ha)) fun i a ha => ih2 i a ha (h.2 i a ha)
  | iface t a v _ ih => exact .iface t a v (ih (by simpa only [AV.clean] using h))
  | agg as vs hs _ ih =>
    simp only [AV.clean, cleanAll_iff] at h
    exact .agg as vs hs fun i a ha => ih i a ha (h i a ha)
  | tup as vs hs _ ih =>
    simp only [AV.clean, cleanAll_iff] at h
    exact .tup as vs hs fun i a ha => ih i a ha (h i a ha)
  | dead v => exact .dead v
theorem RepH.take {c : Cx} {m : Nat} (h : RepH c) (hc : Clean m (c.H.take m)) : RepH (c.take m) where
  obj := fun k o hk => by
    have hcl := hc k o hk
    have ho := h.obj k o (get_take hk).2
    cases o with
    | vec sz xs =>
      obtain ⟨h1, h2, h3, h4⟩ := ho
      refine ⟨h1, h2, h3, ?_⟩
      show match c.ι k with
        | none => xs = []
        | some b => _
      cases hi : c.ι k with
      | none => rw [hi] at h4; exact h4
      | some b =>
        rw [hi] at h4
        obtain ⟨cs, e, fr, h5, h6, h7, h8⟩ := h4
        exact ⟨cs, e, fr, h5, h6, h7, fun i j a ha => (h8 i j a ha).take (hcl i j a ha)⟩
    | map es =>
      obtain ⟨b, ents, clock, h1, h2, h3, h4⟩ := ho
      refine ⟨b, ents, clock, h1, h2, h3, fun i p hp => ?_⟩
      obtain ⟨e, he, hk, hv⟩ := h4 i p hp
      exact ⟨e, he, hk.take (hcl i p hp).1, hv.take (hcl i p hp).2⟩
    | iter s p => exact ho
    | gone => exact ho
  lt := fun k o b hk => h.lt k o b (get_take hk).2
  inj := fun k l o p b hk hl => h.inj k l o p b (get_take hk).2 (get_take hl).2
  glob := fun g row hg => by
    obtain ⟨h0, hw, hc'⟩ := h.glob g row hg
    exact ⟨h0, fun ⟨k, o, h1, h2, h3⟩ => hw ⟨k, o, (get_take h1).2, h2, h3⟩, fun j a ha => by
      obtain ⟨h1, v, h2, h3⟩ := hc' j a ha
      exact ⟨h1, v, h2, h3.take (AV.clean_mono (Nat.zero_le m) h3 h1)⟩⟩
theorem Fr.take {c c' : Cx} {m : Nat} (h : Fr c c') (hm : c.H.length ≤ m) : Fr c (c'.take m) where
  os := h.os
  tape := h.tape
  output := h.output
  size := h.size
  keep := fun b hb hw => ⟨(h.keep b hb hw).1, fun h' => (h.keep b hb hw).2 (Cx.wr_take h')⟩
  len := by have := h.len; simp [Cx.take]; omega
  vec := fun k sz xs hk hx => h.vec k sz xs hk (get_take hx).2
  map := fun k es hk hx => h.map k es hk (get_take hx).2
  iter := fun k s p hk hx => h.iter k s p hk (get_take hx).2
end Go.Proofs.YtnbdpjhmepgoaaaDoor
namespace Go.Proofs.YtnbdpjhmepgoaaaDoor
open Go.RowKit
def putAll (cs : Array Value) : Nat → List Value → Array Value
  | _, [] => cs
  | o, v :: r => putAll (cs.setIfInBounds o v) (o + 1) r
theorem putAll_size : ∀ (vs : List Value) (cs : Array Value) (o : Nat), (putAll cs o vs).size = cs.size
  | [], _, _ => rfl
  | v :: r, cs, o => by simp [putAll, putAll_size r]
theorem putAll_out : ∀ (vs : List Value) (cs : Array Value) (o i : Nat), (i < o ∨ o + vs.length ≤ i) → (putAll cs o vs).getD i undef = cs.getD i undef
  | [], _, _, _, _ => rfl
  | v :: r, cs, o, i, h => by
    rw [putAll, putAll_out r _ _ _ (by simp at h; omega)]
    have : o ≠ i := by simp at h; omega
    simp [Array.getElem?_setIfInBounds_ne this]
theorem putAll_in : ∀ (vs : List Value) (cs : Array Value) (o j : Nat), j < vs.length → o + vs.length ≤ cs.size → (putAll cs o vs).getD (o + j) undef = vs.getD j undef
  | v :: r, cs, o, 0, _, h => by
    rw [putAll, putAll_out r _ _ _ (by omega)]
    have : o < cs.size := by simp at h; omega
    simp [this]
  | v :: r, cs, o, j + 1, hj, h => by
    have := putAll_in r (cs.setIfInBounds o v) (o + 1) j (by simpa using hj) (by simp at h ⊢; omega)
    rw [putAll, show o + (j + 1) = o + 1 + j by omega, this]
    simp
theorem heap_setCells : ∀ (vs : List Value) (w : World) (b o : Nat) (cs : Array Value) (e : TypeId) (fr : Nat × Nat), w.heap[b]? = some (.cells cs e fr) → (w.setCells b o vs).heap[b]? = some (.cells (putAll cs o vs) e fr)
  | [], _, _, _, _, _, _, h => h
  | v :: r, w, b, o, cs, e, fr, h => by
    rw [World.setCells, putAll]
    refine heap_setCells r _ b (o + 1) _ e fr ?_
    simp [World.setCell, Array.getElem?_modify, h]
theorem heap_setCells_ne : ∀ (vs : List Value) (w : World) (b o x : Nat), x ≠ b → (w.setCells b o vs).heap[x]? = w.heap[x]?
  | [], _, _, _, _, _ => rfl
  | v :: r, w, b, o, x, h => by
    rw [World.setCells, heap_setCells_ne r _ b _ x h]
    simp [World.setCell, Array.getElem?_modify, Ne.symm h]
theorem size_setCells : ∀ (vs : List Value) (w : World) (b o : Nat), (w.setCells b o vs).heap.size = w.heap.size
  | [], _, _, _ => rfl
  | v :: r, w, b, o => by rw [World.setCells, size_setCells r]; simp
theorem os_setCells : ∀ (vs : List Value) (w : World) (b o : Nat), (w.setCells b o vs).os = w.os
  | [], _, _, _ => rfl
  | v :: r, w, b, o => by rw [World.setCells, os_setCells r]; rfl
theorem tape_setCells : ∀ (vs : List Value) (w : World) (b o : Nat), (w.setCells b o vs).tape = w.tape
  | [], _, _, _ => rfl
  | v :: r, w, b, o => by rw [World.setCells, tape_setCells r]; rfl
theorem output_setCells : ∀ (vs : List Value) (w : World) (b o : Nat), (w.setCells b o vs).output = w.output
  | [], _, _, _ => rfl
  | v :: r, w, b, o => by rw [World.setCells, output_setCells r]; rfl
def Cx.drew (c : Cx) : Cx := ⟨c.ι, c.H, c.w.drew⟩
theorem Fr.drew (c : Cx) : Fr c c.drew :=
  ⟨rfl, rfl, rfl, Nat.le_refl _, fun _ _ h => ⟨rfl, h⟩, Nat.le_refl _, fun _ _ xs _ h => ⟨xs, h, Nat.le_refl _, fun _ => ⟨rfl, fun _ _ => rfl⟩⟩, fun _ es _ h => ⟨⟨es, h⟩, rfl⟩, fun _ s p _ h => ⟨⟨s, p, h⟩, rfl⟩⟩
theorem RepH.drew {c : Cx} (h : RepH c) : RepH c.drew :=
  ⟨fun k o hk => (h.obj k o hk).mono (Fr.drew c) rfl fun _ _ _ => rfl, fun k o b h1 h2 h3 => h.lt k o b h1 h2 h3, fun k l o p b h1 h2 h3 h4 h5 h6 => h.inj k l o p b h1 h2 h3 h4 h5 h6, h.glob.mono (Fr.drew c)⟩
def Cx.push (c : Cx) (o : AObj) (β : Option Nat) (w : World) : Cx := ⟨fun j => if j = c.H.length then β else c.ι j, c.H ++ [o], w⟩
theorem get_push {H : List AObj} {o p : AObj} {k : Nat} (h : (H ++ [o])[k]? = some p) : (k < H.length ∧ H[k]? = some p) ∨ (k = H.length ∧ p = o) := by
  rcases Nat.lt_trichotomy k H.length with h1 | h1 | h1
  · left
    rw [List.getElem?_append_left h1] at h
    exact ⟨h1, h⟩
  · right
    subst h1
    simp at h
    exact ⟨rfl, h.symm⟩
  · rw [List.getElem?_append_right (by omega)] at h
    rw [List.getElem?_eq_none (by simp; omega)] at h
    exact absurd h (by simp)
theorem Fr.push {c : Cx} {o : AObj} {β : Option Nat} {w : World} (hos : w.os = c.w.os) (htape : w.tape = c.w.tape) (hout : w.output = c.w.output) (hsize : c.w.heap.size ≤ w.heap.size)
    (hb : ∀ b, b < c.w.heap.size → w.heap[b]? = c.w.heap[b]?) (hβ : ∀ b, β = some b → c.w.heap.size ≤ b) (hlt : ∀ k o b, c.H[k]? = some o → o.live = true → c.ι k = some b → b < c.w.heap.size) : Fr c (c.push o β w) where
  os := hos
  tape := htape
  output := hout
  size := hsize
  keep := fun b hlt hw => ⟨hb b hlt, fun ⟨k, p, hk, hl, hi⟩ => by
    rcases get_push hk with ⟨h1, h2⟩ | ⟨rfl, rfl⟩
    · simp [Cx.push, Nat.ne_of_lt h1] at hi
      exact hw ⟨k, p, h2, hl, hi⟩
    · simp [Cx.push] at hi
      have := hβ b hi
      omega⟩
  len := by simp [Cx.push]
  vec := fun k sz xs hk hx => by
    rcases get_push hx with ⟨h1, h2⟩ | ⟨rfl, _⟩
    · refine ⟨xs, h2, Nat.le_refl _, fun _ => ⟨by simp [Cx.push, Nat.ne_of_lt h1], fun b hb' => ?_⟩⟩
      have := hlt k _ b h2 rfl hb'
      simp only [cellsIn, Cx.push]
      rw [hb b this]
    · omega
  map := fun k es hk hx => by
    rcases get_push hx with ⟨h1, h2⟩ | ⟨rfl, _⟩
    · exact ⟨⟨es, h2⟩, by simp [Cx.push, Nat.ne_of_lt h1]⟩
    · omega
  iter := fun k s p hk hx => by
    rcases get_push hx with ⟨h1, h2⟩ | ⟨rfl, _⟩
    · exact ⟨⟨s, p, h2⟩, by simp [Cx.push, Nat.ne_of_lt h1]⟩
    · omega
theorem RepH.push {c : Cx} {o : AObj} {β : Option Nat} {w : World} (h : RepH c) (hos : w.os = c.w.os) (htape : w.tape = c.w.tape) (hout : w.output = c.w.output) (hsize : c.w.heap.size ≤ w.heap.size)
    (hb : ∀ b, b < c.w.heap.size → w.heap[b]? = c.w.heap[b]?) (hβ : ∀ b, β = some b → c.w.heap.size ≤ b ∧ b < w.heap.size) (ho : RepO (c.push o β w) c.H.length o) : RepH (c.push o β w) where
  glob := h.glob.mono (Fr.push hos htape hout hsize hb (fun b e => (hβ b e).1) h.lt)
  obj := fun k p hk => by
    rcases get_push hk with ⟨h1, h2⟩ | ⟨rfl, rfl⟩
    · refine (h.obj k p h2).mono (Fr.push hos htape hout hsize hb (fun b e => (hβ b e).1) h.lt) (by simp [Cx.push, Nat.ne_of_lt h1]) fun hl b hi => ?_
      exact hb b (h.lt k p b h2 hl hi)
    · exact ho
  lt := fun k p b hk hl hi => by
    rcases get_push hk with ⟨h1, h2⟩ | ⟨rfl, rfl⟩
    · simp [Cx.push, Nat.ne_of_lt h1] at hi
      exact Nat.lt_of_lt_of_le (h.lt k p b h2 hl hi) hsize
    · simp [Cx.push] at hi
      exact (hβ b hi).2
  inj := fun k l p q b hk hl hp hq hi hj => by
    rcases get_push hk with ⟨h1, h2⟩ | ⟨rfl, rfl⟩
    · simp [Cx.push, Nat.ne_of_lt h1] at hi
      rcases get_push hl with ⟨h3, h4⟩ | ⟨rfl, rfl⟩
      · simp [Cx.push, Nat.ne_of_lt h3] at hj
        exact h.inj k l p q b h2 h4 hp hq hi hj
      · simp [Cx.push] at hj
        have := h.lt k p b h2 hp hi
        have := (hβ b hj).1
        omega
    · simp [Cx.push] at hi
      rcases get_push hl with ⟨h3, h4⟩ | ⟨rfl, rfl⟩
      · simp [Cx.push, Nat.ne_of_lt h3] at hj
        have := h.lt l q b h4 hq hj
        have := (hβ b hi).1
        omega
      · rfl
def Cx.upd (c : Cx) (k : Nat) (o : AObj) (β : Option Nat) (w : World) : Cx := ⟨fun j => if j = k then β else c.ι j, c.H.set k o, w⟩
theorem get_upd {H : List AObj} {o p : AObj} {k j : Nat} (h : (H.set k o)[j]? = some p) : (j ≠ k ∧ H[j]? = some p) ∨ (j = k ∧ p = o ∧ k < H.length) := by
  by_cases e : k = j
  · subst e
    have hl : k < H.length := by
      have := (List.getElem?_eq_some_iff.1 h).1
      simpa using this
    right
    rw [List.getElem?_set_self hl] at h
    exact ⟨rfl, (Option.some.inj h).symm, hl⟩
  · left
    rw [List.getElem?_set_ne e] at h
    exact ⟨fun h' => e h'.symm, h⟩
structure Upd (c : Cx) (k : Nat) (o o' : AObj) (β : Option Nat) (w : World) : Prop where
  hk : c.H[k]? = some o
  live : o.live = true
  os : w.os = c.w.os
  tape : w.tape = c.w.tape
  output : w.output = c.w.output
  size : c.w.heap.size ≤ w.heap.size
  hb : ∀ b, b < c.w.heap.size → c.ι k ≠ some b → w.heap[b]? = c.w.heap[b]?
  hβ : β = c.ι k ∨ ∃ b, β = some b ∧ c.w.heap.size ≤ b ∧ b < w.heap.size
  vec : ∀ sz xs', o' = .vec sz xs' → ∃ xs, o = .vec sz xs ∧ xs.length ≤ xs'.length ∧ (xs.length = xs'.length → β = c.ι k ∧ ∀ b, c.ι k = some b → cellsIn w b = cellsIn c.w b)
  map : ∀ es', o' = .map es' → (∃ es, o = .map es) ∧ β = c.ι k
  iter : ∀ s p, o' = .iter s p → (∃ s p, o = .iter s p) ∧ β = c.ι k
theorem Upd.fr {c : Cx} {k : Nat} {o o' : AObj} {β : Option Nat} {w : World} (u : Upd c k o o' β w) (hH : RepH c) : Fr c (c.upd k o' β w) where
  os := u.os
  tape := u.tape
  output := u.output
  size := u.size
  keep := fun b hlt hw => by
    have hne : c.ι k ≠ some b := fun e => hw ⟨k, o, u.hk, u.live, e⟩
    refine ⟨u.hb b hlt hne, fun ⟨j, p, hj, hl, hi⟩ => ?_⟩
    rcases get_upd hj with ⟨h1, h2⟩ | ⟨rfl, rfl, _⟩
    · simp [Cx.upd, h1] at hi
      exact hw ⟨j, p, h2, hl, hi⟩
    · simp [Cx.upd] at hi
      rcases u.hβ with e | ⟨b', e, h1, _⟩
      · exact hne (e ▸ hi)
      · rw [e] at hi
        cases hi
        omega
  len := by simp [Cx.upd]
  vec := fun j sz xs hj hx => by
    rcases get_upd hx with ⟨h1, h2⟩ | ⟨rfl, e, _⟩
    · refine ⟨xs, h2, Nat.le_refl _, fun _ => ⟨by simp [Cx.upd, h1], fun b hi => ?_⟩⟩
      have hlt := hH.lt j _ b h2 rfl hi
      have hne : c.ι k ≠ some b := fun e' => h1 (hH.inj j k _ o b h2 u.hk rfl u.live hi e')
      simp only [cellsIn, Cx.upd]
      rw [u.hb b hlt hne]
    · obtain ⟨ys, hy, h1, h2⟩ := u.vec sz xs e.symm
      refine ⟨ys, hy ▸ u.hk, h1, fun he => ?_⟩
      obtain ⟨e1, e2⟩ := h2 he
      exact ⟨by simp [Cx.upd, e1], e2⟩
  map := fun j es hj hx => by
    rcases get_upd hx with ⟨h1, h2⟩ | ⟨rfl, e, _⟩
    · exact ⟨⟨es, h2⟩, by simp [Cx.upd, h1]⟩
    · obtain ⟨⟨ys, hy⟩, h2⟩ := u.map es e.symm
      exact ⟨⟨ys, hy ▸ u.hk⟩, by simp [Cx.upd, h2]⟩
  iter := fun j s p hj hx => by
    rcases get_upd hx with ⟨h1, h2⟩ | ⟨rfl, e, _⟩
    · exact ⟨⟨s, p, h2⟩, by simp [Cx.upd, h1]⟩
    · obtain ⟨⟨s1, p1, hy⟩, h2⟩ := u.iter s p e.symm
      exact ⟨⟨s1, p1, hy ▸ u.hk⟩, by simp [Cx.upd, h2]⟩
theorem Upd.rep {c : Cx} {k : Nat} {o o' : AObj} {β : Option Nat} {w : World} (u : Upd c k o o' β w) (hH : RepH c) (ho : RepO (c.upd k o' β w) k o') : RepH (c.upd k o' β w) where
  glob := hH.glob.mono (u.fr hH)
  obj := fun j p hj => by
    rcases get_upd hj with ⟨h1, h2⟩ | ⟨rfl, rfl, _⟩
    · refine (hH.obj j p h2).mono (u.fr hH) (by simp [Cx.upd, h1]) fun hl b hi => ?_
      exact u.hb b (hH.lt j p b h2 hl hi) fun e => h1 (hH.inj j k p o b h2 u.hk hl u.live hi e)
    · exact ho
  lt := fun j p b hj hl hi => by
    rcases get_upd hj with ⟨h1, h2⟩ | ⟨rfl, rfl, _⟩
    · simp [Cx.upd, h1] at hi
      exact Nat.lt_of_lt_of_le (hH.lt j p b h2 hl hi) u.size
    · simp [Cx.upd] at hi
      rcases u.hβ with e | ⟨b', e, _, h2⟩
      · exact Nat.lt_of_lt_of_le (hH.lt j o b u.hk u.live (e ▸ hi)) u.size
      · rw [e] at hi
        cases hi
        exact h2
  inj := fun j l p q b hj hl hp hq hi hi' => by
    have old : ∀ m r, m ≠ k → c.H[m]? = some r → r.live = true → c.ι m = some b → β = some b → False := fun m r hm hr hl e1 e2 => by
      rcases u.hβ with e | ⟨b', e, h1, _⟩
      · exact hm (hH.inj m k r o b hr u.hk hl u.live e1 (e ▸ e2))
      · rw [e] at e2
        cases e2
        have := hH.lt m r b hr hl e1
        omega
    rcases get_upd hj with ⟨h1, h2⟩ | ⟨rfl, rfl, _⟩
    · simp [Cx.upd, h1] at hi
      rcases get_upd hl with ⟨h3, h4⟩ | ⟨rfl, rfl, _⟩
      · simp [Cx.upd, h3] at hi'
        exact hH.inj j l p q b h2 h4 hp hq hi hi'
      · simp [Cx.upd] at hi'
        exact (old j p h1 h2 hp hi hi').elim
    · simp [Cx.upd] at hi
      rcases get_upd hl with ⟨h3, h4⟩ | ⟨rfl, rfl, _⟩
      · simp [Cx.upd, h3] at hi'
        exact (old l q h3 h4 hq hi' hi).elim
      · rfl
end Go.Proofs.YtnbdpjhmepgoaaaDoor
namespace Go.Proofs.YtnbdpjhmepgoaaaDoor
open Go.RowKit
inductive Opd where
  | tmp (t : Nat)
  | cst (a : AV)
inductive EqB where
  | i | b | s
inductive EqK where
  | bool
  | cells (ks : List EqB)
  | func           -- function values: against nil
  | other
inductive LenK where
  | str | slice | map
inductive LOp where
  | mv (x : Opd)
  | pick (c a b : Opd)
  | alloc (z : List AV)
  | box (x : Opd)
  | build (z : List AV) (parts : List (Nat × Nat × Opd))
  | bslice (sz : Nat) (z : List AV) (len : Nat) (parts : List (Nat × Opd))
  | load (agg : Bool) (sz : Nat) (a : Opd)
  | store (sz : Nat) (a x : Opd)
  | nilc (x : Opd)
  | bin (op : BinOp) (k : EqK) (x y : Opd)
  | not (x : Opd)
  | neg (x : Opd)
  | toInt (k : IntKind) (x : Opd)
  | toStr (x : Opd)
  | toBytes (x : Opd)
  | mkIface (t : TypeId) (x : Opd)
  | assertT (t : TypeId) (z : AV) (x : Opd)
  | mkFn (f : Fn) (first cap : List Opd)
  | mkMap
  | mkSlice (sz bytes : Nat) (z : List AV) (len cap : Opd)
  | sliceS (x : Opd) (lo hi : Option Opd)
  | slice (sz : Nat) (x : Opd) (lo hi mx : Option Opd)
  | sliceA (len sz : Nat) (x : Opd) (lo hi : Option Opd)
  | faddr (off : Nat) (x : Opd)
  | field (agg : Bool) (sz off : Nat) (x : Opd)
  | iaddrS (sz : Nat) (x i : Opd)
  | iaddrA (len sz : Nat) (x i : Opd)
  | idxA (len : Nat) (agg : Bool) (sz : Nat) (x i : Opd)
  | idxS (x i : Opd)
  | lookup (z : AV) (x k : Opd) (ok : Bool)
  | mapSet (m k v : Opd)
  | range (x : Opd)
  | next (it : Opd)
  | extract (x : Opd) (i : Nat)
  | len (k : LenK) (x : Opd)
  | min (xs : List Opd)
  | max (xs : List Opd)
  | append (sz bytes : Nat) (s x : Opd)
  | appendS (s x : Opd)
  | copy (sz : Nat) (d s : Opd)
  | call (f : Opd) (args : List Opd)
  | bad
def absC : Value → AV
  | .int k n => .int k n
  | .bool b => .bool b
  | .string s => .str s
  | .func f a b => if a.isEmpty && b.isEmpty then .fn f [] [] else .imm (.func f a b)
  | v => .imm v
def absV : Value → AV
  | .agg cs => .agg (cs.toList.map absC)
  | v => absC v
theorem absC_rep (c : Cx) (v : Value) : RepV c (absC v) v := by
  cases v with
  | int k n => exact .int _ _
  | bool b => exact .bool _
  | string s => exact .str _
  | func f a b =>
    simp only [absC]
    split
    · rename_i h
      simp only [Bool.and_eq_true, Array.isEmpty_iff] at h
      obtain ⟨rfl, rfl⟩ := h
      exact .fn _ _ _ _ _ rfl rfl (by simp) (by simp)
    · exact .imm _
  | _ => exact .imm _
theorem absV_rep (c : Cx) (v : Value) : RepV c (absV v) v := by
  cases v with
  | agg cs =>
    refine .agg _ _ (by simp) fun i a ha => ?_
    simp only [List.getElem?_map] at ha
    cases hc : cs.toList[i]? with
    | none => rw [hc] at ha; simp at ha
    | some v =>
      rw [hc] at ha
      simp only [Option.map_some, Option.some.injEq] at ha
      subst ha
      have : cs.getD i undef = v := by
        rw [Array.getElem?_toList] at hc
        simp [hc]
      rw [this]
      exact absC_rep c v
  | _ => (unfold absV; exact absC_rep c _)
section low
variable (P : Program)
def szOf (t : TypeId) : Nat := ((P.info? t).map (·.size)).getD 0
def bytesOf' (t : TypeId) : Nat := ((P.info? t).map (·.bytes)).getD 0
def aggOf (t : TypeId) : Bool := match P.underlying t with | some (.struct _) | some (.array ..) => true | _ => false
def zeroOf (t : TypeId) : Option (List AV) := ((P.info? t).bind (·.zero)).map fun v => v.cells.toList.map absC
def zeroV (t : TypeId) : Option AV := ((P.info? t).bind (·.zero)).map absV
def isU8 (t : TypeId) : Bool := match P.underlying t with | some (.int .u8) => true | _ => false
def basicK (t : TypeId) : Option EqB := match P.underlying t with | some (.int _) => some .i | some .bool => some .b | some .string => some .s | _ => none
def flatF : Nat → List Field → Option (List EqB)
  | _, [] => some []
  | i, f :: fs => if f.offset == i && f.name != "_" then (basicK P f.type).bind fun k => (flatF (i + 1) fs).map fun ks => k :: ks else none
def flatS (t : TypeId) : Option (List EqB) :=
  match P.underlying t with
  | some (.struct fs) => if !P.stoodInHeld t && !P.eqGuardType P.depth t then flatF P 0 fs.toList else none
  | _ => none
def eqk (t : TypeId) : EqK :=
  match P.underlying t with
  | some .bool => .bool
  | some (.func ..) => .func
  | _ => match flatS P t with
    | some n => .cells n
    | none => .other
def lowX : Operand → Opd
  | .tmp t => .tmp t
  | .const v => .cst (absV v)
  | .global g => match GT g with
    | some row => .cst (.lptr row 0)
    | none => .cst (.imm (.pointer (some ⟨g, 0, none⟩)))
  | .func f => .cst (.fn (.func f) [] [])
def lowParts (fs : Array Field) : List (Nat × Operand) → Option (List (Nat × Nat × Opd))
  | [] => some []
  | (i, x) :: r => match fs[i]?, lowParts fs r with
    | some f, some ps => some ((f.offset, szOf P f.type, lowX x) :: ps)
    | _, _ => none
def lowOp (o : Oper) : LOp :=
  match o.op with
  | .move x | .assign x => .mv (lowX x)
  | .pick c a b => .pick (lowX c) (lowX a) (lowX b)
  | .alloc e => match zeroOf P e with | some z => if 0 < z.length then .alloc z else .bad | none => .bad
  | .box _ x => .box (lowX x)
  | .build t parts => match zeroOf P t, P.underlying t with
    | some z, some (.struct fs) =>
      match lowParts P fs parts.toList with
      | some ps => if fs.all (fun f => (P.info? f.type).isSome) then .build z ps else .bad
      | none => .bad
    | some z, some (.array _ e) => if (P.info? e).isSome then .build z (parts.toList.map fun (i, x) => (i * szOf P e, szOf P e, lowX x)) else .bad
    | _, _ => .bad
  | .buildSlice t len parts => match P.underlying t with
    | some (.slice e) => match zeroOf P e with
      | some z => if 0 < z.length && z.length == szOf P e && len * szOf P e ≤ 2 ^ 24 then .bslice (szOf P e) z len (parts.toList.map fun (i, x) => (i, lowX x)) else .bad
      | none => .bad
    | _ => .bad
  | .load t a => if (P.underlying t).isSome then .load (aggOf P t) (szOf P t) (lowX a) else .bad
  | .store t a x => if (P.info? t).isSome then .store (szOf P t) (lowX a) (lowX x) else .bad
  | .nilCheck x => .nilc (lowX x)
  | .binOp op t x y _ => .bin op (eqk P t) (lowX x) (lowX y)
  | .unOp .not _ x => .not (lowX x)
  | .unOp .neg _ x => .neg (lowX x)
  | .convert s d x => match P.underlying s, P.underlying d with
    | some (.int _), some (.int k) => .toInt k (lowX x)
    | some (.slice e), some .string => if isU8 P e then .toStr (lowX x) else .bad
    | some .string, some (.slice e) => if isU8 P e then .toBytes (lowX x) else .bad
    | _, _ => .bad
  | .makeInterface t x => match P.underlying t with
    | some (.interface _) | none => .bad
    | _ => .mkIface t (lowX x)
  | .typeAssert x _ t true => match P.underlying t, zeroV P t with
    | some (.interface _), _ => .bad
    | some _, some z => .assertT t z (lowX x)
    | _, _ => .bad
  | .makeFunc f first cap => .mkFn f (first.toList.map lowX) (cap.toList.map lowX)
  | .makeMap _ none => .mkMap
  | .makeSlice t l c => match P.underlying t with
    | some (.slice e) => match zeroOf P e with
      | some z => if 0 < z.length && z.length == szOf P e then .mkSlice (szOf P e) (bytesOf' P e) z (lowX l) (lowX c) else .bad
      | none => .bad
    | _ => .bad
  | .slice t x lo hi mx => match P.underlying t, mx with
    | some .string, none => .sliceS (lowX x) (lo.map lowX) (hi.map lowX)
    | some (.slice e), mx => if (P.info? e).isSome then .slice (szOf P e) (lowX x) (lo.map lowX) (hi.map lowX) (mx.map lowX) else .bad
    | some (.array n e), none => if (P.info? e).isSome then .sliceA n (szOf P e) (lowX x) (lo.map lowX) (hi.map lowX) else .bad
    | _, _ => .bad
  | .fieldAddr t x i => match P.underlying t with
    | some (.struct fs) => match fs[i]? with
      | some f => if 0 < szOf P f.type then .faddr f.offset (lowX x) else .bad
      | none => .bad
    | _ => .bad
  | .field t x i => match P.underlying t with
    | some (.struct fs) => match fs[i]? with
      | some f => if (P.underlying f.type).isSome then .field (aggOf P f.type) (szOf P f.type) f.offset (lowX x) else .bad
      | none => .bad
    | _ => .bad
  | .indexAddr t x i => match P.underlying t with
    | some (.slice e) => if (P.info? e).isSome then .iaddrS (szOf P e) (lowX x) (lowX i) else .bad
    | some (.array n e) => if (P.info? e).isSome then .iaddrA n (szOf P e) (lowX x) (lowX i) else .bad
    | _ => .bad
  | .index t x i => match P.underlying t with
    | some .string => .idxS (lowX x) (lowX i)
    | some (.array n e) => if (P.underlying e).isSome then .idxA n (aggOf P e) (szOf P e) (lowX x) (lowX i) else .bad
    | _ => .bad
  | .lookup t x k ok => match P.underlying t with
    | some (.map kt et) => match P.underlying kt, zeroV P et with
      | some (.int _), some z => .lookup z (lowX x) (lowX k) ok
      | _, _ => .bad
    | _ => .bad
  | .mapUpdate t m k v | .insert t m k v => match P.underlying t with
    | some (.map kt _) => match P.underlying kt with
      | some (.int _) => .mapSet (lowX m) (lowX k) (lowX v)
      | _ => .bad
    | _ => .bad
  | .range t x => match P.underlying t with
    | some .string => .range (lowX x)
    | _ => .bad
  | .next it true => .next (lowX it)
  | .extract x i => .extract (lowX x) i
  | .call c => match c.callee with
    | .value f => .call (lowX f) (c.args.toList.map lowX)
    | .builtin .len => match (c.argTypes[0]?).bind P.underlying, c.args.toList with
      | some .string, [x] => .len .str (lowX x)
      | some (.slice _), [x] => .len .slice (lowX x)
      | some (.map ..), [x] => .len .map (lowX x)
      | _, _ => .bad
    | .builtin .min => .min (c.args.toList.map lowX)
    | .builtin .max => .max (c.args.toList.map lowX)
    | .builtin .append => match (c.argTypes[0]?).bind P.underlying, (c.argTypes[1]?).bind P.underlying, c.args.toList with
      | some (.slice e), some (.slice _), [s, x] => if 0 < szOf P e && (zeroOf P e).map (·.length) == some (szOf P e) then .append (szOf P e) (bytesOf' P e) (lowX s) (lowX x) else .bad
      | some (.slice e), some .string, [s, x] => if szOf P e == 1 && bytesOf' P e == 1 && isU8 P e && (zeroOf P e).map (·.length) == some 1 then .appendS (lowX s) (lowX x) else .bad
      | _, _, _ => .bad
    | .builtin .copy => match (c.argTypes[0]?).bind P.underlying, (c.argTypes[1]?).bind P.underlying, c.args.toList with
      | some (.slice e), some (.slice _), [d, s] => if szOf P e == 1 then .copy (szOf P e) (lowX d) (lowX s) else .bad
      | _, _, _ => .bad
    | _ => .bad
  | _ => .bad
end low
structure LOper where
  dst : Option Nat
  op : LOp
  guard : Option (Nat × Bool)
def lowOper (P : Program) (ops : Array Oper) (o : Oper) : LOper :=
  match o.guard with
  | none => ⟨o.dst, lowOp P o, none⟩
  | some (j, b) => match (ops[j]?).bind (·.dst) with
    | some t => ⟨o.dst, lowOp P o, some (t, b)⟩
    | none => ⟨o.dst, .bad, none⟩
abbrev Tm := Nat → AV
def ev (t : Tm) : Opd → AV
  | .tmp n => t n
  | .cst a => a
structure RepT (c : Cx) (N : Nat) (t : Tm) (a : Act) : Prop where
  size : a.tmps.size = N
  val : ∀ n, RepV c (t n) (a.tmps.getD n undef)
  defers : a.defers = []
theorem RepT.mono {c c' : Cx} {N : Nat} {t : Tm} {a : Act} (h : RepT c N t a) (hf : Fr c c') : RepT c' N t a := ⟨h.size, fun n => (h.val n).mono hf, h.defers⟩
theorem RepT.eval {c : Cx} {N : Nat} {t : Tm} {a : Act} (h : RepT c N t a) (hg : GlobOk c) (x : Operand) : RepV c (ev t (lowX x)) (a.eval x) := by
  cases x with
  | tmp n => exact h.val n
  | const v => exact absV_rep c v
  | global g =>
    show RepV c (ev t (match GT g with
      | some row => Opd.cst (.lptr row 0)
      | none => Opd.cst (.imm (.pointer (some ⟨g, 0, none⟩))))) (a.eval (.global g))
    cases hr : GT g with
    | some row => exact hg.ptr hr
    | none => exact .imm _
  | func f => exact .fn _ _ _ _ _ rfl rfl (by simp) (by simp)
def Tm.put (t : Tm) (d : Option Nat) (v : AV) : Tm := match d with
  | none => t
  | some d => fun n => if n = d then v else t n
theorem RepT.put {c : Cx} {N : Nat} {t : Tm} {a : Act} (h : RepT c N t a) {d : Option Nat} (hd : ∀ n, d = some n → n < N) {v : AV} {u : Value} (hv : RepV c v u) : RepT c N (t.put d v) (a.put d u) := by
  cases d with
  | none => exact h
  | some d =>
    have hlt := hd d rfl
    refine ⟨by simp [Act.put, h.size], fun n => ?_, h.defers⟩
    by_cases e : n = d
    · subst e
      have : n < a.tmps.size := h.size ▸ hlt
      simp [Tm.put, Act.put, this]
      exact hv
    · simp only [Tm.put, e, if_false, Act.put]
      have := h.val n
      simpa [Array.getElem?_setIfInBounds_ne (Ne.symm e)] using this
end Go.Proofs.YtnbdpjhmepgoaaaDoor
namespace Go.Proofs.YtnbdpjhmepgoaaaDoor
open Go.RowKit
section inv
variable {c : Cx} {v : Value}
theorem RepV.int_inv {k : IntKind} {n : Int} (h : RepV c (.int k n) v) : v = .int k n := by cases h; rfl
theorem RepV.bool_inv {b : Bool} (h : RepV c (.bool b) v) : v = .bool b := by cases h; rfl
theorem RepV.str_inv {s : ByteArray} (h : RepV c (.str s) v) : v = .string s := by cases h; rfl
theorem RepV.imm_inv {u : Value} (h : RepV c (.imm u) v) : v = u := by cases h; rfl
theorem RepV.agg_inv {as : List AV} (h : RepV c (.agg as) v) : ∃ vs : Array Value, v = .agg vs ∧ vs.size = as.length ∧ ∀ (i : Nat) (a : AV), as[i]? = some a → RepV c a (vs.getD i undef) := by
  cases h with | agg _ vs hs hr => exact ⟨vs, rfl, hs, hr⟩
theorem RepV.tup_inv {as : List AV} (h : RepV c (.tup as) v) : ∃ vs : Array Value, v = .tuple vs ∧ vs.size = as.length ∧ ∀ (i : Nat) (a : AV), as[i]? = some a → RepV c a (vs.getD i undef) := by
  cases h with | tup _ vs hs hr => exact ⟨vs, rfl, hs, hr⟩
theorem RepV.fn_inv {f : Fn} {fs gs : List AV} (h : RepV c (.fn f fs gs) v) : ∃ us vs : Array Value, v = .func f us vs ∧ RepVs c fs us ∧ RepVs c gs vs := by
  cases h with | fn _ _ _ us vs h1 h2 h3 h4 => exact ⟨us, vs, rfl, ⟨h1, h3⟩, ⟨h2, h4⟩⟩
theorem RepV.list_inv {xs : List (List AV)} (h : RepV c (.list xs) v) : ∃ A cap, v = .slice A xs.length cap := by
  cases h with
  | list => exact ⟨_, _, rfl⟩
  | lnil A cap => exact ⟨A, cap, rfl⟩
theorem RepV.sl_inv {sz k n off len : Nat} (h : RepV c (.sl sz k n off len) v) : ∃ A cap, v = .slice A len cap := by
  cases h with | sl _ _ _ _ _ A cap => exact ⟨A, cap, rfl⟩
theorem RepV.iface_inv {t : TypeId} {a : AV} (h : RepV c (.iface t a) v) : ∃ u, v = .iface t u ∧ RepV c a u := by
  cases h with | iface _ _ u h => exact ⟨u, rfl, h⟩
end inv
def arith (op : BinOp) (k : IntKind) (a b : Int) : Option AV :=
  match op with
  | .add => some (.int k (k.wrap (a + b)))
  | .sub => some (.int k (k.wrap (a - b)))
  | .mul => some (.int k (k.wrap (a * b)))
  | .quo => if b = 0 then none else some (.int k (k.wrap (a.tdiv b)))
  | .rem => if b = 0 then none else some (.int k (a.tmod b))
  | .and => some (.int k (bits .and k a b))
  | .or => some (.int k (bits .or k a b))
  | .xor => some (.int k (bits .xor k a b))
  | .eql => some (.bool (a == b))
  | .neq => some (.bool (a != b))
  | .lss => some (.bool (decide (a < b)))
  | .leq => some (.bool (decide (a ≤ b)))
  | .gtr => some (.bool (decide (b < a)))
  | .geq => some (.bool (decide (b ≤ a)))
  | _ => none
def eqCell : EqB → AV → AV → Option Bool
  | .i, .int k a, .int k' b => if k = k' then some (a == b) else none
  | .b, .bool a, .bool b => some (a == b)
  | .s, .str a, .str b => some (a == b)
  | _, _, _ => none
def eqCells : List EqB → List AV → List AV → Option Bool
  | [], [], [] => some true
  | k :: ks, a :: as, b :: bs => (eqCell k a b).bind fun x => (eqCells ks as bs).map fun y => x && y
  | _, _, _ => none
def binA (op : BinOp) (q : EqK) : AV → AV → Option AV
  | .int k a, .int k' b =>
    match op with
    | .shl => if b < 0 then none else some (.int k (k.wrap (a * 2 ^ (min b.toNat k.bits))))
    | .shr => if b < 0 then none else some (.int k (a.fdiv (2 ^ (min b.toNat k.bits))))
    | op => if k = k' then arith op k a b else none
  | .str a, .str b =>
    match op with
    | .add => if ((a.size + b.size : Nat) : Int) > IntKind.i64.max then none else some (.str (a ++ b))
    | .eql => some (.bool (a == b))
    | .neq => some (.bool (!(a == b)))
    | _ => none
  | .bool a, .bool b =>
    match op, q with
    | .eql, .bool => some (.bool (a == b))
    | .neq, .bool => some (.bool (!(a == b)))
    | _, _ => none
  | .agg as, .agg bs =>
    match op, q with
    | .eql, .cells ks => (eqCells ks as bs).map .bool
    | .neq, .cells ks => (eqCells ks as bs).map fun x => .bool (!x)
    | _, _ => none
  | .fn .., .imm .nilFunc =>
    match op, q with
    | .eql, .func => some (.bool false)
    | .neq, .func => some (.bool true)
    | _, _ => none
  | .imm .nilFunc, .imm .nilFunc =>
    match op, q with
    | .eql, .func => some (.bool true)
    | .neq, .func => some (.bool false)
    | _, _ => none
  | _, _ => none
theorem eqCell_sound {P : Program} {c : Cx} {t : TypeId} {q : EqB} (ht : basicK P t = some q) {a b : AV} {x y : Value} (hx : RepV c a x) (hy : RepV c b y) {r : Bool} (h : eqCell q a b = some r) (d : Nat) (w : World) :
    (Op.equalIn (d + 1) t x y).run P w = .ok r w := by
  unfold basicK at ht
  unfold eqCell at h
  split at h
  · rename_i k n k' m
    split at h
    · rename_i e
      subst e
      obtain rfl := hx.int_inv
      obtain rfl := hy.int_inv
      split at ht <;> simp at ht
      rename_i k2 hu
      rw [run_equalIn_int w d t k k2 n m hu]
      simp at h
      rw [h]
    · simp at h
  · rename_i p q
    obtain rfl := hx.bool_inv
    obtain rfl := hy.bool_inv
    split at ht <;> simp at ht
    rename_i hu
    rw [run_equalIn_bool' w d t p q hu]
    simp at h
    rw [h]
  · rename_i p q
    obtain rfl := hx.str_inv
    obtain rfl := hy.str_inv
    split at ht <;> simp at ht
    rename_i hu
    rw [run_equalIn_string w d t p q hu, ← beq_toListBytes]
    simp at h
    rw [h]
  · simp at h
theorem basicK_plain {P : Program} {t : TypeId} {q : EqB} (ht : basicK P t = some q) {xs : Array Value} {off : Nat} {v : Value} (hx : xs[off]? = some v) (w : World) : (part t xs off).run P w = .ok v w := by
  unfold basicK at ht
  split at ht <;> simp at ht <;> (rename_i hu; simp [part, isAgg, run_underlying hu, hx])
theorem eqFields_sound {P : Program} {c : Cx} (d : Nat) (xs ys : Array Value) (w : World) : ∀ (fs : List Field) (i : Nat) (ks : List EqB) (as bs : List AV) (r : Bool), flatF P i fs = some ks → eqCells ks as bs = some r →
    (∀ (j : Nat) (a : AV), as[j]? = some a → ∃ v, xs[i + j]? = some v ∧ RepV c a v) → (∀ (j : Nat) (a : AV), bs[j]? = some a → ∃ v, ys[i + j]? = some v ∧ RepV c a v) →
    (Op.eqFields (d + 1) xs ys fs).run P w = .ok r w
  | [], i, ks, as, bs, r, hf, he, _, _ => by
    simp only [flatF, Option.some.injEq] at hf
    subst hf
    cases as <;> cases bs <;> simp [eqCells] at he
    subst he
    simp [Op.eqFields]
  | f :: fs, i, ks, as, bs, r, hf, he, hx, hy => by
    simp only [flatF] at hf
    split at hf
    · rename_i hc
      simp only [Bool.and_eq_true, beq_iff_eq, bne_iff_ne] at hc
      simp only [Option.bind_eq_some_iff, Option.map_eq_some_iff] at hf
      obtain ⟨k, hk, ks', hks, rfl⟩ := hf
      cases as with
      | nil => simp [eqCells] at he
      | cons a as =>
        cases bs with
        | nil => simp [eqCells] at he
        | cons b bs =>
          simp only [eqCells, Option.bind_eq_some_iff, Option.map_eq_some_iff] at he
          obtain ⟨x, hx1, y, hy1, rfl⟩ := he
          obtain ⟨u, hu, ru⟩ := hx 0 a rfl
          obtain ⟨v, hv, rv⟩ := hy 0 b rfl
          rw [Nat.add_zero, ← hc.1] at hu hv
          have ih := eqFields_sound d xs ys w fs (i + 1) ks' as bs y hks hy1 (fun j z hz => by have := hx (j + 1) z (by simpa using hz); rwa [show i + (j + 1) = i + 1 + j by omega] at this)
            (fun j z hz => by have := hy (j + 1) z (by simpa using hz); rwa [show i + (j + 1) = i + 1 + j by omega] at this)
          simp only [Op.eqFields, if_pos hc.2, Sem.run_bind, basicK_plain hk hu, basicK_plain hk hv, Result.andThen_ok, eqCell_sound hk ru rv hx1 d w, Sem.run_ite, Sem.run_pure, ih]
          cases x <;> simp
    · simp at hf
theorem Op_equal_flat {P : Program} {c : Cx} {t : TypeId} {ks : List EqB} (ht : flatS P t = some ks) {as bs : List AV} {x y : Value} (hx : RepV c (.agg as) x) (hy : RepV c (.agg bs) y) {r : Bool} (h : eqCells ks as bs = some r) (w : World) :
    (Op.equal t x y).run P w = .ok r w ∧ ∀ op p q, (eqGuard op t p q x y).run P w = .ok () w := by
  unfold flatS at ht
  split at ht
  · rename_i fs hu
    split at ht
    · rename_i hc
      simp only [Bool.and_eq_true, Bool.not_eq_true'] at hc
      obtain ⟨xs, rfl, hxs, hxr⟩ := hx.agg_inv
      obtain ⟨ys, rfl, hys, hyr⟩ := hy.agg_inv
      have hfo : P.fieldsOf t = fs := by simp [Program.fieldsOf, hu]
      refine ⟨?_, fun op p q => run_eqGuard_agg w op t p q xs ys hc.2⟩
      show (Op.equalIn (9998 + 1 + 1) t (.agg xs) (.agg ys)).run P w = _
      rw [run_equalIn_struct w _ t xs ys (by rw [hfo]; exact hu) hc.1, hfo]
      refine eqFields_sound (c := c) _ xs ys w fs.toList 0 ks as bs r ht h (fun j a ha => ?_) (fun j a ha => ?_)
      · have hl : j < xs.size := by rw [hxs]; exact (List.getElem?_eq_some_iff.1 ha).1
        have := hxr j a ha
        simp only [hl, Array.getD_eq_getD_getElem?, Array.getElem?_eq_getElem, Option.getD_some] at this
        exact ⟨xs[j], by simp [hl], this⟩
      · have hl : j < ys.size := by rw [hys]; exact (List.getElem?_eq_some_iff.1 ha).1
        have := hyr j a ha
        simp only [hl, Array.getD_eq_getD_getElem?, Array.getElem?_eq_getElem, Option.getD_some] at this
        exact ⟨ys[j], by simp [hl], this⟩
    · simp at ht
  · simp at ht
theorem intArith_run (P : Program) (w : World) (t : TypeId) (op : BinOp) (k : IntKind) (a b : Int) (v : AV) (h : arith op k a b = some v) : ∃ u, (∀ c, RepV c v u) ∧ (binOp op t (.int k a) (.int k b)).run P w = .ok u w := by
  cases op <;> simp only [arith] at h
  case quo =>
    split at h
    · simp at h
    · rename_i hb
      simp only [Option.some.injEq] at h
      subst h
      exact ⟨_, fun c => .int _ _, by simp [go_sem, Op.intDiv, hb]⟩
  case rem =>
    split at h
    · simp at h
    · rename_i hb
      simp only [Option.some.injEq] at h
      subst h
      exact ⟨_, fun c => .int _ _, by simp [go_sem, Op.intDiv, hb]⟩
  case and => simp only [Option.some.injEq] at h; subst h; exact ⟨_, fun c => .int _ _, by simp only [go_sem]; rfl⟩
  case or => simp only [Option.some.injEq] at h; subst h; exact ⟨_, fun c => .int _ _, by simp only [go_sem]; rfl⟩
  case xor => simp only [Option.some.injEq] at h; subst h; exact ⟨_, fun c => .int _ _, by simp only [go_sem]; rfl⟩
  all_goals first
    | (simp at h; done)
    | (simp only [Option.some.injEq] at h; subst h; exact ⟨_, fun c => .int _ _, by simp only [go_sem]; rfl⟩)
    | (simp only [Option.some.injEq] at h; subst h; exact ⟨_, fun c => .bool _, by simp only [go_sem]; rfl⟩)
theorem run_equalIn_func (P : Program) (w : World) (d : Nat) (t : TypeId) (f : Fn) (us vs : Array Value) (a b : Array TypeId) (z : Bool) (h : P.underlying t = some (.func a b z)) : (Op.equalIn (d + 1) t (.func f us vs) .nilFunc).run P w = .ok false w := by
  simp [Op.equalIn, run_underlying h]
theorem run_equalIn_func' (P : Program) (w : World) (d : Nat) (t : TypeId) (a b : Array TypeId) (z : Bool) (h : P.underlying t = some (.func a b z)) : (Op.equalIn (d + 1) t .nilFunc .nilFunc).run P w = .ok true w := by
  simp [Op.equalIn, run_underlying h]
theorem binA_sound {P : Program} {c : Cx} {op : BinOp} {t : TypeId} {ax ay v : AV} {x y : Value} (hx : RepV c ax x) (hy : RepV c ay y) (h : binA op (eqk P t) ax ay = some v) :
    ∃ u, RepV c v u ∧ ∀ w p q, (eqGuard op t p q x y).run P w = .ok () w ∧ (binOp op t x y).run P w = .ok u w := by
  unfold binA at h
  split at h
  · rename_i k a k' b
    obtain rfl := hx.int_inv
    obtain rfl := hy.int_inv
    have hg : ∀ w p q, (eqGuard op t p q (.int k a) (.int k' b)).run P w = .ok () w := fun w p q => by cases op <;> rfl
    split at h
    · split at h
      · simp at h
      · rename_i hb
        simp only [Option.some.injEq] at h
        subst h
        exact ⟨_, .int _ _, fun w p q => ⟨hg w p q, by simp [go_sem, Op.shift, hb]⟩⟩
    · split at h
      · simp at h
      · rename_i hb
        simp only [Option.some.injEq] at h
        subst h
        exact ⟨_, .int _ _, fun w p q => ⟨hg w p q, by simp [go_sem, Op.shift, hb]⟩⟩
    · split at h
      · rename_i e
        subst e
        obtain ⟨u, hu, _⟩ := intArith_run P default t op k a b v h
        refine ⟨u, hu c, fun w p q => ⟨hg w p q, ?_⟩⟩
        obtain ⟨u', hu', hr⟩ := intArith_run P w t op k a b v h
        have e1 := hu' c
        have e2 := hu c
        have : u' = u := by
          cases op <;> simp only [arith] at h <;> first
            | (simp at h; done)
            | (split at h <;> first | (simp at h; done) | (simp only [Option.some.injEq] at h; subst h; rw [e1.int_inv, e2.int_inv]))
            | (simp only [Option.some.injEq] at h; subst h; rw [e1.int_inv, e2.int_inv])
            | (simp only [Option.some.injEq] at h; subst h; rw [e1.bool_inv, e2.bool_inv])
        exact this ▸ hr
      · simp at h
  · rename_i a b
    obtain rfl := hx.str_inv
    obtain rfl := hy.str_inv
    have hg : ∀ w p q, (eqGuard op t p q (.string a) (.string b)).run P w = .ok () w := fun w p q => by cases op <;> rfl
    split at h
    · split at h
      · simp at h
      · rename_i hb
        simp only [Option.some.injEq] at h
        subst h
        exact ⟨_, .str _, fun w p q => ⟨hg w p q, by simp only [binOp_string_add, Op.stringOp]; rw [if_neg hb]; rfl⟩⟩
    · simp only [Option.some.injEq] at h
      subst h
      exact ⟨_, .bool _, fun w p q => ⟨hg w p q, by rw [binOp_string_eql, beq_toListBytes]; rfl⟩⟩
    · simp only [Option.some.injEq] at h
      subst h
      exact ⟨_, .bool _, fun w p q => ⟨hg w p q, by rw [binOp_string_neq, beq_toListBytes]; rfl⟩⟩
    · simp at h
  · rename_i a b
    obtain rfl := hx.bool_inv
    obtain rfl := hy.bool_inv
    have hg : ∀ w p q, (eqGuard op t p q (.bool a) (.bool b)).run P w = .ok () w := fun w p q => by cases op <;> rfl
    have hu : eqk P t = .bool → P.underlying t = some .bool := fun he => by
      unfold eqk at he
      split at he
      · assumption
      · simp at he
      · split at he <;> simp at he
    split at h
    · rename_i he
      simp only [Option.some.injEq] at h
      subst h
      refine ⟨_, .bool _, fun w p q => ⟨hg w p q, ?_⟩⟩
      simp only [binOp, Sem.run_bind, Op.equal]
      rw [show Op.maxDepth = 9999 + 1 from rfl, run_equalIn_bool' w _ t a b (hu he)]
      rfl
    · rename_i he
      simp only [Option.some.injEq] at h
      subst h
      refine ⟨_, .bool _, fun w p q => ⟨hg w p q, ?_⟩⟩
      simp only [binOp, Sem.run_bind, Op.equal]
      rw [show Op.maxDepth = 9999 + 1 from rfl, run_equalIn_bool' w _ t a b (hu he)]
      rfl
    · simp at h
  · rename_i as bs
    have hu : ∀ ks, eqk P t = .cells ks → flatS P t = some ks := fun ks he => by
      unfold eqk at he
      split at he
      · simp at he
      · simp at he
      · split at he
        · rename_i h'
          simp only [EqK.cells.injEq] at he
          rw [h', he]
        · simp at he
    split at h
    · rename_i ks he
      simp only [Option.map_eq_some_iff] at h
      obtain ⟨r, hr, rfl⟩ := h
      refine ⟨_, .bool r, fun w p q => ?_⟩
      obtain ⟨h1, h2⟩ := Op_equal_flat (hu ks he) hx hy hr w
      obtain ⟨xs, rfl, _⟩ := hx.agg_inv
      obtain ⟨ys, rfl, _⟩ := hy.agg_inv
      refine ⟨h2 _ _ _, ?_⟩
      simp only [binOp, Sem.run_bind, h1]
      rfl
    · rename_i ks he
      simp only [Option.map_eq_some_iff] at h
      obtain ⟨r, hr, rfl⟩ := h
      refine ⟨_, .bool (!r), fun w p q => ?_⟩
      obtain ⟨h1, h2⟩ := Op_equal_flat (hu ks he) hx hy hr w
      obtain ⟨xs, rfl, _⟩ := hx.agg_inv
      obtain ⟨ys, rfl, _⟩ := hy.agg_inv
      refine ⟨h2 _ _ _, ?_⟩
      simp only [binOp, Sem.run_bind, h1]
      rfl
    · simp at h
  · rename_i f fs gs
    obtain ⟨us, vs, rfl, _⟩ := hx.fn_inv
    obtain rfl := hy.imm_inv
    have hu : eqk P t = .func → ∃ a b c, P.underlying t = some (.func a b c) := fun he => by
      unfold eqk at he
      split at he
      · simp at he
      · exact ⟨_, _, _, by assumption⟩
      · split at he <;> simp at he
    split at h
    · rename_i he
      simp only [Option.some.injEq] at h
      subst h
      obtain ⟨a, b, d, hu⟩ := hu he
      exact ⟨_, .bool _, fun w p q => ⟨rfl, by simp only [binOp, Sem.run_bind, Op.equal]; rw [show Op.maxDepth = 9999 + 1 from rfl, run_equalIn_func P w _ t f us vs a b d hu]; rfl⟩⟩
    · rename_i he
      simp only [Option.some.injEq] at h
      subst h
      obtain ⟨a, b, d, hu⟩ := hu he
      exact ⟨_, .bool _, fun w p q => ⟨rfl, by simp only [binOp, Sem.run_bind, Op.equal]; rw [show Op.maxDepth = 9999 + 1 from rfl, run_equalIn_func P w _ t f us vs a b d hu]; rfl⟩⟩
    · simp at h
  · obtain rfl := hx.imm_inv
    obtain rfl := hy.imm_inv
    have hu : eqk P t = .func → ∃ a b c, P.underlying t = some (.func a b c) := fun he => by
      unfold eqk at he
      split at he
      · simp at he
      · exact ⟨_, _, _, by assumption⟩
      · split at he <;> simp at he
    split at h
    · rename_i he
      simp only [Option.some.injEq] at h
      subst h
      obtain ⟨a, b, d, hu⟩ := hu he
      exact ⟨_, .bool _, fun w p q => ⟨rfl, by simp only [binOp, Sem.run_bind, Op.equal]; rw [show Op.maxDepth = 9999 + 1 from rfl, run_equalIn_func' P w _ t a b d hu]; rfl⟩⟩
    · rename_i he
      simp only [Option.some.injEq] at h
      subst h
      obtain ⟨a, b, d, hu⟩ := hu he
      exact ⟨_, .bool _, fun w p q => ⟨rfl, by simp only [binOp, Sem.run_bind, Op.equal]; rw [show Op.maxDepth = 9999 + 1 from rfl, run_equalIn_func' P w _ t a b d hu]; rfl⟩⟩
    · simp at h
  · simp at h
end Go.Proofs.YtnbdpjhmepgoaaaDoor
namespace Go.Proofs.YtnbdpjhmepgoaaaDoor
open Go.RowKit
def ixA (n : Nat) : AV → Option Nat
  | .int _ i => if 0 ≤ i ∧ i < (n : Int) then some i.toNat else none
  | _ => none
def bdA (n d : Nat) : Option AV → Option Nat
  | none => some d
  | some (.int _ i) => if 0 ≤ i ∧ i ≤ (n : Int) then some i.toNat else none
  | _ => none
def partA (agg : Bool) (sz off : Nat) (row : List AV) : Option AV :=
  if agg then (if off + sz ≤ row.length then some (.agg ((row.drop off).take sz)) else none) else row[off]?
def fillA (e : Opd → AV) : List AV → List (Nat × Nat × Opd) → Option (List AV)
  | z, [] => some z
  | z, (off, sz, x) :: r => match e x with
    | .agg cs => if cs.length = sz ∧ off + sz ≤ z.length then fillA e (z.take off ++ cs ++ z.drop (off + sz)) r else none
    | a => if sz = 1 ∧ a.cell = true ∧ off + 1 ≤ z.length then fillA e (z.take off ++ [a] ++ z.drop (off + 1)) r else none
def foldI (f : Int → Int → Int) : List AV → Option AV
  | [] => none
  | .int k a :: r => r.foldl (fun (acc : Option AV) x => match acc, x with | some (.int k a), .int k' b => if k = k' then some (.int k (f a b)) else none | _, _ => none) (some (.int k a))
  | _ => none
def min2 (x y : Int) : Int := if y < x then y else x
def max2 (x y : Int) : Int := if x < y then y else x
def pureStep (op : LOp) (e : Opd → AV) : Option AV :=
  match op with
  | .mv x => some (e x)
  | .pick c a b => match e c with | .bool t => some (if t then e a else e b) | _ => none
  | .nilc x => match e x with | .ptr .. | .lptr .. | .fn (.func _) .. => some (e x) | _ => none
  | .bin op k x y => binA op k (e x) (e y)
  | .not x => match e x with | .bool b => some (.bool (!b)) | _ => none
  | .neg x => match e x with | .int k n => some (.int k (k.wrap (0 - n))) | _ => none
  | .toInt k x => match e x with | .int _ n => some (.int k (k.wrap n)) | _ => none
  | .mkIface t x => some (.iface t (e x))
  | .assertT t z x => match e x with
    | .iface t' a => if t' = t then some (.tup [a, .bool true]) else some (.tup [z, .bool false])
    | _ => none
  | .mkFn f a b => some (.fn f (a.map e) (b.map e))
  | .sliceS x lo hi => match e x with
    | .str s => (bdA s.size s.size (hi.map e)).bind fun h => (bdA h 0 (lo.map e)).map fun l => .str (s.extract l h)
    | _ => none
  | .slice sz x lo hi none => match e x with
    | .list xs => (bdA xs.length xs.length (hi.map e)).bind fun h => (bdA h 0 (lo.map e)).bind fun l => if xs = [] ∨ (xs.headD []).length = sz then some (.list ((xs.drop l).take (h - l))) else none
    | .sl sz' k n off len => if sz = sz' then (bdA len len (hi.map e)).bind fun h => (bdA h 0 (lo.map e)).map fun l => .sl sz k n (off + l) (h - l) else none
    | _ => none
  | .faddr off x => match e x with
    | .ptr k n i o => some (.ptr k n i (o + off))
    | .lptr row o => some (.lptr row (o + off))
    | _ => none
  | .field agg sz off x => match e x with | .agg cs => partA agg sz off cs | _ => none
  | .iaddrS sz x i => match e x with
    | .list xs => (ixA xs.length (e i)).bind fun j => if (xs.getD j []).length = sz then some (.lptr (xs.getD j []) 0) else none
    | .sl sz' k n off len => if sz = sz' then (ixA len (e i)).map fun j => .ptr k n (off + j) 0 else none
    | _ => none
  | .iaddrA len sz x i => match e x with
    | .ptr k n j o => (ixA len (e i)).map fun i => .ptr k n j (o + i * sz)
    | .lptr row o => (ixA len (e i)).map fun i => .lptr row (o + i * sz)
    | _ => none
  | .idxA len agg sz x i => match e x with
    | .agg cs => (ixA len (e i)).bind fun i => partA agg sz (i * sz) cs
    | _ => none
  | .idxS x i => match e x with
    | .str s => (ixA s.size (e i)).map fun j => .int .u8 ((s.get! j).toNat : Int)
    | _ => none
  | .extract x i => match e x with | .tup vs => vs[i]? | _ => none
  | .len .slice x => match e x with
    | .list xs => some (.int .i64 (xs.length : Int))
    | .sl _ _ _ _ len => some (.int .i64 (len : Int))
    | .imm (.slice none 0 0) => some (.int .i64 0)
    | _ => none
  | .len .str x => match e x with
    | .str s => some (.int .i64 (s.size : Int))
    | _ => none
  | .min xs => foldI min2 (xs.map e)
  | .max xs => foldI max2 (xs.map e)
  | .build z ps => (fillA e z ps).map .agg
  | _ => none
def Gives (P : Program) (ρ : Operand → Value) (o : Oper) (u : Value) : Prop := ∀ w, (execOp ρ o).run P w = .ok (.value u) w
end Go.Proofs.YtnbdpjhmepgoaaaDoor
namespace Go.Proofs.YtnbdpjhmepgoaaaDoor
open Go.RowKit
theorem ixA_spec {n : Nat} {a : AV} {j : Nat} (h : ixA n a = some j) : ∃ k i, a = .int k i ∧ 0 ≤ i ∧ i < (n : Int) ∧ j = i.toNat ∧ j < n := by
  unfold ixA at h
  split at h
  · rename_i k i
    split at h
    · rename_i hc
      simp only [Option.some.injEq] at h
      exact ⟨k, i, rfl, hc.1, hc.2, h.symm, by omega⟩
    · simp at h
  · simp at h
theorem bdA_none {n d l : Nat} (h : bdA n d none = some l) : l = d := by simp [bdA] at h; exact h.symm
theorem bdA_some {n d l : Nat} {a : AV} (h : bdA n d (some a) = some l) : ∃ k i, a = .int k i ∧ 0 ≤ i ∧ i ≤ (n : Int) ∧ l = i.toNat ∧ l ≤ n := by
  unfold bdA at h
  split at h
  · rename_i h'; simp at h'
  · rename_i k i h'
    simp only [Option.some.injEq] at h'
    split at h
    · rename_i hc
      simp only [Option.some.injEq] at h
      exact ⟨k, i, h', hc.1, hc.2, h.symm, by omega⟩
    · simp at h
  · simp at h
theorem add_zero' (b o : Nat) (n : Nat) : (⟨b, o, none⟩ : Addr).add n = ⟨b, o + n, none⟩ := by unfold Addr.add; split <;> simp_all
section
variable {P : Program} {c : Cx} {ρ : Operand → Value} {e : Opd → AV}
theorem run_sizeOf' {t : TypeId} (h : (P.info? t).isSome = true) (w : World) : (sizeOf t).run P w = .ok (szOf P t) w := by
  obtain ⟨i, hi⟩ := Option.isSome_iff_exists.1 h
  simp [sizeOf, typeInfo, hi, szOf]
theorem info_of_und {t : TypeId} (h : (P.underlying t).isSome = true) : (P.info? t).isSome = true := by
  obtain ⟨d, hd⟩ := Option.isSome_iff_exists.1 h
  obtain ⟨i, hi⟩ := info_of_underlying hd
  simp [hi]
theorem info_of_sz {t : TypeId} (h : 0 < szOf P t) : (P.info? t).isSome = true := by
  unfold szOf at h
  cases hi : P.info? t with
  | none => simp [hi] at h
  | some i => rfl
theorem run_isAgg' {t : TypeId} (h : (P.underlying t).isSome = true) (w : World) : (isAgg t).run P w = .ok (aggOf P t) w := by
  obtain ⟨d, hd⟩ := Option.isSome_iff_exists.1 h
  cases d <;> simp [isAgg, run_underlying hd, aggOf, hd]
theorem RepVs_get {as : List AV} {vs : Array Value} (hs : vs.size = as.length) (hr : ∀ (i : Nat) (a : AV), as[i]? = some a → RepV c a (vs.getD i undef)) {i : Nat} {a : AV} (h : as[i]? = some a) : ∃ v, vs[i]? = some v ∧ RepV c a v := by
  have hl : i < vs.size := by rw [hs]; exact (List.getElem?_eq_some_iff.1 h).1
  have := hr i a h
  simp only [hl, Array.getD_eq_getD_getElem?, Array.getElem?_eq_getElem, Option.getD_some] at this
  exact ⟨vs[i], by simp [hl], this⟩
theorem part_sound {t : TypeId} (ht : (P.underlying t).isSome = true) {off : Nat} {row : List AV} {a : AV} {vs : Array Value} (h : partA (aggOf P t) (szOf P t) off row = some a) (hs : vs.size = row.length)
    (hr : ∀ (i : Nat) (a : AV), row[i]? = some a → RepV c a (vs.getD i undef)) : ∃ u, RepV c a u ∧ ∀ w, (part t vs off).run P w = .ok u w := by
  unfold partA at h
  cases hg : aggOf P t with
  | true =>
    rw [hg, if_pos rfl] at h
    split at h
    · rename_i hle
      simp only [Option.some.injEq] at h
      subst h
      refine ⟨.agg (vs.extract off (off + szOf P t)), .agg _ _ ?_ fun i a ha => ?_, fun w => ?_⟩
      · simp only [Array.size_extract, List.length_take, List.length_drop]; omega
      · have hi : i < szOf P t := by
          have := (List.getElem?_eq_some_iff.1 ha).1
          simp at this; omega
        have ha' : row[off + i]? = some a := by
          rw [List.getElem?_take, if_pos hi, List.getElem?_drop] at ha
          exact ha
        have hl : off + i < vs.size := by rw [hs]; exact (List.getElem?_eq_some_iff.1 ha').1
        have := hr (off + i) a ha'
        have e : (vs.extract off (off + szOf P t)).getD i undef = vs.getD (off + i) undef := by
          simp only [Array.getD_eq_getD_getElem?, Array.getElem?_extract]
          rw [if_pos (by omega)]
        rw [e]; exact this
      · simp only [part, Sem.run_bind, run_isAgg' ht, hg, Result.andThen_ok, if_true, run_sizeOf' (info_of_und ht), Sem.run_pure]
    · simp at h
  | false =>
    rw [hg, if_neg (by simp)] at h
    obtain ⟨v, hv, hrep⟩ := RepVs_get hs hr h
    refine ⟨v, hrep, fun w => ?_⟩
    simp only [part, Sem.run_bind, run_isAgg' ht, hg, Result.andThen_ok, Bool.false_eq_true, if_false, hv, Sem.run_pure]
theorem foldI_spec (f : Int → Int → Int) (g : Value → Value → Sem Value) (hg : ∀ k a b w, (g (.int k a) (.int k b)).run P w = .ok (.int k (f a b)) w) :
    ∀ (r : List AV) (rs : List Value) (k : IntKind) (a : Int) (v : AV), rs.length = r.length → (∀ (i : Nat) (x : AV), r[i]? = some x → ∃ y, rs[i]? = some y ∧ RepV c x y) →
      r.foldl (fun (acc : Option AV) x => match acc, x with | some (.int k a), .int k' b => if k = k' then some (.int k (f a b)) else none | _, _ => none) (some (.int k a)) = some v →
      ∃ u, RepV c v u ∧ ∀ w, (rs.foldlM g (.int k a)).run P w = .ok u w
  | [], [], k, a, v, _, _, h => by
    simp only [List.foldl_nil, Option.some.injEq] at h
    subst h
    exact ⟨_, .int k a, fun w => rfl⟩
  | [], _ :: _, k, a, v, hl, _, _ => by simp at hl
  | x :: r, [], k, a, v, hl, _, _ => by simp at hl
  | x :: r, y :: rs, k, a, v, hl, hr, h => by
    have dead : ∀ (r : List AV), r.foldl (fun (acc : Option AV) x => match acc, x with | some (.int k a), .int k' b => if k = k' then some (.int k (f a b)) else none | _, _ => none) none = none := by
      intro r
      induction r with
      | nil => rfl
      | cons z r ih => simpa using ih
    simp only [List.foldl_cons] at h
    obtain ⟨y', hy, hx⟩ := hr 0 x rfl
    simp only [List.getElem?_cons_zero, Option.some.injEq] at hy
    subst hy
    cases x with
    | int k' b =>
      simp only at h
      split at h
      · rename_i e
        subst e
        obtain rfl := hx.int_inv
        obtain ⟨u, hu, hrun⟩ := foldI_spec f g hg r rs k (f a b) v (by simpa using hl) (fun i x hx => by simpa using hr (i + 1) x (by simpa using hx)) h
        exact ⟨u, hu, fun w => by simp only [List.foldlM_cons, Sem.run_bind, hg, Result.andThen_ok, hrun]⟩
      · rw [dead] at h; simp at h
    | _ => simp only at h; rw [dead] at h; simp at h
end
end Go.Proofs.YtnbdpjhmepgoaaaDoor
namespace Go.Proofs.YtnbdpjhmepgoaaaDoor
open Go.RowKit
section
variable {P : Program} {c : Cx} {ρ : Operand → Value} {e : Opd → AV} (hρ : ∀ x, RepV c (e (lowX x)) (ρ x))
include hρ
theorem bd_none {n d : Nat} (z : Option Operand) {l : Nat} (h : bdA n d ((z.map lowX).map e) = some l) :
    (z = none ∧ l = d) ∨ ∃ x k i, z = some x ∧ ρ x = .int k i ∧ 0 ≤ i ∧ i ≤ (n : Int) ∧ l = i.toNat ∧ l ≤ n := by
  cases z with
  | none => exact .inl ⟨rfl, bdA_none h⟩
  | some x =>
    obtain ⟨k, i, h1, h2, h3, h4, h5⟩ := bdA_some h
    have := hρ x
    rw [h1] at this
    exact .inr ⟨x, k, i, rfl, this.int_inv, h2, h3, h4, h5⟩
omit hρ in
theorem run_sliceBound (k : IntKind) (i : Int) (y : Nat) (code : BoundsCode) (h0 : 0 ≤ i) (h1 : i ≤ (y : Int)) (w : World) : (Instr.sliceBound (.int k i) y code).run P w = .ok i.toNat w := by
  simp [Instr.sliceBound, asIntOf, h0, h1]
theorem run_bounds (b : Bool) (len cap : Nat) (hlc : len ≤ cap) (hb : b = false → len = cap) (lo hi : Option Operand) {h l : Nat} (hh : bdA len len ((hi.map lowX).map e) = some h) (hl : bdA h 0 ((lo.map lowX).map e) = some l) :
    l ≤ h ∧ h ≤ len ∧ ∀ w, (Instr.sliceBounds b len cap (lo.map ρ) (hi.map ρ) none).run P w = .ok (l, h, cap) w := by
  have hhl : h ≤ len := by
    rcases bd_none hρ hi hh with ⟨_, e⟩ | ⟨_, _, _, _, _, _, _, _, e⟩ <;> omega
  refine ⟨?_, hhl, fun w => ?_⟩
  · rcases bd_none hρ lo hl with ⟨_, e⟩ | ⟨_, _, _, _, _, _, _, _, e⟩ <;> omega
  · have up : ∀ (k : IntKind) (i : Int) (code : BoundsCode), 0 ≤ i → i ≤ (cap : Int) → (Instr.sliceBound (.int k i) cap code).run P w = .ok i.toNat w := fun k i code h0 h1 => run_sliceBound k i cap code h0 h1 w
    have lo' : ∀ (k : IntKind) (i : Int) (code : BoundsCode), 0 ≤ i → i ≤ (h : Int) → (Instr.sliceBound (.int k i) h code).run P w = .ok i.toNat w := fun k i code h0 h1 => run_sliceBound k i h code h0 h1 w
    rcases bd_none hρ hi hh with ⟨e1, e2⟩ | ⟨x, k, i, e1, e2, h1, h2, h3, h4⟩
    · rcases bd_none hρ lo hl with ⟨f1, f2⟩ | ⟨y, k', i', f1, f2, g1, g2, g3, g4⟩
      · subst e1; subst f1; subst e2; subst f2
        simp [Instr.sliceBounds]
      · subst e1; subst f1; subst e2
        simp [Instr.sliceBounds, f2, lo' k' i' _ g1 g2, g3]
    · rcases bd_none hρ lo hl with ⟨f1, f2⟩ | ⟨y, k', i', f1, f2, g1, g2, g3, g4⟩
      · subst e1; subst f1; subst f2
        simp [Instr.sliceBounds, e2, up k i _ h1 (by omega), h3]
      · subst e1; subst f1
        rw [h3] at lo'
        simp [Instr.sliceBounds, e2, f2, up k i _ h1 (by omega), lo' k' i' _ g1 (by omega), h3, g3]
theorem p_sliceS {o : Oper} {t : TypeId} {x : Operand} {lo hi : Option Operand} (ho : o.op = .slice t x lo hi none) (hu : P.underlying t = some .string) {v : AV} (h : pureStep (.sliceS (lowX x) (lo.map lowX) (hi.map lowX)) e = some v) :
    ∃ u, RepV c v u ∧ Gives P ρ o u := by
  simp only [pureStep] at h
  split at h
  · rename_i s hs
    have hx := hρ x
    rw [hs] at hx
    have hv := hx.str_inv
    simp only [Option.bind_eq_some_iff, Option.map_eq_some_iff] at h
    obtain ⟨hh, h1, l, h2, rfl⟩ := h
    obtain ⟨_, _, hb⟩ := run_bounds (P := P) hρ false s.size s.size (Nat.le_refl _) (fun _ => rfl) lo hi h1 h2
    refine ⟨_, .str _, fun w => ?_⟩
    simp [execOp, ho, Instr.sliceAt, run_underlying hu, Instr.slice, hv, hb]
  · simp at h
theorem p_slice {o : Oper} {t et : TypeId} {x : Operand} {lo hi : Option Operand} (ho : o.op = .slice t x lo hi none) (hu : P.underlying t = some (.slice et)) (hi' : (P.info? et).isSome = true) {v : AV} (h : pureStep (.slice (szOf P et) (lowX x) (lo.map lowX) (hi.map lowX) none) e = some v) :
    ∃ u, RepV c v u ∧ Gives P ρ o u := by
  have run : ∀ (A : Option Addr) (len cap l h : Nat), ρ x = .slice A len cap → (∀ w, (Instr.sliceBounds true len cap (lo.map ρ) (hi.map ρ) none).run P w = .ok (l, h, cap) w) →
      Gives P ρ o (.slice (if cap = l then A else A.map (·.add (l * szOf P et))) (h - l) (cap - l)) := fun A len cap l h hx hb w => by
    simp [execOp, ho, Instr.sliceAt, run_underlying hu, Instr.slice, hx, hb, run_sizeOf' hi']
  simp only [pureStep] at h
  split at h
  · rename_i xs hs
    have hx := hρ x
    rw [hs] at hx
    simp only [Option.bind_eq_some_iff] at h
    obtain ⟨hh, h1, l, h2, h3⟩ := h
    split at h3
    · rename_i hsz
      simp only [Option.some.injEq] at h3
      subst h3
      generalize hv : ρ x = vx at hx
      cases hx with
      | lnil A cap =>
        simp only [List.length_nil] at h1
        obtain ⟨hl1, hl2, hb⟩ := run_bounds (P := P) hρ true 0 cap (Nat.zero_le _) (by simp) lo hi h1 h2
        obtain rfl : l = 0 := by omega
        obtain rfl : hh = 0 := by omega
        exact ⟨_, by simpa using RepV.lnil _ _, run _ _ _ _ _ hv hb⟩
      | list sz xs b off cap cs h0 hn hrow hlen hcap hw hst hc hr =>
        obtain ⟨hl1, hl2, hb⟩ := run_bounds (P := P) hρ true xs.length cap hcap (by simp) lo hi h1 h2
        refine ⟨_, ?_, run _ _ _ _ _ hv hb⟩
        by_cases hz : hh - l = 0
        · rw [hz]
          simpa using RepV.lnil _ _
        · have hne : cap ≠ l := by omega
          have hsz' : szOf P et = sz := by
            rcases hsz with h | h
            · exact absurd h hn
            · cases xs with
              | nil => exact absurd rfl hn
              | cons r rs => simp at h; rw [← h]; exact hrow r (by simp)
          rw [if_neg hne]
          simp only [Option.map_some, add_zero', hsz']
          have hcell : ∀ (i j : Nat) (a : AV), cellAt ((xs.drop l).take (hh - l)) i j = some a → cellAt xs (l + i) j = some a := fun i j a ha => by
            simp only [cellAt, List.getElem?_take] at ha ⊢
            split at ha
            · rwa [List.getElem?_drop] at ha
            · simp at ha
          have hlen' : ((xs.drop l).take (hh - l)).length = hh - l := by simp; omega
          have := RepV.list (c := c) sz ((xs.drop l).take (hh - l)) b (off + l * sz) (cap - l) (fun i j => cs (l + i) j) h0 (by intro h'; rw [h'] at hlen'; simp at hlen'; omega)
            (fun r hr' => hrow r (List.mem_of_mem_drop (List.mem_of_mem_take hr'))) (by omega) (by omega) hw (fun i j a ha => hst _ _ a (hcell i j a ha))
            (fun i j a ha => by rw [← hc _ _ a (hcell i j a ha)]; congr 2; rw [Nat.add_mul]; omega) (fun i j a ha => hr _ _ a (hcell i j a ha))
          rwa [hlen'] at this
    · simp at h3
  · rename_i sz' k n off len hs
    have hx := hρ x
    rw [hs] at hx
    split at h
    · rename_i hsz
      simp only [Option.bind_eq_some_iff, Option.map_eq_some_iff] at h
      obtain ⟨hh, h1, l, h2, rfl⟩ := h
      generalize hv : ρ x = vx at hx
      cases hx with
      | sl _ _ _ _ _ A cap hk hcl hA hn hval =>
        subst hsz
        obtain ⟨hl1, hl2, hb⟩ := run_bounds (P := P) hρ true len cap hcl (by simp) lo hi h1 h2
        refine ⟨_, .sl _ _ _ _ _ _ _ hk (by omega) (fun hp => ?_) hn (fun xs hx hn' => ?_), run _ _ _ _ _ hv hb⟩
        · rw [if_neg (by omega)]
          obtain ⟨b, o', rfl⟩ := hA (by omega)
          exact ⟨b, o' + l * szOf P et, by simp [add_zero']⟩
        · obtain ⟨h3, h4⟩ := hval xs hx hn'
          refine ⟨by omega, ?_⟩
          rcases h4 with ⟨b, hb', rfl, h5⟩ | ⟨h5, h6⟩
          · by_cases hcl' : cap = l
            · right; omega
            · left
              refine ⟨b, hb', ?_, by omega⟩
              rw [if_neg hcl']
              simp only [Option.map_some, add_zero', Option.some.injEq, Addr.mk.injEq, and_true, true_and]
              rw [Nat.add_mul]
          · right; omega
    · simp at h
  · simp at h
end
end Go.Proofs.YtnbdpjhmepgoaaaDoor
namespace Go.Proofs.YtnbdpjhmepgoaaaDoor
open Go.RowKit
section
variable {P : Program} {c : Cx} {ρ : Operand → Value} {e : Opd → AV} (hρ : ∀ x, RepV c (e (lowX x)) (ρ x))
include hρ
theorem p_bin {o : Oper} {op : BinOp} {t yt : TypeId} {x y : Operand} (ho : o.op = .binOp op t x y yt) {v : AV} (h : pureStep (.bin op (eqk P t) (lowX x) (lowX y)) e = some v) : ∃ u, RepV c v u ∧ Gives P ρ o u := by
  obtain ⟨u, hu, hr⟩ := binA_sound (hρ x) (hρ y) h
  refine ⟨u, hu, fun w => ?_⟩
  obtain ⟨h1, h2⟩ := hr w x y
  simp [execOp, ho, h1, h2]
theorem p_faddr {o : Oper} {t : TypeId} {x : Operand} {i : Nat} {fs : Array Field} {f : Field} (ho : o.op = .fieldAddr t x i) (hu : P.underlying t = some (.struct fs)) (hf : fs[i]? = some f) (hs : 0 < szOf P f.type) {v : AV}
    (h : pureStep (.faddr f.offset (lowX x)) e = some v) : ∃ u, RepV c v u ∧ Gives P ρ o u := by
  have run : ∀ b o', ρ x = .pointer (some ⟨b, o', none⟩) → Gives P ρ o (.pointer (some ⟨b, o' + f.offset, none⟩)) := fun b o' hx w => by
    have : szOf P f.type ≠ 0 := by omega
    simp [execOp, ho, Instr.fieldAt, run_underlying hu, hf, Instr.sureAddr, hx, fieldPlace, run_sizeOf' (info_of_sz hs), this, add_zero']
  have hx := hρ x
  generalize hv : ρ x = vx at hx
  simp only [pureStep] at h
  split at h
  · rename_i k n i' o' hs'
    rw [hs'] at hx
    simp only [Option.some.injEq] at h
    subst h
    cases hx with
    | ptr _ _ _ _ b0 o0 hk hn hval =>
      exact ⟨_, .ptr _ _ _ _ b0 (o0 + f.offset) hk hn (fun sz xs hx hn' => by obtain ⟨h1, h2⟩ := hval sz xs hx hn'; exact ⟨h1, by omega⟩), run _ _ hv⟩
  · rename_i row o' hs'
    rw [hs'] at hx
    simp only [Option.some.injEq] at h
    subst h
    cases hx with
    | lptr _ _ b o1 cs h0 hw hst hc hr =>
      exact ⟨_, .lptr row (o' + f.offset) b o1 cs h0 hw hst hc hr, by have := run _ _ hv; rwa [Nat.add_assoc] at this⟩
  · simp at h
theorem p_field {o : Oper} {t : TypeId} {x : Operand} {i : Nat} {fs : Array Field} {f : Field} (ho : o.op = .field t x i) (hu : P.underlying t = some (.struct fs)) (hf : fs[i]? = some f) (hs : (P.underlying f.type).isSome = true) {v : AV}
    (h : pureStep (.field (aggOf P f.type) (szOf P f.type) f.offset (lowX x)) e = some v) : ∃ u, RepV c v u ∧ Gives P ρ o u := by
  have hx := hρ x
  simp only [pureStep] at h
  split at h
  · rename_i cs hcs
    rw [hcs] at hx
    obtain ⟨vs, hv, hl, hr⟩ := hx.agg_inv
    obtain ⟨u, hu', hrun⟩ := part_sound hs h hl hr
    exact ⟨u, hu', fun w => by simp [execOp, ho, Instr.field, run_underlying hu, hf, hv, asAgg, hrun]⟩
  · simp at h
theorem ix_run {n : Nat} {i : Operand} {j : Nat} (h : ixA n (e (lowX i)) = some j) : ∃ k z, ρ i = .int k z ∧ 0 ≤ z ∧ z < (n : Int) ∧ j = z.toNat ∧ j < n := by
  obtain ⟨k, z, h1, h2, h3, h4, h5⟩ := ixA_spec h
  have := hρ i
  rw [h1] at this
  exact ⟨k, z, this.int_inv, h2, h3, h4, h5⟩
theorem p_iaddrS {o : Oper} {t et : TypeId} {x i : Operand} (ho : o.op = .indexAddr t x i) (hu : P.underlying t = some (.slice et)) (hi' : (P.info? et).isSome = true) {v : AV} (h : pureStep (.iaddrS (szOf P et) (lowX x) (lowX i)) e = some v) :
    ∃ u, RepV c v u ∧ Gives P ρ o u := by
  have run : ∀ b o' len cap j, ρ x = .slice (some ⟨b, o', none⟩) len cap → ixA len (e (lowX i)) = some j → Gives P ρ o (.pointer (some ⟨b, o' + j * szOf P et, none⟩)) := fun b o' len cap j hx hj w => by
    obtain ⟨k, z, h1, h2, h3, rfl, _⟩ := ix_run hρ hj
    simp [execOp, ho, Instr.indexAt, h1, asIntOf, run_underlying hu, hx, h2, h3, run_sizeOf' hi', add_zero']
  have hx := hρ x
  generalize hv : ρ x = vx at hx
  simp only [pureStep] at h
  split at h
  · rename_i xs hs
    rw [hs] at hx
    simp only [Option.bind_eq_some_iff] at h
    obtain ⟨j, hj, h⟩ := h
    split at h
    · rename_i hrow
      simp only [Option.some.injEq] at h
      subst h
      have hjl : j < xs.length := by obtain ⟨_, _, _, _, _, _, h⟩ := ixA_spec hj; exact h
      cases hx with
      | lnil A cap => simp at hjl
      | list sz _ b off cap cs h0 hn hrows hlen hcap hw hst hc hr =>
        have hget : xs.getD j [] = xs[j] := by simp [hjl]
        have hsz : szOf P et = sz := by rw [← hrow, hget]; exact hrows _ (List.getElem_mem _)
        have hca : ∀ (i : Nat) (a : AV), (xs.getD j [])[i]? = some a → cellAt xs j i = some a := fun i a ha => by
          rw [hget] at ha
          simp [cellAt, hjl, ha]
        have hr' := RepV.lptr (c := c) (xs.getD j []) 0 b (off + j * sz) (fun i => cs j i) (fun h' => by rw [h', hsz] at hrow; simp at hrow; omega) hw (fun i a ha => hst j i a (hca i a ha))
          (fun i a ha => by rw [← hc j i a (hca i a ha)]; congr 2; omega) (fun i a ha => hr j i a (hca i a ha))
        exact ⟨_, hr', by have := run _ _ _ _ _ hv hj; rw [hsz] at this; simpa using this⟩
    · simp at h
  · rename_i sz' k n off len hs
    rw [hs] at hx
    split at h
    · rename_i hsz
      subst hsz
      simp only [Option.map_eq_some_iff] at h
      obtain ⟨j, hj, rfl⟩ := h
      have hjl : j < len := by obtain ⟨_, _, _, _, _, _, h⟩ := ixA_spec hj; exact h
      cases hx with
      | sl _ _ _ _ _ A cap hk hcl hA hn hval =>
        obtain ⟨b, o', rfl⟩ := hA (by omega)
        refine ⟨_, .ptr _ _ _ _ b (o' + j * szOf P et) hk (fun sz xs hx => (hn sz xs hx).2) (fun sz xs hx hn' => ?_), run _ _ _ _ _ hv hj⟩
        obtain ⟨rfl, _⟩ := hn sz xs hx
        obtain ⟨_, h4⟩ := hval xs hx hn'
        rcases h4 with ⟨b', hb', h5, _⟩ | ⟨h5, _⟩
        · simp only [Option.some.injEq, Addr.mk.injEq, and_true] at h5
          obtain ⟨rfl, rfl⟩ := h5
          exact ⟨hb', by rw [Nat.add_mul, Nat.add_zero]⟩
        · omega
    · simp at h
  · simp at h
theorem p_iaddrA {o : Oper} {t et : TypeId} {len : Nat} {x i : Operand} (ho : o.op = .indexAddr t x i) (hu : P.underlying t = some (.array len et)) (hi' : (P.info? et).isSome = true) {v : AV} (h : pureStep (.iaddrA len (szOf P et) (lowX x) (lowX i)) e = some v) :
    ∃ u, RepV c v u ∧ Gives P ρ o u := by
  have run : ∀ b o' j, ρ x = .pointer (some ⟨b, o', none⟩) → ixA len (e (lowX i)) = some j → Gives P ρ o (.pointer (some ⟨b, o' + j * szOf P et, none⟩)) := fun b o' j hx hj w => by
    obtain ⟨k, z, h1, h2, h3, rfl, _⟩ := ix_run hρ hj
    simp [execOp, ho, Instr.indexAt, h1, asIntOf, run_underlying hu, hx, h2, h3, run_sizeOf' hi', add_zero', Instr.sureAddr]
  have hx := hρ x
  generalize hv : ρ x = vx at hx
  simp only [pureStep] at h
  split at h
  · rename_i k n i' o' hs'
    rw [hs'] at hx
    simp only [Option.map_eq_some_iff] at h
    obtain ⟨j, hj, rfl⟩ := h
    cases hx with
    | ptr _ _ _ _ b0 o0 hk hn hval =>
      exact ⟨_, .ptr _ _ _ _ b0 (o0 + j * szOf P et) hk hn (fun sz xs hx hn' => by obtain ⟨h1, h2⟩ := hval sz xs hx hn'; exact ⟨h1, by omega⟩), run _ _ _ hv hj⟩
  · rename_i row o' hs'
    rw [hs'] at hx
    simp only [Option.map_eq_some_iff] at h
    obtain ⟨j, hj, rfl⟩ := h
    cases hx with
    | lptr _ _ b o1 cs h0 hw hst hc hr =>
      exact ⟨_, .lptr row (o' + j * szOf P et) b o1 cs h0 hw hst hc hr, by have := run _ _ _ hv hj; rwa [Nat.add_assoc] at this⟩
  · simp at h
theorem p_idxA {o : Oper} {t et : TypeId} {len : Nat} {x i : Operand} (ho : o.op = .index t x i) (hu : P.underlying t = some (.array len et)) (hi' : (P.underlying et).isSome = true) {v : AV} (h : pureStep (.idxA len (aggOf P et) (szOf P et) (lowX x) (lowX i)) e = some v) :
    ∃ u, RepV c v u ∧ Gives P ρ o u := by
  have hx := hρ x
  simp only [pureStep] at h
  split at h
  · rename_i cs hcs
    rw [hcs] at hx
    simp only [Option.bind_eq_some_iff] at h
    obtain ⟨j, hj, h⟩ := h
    obtain ⟨k, z, h1, h2, h3, rfl, _⟩ := ix_run hρ hj
    obtain ⟨vs, hv, hl, hr⟩ := hx.agg_inv
    obtain ⟨u, hu', hrun⟩ := part_sound hi' h hl hr
    exact ⟨u, hu', fun w => by simp [execOp, ho, Instr.index, h1, asIntOf, run_underlying hu, hv, h2, h3, run_sizeOf' (info_of_und hi'), hrun]⟩
  · simp at h
theorem p_idxS {o : Oper} {t : TypeId} {x i : Operand} (ho : o.op = .index t x i) (hu : P.underlying t = some .string) {v : AV} (h : pureStep (.idxS (lowX x) (lowX i)) e = some v) : ∃ u, RepV c v u ∧ Gives P ρ o u := by
  have hx := hρ x
  simp only [pureStep] at h
  split at h
  · rename_i s hs
    rw [hs] at hx
    simp only [Option.map_eq_some_iff] at h
    obtain ⟨j, hj, rfl⟩ := h
    obtain ⟨k, z, h1, h2, h3, rfl, h5⟩ := ix_run hρ hj
    have hv := hx.str_inv
    refine ⟨_, .int _ _, fun w => ?_⟩
    have hg : s[z.toNat]? = some (s.get! z.toNat) := by
      have : s.get! z.toNat = s[z.toNat] := by
        have hlt : z.toNat < s.data.size := h5
        show s.data[z.toNat]! = s.data[z.toNat]
        exact getElem!_pos s.data z.toNat hlt
      simp [h5, this]
    simp [execOp, ho, Instr.index, h1, asIntOf, run_underlying hu, hv, h2, hg]
  · simp at h
omit hρ in
theorem len_run {o : Oper} {cl : Call} {x : Operand} (ho : o.op = .call cl) (hc : cl.callee = .builtin .len) (ha : cl.args = #[x]) (n : Nat) (hr : ∀ w, (Builtin.len_ cl.argTypes o.type #[ρ x]).run P w = .ok (goInt n) w) : Gives P ρ o (.int .i64 n) := fun w => by
  simp [execOp, ho, resolve, hc, ha, invoke, builtin, hr, goInt]
theorem p_lenS {o : Oper} {cl : Call} {x : Operand} {et : TypeId} (ho : o.op = .call cl) (hc : cl.callee = .builtin .len) (ha : cl.args = #[x]) (ht : (cl.argTypes[0]?).bind P.underlying = some (.slice et)) {v : AV}
    (h : pureStep (.len .slice (lowX x)) e = some v) : ∃ u, RepV c v u ∧ Gives P ρ o u := by
  have hx := hρ x
  obtain ⟨t, ht1, ht2⟩ := Option.bind_eq_some_iff.1 ht
  simp only [pureStep] at h
  split at h
  · rename_i xs hs
    rw [hs] at hx
    simp only [Option.some.injEq] at h
    subst h
    obtain ⟨A, cap, hv⟩ := hx.list_inv
    exact ⟨_, .int _ _, len_run ho hc ha _ fun w => by simp [Builtin.len_, ht1, run_underlying ht2, hv]⟩
  · rename_i sz k n off len hs
    rw [hs] at hx
    simp only [Option.some.injEq] at h
    subst h
    obtain ⟨A, cap, hv⟩ := hx.sl_inv
    exact ⟨_, .int _ _, len_run ho hc ha _ fun w => by simp [Builtin.len_, ht1, run_underlying ht2, hv]⟩
  · rename_i hs
    rw [hs] at hx
    simp only [Option.some.injEq] at h
    subst h
    have hv := hx.imm_inv
    exact ⟨_, .int _ _, len_run (n := 0) ho hc ha fun w => by simp [Builtin.len_, ht1, run_underlying ht2, hv]⟩
  · simp at h
theorem p_lenT {o : Oper} {cl : Call} {x : Operand} (ho : o.op = .call cl) (hc : cl.callee = .builtin .len) (ha : cl.args = #[x]) (ht : (cl.argTypes[0]?).bind P.underlying = some .string) {v : AV}
    (h : pureStep (.len .str (lowX x)) e = some v) : ∃ u, RepV c v u ∧ Gives P ρ o u := by
  have hx := hρ x
  obtain ⟨t, ht1, ht2⟩ := Option.bind_eq_some_iff.1 ht
  simp only [pureStep] at h
  split at h
  · rename_i s hs
    rw [hs] at hx
    simp only [Option.some.injEq] at h
    subst h
    have hv := hx.str_inv
    exact ⟨_, .int _ _, len_run ho hc ha _ fun w => by simp [Builtin.len_, ht1, run_underlying ht2, hv]⟩
  · simp at h
theorem foldI_all {xs : Array Operand} (f : Int → Int → Int) (g : Value → Value → Sem Value) (hg : ∀ k a b w, (g (.int k a) (.int k b)).run P w = .ok (.int k (f a b)) w) {v : AV} (h : foldI f ((xs.toList.map lowX).map e) = some v) :
    ∃ u y ys, (xs.map ρ).toList = y :: ys ∧ RepV c v u ∧ ∀ w, (ys.foldlM g y).run P w = .ok u w := by
  have hl : (xs.map ρ).toList = xs.toList.map ρ := by simp
  rw [hl]
  generalize xs.toList = l at h
  cases l with
  | nil => simp [foldI] at h
  | cons x r =>
    simp only [List.map_cons] at h
    have hx := hρ x
    unfold foldI at h
    split at h
    · rename_i heq; simp at heq
    · rename_i k a r' heq
      simp only [List.cons.injEq] at heq
      obtain ⟨h1, rfl⟩ := heq
      rw [h1] at hx
      have hv := hx.int_inv
      obtain ⟨u, hu, hrun⟩ := foldI_spec (P := P) (c := c) f g hg ((r.map lowX).map e) (r.map ρ) k a v (by simp) (fun i z hz => by
        simp only [List.map_map, List.getElem?_map, Option.map_eq_some_iff] at hz ⊢
        obtain ⟨y, hy, rfl⟩ := hz
        exact ⟨_, ⟨y, hy, rfl⟩, hρ y⟩) h
      exact ⟨u, ρ x, r.map ρ, rfl, hu, fun w => by rw [hv]; exact hrun w⟩
    · simp at h
theorem p_min {o : Oper} {cl : Call} (ho : o.op = .call cl) (hc : cl.callee = .builtin .min) {v : AV} (h : pureStep (.min (cl.args.toList.map lowX)) e = some v) : ∃ u, RepV c v u ∧ Gives P ρ o u := by
  obtain ⟨u, y, ys, h1, hu, hr⟩ := foldI_all (P := P) hρ min2 Builtin.min2 (fun k a b w => by simp [Builtin.min2, min2]) h
  refine ⟨u, hu, fun w => ?_⟩
  have e1 : cl.args.map ρ = (y :: ys).toArray := by rw [← h1]
  simp [execOp, ho, resolve, hc, invoke, builtin, Builtin.min_, e1, hr]
theorem p_max {o : Oper} {cl : Call} (ho : o.op = .call cl) (hc : cl.callee = .builtin .max) {v : AV} (h : pureStep (.max (cl.args.toList.map lowX)) e = some v) : ∃ u, RepV c v u ∧ Gives P ρ o u := by
  obtain ⟨u, y, ys, h1, hu, hr⟩ := foldI_all (P := P) hρ max2 Builtin.max2 (fun k a b w => by simp [Builtin.max2, max2]) h
  refine ⟨u, hu, fun w => ?_⟩
  have e1 : cl.args.map ρ = (y :: ys).toArray := by rw [← h1]
  simp [execOp, ho, resolve, hc, invoke, builtin, Builtin.max_, e1, hr]
theorem RepVs_map (xs : Array Operand) : RepVs c ((xs.toList.map lowX).map e) (xs.map ρ) := by
  refine ⟨by simp, fun i a ha => ?_⟩
  simp only [List.map_map, List.getElem?_map, Option.map_eq_some_iff] at ha
  obtain ⟨x, hx, rfl⟩ := ha
  have : (xs.map ρ).getD i undef = ρ x := by
    rw [Array.getElem?_toList] at hx
    simp [hx]
  rw [this]
  exact hρ x
theorem p_mkFn {o : Oper} {f : Fn} {a b : Array Operand} (ho : o.op = .makeFunc f a b) {v : AV} (h : pureStep (.mkFn f (a.toList.map lowX) (b.toList.map lowX)) e = some v) : ∃ u, RepV c v u ∧ Gives P ρ o u := by
  simp only [pureStep, Option.some.injEq] at h
  subst h
  obtain ⟨h1, h2⟩ := RepVs_map hρ a
  obtain ⟨h3, h4⟩ := RepVs_map hρ b
  exact ⟨_, .fn _ _ _ _ _ h1 h3 h2 h4, fun w => by simp [execOp, ho, Instr.makeFunc]⟩
end
end Go.Proofs.YtnbdpjhmepgoaaaDoor
namespace Go.Proofs.YtnbdpjhmepgoaaaDoor
open Go.RowKit
theorem foldl_putAll (l : List Value) : ∀ (k off : Nat) (cells : Array Value), (l.zipIdx k).foldl (fun (cs : Array Value) (p : Value × Nat) => cs.setIfInBounds (off + p.2) p.1) cells = putAll cells (off + k) l := by
  induction l with
  | nil => intro k off cells; rfl
  | cons v r ih =>
    intro k off cells
    simp only [List.zipIdx_cons, List.foldl_cons, putAll]
    rw [ih]
    rfl
theorem fill_step (cs : Array Value) (off : Nat) (v : Value) : v.cells.zipIdx.foldl (fun (cs : Array Value) (x : Value × Nat) => match x with | (c, j) => cs.setIfInBounds (off + j) c) cs = putAll cs off v.cells.toList := by
  have := foldl_putAll v.cells.toList 0 off cs
  rw [Nat.add_zero] at this
  rw [← this, ← Array.foldl_toList]
  simp only [Array.toList_zipIdx]
section
variable {P : Program} {c : Cx} {ρ : Operand → Value} {e : Opd → AV} (hρ : ∀ x, RepV c (e (lowX x)) (ρ x))
theorem RepVs_put {z as : List AV} {cells : Array Value} {vs : List Value} {off : Nat} (hz : RepVs c z cells) (hl : vs.length = as.length) (hr : ∀ (i : Nat) (a : AV), as[i]? = some a → RepV c a (vs.getD i undef)) (ho : off + as.length ≤ z.length) :
    RepVs c (z.take off ++ as ++ z.drop (off + as.length)) (putAll cells off vs) := by
  have hzl := hz.1
  refine ⟨by rw [putAll_size]; simp; omega, fun i a ha => ?_⟩
  by_cases h1 : i < off
  · rw [putAll_out _ _ _ _ (.inl h1)]
    refine hz.2 i a ?_
    rw [List.append_assoc, List.getElem?_append_left (by simp; omega), List.getElem?_take, if_pos h1] at ha
    exact ha
  · by_cases h2 : i < off + as.length
    · obtain ⟨j, rfl⟩ : ∃ j, i = off + j := ⟨i - off, by omega⟩
      rw [putAll_in _ _ _ _ (by omega) (by omega)]
      refine hr j a ?_
      rw [List.append_assoc, List.getElem?_append_right (by simp; omega), List.getElem?_append_left (by simp; omega)] at ha
      have : off + j - (z.take off).length = j := by simp; omega
      rwa [this] at ha
    · rw [putAll_out _ _ _ _ (.inr (by omega))]
      refine hz.2 i a ?_
      rw [List.getElem?_append_right (by simp; omega), List.getElem?_drop] at ha
      have : off + as.length + (i - (z.take off ++ as).length) = i := by simp; omega
      rwa [this] at ha
theorem RepV.cells_one {a : AV} {v : Value} (h : RepV c a v) (hc : a.cell = true) : v.cells = #[v] := by
  have := h.one hc
  cases v <;> first | rfl | simp [Value.oneCell'] at this
include hρ in
theorem fill_sound (place : Nat → Option (Nat × Nat)) : ∀ (parts : List (Nat × Operand)) (ps : List (Nat × Nat × Opd)) (z r : List AV) (cells : Array Value), ps.length = parts.length →
    (∀ (j i : Nat) (x : Operand), parts[j]? = some (i, x) → ∃ off sz, ps[j]? = some (off, sz, lowX x) ∧ place i = some (off, sz)) →
    RepVs c z cells → fillA e z ps = some r → ∃ out, Instr.fill place cells (parts.map fun p => (p.1, ρ p.2)) = some out ∧ RepVs c r out
  | [], [], z, r, cells, _, _, hz, h => by
    simp only [fillA, Option.some.injEq] at h
    subst h
    exact ⟨cells, rfl, hz⟩
  | [], _ :: _, z, r, cells, hl, _, _, _ => by simp at hl
  | _ :: _, [], z, r, cells, hl, _, _, _ => by simp at hl
  | (i, x) :: parts, p :: ps, z, r, cells, hl, hp, hz, h => by
    obtain ⟨off, sz, h1, h2⟩ := hp 0 i x rfl
    simp only [List.getElem?_cons_zero, Option.some.injEq] at h1
    subst h1
    have hx := hρ x
    have rest : ∀ (z' : List AV) (vs : List Value) (as : List AV), (ρ x).cells.toList = vs → vs.length = as.length → as.length = sz → off + sz ≤ z.length → (∀ (i : Nat) (a : AV), as[i]? = some a → RepV c a (vs.getD i undef)) →
        z' = z.take off ++ as ++ z.drop (off + sz) → fillA e z' ps = some r → ∃ out, Instr.fill place cells (((i, x) :: parts).map fun p => (p.1, ρ p.2)) = some out ∧ RepVs c r out := fun z' vs as hv hvl hal hle hr hz' hf => by
      subst hal
      have hz2 := RepVs_put hz hvl hr hle
      rw [← hz'] at hz2
      obtain ⟨out, ho, hr'⟩ := fill_sound place parts ps z' r (putAll cells off vs) (by simpa using hl) (fun j i x hj => by simpa using hp (j + 1) i x (by simpa using hj)) hz2 hf
      refine ⟨out, ?_, hr'⟩
      have hsz : (ρ x).cells.size = as.length := by rw [← hvl, ← hv]; simp
      simp only [List.map_cons, Instr.fill, h2]
      rw [if_neg (by rw [hsz, hz.1]; simp; omega), fill_step, hv]
      exact ho
    simp only [fillA] at h
    split at h
    · rename_i cs hcs
      rw [hcs] at hx
      split at h
      · rename_i hc
        obtain ⟨vs, hv, hs, hr⟩ := hx.agg_inv
        refine rest _ vs.toList cs (by rw [hv]; rfl) (by simpa using hs) hc.1 hc.2 (fun i a ha => ?_) rfl h
        have := hr i a ha
        simpa using this
      · simp at h
    · split at h
      · rename_i a _ hc
        obtain ⟨rfl, h3, h4⟩ := hc
        refine rest _ [ρ x] [e (lowX x)] (by rw [hx.cells_one h3]) rfl rfl h4 (fun i a ha => ?_) rfl h
        cases i with
        | zero => simp at ha; subst ha; exact hx
        | succ i => simp at ha
      · simp at h
theorem zero_rep (c : Cx) {t : TypeId} {z : List AV} (h : zeroOf P t = some z) : ∃ v, (∀ w, (zeroValue t).run P w = .ok v w) ∧ RepVs c z v.cells ∧ (P.info? t).isSome = true := by
  simp only [zeroOf, Option.map_eq_some_iff, Option.bind_eq_some_iff] at h
  obtain ⟨v, ⟨i, hi, hz⟩, rfl⟩ := h
  refine ⟨v, fun w => by simp [zeroValue, typeInfo, hi, hz], ⟨by simp, fun j a ha => ?_⟩, by simp [hi]⟩
  simp only [List.getElem?_map, Option.map_eq_some_iff] at ha
  obtain ⟨u, hu, rfl⟩ := ha
  rw [Array.getElem?_toList] at hu
  simp only [Array.getD_eq_getD_getElem?, hu, Option.getD_some]
  exact absC_rep c u
theorem lowParts_get (fs : Array Field) : ∀ (l : List (Nat × Operand)) (ps : List (Nat × Nat × Opd)), lowParts P fs l = some ps → ps.length = l.length ∧
    ∀ (j i : Nat) (x : Operand), l[j]? = some (i, x) → ∃ f, fs[i]? = some f ∧ ps[j]? = some (f.offset, szOf P f.type, lowX x)
  | [], ps, h => by
    simp only [lowParts, Option.some.injEq] at h
    subst h
    exact ⟨rfl, fun j i x hj => by simp at hj⟩
  | (i, x) :: r, ps, h => by
    simp only [lowParts] at h
    split at h
    · rename_i f ps' hf hps
      simp only [Option.some.injEq] at h
      subst h
      obtain ⟨h1, h2⟩ := lowParts_get fs r ps' hps
      refine ⟨by simp [h1], fun j i' x' hj => ?_⟩
      cases j with
      | zero =>
        simp only [List.getElem?_cons_zero, Option.some.injEq, Prod.mk.injEq] at hj
        obtain ⟨rfl, rfl⟩ := hj
        exact ⟨f, hf, rfl⟩
      | succ j => simpa using h2 j i' x' (by simpa using hj)
    · simp at h
include hρ in
theorem p_buildS {o : Oper} {t : TypeId} {parts : Array (Nat × Operand)} {fs : Array Field} {z : List AV} {ps : List (Nat × Nat × Opd)} (ho : o.op = .build t parts) (hu : P.underlying t = some (.struct fs)) (hz : zeroOf P t = some z)
    (hps : lowParts P fs parts.toList = some ps) (hfs : fs.all (fun f => (P.info? f.type).isSome) = true) {v : AV} (h : pureStep (.build z ps) e = some v) : ∃ u, RepV c v u ∧ Gives P ρ o u := by
  simp only [pureStep, Option.map_eq_some_iff] at h
  obtain ⟨r, hr, rfl⟩ := h
  obtain ⟨zv, hzr, hzz, _⟩ := zero_rep (P := P) c hz
  have hmap : ∀ w, (fs.mapM fun f => do pure (f.offset, ← sizeOf f.type) : Sem (Array (Nat × Nat))).run P w = .ok (fs.map fun f => (f.offset, szOf P f.type)) w := by
    intro w
    obtain ⟨l⟩ := fs
    simp only [List.mapM_toArray, Sem.run_map]
    have : ∀ (l : List Field) (w : World), (∀ f ∈ l, (P.info? f.type).isSome = true) → (l.mapM fun f => do pure (f.offset, ← sizeOf f.type) : Sem (List (Nat × Nat))).run P w = .ok (l.map fun f => (f.offset, szOf P f.type)) w := by
      intro l
      induction l with
      | nil => intro w _; rfl
      | cons f l ih =>
        intro w hl
        simp only [List.mapM_cons, Sem.run_bind, run_sizeOf' (hl f (by simp)), Result.andThen_ok, Sem.run_pure, ih w (fun g hg => hl g (by simp [hg])), List.map_cons]
    rw [this l w (by simpa using hfs)]
    simp [Result.andThen]
  obtain ⟨hl, hg⟩ := lowParts_get fs parts.toList ps hps
  obtain ⟨out, hout, hrep⟩ := fill_sound (c := c) hρ (fun i => (fs.map fun f => (f.offset, szOf P f.type))[i]?) parts.toList ps z r zv.cells hl (fun j i x hj => by
      obtain ⟨f, hf, hp⟩ := hg j i x hj
      exact ⟨_, _, hp, by simp [hf]⟩) hzz hr
  refine ⟨_, .agg _ _ hrep.1 hrep.2, fun w => ?_⟩
  have e1 : (parts.map fun (x : Nat × Operand) => match x with | (i, x) => (i, ρ x)).toList = parts.toList.map fun p => (p.1, ρ p.2) := by simp
  simp only [execOp, ho, Instr.build, Sem.run_bind, hzr, Result.andThen_ok, run_underlying hu, hmap, e1, hout, Sem.run_pure]
include hρ in
theorem p_buildA {o : Oper} {t et : TypeId} {n : Nat} {parts : Array (Nat × Operand)} {z : List AV} (ho : o.op = .build t parts) (hu : P.underlying t = some (.array n et)) (hz : zeroOf P t = some z)
    (hi : (P.info? et).isSome = true) {v : AV} (h : pureStep (.build z (parts.toList.map fun (x : Nat × Operand) => match x with | (i, x) => (i * szOf P et, szOf P et, lowX x))) e = some v) : ∃ u, RepV c v u ∧ Gives P ρ o u := by
  simp only [pureStep, Option.map_eq_some_iff] at h
  obtain ⟨r, hr, rfl⟩ := h
  obtain ⟨zv, hzr, hzz, _⟩ := zero_rep (P := P) c hz
  obtain ⟨out, hout, hrep⟩ := fill_sound (c := c) hρ (fun i => some (i * szOf P et, szOf P et)) parts.toList _ z r zv.cells (by simp) (fun j i x hj => ⟨_, _, by simp [hj], rfl⟩) hzz hr
  refine ⟨_, .agg _ _ hrep.1 hrep.2, fun w => ?_⟩
  have e1 : (parts.map fun (x : Nat × Operand) => match x with | (i, x) => (i, ρ x)).toList = parts.toList.map fun p => (p.1, ρ p.2) := by simp
  simp only [execOp, ho, Instr.build, Sem.run_bind, hzr, Result.andThen_ok, run_underlying hu, run_sizeOf' hi, e1, hout, Sem.run_pure]
end
end Go.Proofs.YtnbdpjhmepgoaaaDoor
namespace Go.Proofs.YtnbdpjhmepgoaaaDoor
open Go.RowKit
theorem zeroV_rep0 {P : Program} {t : TypeId} {z : AV} (h : zeroV P t = some z) (c : Cx) : ∃ v, (∀ w, (zeroValue t).run P w = .ok v w) ∧ RepV c z v := by
  simp only [zeroV, Option.map_eq_some_iff, Option.bind_eq_some_iff] at h
  obtain ⟨v, ⟨i, hi, hz⟩, rfl⟩ := h
  exact ⟨v, fun w => by simp [zeroValue, typeInfo, hi, hz], absV_rep c v⟩
theorem RepV.pair {c : Cx} {a b : AV} {u v : Value} (h1 : RepV c a u) (h2 : RepV c b v) : RepV c (.tup [a, b]) (.tuple #[u, v]) := by
  refine .tup _ _ rfl fun i x hx => ?_
  match i with
  | 0 => simp at hx; subst hx; exact h1
  | 1 => simp at hx; subst hx; exact h2
  | i + 2 => simp at hx
theorem p_assert {P : Program} {c : Cx} {ρ : Operand → Value} {e : Opd → AV} (hρ : ∀ x, RepV c (e (lowX x)) (ρ x)) {o : Oper} {v : AV} {x : Operand} {xt t : TypeId} {z : AV} {d : TypeDesc} (ho : o.op = .typeAssert x xt t true)
    (hi : ∀ ms, d ≠ .interface ms) (hu : P.underlying t = some d) (hz : zeroV P t = some z) (h : pureStep (.assertT t z (lowX x)) e = some v) : ∃ u, RepV c v u ∧ Gives P ρ o u := by
  simp only [pureStep] at h
  split at h
  · rename_i t' a hb
    have hx := hρ x
    rw [hb] at hx
    obtain ⟨u, hu1, hu2⟩ := hx.iface_inv
    split at h
    · rename_i e
      subst e
      simp only [Option.some.injEq] at h
      subst h
      refine ⟨_, hu2.pair (.bool true), fun w => ?_⟩
      cases d with
      | interface ms => exact absurd rfl (hi ms)
      | _ => simp [execOp, ho, Instr.typeAssert, run_underlying hu, hu1]
    · rename_i ne
      simp only [Option.some.injEq] at h
      subst h
      obtain ⟨zv, hz1, hz2⟩ := zeroV_rep0 hz c
      refine ⟨_, hz2.pair (.bool false), fun w => ?_⟩
      cases d with
      | interface ms => exact absurd rfl (hi ms)
      | _ => simp [execOp, ho, Instr.typeAssert, run_underlying hu, hu1, ne, hz1]
  · simp at h
theorem pure_sound {P : Program} {c : Cx} {ρ : Operand → Value} {e : Opd → AV} (hρ : ∀ x, RepV c (e (lowX x)) (ρ x)) {o : Oper} {v : AV} (h : pureStep (lowOp P o) e = some v) : ∃ u, RepV c v u ∧ Gives P ρ o u := by
  have nope : pureStep .bad e = some v → ∃ u, RepV c v u ∧ Gives P ρ o u := fun h => by simp [pureStep] at h
  cases hop : o.op with
  | move x =>
    simp only [lowOp, hop, pureStep, Option.some.injEq] at h
    subst h
    exact ⟨_, hρ x, fun w => by simp [execOp, hop]⟩
  | assign x =>
    simp only [lowOp, hop, pureStep, Option.some.injEq] at h
    subst h
    exact ⟨_, hρ x, fun w => by simp [execOp, hop]⟩
  | pick a b d =>
    simp only [lowOp, hop, pureStep] at h
    split at h
    · rename_i t ht
      simp only [Option.some.injEq] at h
      subst h
      have hx := hρ a
      rw [ht] at hx
      have := hx.bool_inv
      refine ⟨if t then ρ b else ρ d, ?_, fun w => by cases t <;> simp [execOp, hop, asBool, this]⟩
      cases t
      · exact hρ d
      · exact hρ b
    · simp at h
  | box t x => simp [lowOp, hop, pureStep] at h
  | alloc t => simp only [lowOp, hop] at h; split at h <;> (try split at h) <;> simp [pureStep] at h
  | build t parts =>
    simp only [lowOp, hop] at h
    split at h
    · rename_i z fs hz hu
      split at h
      · rename_i ps hps
        split at h
        · rename_i hall
          exact p_buildS hρ hop hu hz hps hall h
        · exact nope h
      · exact nope h
    · rename_i z n et hz hu
      split at h
      · rename_i hi
        exact p_buildA hρ hop hu hz hi h
      · exact nope h
    · exact nope h
  | buildSlice t n ps => simp only [lowOp, hop] at h; split at h <;> (try split at h) <;> (try split at h) <;> simp [pureStep] at h
  | load t a => simp only [lowOp, hop] at h; split at h <;> simp [pureStep] at h
  | store t a x => simp only [lowOp, hop] at h; split at h <;> simp [pureStep] at h
  | nilCheck x =>
    simp only [lowOp, hop, pureStep] at h
    have hx := hρ x
    generalize hv : ρ x = vx at hx
    split at h
    · rename_i k n i off hs
      rw [hs] at hx h
      simp only [Option.some.injEq] at h
      subst h
      cases hx with
      | ptr _ _ _ _ b0 o0 h1 h2 h3 => exact ⟨_, .ptr _ _ _ _ b0 o0 h1 h2 h3, fun w => by simp [execOp, hop, hv]⟩
    · rename_i row off hs
      rw [hs] at hx h
      simp only [Option.some.injEq] at h
      subst h
      cases hx with
      | lptr _ _ b o1 cs h0 hw hst hc hr => exact ⟨_, .lptr _ _ b o1 cs h0 hw hst hc hr, fun w => by simp [execOp, hop, hv]⟩
    · rename_i f a b hs
      rw [hs] at hx h
      simp only [Option.some.injEq] at h
      subst h
      cases hx with
      | fn _ _ _ us vs h1 h2 h3 h4 => exact ⟨_, .fn _ _ _ us vs h1 h2 h3 h4, fun w => by simp [execOp, hop, hv]⟩
    · simp at h
  | binOp op t x y yt =>
    simp only [lowOp, hop] at h
    exact p_bin hρ hop h
  | unOp op t x =>
    cases op with
    | not =>
      simp only [lowOp, hop, pureStep] at h
      split at h
      · rename_i b hb
        simp only [Option.some.injEq] at h
        subst h
        have hx := hρ x
        rw [hb] at hx
        exact ⟨_, .bool _, fun w => by simp [execOp, hop, Op.unary, hx.bool_inv]⟩
      · simp at h
    | neg =>
      simp only [lowOp, hop, pureStep] at h
      split at h
      · rename_i k n hb
        simp only [Option.some.injEq] at h
        subst h
        have hx := hρ x
        rw [hb] at hx
        exact ⟨_, .int _ _, fun w => by simp [execOp, hop, Op.unary, hx.int_inv, Op.intArith]⟩
      · simp at h
    | xor => simp only [lowOp, hop] at h; exact nope h
    | plus => simp only [lowOp, hop] at h; exact nope h
  | convert s d x =>
    simp only [lowOp, hop] at h
    split at h
    · rename_i k0 k hs hd
      simp only [pureStep] at h
      split at h
      · rename_i k' n hb
        simp only [Option.some.injEq] at h
        subst h
        have hx := hρ x
        rw [hb] at hx
        exact ⟨_, .int _ _, fun w => by simp [execOp, hop, convert, run_underlying hs, run_underlying hd, hx.int_inv, Conv.intToInt]⟩
      · simp at h
    · split at h <;> simp [pureStep] at h
    · split at h <;> simp [pureStep] at h
    · exact nope h
  | makeInterface t x =>
    simp only [lowOp, hop] at h
    split at h
    · exact nope h
    · exact nope h
    · rename_i h1 h2
      simp only [pureStep, Option.some.injEq] at h
      subst h
      cases hu : P.underlying t with
      | none => exact absurd hu h2
      | some d =>
        refine ⟨_, .iface t _ _ (hρ x), fun w => ?_⟩
        cases d with
        | interface ms => exact absurd hu (h1 ms)
        | _ => simp [execOp, hop, Instr.makeInterface, run_underlying hu]
  | makeFunc f a b =>
    simp only [lowOp, hop] at h
    exact p_mkFn hρ hop h
  | makeMap t r => cases r <;> simp only [lowOp, hop] at h <;> simp [pureStep] at h
  | makeSlice t l m => simp only [lowOp, hop] at h; split at h <;> (try split at h) <;> (try split at h) <;> simp [pureStep] at h
  | slice t x lo hi mx =>
    cases mx with
    | none =>
      simp only [lowOp, hop] at h
      split at h
      · rename_i hu _
        exact p_sliceS hρ hop hu h
      · rename_i et _ hu
        split at h
        · rename_i hi
          exact p_slice hρ hop hu hi h
        · exact nope h
      · split at h <;> simp [pureStep] at h
      · exact nope h
    | some m =>
      simp only [lowOp, hop] at h
      split at h
      · rename_i heq
        simp at heq
      · split at h
        · simp [pureStep] at h
        · exact nope h
      · rename_i heq
        simp at heq
      · exact nope h
  | fieldAddr t x i =>
    simp only [lowOp, hop] at h
    split at h
    · rename_i fs hu
      split at h
      · rename_i f hf
        split at h
        · rename_i hs
          exact p_faddr hρ hop hu hf hs h
        · exact nope h
      · exact nope h
    · exact nope h
  | field t x i =>
    simp only [lowOp, hop] at h
    split at h
    · rename_i fs hu
      split at h
      · rename_i f hf
        split at h
        · rename_i hs
          exact p_field hρ hop hu hf hs h
        · exact nope h
      · exact nope h
    · exact nope h
  | indexAddr t x i =>
    simp only [lowOp, hop] at h
    split at h
    · rename_i et hu
      split at h
      · rename_i hi
        exact p_iaddrS hρ hop hu hi h
      · exact nope h
    · rename_i n et hu
      split at h
      · rename_i hi
        exact p_iaddrA hρ hop hu hi h
      · exact nope h
    · exact nope h
  | index t x i =>
    simp only [lowOp, hop] at h
    split at h
    · rename_i hu
      exact p_idxS hρ hop hu h
    · rename_i n et hu
      split at h
      · rename_i hi
        exact p_idxA hρ hop hu hi h
      · exact nope h
    · exact nope h
  | lookup t x k ok => simp only [lowOp, hop] at h; split at h <;> (try split at h) <;> simp [pureStep] at h
  | typeAssert x xt t ok =>
    cases ok with
    | false => simp only [lowOp, hop] at h; exact nope h
    | true =>
      simp only [lowOp, hop] at h
      split at h
      · exact nope h
      · rename_i d z hi hu hz
        exact p_assert hρ hop (fun ms e => hi ms e) hu hz h
      · exact nope h
  | mapUpdate t m k x => simp only [lowOp, hop] at h; split at h <;> (try split at h) <;> simp [pureStep] at h
  | insert t m k x => simp only [lowOp, hop] at h; split at h <;> (try split at h) <;> simp [pureStep] at h
  | range t x => simp only [lowOp, hop] at h; split at h <;> simp [pureStep] at h
  | next it b => cases b <;> simp only [lowOp, hop] at h <;> simp [pureStep] at h
  | extract x i =>
    simp only [lowOp, hop, pureStep] at h
    split at h
    · rename_i vs hvs
      have hx := hρ x
      rw [hvs] at hx
      obtain ⟨us, hv, hs, hr⟩ := hx.tup_inv
      obtain ⟨u, hu, hrep⟩ := RepVs_get hs hr h
      exact ⟨u, hrep, fun w => by simp [execOp, hop, Instr.extract, hv, hu]⟩
    · simp at h
  | call cl =>
    simp only [lowOp, hop] at h
    split at h
    · simp [pureStep] at h
    · rename_i hc
      split at h
      · rename_i x ht ha
        exact p_lenT hρ hop hc (by simpa using congrArg List.toArray ha) ht h
      · rename_i et x ht ha
        exact p_lenS hρ hop hc (by simpa using congrArg List.toArray ha) ht h
      · simp [pureStep] at h
      · exact nope h
    · rename_i hc
      exact p_min hρ hop hc h
    · rename_i hc
      exact p_max hρ hop hc h
    · split at h
      · split at h <;> simp [pureStep] at h
      · split at h <;> simp [pureStep] at h
      · simp [pureStep] at h
    · split at h <;> (try split at h) <;> simp [pureStep] at h
    · exact nope h
  | _ => simp only [lowOp, hop] at h; exact nope h
end Go.Proofs.YtnbdpjhmepgoaaaDoor
namespace Go.Proofs.YtnbdpjhmepgoaaaDoor
open Go.RowKit
structure AS where
  t : Tm
  H : List AObj
def rowOf (H : List AObj) : AV → Option (List AV × Nat)
  | .lptr row off => some (row, off)
  | .ptr k n i off => match H[k]? with
    | some (.vec _ xs) => if n = xs.length then (xs[i]?).map fun r => (r, off) else none
    | _ => none
  | _ => none
def elems (H : List AObj) : AV → Option (List (List AV))
  | .list xs => some xs
  | .sl sz k n off len => match H[k]? with
    | some (.vec sz' xs) => if n = xs.length ∧ sz = sz' then some ((xs.drop off).take len) else none
    | _ => none
  | _ => none
def cellsOf : AV → Option (List AV)
  | .agg cs => some cs
  | .tup _ => none
  | .dead => none
  | a => if a.cell then some [a] else none
def allCells (l : List AV) : Bool := l.all AV.cell
def putRow (row : List AV) (off : Nat) (cs : List AV) : List AV := row.take off ++ cs ++ row.drop (off + cs.length)
def keyIs : AV → AV → Option Bool
  | .int k a, .int k' b => if k = k' then some (a == b) else none
  | _, _ => none
def findKeyA (key : AV) : List (AV × AV) → Nat → Option (Option (Nat × AV))
  | [], _ => some none
  | (k, v) :: r, i => match keyIs key k with
    | some true => some (some (i, v))
    | some false => findKeyA key r (i + 1)
    | none => none
def isInt : AV → Bool
  | .int .. => true
  | _ => false
def fillRows (e : Opd → AV) (sz : Nat) : List (List AV) → List (Nat × Opd) → Option (List (List AV))
  | xs, [] => some xs
  | xs, (i, x) :: r => (cellsOf (e x)).bind fun cs => if cs.length = sz ∧ i < xs.length then fillRows e sz (xs.set i cs) r else none
def bytesOf : List (List AV) → Option (List UInt8)
  | [] => some []
  | [.int .u8 n] :: r => (bytesOf r).map fun l => UInt8.ofNat n.toNat :: l
  | _ => none
def byteRows (s : ByteArray) : List (List AV) := s.data.toList.map fun b => [.int .u8 (b.toNat : Int)]
def rowsOk (sz : Nat) (ys : List (List AV)) : Bool := ys.all fun r => r.length == sz && allCells r
def appendL (H : List AObj) (sz bytes : Nat) (s : AV) (ys : List (List AV)) : Option (AV × List AObj) :=
  match s with
  | .imm (.slice none 0 0) => if ys.length * bytes ≤ 140737488355328 ∧ ys.length ≤ maxLen then some (.sl sz H.length ys.length 0 ys.length, H ++ [.vec sz ys]) else none
  | .sl sz' k n off len => match H[k]? with
    | some (.vec z xs) => if n = xs.length ∧ sz = sz' ∧ z = sz ∧ off = 0 ∧ len = n ∧ (n + ys.length) * bytes ≤ 140737488355328 ∧ n + ys.length ≤ maxLen then
        some (.sl sz k (n + ys.length) 0 (n + ys.length), H.set k (.vec sz (xs ++ ys))) else none
    | _ => none
  | _ => none
def stepL (op : LOp) (σ : AS) : Option (AV × List AObj) :=
  match op with
  | .load agg sz a => (rowOf σ.H (ev σ.t a)).bind fun (row, off) => (partA agg sz off row).map fun v => (v, σ.H)
  | .alloc z => some (.ptr σ.H.length 1 0 0, σ.H ++ [.vec z.length [z]])
  | .box x => (cellsOf (ev σ.t x)).bind fun cs => if 0 < cs.length then some (.ptr σ.H.length 1 0 0, σ.H ++ [.vec cs.length [cs]]) else none
  | .store sz a x => match ev σ.t a with
    | .ptr k n i off => match σ.H[k]? with
      | some (.vec z xs) => if n = xs.length then (xs[i]?).bind fun row => (cellsOf (ev σ.t x)).bind fun cs =>
          if cs.length = sz ∧ off + sz ≤ z ∧ allCells cs = true then some (.dead, σ.H.set k (.vec z (xs.set i (putRow row off cs)))) else none
        else none
      | _ => none
    | _ => none
  | .bslice sz z len parts => (fillRows (ev σ.t) sz (List.replicate len z) parts).map fun xs => (.sl sz σ.H.length len 0 len, σ.H ++ [.vec sz xs])
  | .mkSlice sz bytes z len cap => match ev σ.t len, ev σ.t cap with
    | .int _ l, .int _ c => if 0 ≤ l ∧ l ≤ c ∧ (bytes : Int) * c ≤ 140737488355328 ∧ c ≤ 9223372036854775807 then some (.sl sz σ.H.length l.toNat 0 l.toNat, σ.H ++ [.vec sz (List.replicate l.toNat z)]) else none
    | _, _ => none
  | .append sz bytes s x => match ev σ.t x with
    | .imm (.slice none 0 0) => appendL σ.H sz bytes (ev σ.t s) []
    | x => (elems σ.H x).bind fun ys => if rowsOk sz ys = true then appendL σ.H sz bytes (ev σ.t s) ys else none
  | .appendS s x => match ev σ.t x with
    | .str b => appendL σ.H 1 1 (ev σ.t s) (byteRows b)
    | _ => none
  | .copy sz d s => match ev σ.t d, elems σ.H (ev σ.t s) with
    | .sl sz' k n off len, some ys => match σ.H[k]? with
      | some (.vec z xs) => if n = xs.length ∧ sz = sz' ∧ z = sz ∧ off + len ≤ n ∧ rowsOk sz ys = true then
          some (.int .i64 ((min ys.length len : Nat) : Int), σ.H.set k (.vec sz (xs.take off ++ ys.take (min ys.length len) ++ xs.drop (off + min ys.length len)))) else none
      | _ => none
    | _, _ => none
  | .toStr x => match ev σ.t x with
    | .imm (.slice none 0 0) => some (.str .empty, σ.H)
    | x => (elems σ.H x).bind fun xs => (bytesOf xs).map fun l => (.str ⟨l.toArray⟩, σ.H)
  | .mkMap => some (.map σ.H.length, σ.H ++ [.map []])
  | .lookup z x k ok => match ev σ.t x with
    | .map m => match σ.H[m]? with
      | some (.map es) => if isInt (ev σ.t k) = true then (findKeyA (ev σ.t k) es 0).map fun r => match r with
          | some (_, v) => (if ok then .tup [v, .bool true] else v, σ.H)
          | none => (if ok then .tup [z, .bool false] else z, σ.H)
        else none
      | _ => none
    | _ => none
  | .mapSet m k v => match ev σ.t m with
    | .map m => match σ.H[m]? with
      | some (.map es) => if isInt (ev σ.t k) = true then (findKeyA (ev σ.t k) es 0).map fun r => match r with
          | some (i, _) => (.dead, σ.H.set m (.map (es.set i (ev σ.t k, ev σ.t v))))
          | none => (.dead, σ.H.set m (.map (es ++ [(ev σ.t k, ev σ.t v)])))
        else none
      | _ => none
    | _ => none
  | .len .map x => match ev σ.t x with
    | .map m => match σ.H[m]? with
      | some (.map es) => some (.int .i64 (es.length : Int), σ.H)
      | _ => none
    | _ => none
  | .range x => match ev σ.t x with
    | .str s => some (.iter σ.H.length, σ.H ++ [.iter s 0])
    | _ => none
  | .next it => match ev σ.t it with
    | .iter k => match σ.H[k]? with
      | some (.iter s p) => if p < s.size then some (.tup [.bool true, .int .i64 (p : Int), .int .i32 ((Utf8.decode s p).1 : Int)], σ.H.set k (.iter s (p + (Utf8.decode s p).2))) else some (.tup [.bool false], σ.H)
      | _ => none
    | _ => none
  | op => (pureStep op (ev σ.t)).map fun v => (v, σ.H)
def Does (P : Program) (ρ : Operand → Value) (o : Oper) (c : Cx) (v : AV) (H' : List AObj) : Prop :=
  ∃ ι' w' n u, (execOp ρ o).run P c.w = .ok n w' ∧ (n = .value u ∨ (n = .skip ∧ u = undef)) ∧ RepH ⟨ι', H', w'⟩ ∧ Fr c ⟨ι', H', w'⟩ ∧ RepV ⟨ι', H', w'⟩ v u
section
variable {P : Program} {c : Cx} {ρ : Operand → Value} {t : Tm}
theorem loadVar_run {ty : TypeId} (ht : (P.underlying ty).isSome = true) {w : World} {b o off : Nat} {row : List AV} {v : AV} (hp : partA (aggOf P ty) (szOf P ty) off row = some v) (cs : Nat → Value)
    (hc : ∀ (j : Nat) (a : AV), row[j]? = some a → w.cell? ⟨b, o + j, none⟩ = some (cs j)) (hr : ∀ (j : Nat) (a : AV), row[j]? = some a → RepV c a (cs j)) :
    ∃ u, RepV c v u ∧ (loadVar ty ⟨b, o + off, none⟩).run P w = .ok u w := by
  unfold partA at hp
  cases hg : aggOf P ty with
  | true =>
    rw [hg, if_pos rfl] at hp
    split at hp
    · rename_i hle
      simp only [Option.some.injEq] at hp
      subst hp
      have hl := run_loadCells (P := P) w ⟨b, o + off, none⟩ (szOf P ty) (fun j => cs (off + j)) (fun j hj => by
        rw [add_zero', Nat.add_assoc]
        exact hc (off + j) _ (List.getElem?_eq_getElem (by omega)))
      refine ⟨_, .agg _ _ ?_ fun i a ha => ?_, by simp only [loadVar, Sem.run_bind, run_isAgg' ht, hg, Result.andThen_ok, if_true, run_sizeOf' (info_of_und ht), hl, Sem.run_pure]; rfl⟩
      · simp; omega
      · have hi : i < szOf P ty := by
          have := (List.getElem?_eq_some_iff.1 ha).1
          simp at this; omega
        rw [List.getElem?_take, if_pos hi, List.getElem?_drop] at ha
        have := hr _ a ha
        simpa [hi] using this
    · simp at hp
  | false =>
    rw [hg, if_neg (by simp)] at hp
    exact ⟨cs off, hr off v hp, by simp [loadVar, run_isAgg' ht, hg, hc off v hp]⟩
theorem rowOf_spec {H : List AObj} {ι : Nat → Option Nat} {w : World} (hH : RepH ⟨ι, H, w⟩) {a : AV} {x : Value} (hx : RepV ⟨ι, H, w⟩ a x) {row : List AV} {off : Nat} (h : rowOf H a = some (row, off)) :
    ∃ b o, ∃ cs : Nat → Value, x = .pointer (some ⟨b, o + off, none⟩) ∧ (∀ (j : Nat) (a : AV), row[j]? = some a → w.cell? ⟨b, o + j, none⟩ = some (cs j)) ∧ (∀ (j : Nat) (a : AV), row[j]? = some a → RepV ⟨ι, H, w⟩ a (cs j)) := by
  unfold rowOf at h
  split at h
  · simp only [Option.some.injEq, Prod.mk.injEq] at h
    obtain ⟨rfl, rfl⟩ := h
    cases hx with
    | lptr _ _ b o cs h0 hw hst hc hr => exact ⟨b, o, cs, rfl, hc, hr⟩
  · rename_i k n i off'
    split at h
    · rename_i sz xs hk
      split at h
      · rename_i hn
        simp only [Option.map_eq_some_iff, Prod.mk.injEq] at h
        obtain ⟨r, hr, rfl, rfl⟩ := h
        have ho := hH.obj k _ hk
        obtain ⟨h0, hrow, _, h4⟩ := ho
        cases hx with
        | ptr _ _ _ _ b0 o0 hkl hle hv =>
          obtain ⟨hι, rfl⟩ := hv sz xs hk hn
          simp only at h4 hι
          rw [hι] at h4
          obtain ⟨cs, el, fr, h5, h6, h7, h8⟩ := h4
          have hi : i < xs.length := (List.getElem?_eq_some_iff.1 hr).1
          have hrl : r.length = sz := hrow r (List.mem_of_getElem? hr)
          refine ⟨b0, i * sz, fun j => cs.getD (i * sz + j) undef, rfl, fun j a ha => ?_, fun j a ha => h8 i j a (by simp [cellAt, hr, ha])⟩
          have hj : j < sz := by rw [← hrl]; exact (List.getElem?_eq_some_iff.1 ha).1
          have hlt : i * sz + j < cs.size := by
            have : (i + 1) * sz ≤ xs.length * sz := Nat.mul_le_mul_right sz hi
            rw [Nat.add_mul, Nat.one_mul] at this
            omega
          simp [World.cell?, h5, hlt]
      · simp at h
    · simp at h
  · simp at h
theorem Fr.same (c : Cx) (H : List AObj) (h : c.H = H) : Fr c ⟨c.ι, H, c.w⟩ := by
  subst h
  exact Fr.refl c
theorem s_load (hH : RepH c) (hρ : ∀ x, RepV c (ev t (lowX x)) (ρ x)) {o : Oper} {ty : TypeId} {a : Operand} (ho : o.op = .load ty a) (ht : (P.underlying ty).isSome = true) {v : AV} {H' : List AObj}
    (h : stepL (.load (aggOf P ty) (szOf P ty) (lowX a)) ⟨t, c.H⟩ = some (v, H')) : H' = c.H ∧ ∃ u, RepV c v u ∧ (execOp ρ o).run P c.w = .ok (.value u) c.w := by
  simp only [stepL, Option.bind_eq_some_iff, Option.map_eq_some_iff, Prod.mk.injEq] at h
  obtain ⟨⟨row, off⟩, h1, v', h2, rfl, rfl⟩ := h
  obtain ⟨b, o', cs, hx, hc, hr⟩ := rowOf_spec (ι := c.ι) (w := c.w) hH (hρ a) h1
  obtain ⟨u, hu, hrun⟩ := loadVar_run (c := c) ht (w := c.w) h2 cs hc hr
  exact ⟨rfl, u, hu, by simp [execOp, ho, Instr.loadAt, hx, Instr.sureAddr, hrun]⟩
theorem cellAt_one {z : List AV} {i j : Nat} {a : AV} (h : cellAt [z] i j = some a) : i = 0 ∧ z[j]? = some a := by
  cases i with
  | zero => exact ⟨rfl, by simpa [cellAt] using h⟩
  | succ i => simp [cellAt] at h
theorem push_ι (o : AObj) (β : Option Nat) (w : World) : (c.push o β w).ι c.H.length = β := by simp [Cx.push]
theorem push_get (o : AObj) (β : Option Nat) (w : World) : (c.push o β w).H[c.H.length]? = some o := by simp [Cx.push]
theorem push_len (o : AObj) (β : Option Nat) (w : World) : c.H.length < (c.push o β w).H.length := by simp [Cx.push]
theorem new_vec (hH : RepH c) {sz : Nat} {xs : List (List AV)} (cells : Array Value) (ty : TypeId) (fr : Nat × Nat) (h0 : 0 < sz) (hrows : ∀ r ∈ xs, r.length = sz) (hlen : xs.length ≤ maxLen) (hsz : xs.length * sz ≤ cells.size)
    (hfr : ∀ i, i < cells.size → ¬ (fr.1 ≤ i ∧ i < fr.2)) (hr : ∀ (i j : Nat) (a : AV), cellAt xs i j = some a → RepV c a (cells.getD (i * sz + j) undef)) :
    Fr c (c.push (.vec sz xs) (some c.w.heap.size) (c.w.alloc (.cells cells ty fr))) ∧ RepH (c.push (.vec sz xs) (some c.w.heap.size) (c.w.alloc (.cells cells ty fr))) := by
  have hb : ∀ b, b < c.w.heap.size → (c.w.alloc (.cells cells ty fr)).heap[b]? = c.w.heap[b]? := fun b hb => Below.heap_alloc c.w _ b hb
  have hnew : (c.w.alloc (.cells cells ty fr)).heap[c.w.heap.size]? = some (.cells cells ty fr) := by
    show (c.w.heap.push (.cells cells ty fr))[c.w.heap.size]? = _
    simp
  have hf : Fr c (c.push (.vec sz xs) (some c.w.heap.size) (c.w.alloc (.cells cells ty fr))) := Fr.push rfl rfl rfl (by simp) hb (fun b e => by cases e; exact Nat.le_refl _) hH.lt
  refine ⟨hf, hH.push rfl rfl rfl (by simp) hb (fun b e => by cases e; simp) ⟨h0, hrows, hlen, ?_⟩⟩
  rw [push_ι]
  exact ⟨cells, ty, fr, hnew, hsz, hfr, fun i j a ha => (hr i j a ha).mono hf⟩
theorem new_ptr (sz : Nat) (row : List AV) (b : Nat) (w : World) : RepV (c.push (.vec sz [row]) (some b) w) (.ptr c.H.length 1 0 0) (.pointer (some ⟨b, 0, none⟩)) := by
  refine .ptr _ _ _ _ _ _ (push_len _ _ _) (fun sz' xs hx => ?_) (fun sz' xs hx hn => ⟨push_ι _ _ _, by simp⟩)
  rw [push_get] at hx
  simp only [Option.some.injEq, AObj.vec.injEq] at hx
  simp [← hx.2]
theorem new_sl (sz : Nat) (xs : List (List AV)) (b cap : Nat) (w : World) (hc : xs.length ≤ cap) (hcap : cellsIn w b / sz = cap) : RepV (c.push (.vec sz xs) (some b) w) (.sl sz c.H.length xs.length 0 xs.length) (.slice (some ⟨b, 0, none⟩) xs.length cap) := by
  refine .sl _ _ _ _ _ _ _ (push_len _ _ _) hc (fun _ => ⟨_, _, rfl⟩) (fun sz' ys hx => ?_) (fun ys hx hn => ⟨by omega, .inl ⟨b, push_ι _ _ _, by simp, ?_⟩⟩)
  · rw [push_get] at hx
    simp only [Option.some.injEq, AObj.vec.injEq] at hx
    exact ⟨hx.1.symm, by rw [← hx.2]; exact Nat.le_refl _⟩
  · show cap = cellsIn w b / sz - 0
    omega
theorem s_alloc (hH : RepH c) {o : Oper} {ty : TypeId} {z : List AV} (ho : o.op = .alloc ty) (hz : zeroOf P ty = some z) (hl : 0 < z.length) : Does P ρ o c (.ptr c.H.length 1 0 0) (c.H ++ [.vec z.length [z]]) := by
  obtain ⟨v, hv, hrep, _⟩ := zero_rep (P := P) c hz
  obtain ⟨h1, h2⟩ := new_vec hH (sz := z.length) (xs := [z]) v.cells ty (0, 0) hl (by simp) (by simp [maxLen]) (by rw [hrep.1]; simp) (by simp) (fun i j a ha => by
    obtain ⟨rfl, hj⟩ := cellAt_one ha
    simpa using hrep.2 j a hj)
  refine ⟨_, _, .value (.pointer (some ⟨c.w.heap.size, 0, none⟩)), _, ?_, .inl rfl, h2, h1, new_ptr _ _ _ _⟩
  simp only [execOp, ho, Instr.alloc, Sem.run_bind, hv, Result.andThen_ok, newVar, newRow, run_newObj, Sem.run_pure]
  rfl
theorem RepO_put {k : Nat} {sz : Nat} {xs : List (List AV)} {b : Nat} {cs : Array Value} {el : TypeId} {fr : Nat × Nat} {i off : Nat} {row as : List AV} {vs : List Value} {w' : World} {β : Option Nat} (hβ : β = some b)
    (hrows : ∀ r ∈ xs, r.length = sz) (hrow : xs[i]? = some row) (hle : off + as.length ≤ sz) (hsz : xs.length * sz ≤ cs.size) (hvl : vs.length = as.length)
    (hb : w'.heap[b]? = some (.cells (putAll cs (i * sz + off) vs) el fr)) (hfr : ∀ i, i < cs.size → ¬ (fr.1 ≤ i ∧ i < fr.2)) (h0 : 0 < sz) (hlen : xs.length ≤ maxLen)
    (hold : ∀ (m j : Nat) (a : AV), cellAt xs m j = some a → RepV (c.upd k (.vec sz (xs.set i (putRow row off as))) β w') a (cs.getD (m * sz + j) undef))
    (hnew : ∀ (j : Nat) (a : AV), as[j]? = some a → RepV (c.upd k (.vec sz (xs.set i (putRow row off as))) β w') a (vs.getD j undef)) :
    RepO (c.upd k (.vec sz (xs.set i (putRow row off as))) β w') k (.vec sz (xs.set i (putRow row off as))) := by
  have hi : i < xs.length := (List.getElem?_eq_some_iff.1 hrow).1
  have hrl : row.length = sz := hrows row (List.mem_of_getElem? hrow)
  have hpl : (putRow row off as).length = sz := by simp [putRow]; omega
  have hmul : (i + 1) * sz ≤ xs.length * sz := Nat.mul_le_mul_right sz hi
  rw [Nat.add_mul, Nat.one_mul] at hmul
  refine ⟨h0, fun r hr => ?_, by simpa using hlen, ?_⟩
  · rcases List.mem_or_eq_of_mem_set hr with h | h
    · exact hrows r h
    · rw [h]; exact hpl
  · have e : (c.upd k (.vec sz (xs.set i (putRow row off as))) β w').ι k = some b := by simp [Cx.upd, hβ]
    rw [e]
    refine ⟨_, el, fr, hb, by rw [putAll_size]; simpa using hsz, fun j hj => hfr j (by rwa [putAll_size] at hj), fun m j a ha => ?_⟩
    by_cases hm : m = i
    · subst hm
      have ha' : (putRow row off as)[j]? = some a := by
        simpa [cellAt, List.getElem?_set_self hi] using ha
      have hjl : j < sz := by rw [← hpl]; exact (List.getElem?_eq_some_iff.1 ha').1
      by_cases h1 : j < off
      · rw [putAll_out _ _ _ _ (.inl (by omega))]
        refine hold m j a ?_
        rw [putRow, List.append_assoc, List.getElem?_append_left (by simp; omega), List.getElem?_take, if_pos h1] at ha'
        simp [cellAt, hrow, ha']
      · by_cases h2 : j < off + as.length
        · obtain ⟨q, rfl⟩ : ∃ q, j = off + q := ⟨j - off, by omega⟩
          rw [show m * sz + (off + q) = m * sz + off + q by omega, putAll_in _ _ _ _ (by omega) (by omega)]
          refine hnew q a ?_
          rw [putRow, List.append_assoc, List.getElem?_append_right (by simp; omega), List.getElem?_append_left (by simp; omega)] at ha'
          have : off + q - (row.take off).length = q := by simp; omega
          rwa [this] at ha'
        · rw [putAll_out _ _ _ _ (.inr (by omega))]
          refine hold m j a ?_
          rw [putRow, List.getElem?_append_right (by simp; omega), List.getElem?_drop] at ha'
          have : off + as.length + (j - (row.take off ++ as).length) = j := by simp; omega
          rw [this] at ha'
          simp [cellAt, hrow, ha']
    · have ha' : cellAt xs m j = some a := by
        simpa [cellAt, List.getElem?_set_ne (Ne.symm hm)] using ha
      have hjl : j < sz := by
        simp only [cellAt, Option.bind_eq_some_iff] at ha'
        obtain ⟨r, hr, hj⟩ := ha'
        rw [← hrows r (List.mem_of_getElem? hr)]
        exact (List.getElem?_eq_some_iff.1 hj).1
      rw [putAll_out _ _ _ _ ?_]
      · exact hold m j a ha'
      · rcases Nat.lt_or_gt_of_ne hm with h | h
        · left
          have : (m + 1) * sz ≤ i * sz := Nat.mul_le_mul_right sz h
          rw [Nat.add_mul, Nat.one_mul] at this
          omega
        · right
          have : (i + 1) * sz ≤ m * sz := Nat.mul_le_mul_right sz h
          rw [Nat.add_mul, Nat.one_mul] at this
          omega
theorem cellsOf_spec {a : AV} {v : Value} {cs : List AV} (h : cellsOf a = some cs) (ha : allCells cs = true) (hr : RepV c a v) :
    v.cells.size = cs.length ∧ (∀ x ∈ v.cells.toList, x.oneCell' = true) ∧ ∀ (j : Nat) (x : AV), cs[j]? = some x → RepV c x (v.cells.toList.getD j undef) := by
  unfold cellsOf at h
  split at h
  · rename_i as
    simp only [Option.some.injEq] at h
    subst h
    obtain ⟨vs, rfl, hs, hrr⟩ := hr.agg_inv
    have hcells : (Value.agg vs).cells = vs := rfl
    rw [hcells]
    refine ⟨hs, fun x hx => ?_, fun j x hj => by simpa using hrr j x hj⟩
    obtain ⟨j, hj, rfl⟩ := List.getElem_of_mem hx
    have hj' : j < as.length := by simpa [← hs] using hj
    have h1 := hrr j as[j] (List.getElem?_eq_getElem hj')
    have h2 : as[j].cell = true := by
      have := List.all_eq_true.1 ha as[j] (List.getElem_mem hj')
      exact this
    have h3 : vs.getD j undef = vs.toList[j] := by
      have : j < vs.size := by omega
      simp [this]
    rw [h3] at h1
    exact h1.one h2
  · simp at h
  · simp at h
  · split at h
    · rename_i hc
      simp only [Option.some.injEq] at h
      subst h
      rw [hr.cells_one hc]
      refine ⟨rfl, fun x hx => by simp at hx; rw [hx]; exact hr.one hc, fun j x hj => ?_⟩
      cases j with
      | zero => simp at hj; subst hj; exact hr
      | succ j => simp at hj
    · simp at h
theorem s_store (hH : RepH c) (hρ : ∀ x, RepV c (ev t (lowX x)) (ρ x)) {o : Oper} {ty : TypeId} {a x : Operand} (ho : o.op = .store ty a x) (ht : (P.info? ty).isSome = true) {v : AV} {H' : List AObj}
    (h : stepL (.store (szOf P ty) (lowX a) (lowX x)) ⟨t, c.H⟩ = some (v, H')) : Does P ρ o c v H' := by
  simp only [stepL] at h
  split at h
  · rename_i k n i off hp
    split at h
    · rename_i z xs hk
      split at h
      · rename_i hn
        simp only [Option.bind_eq_some_iff] at h
        obtain ⟨row, hrow, cs, hcs, h⟩ := h
        split at h
        · rename_i hc
          obtain ⟨hc1, hc2, hc3⟩ := hc
          simp only [Option.some.injEq, Prod.mk.injEq] at h
          obtain ⟨rfl, rfl⟩ := h
          have hx := hρ x
          obtain ⟨g1, g2, g3⟩ := cellsOf_spec hcs hc3 hx
          have hpt := hρ a
          rw [hp] at hpt
          obtain ⟨h0, hrows, hlen, h4⟩ := hH.obj k _ hk
          generalize hva : ρ a = va at hpt
          cases hpt with
          | ptr _ _ _ _ b0 o0 hkl hle hv =>
            obtain ⟨hι, rfl⟩ := hv z xs hk hn
            rw [hι] at h4
            obtain ⟨cells, el, fr, h5, h6, h7, h8⟩ := h4
            have hi : i < xs.length := (List.getElem?_eq_some_iff.1 hrow).1
            have hmul : (i + 1) * z ≤ xs.length * z := Nat.mul_le_mul_right z hi
            rw [Nat.add_mul, Nat.one_mul] at hmul
            have gl : (ρ x).cells.toList.length = cs.length := by simpa using g1
            have hcell : ∀ j, j < (ρ x).cells.toList.length → c.w.cell? ⟨b0, i * z + off + 0 + j, none⟩ = some (cells.getD (i * z + off + j) undef) := fun j hj => by
              have : i * z + off + j < cells.size := by omega
              simp [World.cell?, h5, this]
            have hst := run_storeCells_cells (P := P) b0 (i * z + off) (ρ x).cells.toList 0 c.w (fun j hj => by rw [hcell j hj]; rfl) (fun j hj => by
              have hlt : i * z + off + j < cells.size := by omega
              have := h7 _ hlt
              simp only [World.frozen?, h5]
              simpa using this) g2
            let w' := c.w.setCells b0 (i * z + off) (ρ x).cells.toList
            have hw' : w'.heap[b0]? = some (.cells (putAll cells (i * z + off) (ρ x).cells.toList) el fr) := heap_setCells _ _ _ _ _ _ _ h5
            have u : Upd c k (.vec z xs) (.vec z (xs.set i (putRow row off cs))) (c.ι k) w' := ⟨hk, rfl, os_setCells _ _ _ _, tape_setCells _ _ _ _, output_setCells _ _ _ _, by rw [size_setCells]; exact Nat.le_refl _,
              fun b hb hne => heap_setCells_ne _ _ _ _ _ (fun e => hne (by rw [hι, e])), .inl rfl, fun sz ys he => by
                simp only [AObj.vec.injEq] at he
                obtain ⟨rfl, rfl⟩ := he
                refine ⟨xs, rfl, by simp, fun _ => ⟨rfl, fun b hb => ?_⟩⟩
                rw [hι] at hb
                simp only [Option.some.injEq] at hb
                subst hb
                simp [cellsIn, hw', h5, putAll_size], fun es he => by simp at he, fun s p he => by simp at he⟩
            have hf := u.fr hH
            refine ⟨_, w', .skip, undef, ?_, .inr ⟨rfl, rfl⟩, u.rep hH (RepO_put hι hrows hrow (by omega) h6 gl hw' h7 h0 hlen (fun i j a ha => (h8 i j a ha).mono hf) (fun j a ha => (g3 j a ha).mono hf)), hf, .dead _⟩
            have hszn : ¬ ((ρ x).cells.size ≠ szOf P ty) := by rw [g1, hc1]; simp
            simp only [execOp, ho, Instr.storeAt, Sem.run_bind, hva, Instr.sureAddr, Sem.run_pure, Result.andThen_ok, storeVar, run_sizeOf' ht]
            rw [if_neg hszn]
            rw [hst]
            rfl
        · simp at h
      · simp at h
    · simp at h
  · simp at h
end
end Go.Proofs.YtnbdpjhmepgoaaaDoor
namespace Go.Proofs.YtnbdpjhmepgoaaaDoor
open Go.RowKit
section
variable {P : Program} {c : Cx} {ρ : Operand → Value} {t : Tm}
structure RepR (c : Cx) (sz : Nat) (ys : List (List AV)) (news : List Value) : Prop where
  rows : ∀ r ∈ ys, r.length = sz
  len : news.length = ys.length * sz
  val : ∀ (i j : Nat) (a : AV), cellAt ys i j = some a → RepV c a (news.getD (i * sz + j) undef)
theorem RepR.mono {c c' : Cx} (hf : Fr c c') {sz : Nat} {ys : List (List AV)} {news : List Value} (h : RepR c sz ys news) : RepR c' sz ys news := ⟨h.rows, h.len, fun i j a ha => (h.val i j a ha).mono hf⟩
theorem cellAt_lt {sz : Nat} {ys : List (List AV)} (hr : ∀ r ∈ ys, r.length = sz) {i j : Nat} {a : AV} (h : cellAt ys i j = some a) : i < ys.length ∧ j < sz ∧ i * sz + j < ys.length * sz := by
  simp only [cellAt, Option.bind_eq_some_iff] at h
  obtain ⟨r, h1, h2⟩ := h
  have hi := (List.getElem?_eq_some_iff.1 h1).1
  have hj : j < sz := by rw [← hr r (List.mem_of_getElem? h1)]; exact (List.getElem?_eq_some_iff.1 h2).1
  have : (i + 1) * sz ≤ ys.length * sz := Nat.mul_le_mul_right sz hi
  rw [Nat.add_mul, Nat.one_mul] at this
  exact ⟨hi, hj, by omega⟩
theorem cellAt_append {xs ys : List (List AV)} {i j : Nat} {a : AV} (h : cellAt (xs ++ ys) i j = some a) : (i < xs.length ∧ cellAt xs i j = some a) ∨ (xs.length ≤ i ∧ cellAt ys (i - xs.length) j = some a) := by
  simp only [cellAt] at h ⊢
  by_cases hi : i < xs.length
  · rw [List.getElem?_append_left hi] at h
    exact .inl ⟨hi, h⟩
  · rw [List.getElem?_append_right (by omega)] at h
    exact .inr ⟨by omega, h⟩
theorem getD_toArray (l : List Value) (i : Nat) : l.toArray.getD i undef = l.getD i undef := by simp
theorem RepV_cat {sz : Nat} {xs ys : List (List AV)} {olds news : List Value} {more : Array Value} (ho : RepR c sz xs olds) (hn : RepR c sz ys news) {i j : Nat} {a : AV} (h : cellAt (xs ++ ys) i j = some a) :
    RepV c a (((olds ++ news).toArray ++ more).getD (i * sz + j) undef) := by
  have e : ∀ k, k < (olds ++ news).length → ((olds ++ news).toArray ++ more).getD k undef = (olds ++ news).getD k undef := fun k hk => by
    simp only [Array.getD_eq_getD_getElem?]
    rw [Array.getElem?_append_left (by simpa using hk)]
    simp
  rcases cellAt_append h with ⟨h1, h2⟩ | ⟨h1, h2⟩
  · obtain ⟨_, _, h3⟩ := cellAt_lt ho.rows h2
    rw [e _ (by rw [List.length_append, ho.len]; omega), List.getD_eq_getElem?_getD, List.getElem?_append_left (by rw [ho.len]; exact h3), ← List.getD_eq_getElem?_getD]
    exact ho.val i j a h2
  · obtain ⟨_, _, h3⟩ := cellAt_lt hn.rows h2
    obtain ⟨q, rfl⟩ : ∃ q, i = xs.length + q := ⟨i - xs.length, by omega⟩
    rw [show xs.length + q - xs.length = q by omega] at h2 h3
    have hm : (xs.length + q) * sz + j = xs.length * sz + (q * sz + j) := by rw [Nat.add_mul]; omega
    rw [hm, e _ (by rw [List.length_append, ho.len, hn.len]; omega), List.getD_eq_getElem?_getD, List.getElem?_append_right (by rw [ho.len]; omega), ho.len, show xs.length * sz + (q * sz + j) - xs.length * sz = q * sz + j by omega, ← List.getD_eq_getElem?_getD]
    exact hn.val q j a h2
theorem zero_size {e : TypeId} {i : TypeInfo} {z : Value} (hi : P.info? e = some i) (hz : i.zero = some z) {sz : Nat} (h : (zeroOf P e).map (·.length) = some sz) : z.cells.size = sz := by
  simp only [zeroOf, hi, Option.bind_some, hz, Option.map_some, Option.some.injEq] at h
  simpa using h
theorem RepR_obj {sz : Nat} {xs : List (List AV)} {cs : Array Value} (hrows : ∀ r ∈ xs, r.length = sz) (hsz : xs.length * sz ≤ cs.size) (hr : ∀ (i j : Nat) (a : AV), cellAt xs i j = some a → RepV c a (cs.getD (i * sz + j) undef)) : RepR c sz xs (cs.toList.take (xs.length * sz)) := by
  refine ⟨hrows, by simp; omega, fun i j a ha => ?_⟩
  obtain ⟨_, _, h3⟩ := cellAt_lt hrows ha
  have := hr i j a ha
  have e : (cs.toList.take (xs.length * sz)).getD (i * sz + j) undef = cs.getD (i * sz + j) undef := by
    simp only [List.getD_eq_getElem?_getD, List.getElem?_take, if_pos h3, Array.getD_eq_getD_getElem?, Array.getElem?_toList]
  rw [e]
  exact this
theorem new_vec_drew (hH : RepH c) {sz : Nat} {xs : List (List AV)} (cells : Array Value) (ty : TypeId) (h0 : 0 < sz) (hrows : ∀ r ∈ xs, r.length = sz) (hlen : xs.length ≤ maxLen) (hsz : xs.length * sz ≤ cells.size)
    (hr : ∀ (i j : Nat) (a : AV), cellAt xs i j = some a → RepV c a (cells.getD (i * sz + j) undef)) :
    Fr c (c.drew.push (.vec sz xs) (some c.w.heap.size) (c.w.drew.alloc (.cells cells ty (0, 0)))) ∧ RepH (c.drew.push (.vec sz xs) (some c.w.heap.size) (c.w.drew.alloc (.cells cells ty (0, 0)))) := by
  obtain ⟨h1, h2⟩ := new_vec hH.drew cells ty (0, 0) h0 hrows hlen hsz (by simp) (fun i j a ha => (hr i j a ha).mono (Fr.drew c))
  exact ⟨(Fr.drew c).trans h1, h2⟩
theorem cellsIn_alloc (w : World) (cells : Array Value) (ty : TypeId) (fr : Nat × Nat) : cellsIn (w.alloc (.cells cells ty fr)) w.heap.size = cells.size := by
  show (match (w.heap.push (.cells cells ty fr))[w.heap.size]? with | some (.cells c _ _) => c.size | _ => 0) = cells.size
  simp
theorem appendL_sound (hH : RepH c) {e : TypeId} {i : TypeInfo} {z : Value} {ta tx ty : TypeId} (ht : P.underlying ta = some (.slice e)) (hi : P.info? e = some i) (hz : i.zero = some z) {sz : Nat} (hs0 : 0 < sz) (hsz : i.size = sz) (hzs : z.cells.size = sz)
    {as : AV} {sv : Value} (has : RepV c as sv) {ys : List (List AV)} {news : List Value} (hy : RepR c sz ys news) {x : Value} (hsrc : Src P sz tx x ys.length news c.w) {v : AV} {H' : List AObj} (h : appendL c.H sz i.bytes as ys = some (v, H')) :
    ∃ ι' w' u, (Builtin.append_ #[ta, tx] ty #[sv, x]).run P c.w = .ok u w' ∧ RepH ⟨ι', H', w'⟩ ∧ Fr c ⟨ι', H', w'⟩ ∧ RepV ⟨ι', H', w'⟩ v u := by
  subst hsz
  unfold appendL at h
  split at h
  · -- nil
    obtain rfl := has.imm_inv
    split at h
    · rename_i hc
      simp only [Option.some.injEq, Prod.mk.injEq] at h
      obtain ⟨rfl, rfl⟩ := h
      cases ys with
      | nil =>
        have hn : news = [] := List.eq_nil_of_length_eq_zero (by rw [hy.len]; simp)
        subst hn
        have hf : Fr c (c.push (.vec i.size []) none c.w) := Fr.push rfl rfl rfl (Nat.le_refl _) (fun _ _ => rfl) (fun b e => by cases e) hH.lt
        refine ⟨_, c.w, .slice none 0 0, ?_, hH.push rfl rfl rfl (Nat.le_refl _) (fun _ _ => rfl) (fun b e => by cases e) ⟨hs0, by simp, by simp, ?_⟩, hf, ?_⟩
        · have hcells := hsrc.cells
          have hlen := hsrc.len c.w
          simp only [List.length_nil] at hcells hlen
          rcases hsrc.kind with ⟨e', hk⟩ | hk <;> simp [Builtin.append_, run_underlying ht, run_underlying hk, sizeOf, typeInfo, hi, hlen, hcells]
        · rw [push_ι]
        · refine .sl _ _ _ _ _ _ _ (push_len _ _ _) (Nat.le_refl _) (fun h => by simp at h) (fun sz' ys hx => ?_) (fun ys hx hn => ⟨by simp, .inr ⟨rfl, rfl⟩⟩)
          have := push_get (c := c) (.vec i.size []) none c.w
          rw [show (c.push (.vec i.size []) none c.w).H = c.H ++ [.vec i.size []] from rfl] at this
          replace hx : (c.H ++ [.vec i.size []])[c.H.length]? = some (.vec sz' ys) := hx
          rw [this] at hx
          simp only [Option.some.injEq, AObj.vec.injEq] at hx
          exact ⟨hx.1.symm, by simp⟩
      | cons y ys =>
        have hlt : 0 < (y :: ys).length := by simp
        generalize (y :: ys) = zs at *
        have hrun := run_append_grow_src (P := P) c.w ta tx ty e i z ht hi hz none 0 0 [] (by simp [Builtin.firstCells]) x zs.length news hsrc (by omega) (by have := hc.2; simp [maxLen] at this; omega)
          (by rw [Nat.zero_add]; exact growslice_fits (by omega) hc.1)
        rw [Nat.zero_add] at hrun
        have hcap := grownCap_ge c.w zs.length 0 e
        obtain ⟨h1, h2⟩ := new_vec_drew (ty := e) hH (sz := i.size) (xs := zs) (([] ++ news).toArray ++ Builtin.zeroCells z.cells (grownCap c.w zs.length 0 e - zs.length)) hs0 hy.rows hc.2
          (by simp [hy.len]) (fun i j a ha => RepV_cat (c := c) (xs := []) ⟨by simp, by simp, by simp [cellAt]⟩ hy (by simpa using ha))
        refine ⟨_, _, _, hrun, h2, h1, new_sl (c := c.drew) _ _ _ _ _ hcap ?_⟩
        rw [show c.w.heap.size = c.w.drew.heap.size from rfl, cellsIn_alloc]
        simp only [List.nil_append, Array.size_append, List.size_toArray, hy.len, size_zeroCells, hzs]
        rw [← Nat.add_mul, Nat.mul_div_cancel _ hs0]
        omega
    · simp at h
  · rename_i sz' k n off len
    split at h
    · rename_i zz xs hk
      split at h
      · rename_i hc
        obtain ⟨hn, h1, h2, h3, h4, h5, h6⟩ := hc
        subst h1; subst h2; subst h3; subst h4
        simp only [Option.some.injEq, Prod.mk.injEq] at h
        obtain ⟨rfl, rfl⟩ := h
        have hkl : k < c.H.length := (List.getElem?_eq_some_iff.1 hk).1
        obtain ⟨_, hrows, hlen, hobj⟩ := hH.obj k _ hk
        have hget : ∀ (ι' : Nat → Option Nat) (w' : World) sz' zs, (c.H.set k (.vec i.size (xs ++ ys)))[k]? = some (.vec sz' zs) → sz' = i.size ∧ zs = xs ++ ys := fun ι' w' sz' zs hx => by
          rw [List.getElem?_set_self hkl] at hx
          simp only [Option.some.injEq, AObj.vec.injEq] at hx
          exact ⟨hx.1.symm, hx.2.symm⟩
        cases has with
        | sl _ _ _ _ _ A cap hk' hcl hA hn' hval =>
          obtain ⟨_, hdis⟩ := hval xs hk hn
          by_cases hroom : len + ys.length ≤ cap
          · -- there is room
            rcases hdis with ⟨b, hb, hAb, hcapb⟩ | ⟨hz1, hz2⟩
            · subst hAb
              rw [hb] at hobj
              obtain ⟨cs, el, fr, g1, g2, g3, g4⟩ := hobj
              have hcs : cellsIn c.w b = cs.size := by simp [cellsIn, g1]
              rw [hcs] at hcapb
              have hfit : (len + ys.length) * i.size ≤ cs.size := by
                have : (len + ys.length) * i.size ≤ (cs.size / i.size) * i.size := Nat.mul_le_mul_right _ (by rw [Nat.sub_zero] at hcapb; rw [← hcapb]; exact hroom)
                have := Nat.div_mul_le_self cs.size i.size
                omega
              rw [Nat.add_mul] at hfit
              have hcell : ∀ j, j < news.length → c.w.cell? ⟨b, 0 * i.size + len * i.size + j, none⟩ = some (cs.getD (len * i.size + j) undef) := fun j hj => by
                rw [hy.len] at hj
                have : len * i.size + j < cs.size := by omega
                simp [World.cell?, g1, this]
              have hrun := run_append_room_src (P := P) c.w ta tx ty e i ht hi b (0 * i.size) len cap x ys.length news hsrc hroom (fun j hj => by rw [hcell j hj]; rfl) (fun j hj => by
                rw [hy.len] at hj
                have hlt : len * i.size + j < cs.size := by omega
                have := g3 _ hlt
                simp only [World.frozen?, g1]
                simpa using this)
              let w' := c.w.setCells b (0 * i.size + len * i.size) news
              have hw' : w'.heap[b]? = some (.cells (putAll cs (0 * i.size + len * i.size) news) el fr) := heap_setCells _ _ _ _ _ _ _ g1
              have u : Upd c k (.vec i.size xs) (.vec i.size (xs ++ ys)) (c.ι k) w' := ⟨hk, rfl, os_setCells _ _ _ _, tape_setCells _ _ _ _, output_setCells _ _ _ _, by rw [size_setCells]; exact Nat.le_refl _,
                fun b' _ hne => heap_setCells_ne _ _ _ _ _ (fun e => hne (by rw [hb, e])), .inl rfl, fun sz zs he => by
                  simp only [AObj.vec.injEq] at he
                  obtain ⟨rfl, rfl⟩ := he
                  refine ⟨xs, rfl, by simp, fun _ => ⟨rfl, fun b' hb' => ?_⟩⟩
                  rw [hb] at hb'
                  simp only [Option.some.injEq] at hb'
                  subst hb'
                  simp [cellsIn, hw', g1, putAll_size], fun es he => by simp at he, fun s p he => by simp at he⟩
              have hf := u.fr hH
              have hι : (c.upd k (.vec i.size (xs ++ ys)) (c.ι k) w').ι k = some b := by simp [Cx.upd, hb]
              refine ⟨_, w', _, hrun, u.rep hH ⟨hs0, fun r hr => ?_, by simp; omega, ?_⟩, hf, ?_⟩
              · rcases List.mem_append.1 hr with h | h
                · exact hrows r h
                · exact hy.rows r h
              · rw [hι]
                refine ⟨_, el, fr, hw', by rw [putAll_size]; simp only [List.length_append]; rw [← hn, Nat.add_mul]; omega, fun j hj => g3 j (by rwa [putAll_size] at hj), fun q j a ha => ?_⟩
                rcases cellAt_append ha with ⟨q1, q2⟩ | ⟨q1, q2⟩
                · obtain ⟨_, _, q3⟩ := cellAt_lt hrows q2
                  rw [putAll_out _ _ _ _ (.inl (by rw [hn]; omega))]
                  exact (g4 q j a q2).mono hf
                · obtain ⟨_, _, q3⟩ := cellAt_lt hy.rows q2
                  obtain ⟨p, rfl⟩ : ∃ p, q = xs.length + p := ⟨q - xs.length, by omega⟩
                  rw [show xs.length + p - xs.length = p by omega] at q2 q3
                  have hm : (xs.length + p) * i.size + j = (0 * i.size + len * i.size) + (p * i.size + j) := by rw [hn, Nat.add_mul]; omega
                  rw [hm, putAll_in _ _ _ _ (by rw [hy.len]; exact q3) (by rw [hy.len]; omega)]
                  exact (hy.val p j a q2).mono hf
              · refine .sl _ _ _ _ _ _ _ (by simpa using hkl) hroom (fun _ => ⟨_, _, rfl⟩) (fun sz' zs hx => ?_) (fun zs hx he => ⟨by omega, .inl ⟨b, hι, rfl, ?_⟩⟩)
                · obtain ⟨rfl, rfl⟩ := hget (c.ι) w' sz' zs hx
                  exact ⟨rfl, by simp; omega⟩
                · have : cellsIn w' b = cs.size := by simp [cellsIn, hw', putAll_size]
                  show cap = cellsIn w' b / i.size - 0
                  rw [this]
                  exact hcapb
            · -- nothing there, and nothing new
              subst hz1; subst hz2
              have hy0 : ys = [] := List.eq_nil_of_length_eq_zero (by omega)
              subst hy0
              have hx0 : xs = [] := List.eq_nil_of_length_eq_zero hn.symm
              subst hx0
              have hn0 : news = [] := List.eq_nil_of_length_eq_zero (by rw [hy.len]; simp)
              subst hn0
              have hset : c.H.set k (.vec i.size ([] ++ [])) = c.H := by
                have : c.H[k] = .vec i.size [] := by
                  have := List.getElem?_eq_some_iff.1 hk
                  exact this.2
                rw [List.append_nil, ← this, List.set_getElem_self]
              rw [hset]
              refine ⟨c.ι, c.w, .slice A 0 0, ?_, hH, Fr.refl c, ?_⟩
              · have hcells := hsrc.cells
                have hlen := hsrc.len c.w
                simp only [List.length_nil] at hcells hlen
                rcases hsrc.kind with ⟨e', hk2⟩ | hk2 <;> cases A <;> simp [Builtin.append_, run_underlying ht, run_underlying hk2, sizeOf, typeInfo, hi, hlen, hcells, storeCells]
              · exact .sl _ _ _ _ _ _ _ hk' hcl hA hn' hval
          · -- there is none
            have hm : 0 < ys.length := by omega
            have holds : ∃ olds, RepR c i.size xs olds ∧ (Builtin.firstCells i.size len (.slice A len cap)).run P c.w.drew = .ok olds.toArray c.w.drew := by
              rcases hdis with ⟨b, hb, hAb, hcapb⟩ | ⟨hz1, hz2⟩
              · subst hAb
                rw [hb] at hobj
                obtain ⟨cs, el, fr, g1, g2, g3, g4⟩ := hobj
                have hR := RepR_obj hrows g2 g4
                refine ⟨_, hR, run_firstCells_some _ i.size len _ len cap _ (by rw [hR.len, hn]) (fun j v hv => ?_)⟩
                rw [List.getElem?_take] at hv
                split at hv
                · rw [Array.getElem?_toList] at hv
                  have hcv : c.w.cell? ⟨b, j, none⟩ = some v := by simp [World.cell?, g1, hv]
                  simpa [add_zero'] using hcv
                · simp at hv
              · subst hz1
                have hx0 : xs = [] := List.eq_nil_of_length_eq_zero hn.symm
                subst hx0
                refine ⟨[], ⟨by simp, by simp, by simp [cellAt]⟩, ?_⟩
                cases A with
                | none => simp [Builtin.firstCells]
                | some a => simp [Builtin.firstCells, loadCells, loadCellsFrom]
            obtain ⟨olds, hR, hold⟩ := holds
            have hrun := run_append_grow_src (P := P) c.w ta tx ty e i z ht hi hz A len cap olds hold x ys.length news hsrc (by omega) (by simp [maxLen] at h6; omega) (growslice_fits (by omega) h5)
            have hcap := grownCap_ge c.w (len + ys.length) cap e
            let cells := (olds ++ news).toArray ++ Builtin.zeroCells z.cells (grownCap c.w (len + ys.length) cap e - (len + ys.length))
            have hcs : cells.size = grownCap c.w (len + ys.length) cap e * i.size := by
              simp only [cells, Array.size_append, List.size_toArray, List.length_append, hR.len, hy.len, size_zeroCells, hzs]
              rw [← hn, ← Nat.add_mul, ← Nat.add_mul]
              congr 1
              omega
            let w' := c.w.drew.alloc (.cells cells e (0, 0))
            have hw' : w'.heap[c.w.heap.size]? = some (.cells cells e (0, 0)) := by
              show (c.w.heap.push (.cells cells e (0, 0)))[c.w.heap.size]? = _
              simp
            have u : Upd c k (.vec i.size xs) (.vec i.size (xs ++ ys)) (some c.w.heap.size) w' := ⟨hk, rfl, rfl, rfl, rfl, by simp [w'],
              fun b' hb' _ => Below.heap_alloc c.w.drew _ b' hb', .inr ⟨_, rfl, Nat.le_refl _, by simp [w']⟩, fun sz zs he => by
                simp only [AObj.vec.injEq] at he
                obtain ⟨rfl, rfl⟩ := he
                exact ⟨xs, rfl, by simp, fun hl => by rw [List.length_append] at hl; omega⟩, fun es he => by simp at he, fun s p he => by simp at he⟩
            have hf := u.fr hH
            have hι : (c.upd k (.vec i.size (xs ++ ys)) (some c.w.heap.size) w').ι k = some c.w.heap.size := by simp [Cx.upd]
            refine ⟨_, w', _, hrun, u.rep hH ⟨hs0, fun r hr => ?_, by simp; omega, ?_⟩, hf, ?_⟩
            · rcases List.mem_append.1 hr with h | h
              · exact hrows r h
              · exact hy.rows r h
            · rw [hι]
              refine ⟨cells, e, (0, 0), hw', ?_, by simp, fun q j a ha => RepV_cat (hR.mono hf) (hy.mono hf) ha⟩
              rw [hcs]
              exact Nat.mul_le_mul_right _ (by simp; omega)
            · refine .sl _ _ _ _ _ _ _ (by simpa using hkl) hcap (fun _ => ⟨_, _, rfl⟩) (fun sz' zs hx => ?_) (fun zs hx he => ⟨by omega, .inl ⟨_, hι, by simp, ?_⟩⟩)
              · obtain ⟨rfl, rfl⟩ := hget (c.ι) w' sz' zs hx
                exact ⟨rfl, by simp; omega⟩
              · have : cellsIn w' c.w.heap.size = cells.size := by simp [cellsIn, hw']
                show _ = cellsIn w' c.w.heap.size / i.size - 0
                rw [this, hcs, Nat.mul_div_cancel _ hs0]
                omega
      · simp at h
    · simp at h
  · simp at h
end
end Go.Proofs.YtnbdpjhmepgoaaaDoor
namespace Go.Proofs.YtnbdpjhmepgoaaaDoor
open Go.RowKit
section
variable {P : Program} {c : Cx} {ρ : Operand → Value} {t : Tm}
theorem rowsOk_spec {sz : Nat} {ys : List (List AV)} (h : rowsOk sz ys = true) : (∀ r ∈ ys, r.length = sz) ∧ ∀ r ∈ ys, allCells r = true := by
  simp only [rowsOk, List.all_eq_true, Bool.and_eq_true, beq_iff_eq] at h
  exact ⟨fun r hr => (h r hr).1, fun r hr => (h r hr).2⟩
theorem cells_news {sz : Nat} {ys : List (List AV)} (h0 : 0 < sz) (hrows : ∀ r ∈ ys, r.length = sz) (b o : Nat) (w : World) (cs : Nat → Nat → Value)
    (hc : ∀ (i j : Nat) (a : AV), cellAt ys i j = some a → w.cell? ⟨b, o + (i * sz + j), none⟩ = some (cs i j)) (hr : ∀ (i j : Nat) (a : AV), cellAt ys i j = some a → RepV c a (cs i j)) :
    ∃ news, RepR c sz ys news ∧ ∀ m u, news[m]? = some u → w.cell? ⟨b, o + m, none⟩ = some u := by
  refine ⟨(List.range (ys.length * sz)).map fun m => cs (m / sz) (m % sz), ⟨hrows, by simp, fun i j a ha => ?_⟩, fun m u hm => ?_⟩
  · obtain ⟨h1, h2, h3⟩ := cellAt_lt hrows ha
    have e1 : (i * sz + j) / sz = i := by rw [Nat.mul_comm, Nat.mul_add_div h0, Nat.div_eq_of_lt h2]; omega
    have e2 : (i * sz + j) % sz = j := by rw [Nat.mul_comm, Nat.mul_add_mod]; exact Nat.mod_eq_of_lt h2
    simp only [List.getD_eq_getElem?_getD, List.getElem?_map, List.getElem?_range h3, Option.map_some, Option.getD_some, e1, e2]
    exact hr i j a ha
  · simp only [List.getElem?_map, Option.map_eq_some_iff] at hm
    obtain ⟨q, hq, rfl⟩ := hm
    have hlt : m < ys.length * sz := by have := (List.getElem?_eq_some_iff.1 hq).1; simpa using this
    rw [List.getElem?_range hlt] at hq
    simp only [Option.some.injEq] at hq
    subst hq
    have h1 : m / sz < ys.length := Nat.div_lt_of_lt_mul (by rw [Nat.mul_comm]; exact hlt)
    have h2 : m % sz < sz := Nat.mod_lt _ h0
    have hl : (ys[m / sz]).length = sz := hrows _ (List.getElem_mem _)
    have := hc (m / sz) (m % sz) ((ys[m / sz])[m % sz]'(by omega)) (by simp only [cellAt, List.getElem?_eq_getElem h1, Option.bind_some]; exact List.getElem?_eq_getElem (by omega))
    rw [← this]
    congr 2
    have := Nat.div_add_mod m sz
    rw [Nat.mul_comm] at this
    omega
theorem elems_spec (hH : RepH c) {a : AV} {v : Value} (hv : RepV c a v) {ys : List (List AV)} (h : elems c.H a = some ys) : ∃ A cap, v = .slice A ys.length cap ∧ ((ys = [] ∧ ∀ sz, RepR c sz ys []) ∨
    ∃ sz b o news, 0 < sz ∧ A = some ⟨b, o, none⟩ ∧ RepR c sz ys news ∧ ∀ m u, news[m]? = some u → c.w.cell? ⟨b, o + m, none⟩ = some u) := by
  have nil : ∀ sz, RepR c sz [] [] := fun sz => ⟨by simp, by simp, by simp [cellAt]⟩
  unfold elems at h
  split at h
  · simp only [Option.some.injEq] at h
    subst h
    cases hv with
    | lnil A cap => exact ⟨A, cap, rfl, .inl ⟨rfl, nil⟩⟩
    | list sz xs b o cap cs h0 hn hsz hlen hcap hw hst hc hr =>
      obtain ⟨news, h1, h2⟩ := cells_news h0 hsz b o c.w cs hc hr
      exact ⟨_, _, rfl, .inr ⟨sz, b, o, news, h0, rfl, h1, h2⟩⟩
  · rename_i sz k n off len
    split at h
    · rename_i sz' xs hk
      split at h
      · rename_i hcond
        obtain ⟨hn, rfl⟩ := hcond
        simp only [Option.some.injEq] at h
        subst h
        obtain ⟨h0, hrows, hlen, hobj⟩ := hH.obj k _ hk
        cases hv with
        | sl _ _ _ _ _ A cap hk' hcl hA hn' hval =>
          obtain ⟨hle, hdis⟩ := hval xs hk hn
          have hlen' : ((xs.drop off).take len).length = len := by simp; omega
          refine ⟨A, cap, by rw [hlen'], ?_⟩
          rcases hdis with ⟨b, hb, hAb, _⟩ | ⟨hz, _⟩
          · rw [hb] at hobj
            obtain ⟨cs, el, fr, g1, g2, g3, g4⟩ := hobj
            have hcell : ∀ (i j : Nat) (a : AV), cellAt ((xs.drop off).take len) i j = some a → cellAt xs (off + i) j = some a := fun i j a ha => by
              simp only [cellAt, List.getElem?_take] at ha ⊢
              split at ha
              · rwa [List.getElem?_drop] at ha
              · simp at ha
            obtain ⟨news, h1, h2⟩ := cells_news (c := c) (ys := (xs.drop off).take len) h0 (fun r hr => hrows r (List.mem_of_mem_drop (List.mem_of_mem_take hr))) b (off * sz) c.w (fun i j => cs.getD ((off + i) * sz + j) undef)
              (fun i j a ha => by
                obtain ⟨_, _, h3⟩ := cellAt_lt hrows (hcell i j a ha)
                rw [Nat.add_mul] at h3
                have hlt : off * sz + (i * sz + j) < cs.size := by omega
                rw [Nat.add_mul]
                rw [Nat.add_assoc]
                simp [World.cell?, g1, hlt]) (fun i j a ha => g4 _ _ a (hcell i j a ha))
            exact .inr ⟨sz, b, off * sz, news, h0, hAb, h1, h2⟩
          · subst hz
            left
            rw [List.take_zero]
            exact ⟨rfl, nil⟩
      · simp at h
    · simp at h
  · simp at h
theorem RepR_one {sz : Nat} {ys : List (List AV)} {news : List Value} (h0 : 0 < sz) (h : RepR c sz ys news) (hcells : ∀ r ∈ ys, allCells r = true) : ∀ u ∈ news, u.oneCell' = true := by
  intro u hu
  obtain ⟨m, hm, rfl⟩ := List.getElem_of_mem hu
  have hlt : m < ys.length * sz := by rw [← h.len]; exact hm
  have h1 : m / sz < ys.length := Nat.div_lt_of_lt_mul (by rw [Nat.mul_comm]; exact hlt)
  have h2 : m % sz < sz := Nat.mod_lt _ h0
  have hl : (ys[m / sz]).length = sz := h.rows _ (List.getElem_mem _)
  have hval := h.val (m / sz) (m % sz) ((ys[m / sz])[m % sz]'(by omega)) (by simp only [cellAt, List.getElem?_eq_getElem h1, Option.bind_some]; exact List.getElem?_eq_getElem (by omega))
  have e : m / sz * sz + m % sz = m := by have := Nat.div_add_mod m sz; rw [Nat.mul_comm] at this; exact this
  rw [e] at hval
  have h3 : news.getD m undef = news[m] := by simp [hm]
  rw [h3] at hval
  have h4 := List.all_eq_true.1 (hcells (ys[m / sz]) (List.getElem_mem _)) ((ys[m / sz])[m % sz]'(by omega)) (List.getElem_mem _)
  exact hval.one h4
theorem src_of {sz : Nat} {a : AV} {v : Value} (hH : RepH c) (hv : RepV c a v) {ys : List (List AV)} (h : elems c.H a = some ys) (hok : rowsOk sz ys = true) {tx e' : TypeId} (hk : P.underlying tx = some (.slice e')) :
    ∃ news, RepR c sz ys news ∧ Src P sz tx v ys.length news c.w := by
  obtain ⟨hrows, hcells⟩ := rowsOk_spec hok
  obtain ⟨A, cap, rfl, hd⟩ := elems_spec hH hv h
  rcases hd with ⟨rfl, hn⟩ | ⟨sz', b, o, news, h0, rfl, h1, h2⟩
  · refine ⟨[], hn sz, ?_⟩
    cases A with
    | none => exact Src.ofNil c.w hk cap
    | some ad => exact Src.ofSlice c.w hk ad 0 cap [] (by simp) (by simp) (by simp)
  · cases ys with
    | nil =>
      have : news = [] := List.eq_nil_of_length_eq_zero (by rw [h1.len]; simp)
      subst this
      exact ⟨[], ⟨by simp, by simp, by simp [cellAt]⟩, Src.ofSlice c.w hk _ 0 cap [] (by simp) (by simp) (by simp)⟩
    | cons y ys =>
      have e : sz' = sz := by rw [← h1.rows y (by simp), hrows y (by simp)]
      subst e
      exact ⟨news, h1, Src.ofSlice c.w hk _ _ cap news h1.len (fun j u hu => by rw [add_zero']; exact h2 j u hu) (RepR_one h0 h1 hcells)⟩
theorem s_append (hH : RepH c) (hρ : ∀ x, RepV c (ev t (lowX x)) (ρ x)) {o : Oper} {cl : Call} {s x : Operand} {e e' : TypeId} (ho : o.op = .call cl) (hc : cl.callee = .builtin .append) (ha : cl.args = #[s, x])
    (h0 : (cl.argTypes[0]?).bind P.underlying = some (.slice e)) (h1 : (cl.argTypes[1]?).bind P.underlying = some (.slice e')) (hs : 0 < szOf P e) (hz : (zeroOf P e).map (·.length) = some (szOf P e)) {v : AV} {H' : List AObj}
    (h : stepL (.append (szOf P e) (bytesOf' P e) (lowX s) (lowX x)) ⟨t, c.H⟩ = some (v, H')) : Does P ρ o c v H' := by
  obtain ⟨ta, ht0, ht1⟩ := Option.bind_eq_some_iff.1 h0
  obtain ⟨tx, hx0, hx1⟩ := Option.bind_eq_some_iff.1 h1
  obtain ⟨i, hi⟩ := Option.isSome_iff_exists.1 (info_of_sz hs)
  have hsz : i.size = szOf P e := by simp [szOf, hi]
  have hby : bytesOf' P e = i.bytes := by simp [bytesOf', hi]
  obtain ⟨z, hzz⟩ : ∃ z, i.zero = some z := by
    simp only [zeroOf, hi, Option.bind_some] at hz
    cases hq : i.zero with
    | none => simp [hq] at hz
    | some z => exact ⟨z, rfl⟩
  have hzs := zero_size hi hzz hz
  have main : ∀ ys news, RepR c (szOf P e) ys news → Src P (szOf P e) tx (ρ x) ys.length news c.w → appendL c.H (szOf P e) (bytesOf' P e) (ev t (lowX s)) ys = some (v, H') → Does P ρ o c v H' := fun ys news hR hsrc hL => by
    rw [hby] at hL
    have hrun := fun ty => appendL_sound (P := P) hH ht1 hi hzz (ty := ty) hs hsz hzs (hρ s) hR hsrc hL
    obtain ⟨ι', w', u, r1, r2, r3, r4⟩ := hrun o.type
    refine ⟨ι', w', .value u, u, ?_, .inl rfl, r2, r3, r4⟩
    have e1 : (Builtin.append_ cl.argTypes o.type #[ρ s, ρ x]) = Builtin.append_ #[ta, tx] o.type #[ρ s, ρ x] := by
      simp [Builtin.append_, ht0, hx0]
    simp only [execOp, ho, resolve, hc, ha]
    simp only [Sem.run_bind, Sem.run_pure, Result.andThen_ok, invoke, builtin]
    rw [show (#[s, x] : Array Operand).map ρ = #[ρ s, ρ x] from by simp, e1, r1]
    rfl
  simp only [stepL] at h
  split at h
  · rename_i hx
    have hxv := hρ x
    rw [hx] at hxv
    have := hxv.imm_inv
    refine main [] [] ⟨by simp, by simp, by simp [cellAt]⟩ ?_ h
    rw [this]
    exact Src.ofNil c.w hx1 0
  · simp only [Option.bind_eq_some_iff] at h
    obtain ⟨ys, hys, h⟩ := h
    split at h
    · rename_i hok
      obtain ⟨news, hR, hsrc⟩ := src_of (P := P) hH (hρ x) hys hok hx1
      exact main ys news hR hsrc h
    · simp at h
theorem byteRows_rep (s : ByteArray) : RepR c 1 (byteRows s) (byteCells s) := by
  refine ⟨fun r hr => ?_, by rw [byteCells_length]; simp [byteRows], fun i j a ha => ?_⟩
  · simp only [byteRows, List.mem_map] at hr
    obtain ⟨b, _, rfl⟩ := hr
    rfl
  · simp only [cellAt, byteRows, List.getElem?_map, Option.bind_eq_some_iff, Option.map_eq_some_iff] at ha
    obtain ⟨r, ⟨b, hb, rfl⟩, hj⟩ := ha
    cases j with
    | zero =>
      simp only [List.getElem?_cons_zero, Option.some.injEq] at hj
      subst hj
      have : (byteCells s).getD (i * 1 + 0) undef = .int .u8 b.toNat := by
        simp only [byteCells, Nat.mul_one, Nat.add_zero, List.getD_eq_getElem?_getD, List.getElem?_map, hb, Option.map_some, Option.getD_some]
      rw [this]
      exact .int _ _
    | succ j => simp at hj
theorem s_appendS (hH : RepH c) (hρ : ∀ x, RepV c (ev t (lowX x)) (ρ x)) {o : Oper} {cl : Call} {s x : Operand} {e : TypeId} (ho : o.op = .call cl) (hc : cl.callee = .builtin .append) (ha : cl.args = #[s, x])
    (h0 : (cl.argTypes[0]?).bind P.underlying = some (.slice e)) (h1 : (cl.argTypes[1]?).bind P.underlying = some .string) (hs : szOf P e = 1) (hb : bytesOf' P e = 1) (hz : (zeroOf P e).map (·.length) = some 1) {v : AV} {H' : List AObj}
    (h : stepL (.appendS (lowX s) (lowX x)) ⟨t, c.H⟩ = some (v, H')) : Does P ρ o c v H' := by
  obtain ⟨ta, ht0, ht1⟩ := Option.bind_eq_some_iff.1 h0
  obtain ⟨tx, hx0, hx1⟩ := Option.bind_eq_some_iff.1 h1
  obtain ⟨i, hi⟩ := Option.isSome_iff_exists.1 (info_of_sz (P := P) (t := e) (by omega))
  have hsz : i.size = 1 := by have : i.size = szOf P e := by simp [szOf, hi]
                              omega
  have hby : i.bytes = 1 := by have : bytesOf' P e = i.bytes := by simp [bytesOf', hi]
                               omega
  obtain ⟨z, hzz⟩ : ∃ z, i.zero = some z := by
    simp only [zeroOf, hi, Option.bind_some] at hz
    cases hq : i.zero with
    | none => simp [hq] at hz
    | some z => exact ⟨z, rfl⟩
  have hzs := zero_size hi hzz hz
  simp only [stepL] at h
  split at h
  · rename_i b hx
    have hxv := hρ x
    rw [hx] at hxv
    have hxs := hxv.str_inv
    have hsrc := Src.ofString (P := P) c.w hx1 b
    rw [show b.size = (byteRows b).length from by simp [byteRows]] at hsrc
    obtain ⟨ι', w', u, r1, r2, r3, r4⟩ := appendL_sound (P := P) hH ht1 hi hzz (ty := o.type) (sz := 1) (by omega) hsz hzs (hρ s) (byteRows_rep b) hsrc (by rw [hby]; exact h)
    refine ⟨ι', w', .value u, u, ?_, .inl rfl, r2, r3, r4⟩
    have e1 : (Builtin.append_ cl.argTypes o.type #[ρ s, ρ x]) = Builtin.append_ #[ta, tx] o.type #[ρ s, ρ x] := by
      simp [Builtin.append_, ht0, hx0]
    simp only [execOp, ho, resolve, hc, ha]
    simp only [Sem.run_bind, Sem.run_pure, Result.andThen_ok, invoke, builtin]
    rw [show (#[s, x] : Array Operand).map ρ = #[ρ s, ρ x] from by simp, e1, hxs, r1]
    rfl
  · simp at h
end
end Go.Proofs.YtnbdpjhmepgoaaaDoor
namespace Go.Proofs.YtnbdpjhmepgoaaaDoor
open Go.RowKit
section
variable {P : Program} {c : Cx} {ρ : Operand → Value} {t : Tm}
theorem isU8_spec {t : TypeId} (h : isU8 P t = true) : P.underlying t = some (.int .u8) := by
  unfold isU8 at h
  split at h
  · assumption
  · simp at h
theorem bytesOf_news : ∀ (ys : List (List AV)) (l : List UInt8) (news : List Value), bytesOf ys = some l → (∀ (i j : Nat) (a : AV), cellAt ys i j = some a → RepV c a (news.getD (i * 1 + j) undef)) → news.length = ys.length →
    ∃ ns : List Int, news = ns.map (fun n => .int .u8 n) ∧ l = ns.map fun n => UInt8.ofNat n.toNat
  | [], l, news, h, _, hl => by
    simp only [bytesOf, Option.some.injEq] at h
    subst h
    exact ⟨[], by simpa using List.eq_nil_of_length_eq_zero hl, rfl⟩
  | r :: ys, l, news, h, hv, hl => by
    cases news with
    | nil => simp at hl
    | cons u news =>
      unfold bytesOf at h
      split at h
      · rename_i heq; simp at heq
      · rename_i n r' heq
        simp only [List.cons.injEq] at heq
        obtain ⟨rfl, rfl⟩ := heq
        simp only [Option.map_eq_some_iff] at h
        obtain ⟨l', hl', rfl⟩ := h
        obtain ⟨ns, h1, h2⟩ := bytesOf_news ys l' news hl' (fun i j a ha => by
          have := hv (i + 1) j a (by simpa [cellAt] using ha)
          rw [show (i + 1) * 1 + j = (i * 1 + j) + 1 by omega] at this
          simpa using this) (by simpa using hl)
        have h0 := hv 0 0 (.int .u8 n) rfl
        have hu : u = .int .u8 n := by simpa using h0.int_inv
        exact ⟨n :: ns, by rw [hu, h1]; rfl, by rw [h2]; rfl⟩
      · simp at h
theorem bytesToString_zero (A : Option Addr) (cap : Nat) (w : World) : (Conv.bytesToString (.slice A 0 cap)).run P w = .ok (.string .empty) w := by
  cases A with
  | none => simp [Conv.bytesToString]
  | some a => exact run_bytesToString w a 0 cap [] (by simp [loadCells, loadCellsFrom])
theorem s_toStr (hH : RepH c) (hρ : ∀ x, RepV c (ev t (lowX x)) (ρ x)) {o : Oper} {s d e : TypeId} {x : Operand} (ho : o.op = .convert s d x) (hs : P.underlying s = some (.slice e)) (hd : P.underlying d = some .string) (he : isU8 P e = true) {v : AV} {H' : List AObj}
    (h : stepL (.toStr (lowX x)) ⟨t, c.H⟩ = some (v, H')) : Does P ρ o c v H' := by
  have hu := isU8_spec he
  have fin : ∀ (b : ByteArray), (convert s d (ρ x)).run P c.w = .ok (.string b) c.w → Does P ρ o c (.str b) c.H := fun b hb =>
    ⟨c.ι, c.w, .value (.string b), .string b, by simp only [execOp, ho, Sem.run_bind, hb, Result.andThen_ok, Sem.run_pure], .inl rfl, hH, Fr.refl c, .str b⟩
  have hx := hρ x
  simp only [stepL] at h
  split at h
  · rename_i hxe
    rw [hxe] at hx
    simp only [Option.some.injEq, Prod.mk.injEq] at h
    obtain ⟨rfl, rfl⟩ := h
    exact fin _ (by rw [hx.imm_inv, run_convert_bytes_string c.w s d e _ _ _ hs hu hd]; exact bytesToString_zero _ _ _)
  · simp only [Option.bind_eq_some_iff, Option.map_eq_some_iff, Prod.mk.injEq] at h
    obtain ⟨ys, hys, l, hl, rfl, rfl⟩ := h
    obtain ⟨A, cap, hv, hd'⟩ := elems_spec hH hx hys
    rcases hd' with ⟨rfl, _⟩ | ⟨sz, b, o', news, h0, rfl, h1, h2⟩
    · simp only [bytesOf, Option.some.injEq] at hl
      subst hl
      refine fin _ ?_
      rw [hv, run_convert_bytes_string c.w s d e _ _ _ hs hu hd]
      exact bytesToString_zero _ _ _
    · refine fin _ ?_
      cases ys with
      | nil =>
        simp only [bytesOf, Option.some.injEq] at hl
        subst hl
        rw [hv, run_convert_bytes_string c.w s d e _ _ _ hs hu hd]
        exact bytesToString_zero _ _ _
      | cons y ys =>
        have hsz : sz = 1 := by
          have := h1.rows y (by simp)
          unfold bytesOf at hl
          split at hl
          · rename_i heq; simp at heq
          · rename_i n r heq
            simp only [List.cons.injEq] at heq
            rw [heq.1] at this
            simpa using this.symm
          · simp at hl
        subst hsz
        obtain ⟨ns, hn1, hn2⟩ := bytesOf_news _ l news hl h1.val (by rw [h1.len, Nat.mul_one])
        have := run_convert_bytes_arg (P := P) c.w s e hs hu b o' (y :: ys).length cap ns (by rw [← Nat.mul_one (y :: ys).length, ← h1.len, hn1]; simp) (fun i hi => h2 i _ (by
          have hl : news.length = (y :: ys).length := by rw [h1.len, Nat.mul_one]
          have hns : ns.length = (y :: ys).length := by rw [← hl, hn1]; simp
          rw [hn1, List.getElem?_map, List.getElem?_eq_getElem (by omega)]
          simp [show i < ns.length by omega])) d hd
        rw [hv, this, hn2]
        rfl
end
end Go.Proofs.YtnbdpjhmepgoaaaDoor
namespace Go.Proofs.YtnbdpjhmepgoaaaDoor
open Go.RowKit
section
variable {P : Program} {c : Cx} {ρ : Operand → Value} {t : Tm}
theorem cellAt_set {xs : List (List AV)} {i m j : Nat} {cs : List AV} {a : AV} (h : cellAt (xs.set i cs) m j = some a) : (m = i ∧ cs[j]? = some a ∧ i < xs.length) ∨ (m ≠ i ∧ cellAt xs m j = some a) := by
  by_cases e : i = m
  · subst e
    left
    by_cases hl : i < xs.length
    · simp only [cellAt, List.getElem?_set_self hl, Option.bind_some] at h
      exact ⟨rfl, h, hl⟩
    · simp only [cellAt, Option.bind_eq_some_iff] at h
      obtain ⟨r, hr, _⟩ := h
      have := (List.getElem?_eq_some_iff.1 hr).1
      simp at this
      omega
  · right
    simp only [cellAt, List.getElem?_set_ne e] at h
    exact ⟨fun h' => e h'.symm, h⟩
theorem row_apart {sz i m j : Nat} (hj : j < sz) (h : m ≠ i) : m * sz + j < i * sz ∨ i * sz + sz ≤ m * sz + j := by
  rcases Nat.lt_or_gt_of_ne h with h | h
  · left
    have : (m + 1) * sz ≤ i * sz := Nat.mul_le_mul_right sz h
    rw [Nat.add_mul, Nat.one_mul] at this
    omega
  · right
    have : (i + 1) * sz ≤ m * sz := Nat.mul_le_mul_right sz h
    rw [Nat.add_mul, Nat.one_mul] at this
    omega
theorem row_in {sz i n : Nat} (h : i < n) : i * sz + sz ≤ n * sz := by
  have : (i + 1) * sz ≤ n * sz := Nat.mul_le_mul_right sz h
  rw [Nat.add_mul, Nat.one_mul] at this
  exact this
structure RepA (c : Cx) (sz : Nat) (xs : List (List AV)) (cells : Array Value) : Prop where
  rows : ∀ r ∈ xs, r.length = sz
  size : xs.length * sz ≤ cells.size
  val : ∀ (i j : Nat) (a : AV), cellAt xs i j = some a → RepV c a (cells.getD (i * sz + j) undef)
theorem cellsOf_spec' {a : AV} {v : Value} {cs : List AV} (h : cellsOf a = some cs) (hr : RepV c a v) : v.cells.size = cs.length ∧ ∀ (j : Nat) (x : AV), cs[j]? = some x → RepV c x (v.cells.toList.getD j undef) := by
  unfold cellsOf at h
  split at h
  · rename_i as
    simp only [Option.some.injEq] at h
    subst h
    obtain ⟨vs, rfl, hs, hrr⟩ := hr.agg_inv
    have hcells : (Value.agg vs).cells = vs := rfl
    rw [hcells]
    exact ⟨hs, fun j x hj => by simpa using hrr j x hj⟩
  · simp at h
  · simp at h
  · split at h
    · rename_i hc
      simp only [Option.some.injEq] at h
      subst h
      rw [hr.cells_one hc]
      refine ⟨rfl, fun j x hj => ?_⟩
      cases j with
      | zero => simp at hj; subst hj; exact hr
      | succ j => simp at hj
    · simp at h
theorem s_box (hH : RepH c) (hρ : ∀ x, RepV c (ev t (lowX x)) (ρ x)) {o : Oper} {ty : TypeId} {x : Operand} (ho : o.op = .box ty x) {v : AV} {H' : List AObj} (h : stepL (.box (lowX x)) ⟨t, c.H⟩ = some (v, H')) : Does P ρ o c v H' := by
  simp only [stepL, Option.bind_eq_some_iff] at h
  obtain ⟨cs, hcs, h⟩ := h
  split at h
  · rename_i hl
    simp only [Option.some.injEq, Prod.mk.injEq] at h
    obtain ⟨rfl, rfl⟩ := h
    obtain ⟨g1, g2⟩ := cellsOf_spec' hcs (hρ x)
    obtain ⟨h1, h2⟩ := new_vec hH (sz := cs.length) (xs := [cs]) (ρ x).cells ty (0, 0) hl (by simp) (by simp [maxLen]) (by rw [g1]; simp) (by simp) (fun i j a ha => by
      obtain ⟨rfl, hj⟩ := cellAt_one ha
      simpa using g2 j a hj)
    refine ⟨_, _, .value (.pointer (some ⟨c.w.heap.size, 0, none⟩)), _, ?_, .inl rfl, h2, h1, new_ptr _ _ _ _⟩
    simp only [execOp, ho, Instr.box, Sem.run_bind, newVar, newRow, run_newObj, Result.andThen_ok, Sem.run_pure]
    rfl
  · simp at h
theorem fillRows_sound (hρ : ∀ x, RepV c (ev t (lowX x)) (ρ x)) {sz : Nat} : ∀ (parts : List (Nat × Operand)) (xs r : List (List AV)) (cells : Array Value), RepA c sz xs cells → cells.size = xs.length * sz →
    fillRows (ev t) sz xs (parts.map fun (p : Nat × Operand) => (p.1, lowX p.2)) = some r → ∃ out, Instr.fill (fun i => some (i * sz, sz)) cells (parts.map fun p => (p.1, ρ p.2)) = some out ∧ RepA c sz r out ∧ r.length = xs.length
  | [], xs, r, cells, hA, _, h => by
    simp only [List.map_nil, fillRows, Option.some.injEq] at h
    subst h
    exact ⟨cells, rfl, hA, rfl⟩
  | (i, x) :: parts, xs, r, cells, hA, hs, h => by
    simp only [List.map_cons, fillRows, Option.bind_eq_some_iff] at h
    obtain ⟨cs, hcs, h⟩ := h
    split at h
    · rename_i hc
      obtain ⟨hcl, hi⟩ := hc
      obtain ⟨g1, g2⟩ := cellsOf_spec' hcs (hρ x)
      have hri := row_in (sz := sz) hi
      have gl : (ρ x).cells.toList.length = sz := by simpa [hcl] using g1
      have hA' : RepA c sz (xs.set i cs) (putAll cells (i * sz) (ρ x).cells.toList) := by
        refine ⟨fun r hr => ?_, by rw [putAll_size]; simpa using hA.size, fun m j a ha => ?_⟩
        · rcases List.mem_or_eq_of_mem_set hr with h | h
          · exact hA.rows r h
          · rw [h]; exact hcl
        · rcases cellAt_set ha with ⟨rfl, h2, _⟩ | ⟨h1, h2⟩
          · have hj : j < sz := by rw [← hcl]; exact (List.getElem?_eq_some_iff.1 h2).1
            rw [putAll_in _ _ _ _ (by omega) (by omega)]
            exact g2 j a h2
          · obtain ⟨_, hj, _⟩ := cellAt_lt hA.rows h2
            rw [putAll_out _ _ _ _ (by have := row_apart hj h1; omega)]
            exact hA.val m j a h2
      obtain ⟨out, ho, hR, hl⟩ := fillRows_sound hρ parts (xs.set i cs) r _ hA' (by rw [putAll_size]; simpa using hs) h
      refine ⟨out, ?_, hR, by simpa using hl⟩
      simp only [List.map_cons, Instr.fill]
      rw [if_neg (by rw [g1, hcl, hs]; simp; omega), fill_step]
      exact ho
    · simp at h
theorem zeros_get {z : Array Value} {n i j : Nat} (hj : j < z.size) (hi : i < n) : ((Array.range (n * z.size)).map (z[· % z.size]!)).getD (i * z.size + j) undef = z.getD j undef := by
  have hlt : i * z.size + j < n * z.size := by have := row_in (sz := z.size) hi; omega
  have e : (i * z.size + j) % z.size = j := by rw [Nat.mul_comm, Nat.mul_add_mod]; exact Nat.mod_eq_of_lt hj
  simp [hlt, e, hj]
theorem zeros_rep {z : List AV} {zs : Array Value} (hz : RepVs c z zs) (n m : Nat) (hnm : n ≤ m) : RepA c z.length (List.replicate n z) ((Array.range (m * zs.size)).map (zs[· % zs.size]!)) := by
  have hs := hz.1
  refine ⟨fun r hr => by rw [List.eq_of_mem_replicate hr], ?_, fun i j a ha => ?_⟩
  · simp only [List.length_replicate, Array.size_map, Array.size_range, hs]
    exact Nat.mul_le_mul_right _ hnm
  · simp only [cellAt, Option.bind_eq_some_iff] at ha
    obtain ⟨r, hr, hj⟩ := ha
    have hi : i < n := by have := (List.getElem?_eq_some_iff.1 hr).1; simpa using this
    have : r = z := by
      rw [List.getElem?_replicate, if_pos hi] at hr
      exact (Option.some.inj hr).symm
    subst this
    have hjl := (List.getElem?_eq_some_iff.1 hj).1
    rw [← hs, zeros_get (by omega) (by omega)]
    exact hz.2 j a hj
theorem s_bslice (hH : RepH c) (hρ : ∀ x, RepV c (ev t (lowX x)) (ρ x)) {o : Oper} {ty e : TypeId} {len : Nat} {parts : Array (Nat × Operand)} {z : List AV} (ho : o.op = .buildSlice ty len parts) (ht : P.underlying ty = some (.slice e)) (hz : zeroOf P e = some z) (h0 : 0 < z.length)
    (hsz : z.length = szOf P e) (hcap : len * szOf P e ≤ 2 ^ 24) {v : AV} {H' : List AObj} (h : stepL (.bslice (szOf P e) z len (parts.toList.map fun (x : Nat × Operand) => match x with | (i, x) => (i, lowX x))) ⟨t, c.H⟩ = some (v, H')) : Does P ρ o c v H' := by
  simp only [stepL, Option.map_eq_some_iff, Prod.mk.injEq] at h
  obtain ⟨xs, hxs, rfl, rfl⟩ := h
  obtain ⟨zv, hzr, hzz, hi⟩ := zero_rep (P := P) c hz
  have hs := hzz.1
  have hA := zeros_rep hzz len len (Nat.le_refl _)
  rw [hsz] at hA
  obtain ⟨out, hout, hR, hl⟩ := fillRows_sound (c := c) hρ parts.toList _ xs _ hA (by simp [hs, hsz]) hxs
  simp only [List.length_replicate] at hl
  have houts : out.size = len * szOf P e := by
    have : ∀ (l : List (Nat × Value)) (cells out : Array Value), Instr.fill (fun i => some (i * szOf P e, szOf P e)) cells l = some out → out.size = cells.size := by
      intro l
      induction l with
      | nil => intro cells out h; simp only [Instr.fill, Option.some.injEq] at h; rw [h]
      | cons p l ih =>
        intro cells out h
        obtain ⟨i, v⟩ := p
        simp only [Instr.fill] at h
        split at h
        · simp at h
        · rw [ih _ _ h, fill_step, putAll_size]
    rw [this _ _ _ hout]
    simp [hs, hsz]
  have hlen : xs.length ≤ maxLen := by
    have : len ≤ len * szOf P e := Nat.le_mul_of_pos_right _ (by omega)
    simp [maxLen]; omega
  obtain ⟨h1, h2⟩ := new_vec hH (sz := szOf P e) (xs := xs) out e (0, 0) (by omega) hR.rows hlen hR.size (by simp) hR.val
  have hsl := new_sl (c := c) (szOf P e) xs c.w.heap.size len (c.w.alloc (.cells out e (0, 0))) (by omega) (by rw [cellsIn_alloc, houts]; exact Nat.mul_div_cancel _ (by omega))
  rw [hl] at hsl
  refine ⟨_, _, .value (.slice (some ⟨c.w.heap.size, 0, none⟩) len len), _, ?_, .inl rfl, h2, h1, hsl⟩
  have hn : ¬ (len * szOf P e > 2 ^ 24) := by omega
  have e1 : (parts.map fun (x : Nat × Operand) => match x with | (i, x) => (i, ρ x)).toList = parts.toList.map fun p => (p.1, ρ p.2) := by simp
  simp only [execOp, ho, Instr.buildSlice, Sem.run_bind, run_underlying ht, Result.andThen_ok, run_sizeOf' hi]
  rw [if_neg hn]
  by_cases hz0 : len * szOf P e = 0
  · have hlen0 : len = 0 := by
      rcases Nat.mul_eq_zero.1 hz0 with h | h
      · exact h
      · omega
    subst hlen0
    have hrange : (Array.range (0 * szOf P e)).map ((#[] : Array Value)[· % (#[] : Array Value).size]!) = (Array.range (0 * zv.cells.size)).map (zv.cells[· % zv.cells.size]!) := by simp
    simp only [hz0, if_true, Sem.run_bind, Sem.run_pure, Result.andThen_ok, e1]
    rw [show (Array.range 0).map ((#[] : Array Value)[· % (#[] : Array Value).size]!) = (Array.range (0 * zv.cells.size)).map (zv.cells[· % zv.cells.size]!) by simp, hout]
    simp only [Sem.run_bind, newRow, run_newObj, Result.andThen_ok, Sem.run_pure]
    rfl
  · simp only [hz0, if_false, Sem.run_bind, hzr, Result.andThen_ok, Sem.run_pure, e1]
    rw [show len * szOf P e = len * zv.cells.size by rw [hs, hsz], hout]
    simp only [Sem.run_bind, newRow, run_newObj, Result.andThen_ok, Sem.run_pure]
    rfl
theorem s_mkSlice (hH : RepH c) (hρ : ∀ x, RepV c (ev t (lowX x)) (ρ x)) {o : Oper} {ty e : TypeId} {l m : Operand} {z : List AV} (ho : o.op = .makeSlice ty l m) (ht : P.underlying ty = some (.slice e)) (hz : zeroOf P e = some z) (h0 : 0 < z.length)
    (hsz : z.length = szOf P e) {v : AV} {H' : List AObj} (h : stepL (.mkSlice (szOf P e) (bytesOf' P e) z (lowX l) (lowX m)) ⟨t, c.H⟩ = some (v, H')) : Does P ρ o c v H' := by
  simp only [stepL] at h
  split at h
  · rename_i k1 a k2 b hl hm
    split at h
    · rename_i hc
      obtain ⟨g1, g2, g3, g4⟩ := hc
      simp only [Option.some.injEq, Prod.mk.injEq] at h
      obtain ⟨rfl, rfl⟩ := h
      have e1 := hρ l
      rw [hl] at e1
      have e2 := hρ m
      rw [hm] at e2
      simp only [zeroOf, Option.map_eq_some_iff, Option.bind_eq_some_iff] at hz
      obtain ⟨zv, ⟨i, hi, hzv⟩, hzl⟩ := hz
      have hs : zv.cells.size = z.length := by rw [← hzl]; simp
      have hi1 : i.size = szOf P e := by simp [szOf, hi]
      have hi2 : i.bytes = bytesOf' P e := by simp [bytesOf', hi]
      have hzz : RepVs c z zv.cells := by
        refine ⟨hs, fun j a ha => ?_⟩
        rw [← hzl] at ha
        simp only [List.getElem?_map, Option.map_eq_some_iff] at ha
        obtain ⟨u, hu, rfl⟩ := ha
        rw [Array.getElem?_toList] at hu
        simp only [Array.getD_eq_getD_getElem?, hu, Option.getD_some]
        exact absC_rep c u
      have hrun := run_make (P := P) c.w ty e i zv ht hi hzv k1 k2 a b g1 g2 (by rw [hi2]; omega) g4
      have hA := zeros_rep hzz a.toNat b.toNat (by omega)
      rw [hsz] at hA
      have hcells : madeCells zv.cells (b.toNat * i.size) = (Array.range (b.toNat * zv.cells.size)).map (zv.cells[· % zv.cells.size]!) := by rw [show i.size = zv.cells.size by omega]; rfl
      rw [hcells] at hrun
      obtain ⟨h1, h2⟩ := new_vec hH (sz := szOf P e) (xs := List.replicate a.toNat z) _ e (0, 0) (by omega) hA.rows (by simp [maxLen]; omega) hA.size (by simp) hA.val
      have hsl := new_sl (c := c) (szOf P e) (List.replicate a.toNat z) c.w.heap.size b.toNat (c.w.alloc (.cells ((Array.range (b.toNat * zv.cells.size)).map (zv.cells[· % zv.cells.size]!)) e (0, 0))) (by simp; omega) (by
        rw [cellsIn_alloc]
        simp only [Array.size_map, Array.size_range, hs, hsz]
        exact Nat.mul_div_cancel _ (by omega))
      simp only [List.length_replicate] at hsl
      exact ⟨_, _, .value (.slice (some ⟨c.w.heap.size, 0, none⟩) a.toNat b.toNat), _, by simp only [execOp, ho, Sem.run_bind, e1.int_inv, e2.int_inv, hrun, Result.andThen_ok, Sem.run_pure], .inl rfl, h2, h1, hsl⟩
    · simp at h
  · simp at h
end
end Go.Proofs.YtnbdpjhmepgoaaaDoor
namespace Go.Proofs.YtnbdpjhmepgoaaaDoor
open Go.RowKit
section
variable {P : Program} {c : Cx} {ρ : Operand → Value} {t : Tm}
theorem s_mkMap (hH : RepH c) {o : Oper} {ty : TypeId} (ho : o.op = .makeMap ty none) : Does P ρ o c (.map c.H.length) (c.H ++ [.map []]) := by
  have hb : ∀ b, b < c.w.heap.size → (c.w.alloc (.map #[] 0)).heap[b]? = c.w.heap[b]? := fun b hb => Below.heap_alloc c.w _ b hb
  have hnew : (c.w.alloc (.map #[] 0)).heap[c.w.heap.size]? = some (.map #[] 0) := by
    show (c.w.heap.push (.map #[] 0))[c.w.heap.size]? = _
    simp
  have hf : Fr c (c.push (.map []) (some c.w.heap.size) (c.w.alloc (.map #[] 0))) := Fr.push rfl rfl rfl (by simp) hb (fun b e => by cases e; exact Nat.le_refl _) hH.lt
  have hR : RepH (c.push (.map []) (some c.w.heap.size) (c.w.alloc (.map #[] 0))) := hH.push rfl rfl rfl (by simp) hb (fun b e => by cases e; simp) ⟨_, #[], 0, push_ι _ _ _, hnew, rfl, by simp⟩
  refine ⟨_, _, .value (.map (some c.w.heap.size)), _, ?_, .inl rfl, hR, hf, .map _ _ (push_len _ _ _) (fun es hx => ⟨_, push_ι _ _ _, rfl⟩)⟩
  simp only [execOp, ho, Option.map_none, Instr.makeMap, Sem.run_bind, Sem.run_pure, Result.andThen_ok, run_newObj]
  rfl
theorem keyIs_spec {k q : AV} {x y : Value} {b : Bool} (h : keyIs k q = some b) (hx : RepV c k x) (hy : RepV c q y) : ∃ kd n m, k = .int kd n ∧ x = .int kd n ∧ y = .int kd m ∧ b = (n == m) := by
  unfold keyIs at h
  split at h
  · rename_i kd n kd' m
    split at h
    · rename_i e
      subst e
      simp only [Option.some.injEq] at h
      exact ⟨kd, n, m, rfl, hx.int_inv, hy.int_inv, h.symm⟩
    · simp at h
  · simp at h
theorem findNow_sound {kd : IntKind} {k : AV} {x : Value} (hx : RepV c k x) : ∀ (es : List (AV × AV)) (ents : List MapEntry) (i : Nat) (r : Option (Nat × AV)), ents.length = es.length →
    (∀ (i : Nat) (p : AV × AV), es[i]? = some p → ∃ e : MapEntry, ents[i]? = some e ∧ RepV c p.1 e.key ∧ RepV c p.2 e.val) → findKeyA k es i = some r →
    match r with
    | none => Instr.findNow (.int kd) x ents i = some none
    | some (j, v) => ∃ u, Instr.findNow (.int kd) x ents i = some (some (j, u)) ∧ RepV c v u ∧ i ≤ j ∧ (∃ e : MapEntry, ents[j - i]? = some e ∧ e.key = x) ∧ ∃ p, es[j - i]? = some p
  | [], [], i, r, _, _, h => by
    simp only [findKeyA, Option.some.injEq] at h
    subst h
    rfl
  | [], _ :: _, i, r, hl, _, _ => by simp at hl
  | _ :: _, [], i, r, hl, _, _ => by simp at hl
  | (q, v) :: es, e :: ents, i, r, hl, hr, h => by
    obtain ⟨e', he, hk, hv⟩ := hr 0 (q, v) rfl
    simp only [List.getElem?_cons_zero, Option.some.injEq] at he
    subst he
    simp only [findKeyA] at h
    split at h
    · rename_i hq
      simp only [Option.some.injEq] at h
      subst h
      obtain ⟨kd', n, m, _, h2, h3, h4⟩ := keyIs_spec hq hx hk
      refine ⟨e.val, ?_, hv, Nat.le_refl _, ⟨e, by simp, ?_⟩, (q, v), by simp⟩
      · simp only [Instr.findNow, h2, h3, Instr.sameNow, if_true]
        rw [← h4]
      · rw [h3, h2]
        have := h4.symm
        simp at this
        rw [this]
    · rename_i hq
      obtain ⟨kd', n, m, _, h2, h3, h4⟩ := keyIs_spec hq hx hk
      have ih := findNow_sound (kd := kd) hx es ents (i + 1) r (by simpa using hl) (fun i p hp => by simpa using hr (i + 1) p (by simpa using hp)) h
      have e1 : Instr.findNow (.int kd) x (e :: ents) i = Instr.findNow (.int kd) x ents (i + 1) := by
        simp only [Instr.findNow, h2, h3, Instr.sameNow, if_true]
        rw [← h4]
      cases r with
      | none => simpa only [e1] using ih
      | some r =>
        obtain ⟨j, u⟩ := r
        obtain ⟨u', g1, g2, g3, ⟨e2, g4, g5⟩, p, g6⟩ := ih
        have hj : j - i = (j - (i + 1)) + 1 := by omega
        exact ⟨u', by rw [e1]; exact g1, g2, by omega, ⟨e2, by rw [hj]; simpa using g4, g5⟩, p, by rw [hj]; simpa using g6⟩
    · simp at h
theorem isInt_spec {a : AV} {v : Value} (h : isInt a = true) (hv : RepV c a v) : ∃ k n, v = .int k n := by
  unfold isInt at h
  split at h
  · exact ⟨_, _, hv.int_inv⟩
  · simp at h
theorem checkKey_int' (b : Bool) {kt : TypeId} {kd : IntKind} (hk : P.underlying kt = some (.int kd)) (k : IntKind) (n : Int) (w : World) (d : Nat) : (Instr.checkKey b (d + 1) kt (.int k n)).run P w = .ok () w := by
  simp [Instr.checkKey, run_underlying hk]
theorem checkKey_int (b : Bool) {kt : TypeId} {kd : IntKind} (hk : P.underlying kt = some (.int kd)) (k : IntKind) (n : Int) (w : World) : (Instr.checkKey b 10000 kt (.int k n)).run P w = .ok () w := checkKey_int' b hk k n w 9999
theorem map_spec (hH : RepH c) {m : Nat} {v : Value} (hv : RepV c (.map m) v) {es : List (AV × AV)} (hm : c.H[m]? = some (.map es)) : ∃ b ents clock, v = .map (some b) ∧ c.ι m = some b ∧ c.w.heap[b]? = some (.map ents clock) ∧ ents.size = es.length ∧
    ∀ (i : Nat) (p : AV × AV), es[i]? = some p → ∃ e : MapEntry, ents[i]? = some e ∧ RepV c p.1 e.key ∧ RepV c p.2 e.val := by
  obtain ⟨b, ents, clock, h1, h2, h3, h4⟩ := hH.obj m _ hm
  cases hv with
  | map _ r hk hvv =>
    obtain ⟨b', hb', rfl⟩ := hvv es hm
    rw [h1] at hb'
    simp only [Option.some.injEq] at hb'
    subst hb'
    exact ⟨b, ents, clock, rfl, h1, h2, h3, h4⟩
theorem zeroV_rep {t : TypeId} {z : AV} (h : zeroV P t = some z) (c : Cx) : ∃ v, (∀ w, (zeroValue t).run P w = .ok v w) ∧ RepV c z v := by
  simp only [zeroV, Option.map_eq_some_iff, Option.bind_eq_some_iff] at h
  obtain ⟨v, ⟨i, hi, hz⟩, rfl⟩ := h
  exact ⟨v, fun w => by simp [zeroValue, typeInfo, hi, hz], absV_rep c v⟩
theorem tup2 {a b : AV} {x y : Value} (h1 : RepV c a x) (h2 : RepV c b y) : RepV c (.tup [a, b]) (.tuple #[x, y]) := by
  refine .tup _ _ rfl fun i z hz => ?_
  match i with
  | 0 => simp at hz; subst hz; exact h1
  | 1 => simp at hz; subst hz; exact h2
  | i + 2 => simp at hz
theorem s_lookup (hH : RepH c) (hρ : ∀ x, RepV c (ev t (lowX x)) (ρ x)) {o : Oper} {ty kt et : TypeId} {x k : Operand} {ok : Bool} {kd : IntKind} {z : AV} (ho : o.op = .lookup ty x k ok) (ht : P.underlying ty = some (.map kt et)) (hk : P.underlying kt = some (.int kd)) (hz : zeroV P et = some z) {v : AV} {H' : List AObj}
    (h : stepL (.lookup z (lowX x) (lowX k) ok) ⟨t, c.H⟩ = some (v, H')) : H' = c.H ∧ ∃ u, RepV c v u ∧ (execOp ρ o).run P c.w = .ok (.value u) c.w := by
  simp only [stepL] at h
  split at h
  · rename_i m hm
    split at h
    · rename_i es hes
      split at h
      · rename_i hint
        simp only [Option.map_eq_some_iff] at h
        obtain ⟨r, hr, h⟩ := h
        have hx := hρ x
        rw [hm] at hx
        obtain ⟨b, ents, clock, hv, hb, hheap, hsz, hents⟩ := map_spec hH hx hes
        obtain ⟨k', n, hkv⟩ := isInt_spec hint (hρ k)
        have hf := findNow_sound (kd := kd) (hρ k) es ents.toList 0 r (by simpa using hsz) (fun i p hp => by
          obtain ⟨e, he, h1, h2⟩ := hents i p hp
          exact ⟨e, by rw [Array.getElem?_toList]; exact he, h1, h2⟩) hr
        have hget : (getObj b).run P c.w = .ok (.map ents clock) c.w := by simp [getObj, Sem.run, hheap]
        obtain ⟨zv, hzr, hzrep⟩ := zeroV_rep hz c
        have hck' : (Instr.checkKey ents.isEmpty 10000 kt (ρ k)).run P c.w = .ok () c.w := by rw [hkv]; exact checkKey_int ents.isEmpty hk k' n c.w
        cases r with
        | none =>
          simp only [Prod.mk.injEq] at h
          obtain ⟨rfl, rfl⟩ := h
          refine ⟨rfl, if ok then .tuple #[zv, .bool false] else zv, ?_, ?_⟩
          · cases ok
            · exact hzrep
            · exact tup2 hzrep (.bool _)
          · cases ok <;> simp only [execOp, ho, Instr.lookup, Sem.run_bind, Sem.run_pure, Result.andThen_ok, run_underlying ht, hv, hget, hck', Instr.findKey, run_underlying hk, hf, hzr, if_true, if_false, Bool.false_eq_true]
        | some r =>
          obtain ⟨j, av⟩ := r
          simp only [Prod.mk.injEq] at h
          obtain ⟨rfl, rfl⟩ := h
          obtain ⟨u, g1, g2, _⟩ := hf
          refine ⟨rfl, if ok then .tuple #[u, .bool true] else u, ?_, ?_⟩
          · cases ok
            · exact g2
            · exact tup2 g2 (.bool _)
          · cases ok <;> simp only [execOp, ho, Instr.lookup, Sem.run_bind, Sem.run_pure, Result.andThen_ok, run_underlying ht, hv, hget, hck', Instr.findKey, run_underlying hk, g1, if_true, if_false, Bool.false_eq_true]
      · simp at h
    · simp at h
  · simp at h
theorem upd_obj (hH : RepH c) {k b : Nat} {o o' : AObj} {ob ob' : Obj} (hk : c.H[k]? = some o) (hl : o.live = true) (hb : c.ι k = some b) (hheap : c.w.heap[b]? = some ob) (hnc : ∀ x y z, ob ≠ .cells x y z)
    (hv : ∀ sz xs, o' ≠ .vec sz xs) (hm : ∀ es', o' = .map es' → ∃ es, o = .map es) (hi : ∀ s p, o' = .iter s p → ∃ s p, o = .iter s p)
    (hrep : Fr c (c.upd k o' (c.ι k) { c.w with heap := c.w.heap.setIfInBounds b ob' }) → RepO (c.upd k o' (c.ι k) { c.w with heap := c.w.heap.setIfInBounds b ob' }) k o') :
    (setObj b ob').run P c.w = .ok () { c.w with heap := c.w.heap.setIfInBounds b ob' } ∧ RepH (c.upd k o' (c.ι k) { c.w with heap := c.w.heap.setIfInBounds b ob' }) ∧ Fr c (c.upd k o' (c.ι k) { c.w with heap := c.w.heap.setIfInBounds b ob' }) := by
  have u : Upd c k o o' (c.ι k) { c.w with heap := c.w.heap.setIfInBounds b ob' } := ⟨hk, hl, rfl, rfl, rfl, by simp, fun x _ hne => by
    have : b ≠ x := fun e => hne (by rw [hb, e])
    exact Array.getElem?_setIfInBounds_ne this, .inl rfl, fun sz xs e => absurd e (hv sz xs), fun es e => ⟨hm es e, rfl⟩, fun s p e => ⟨hi s p e, rfl⟩⟩
  have hf := u.fr hH
  refine ⟨?_, u.rep hH (hrep hf), hf⟩
  cases ob with
  | cells x y z => exact absurd rfl (hnc x y z)
  | _ => simp only [setObj, Sem.run, hheap]
theorem keyThatStays_int (k : IntKind) (n : Int) (w : World) : (Instr.keyThatStays (.int k n) (.int k n)).run P w = .ok (.int k n) w := by
  simp only [Instr.keyThatStays]
  rw [if_pos (by unfold Instr.sameBits; simp), Sem.run_pure]
theorem s_mapSet (hH : RepH c) (hρ : ∀ x, RepV c (ev t (lowX x)) (ρ x)) {o : Oper} {ty kt et : TypeId} {m k x : Operand} {kd : IntKind} (ho : o.op = .mapUpdate ty m k x ∨ o.op = .insert ty m k x) (ht : P.underlying ty = some (.map kt et)) (hk : P.underlying kt = some (.int kd)) {v : AV} {H' : List AObj}
    (h : stepL (.mapSet (lowX m) (lowX k) (lowX x)) ⟨t, c.H⟩ = some (v, H')) : Does P ρ o c v H' := by
  simp only [stepL] at h
  split at h
  · rename_i q hm
    split at h
    · rename_i es hes
      split at h
      · rename_i hint
        simp only [Option.map_eq_some_iff] at h
        obtain ⟨r, hr, h⟩ := h
        have hx := hρ m
        rw [hm] at hx
        obtain ⟨b, ents, clock, hv, hb, hheap, hsz, hents⟩ := map_spec hH hx hes
        obtain ⟨k', n, hkv⟩ := isInt_spec hint (hρ k)
        have hf := findNow_sound (kd := kd) (hρ k) es ents.toList 0 r (by simpa using hsz) (fun i p hp => by
          obtain ⟨e, he, h1, h2⟩ := hents i p hp
          exact ⟨e, by rw [Array.getElem?_toList]; exact he, h1, h2⟩) hr
        have hget : (getObj b).run P c.w = .ok (.map ents clock) c.w := by simp [getObj, Sem.run, hheap]
        have hck' : (Instr.checkKey false 10000 kt (ρ k)).run P c.w = .ok () c.w := by rw [hkv]; exact checkKey_int false hk k' n c.w
        have hlt : b < c.w.heap.size := (Array.getElem?_eq_some_iff.1 hheap).1
        have up := fun (es' : List (AV × AV)) (ob' : Obj) => upd_obj (P := P) (ob' := ob') (o' := .map es') hH hes rfl hb hheap (fun _ _ _ e => by cases e) (fun _ _ e => by cases e) (fun es' _ => ⟨es, rfl⟩) (fun s p e => by cases e)
        cases r with
        | none =>
          simp only [Prod.mk.injEq] at h
          obtain ⟨rfl, rfl⟩ := h
          obtain ⟨g1, g2, g3⟩ := up (es ++ [(ev t (lowX k), ev t (lowX x))]) (.map (ents.push { key := ρ k, val := ρ x, born := clock }) (clock + 1)) (fun hf' => by
            refine ⟨b, ents.push { key := ρ k, val := ρ x, born := clock }, clock + 1, by simp [Cx.upd, hb], by simp [Cx.upd, hlt], by simp [hsz], fun i p hp => ?_⟩
            by_cases hi : i < es.length
            · rw [List.getElem?_append_left hi] at hp
              obtain ⟨e, he, h1, h2⟩ := hents i p hp
              exact ⟨e, by rw [Array.getElem?_push_lt (by omega)]; rw [Array.getElem?_eq_getElem (by omega)] at he; exact he, h1.mono hf', h2.mono hf'⟩
            · rw [List.getElem?_append_right (by omega)] at hp
              have : i - es.length = 0 := by
                have := (List.getElem?_eq_some_iff.1 hp).1
                simp at this
                omega
              rw [this] at hp
              simp only [List.getElem?_cons_zero, Option.some.injEq] at hp
              subst hp
              have : i = ents.size := by omega
              subst this
              exact ⟨{ key := ρ k, val := ρ x, born := clock }, by simp, (hρ k).mono hf', (hρ x).mono hf'⟩)
          refine ⟨_, _, .skip, undef, ?_, .inr ⟨rfl, rfl⟩, g2, g3, .dead _⟩
          rcases ho with ho | ho <;> simp only [execOp, ho, Instr.mapUpdate, Sem.run_bind, Sem.run_pure, Result.andThen_ok, run_underlying ht, hv, hget, hck', Instr.findKey, run_underlying hk, hf, g1]
        | some r =>
          obtain ⟨j, av⟩ := r
          simp only [Prod.mk.injEq] at h
          obtain ⟨rfl, rfl⟩ := h
          obtain ⟨u, f1, f2, _, ⟨e0, f4, f5⟩, p0, f6⟩ := hf
          simp only [Nat.sub_zero] at f4 f6
          rw [Array.getElem?_toList] at f4
          obtain ⟨g1, g2, g3⟩ := up (es.set j (ev t (lowX k), ev t (lowX x))) (.map (ents.modify j fun e => { e with key := ρ k, val := ρ x }) clock) (fun hf' => by
            refine ⟨b, ents.modify j fun e => { e with key := ρ k, val := ρ x }, clock, by simp [Cx.upd, hb], by simp [Cx.upd, hlt], by simp [hsz], fun i p hp => ?_⟩
            by_cases hi : j = i
            · subst hi
              rw [List.getElem?_set_self ((List.getElem?_eq_some_iff.1 f6).1)] at hp
              simp only [Option.some.injEq] at hp
              subst hp
              exact ⟨_, by rw [Array.getElem?_modify, if_pos rfl, f4]; rfl, (hρ k).mono hf', (hρ x).mono hf'⟩
            · rw [List.getElem?_set_ne hi] at hp
              obtain ⟨e, he, h1, h2⟩ := hents i p hp
              exact ⟨e, by rw [Array.getElem?_modify, if_neg hi]; exact he, h1.mono hf', h2.mono hf'⟩)
          refine ⟨_, _, .skip, undef, ?_, .inr ⟨rfl, rfl⟩, g2, g3, .dead _⟩
          have hold : ((ents[j]?).map (·.key)).getD (ρ k) = ρ k := by rw [f4]; exact f5
          have hks : (Instr.keyThatStays (ρ k) (ρ k)).run P c.w = .ok (ρ k) c.w := by rw [hkv]; exact keyThatStays_int k' n c.w
          rcases ho with ho | ho <;> simp only [execOp, ho, Instr.mapUpdate, Sem.run_bind, Sem.run_pure, Result.andThen_ok, run_underlying ht, hv, hget, hck', Instr.findKey, run_underlying hk, f1, hold, hks, g1]
      · simp at h
    · simp at h
  · simp at h
theorem s_lenM (hH : RepH c) (hρ : ∀ x, RepV c (ev t (lowX x)) (ρ x)) {o : Oper} {cl : Call} {x : Operand} {kt et : TypeId} (ho : o.op = .call cl) (hc : cl.callee = .builtin .len) (ha : cl.args = #[x]) (ht : (cl.argTypes[0]?).bind P.underlying = some (.map kt et)) {v : AV} {H' : List AObj}
    (h : stepL (.len .map (lowX x)) ⟨t, c.H⟩ = some (v, H')) : H' = c.H ∧ ∃ u, RepV c v u ∧ (execOp ρ o).run P c.w = .ok (.value u) c.w := by
  obtain ⟨ty, ht1, ht2⟩ := Option.bind_eq_some_iff.1 ht
  simp only [stepL] at h
  split at h
  · rename_i q hm
    split at h
    · rename_i es hes
      simp only [Option.some.injEq, Prod.mk.injEq] at h
      obtain ⟨rfl, rfl⟩ := h
      have hx := hρ x
      rw [hm] at hx
      obtain ⟨b, ents, clock, hv, hb, hheap, hsz, hents⟩ := map_spec hH hx hes
      have hget : (getObj b).run P c.w = .ok (.map ents clock) c.w := by simp [getObj, Sem.run, hheap]
      refine ⟨rfl, .int .i64 es.length, .int _ _, ?_⟩
      simp [execOp, ho, resolve, hc, ha, invoke, builtin, Builtin.len_, ht1, run_underlying ht2, hv, hget, goInt, hsz]
    · simp at h
  · simp at h
theorem s_range (hH : RepH c) (hρ : ∀ x, RepV c (ev t (lowX x)) (ρ x)) {o : Oper} {ty : TypeId} {x : Operand} (ho : o.op = .range ty x) (ht : P.underlying ty = some .string) {v : AV} {H' : List AObj}
    (h : stepL (.range (lowX x)) ⟨t, c.H⟩ = some (v, H')) : Does P ρ o c v H' := by
  simp only [stepL] at h
  split at h
  · rename_i s hs
    simp only [Option.some.injEq, Prod.mk.injEq] at h
    obtain ⟨rfl, rfl⟩ := h
    have hx := hρ x
    rw [hs] at hx
    have hb : ∀ b, b < c.w.heap.size → (c.w.alloc (.stringIter s 0)).heap[b]? = c.w.heap[b]? := fun b hb => Below.heap_alloc c.w _ b hb
    have hnew : (c.w.alloc (.stringIter s 0)).heap[c.w.heap.size]? = some (.stringIter s 0) := by
      show (c.w.heap.push (.stringIter s 0))[c.w.heap.size]? = _
      simp
    have hf : Fr c (c.push (.iter s 0) (some c.w.heap.size) (c.w.alloc (.stringIter s 0))) := Fr.push rfl rfl rfl (by simp) hb (fun b e => by cases e; exact Nat.le_refl _) hH.lt
    have hR : RepH (c.push (.iter s 0) (some c.w.heap.size) (c.w.alloc (.stringIter s 0))) := hH.push rfl rfl rfl (by simp) hb (fun b e => by cases e; simp) ⟨_, push_ι _ _ _, hnew⟩
    refine ⟨_, _, .value (.pointer (some ⟨c.w.heap.size, 0, none⟩)), _, ?_, .inl rfl, hR, hf, .iter _ _ (push_len _ _ _) (fun s' p hx => ⟨_, push_ι _ _ _, rfl⟩)⟩
    simp only [execOp, ho, Instr.range, Sem.run_bind, Sem.run_pure, Result.andThen_ok, run_underlying ht, hx.str_inv, run_newObj]
    rfl
  · simp at h
theorem tup3 {a b d : AV} {x y z : Value} (h1 : RepV c a x) (h2 : RepV c b y) (h3 : RepV c d z) : RepV c (.tup [a, b, d]) (.tuple #[x, y, z]) := by
  refine .tup _ _ rfl fun i q hq => ?_
  match i with
  | 0 => simp at hq; subst hq; exact h1
  | 1 => simp at hq; subst hq; exact h2
  | 2 => simp at hq; subst hq; exact h3
  | i + 3 => simp at hq
theorem s_next (hH : RepH c) (hρ : ∀ x, RepV c (ev t (lowX x)) (ρ x)) {o : Oper} {it : Operand} (ho : o.op = .next it true) {v : AV} {H' : List AObj}
    (h : stepL (.next (lowX it)) ⟨t, c.H⟩ = some (v, H')) : Does P ρ o c v H' := by
  simp only [stepL] at h
  split at h
  · rename_i k hk
    split at h
    · rename_i s p hsp
      have hx := hρ it
      rw [hk] at hx
      obtain ⟨b, hb, hheap⟩ := hH.obj k _ hsp
      generalize hva : ρ it = va at hx
      cases hx with
      | iter _ A hkl hvv =>
        obtain ⟨b', hb', rfl⟩ := hvv s p hsp
        rw [hb] at hb'
        simp only [Option.some.injEq] at hb'
        subst hb'
        have hget : (getObj b).run P c.w = .ok (.stringIter s p) c.w := by simp [getObj, Sem.run, hheap]
        have hlt : b < c.w.heap.size := (Array.getElem?_eq_some_iff.1 hheap).1
        split at h
        · rename_i hps
          simp only [Option.some.injEq, Prod.mk.injEq] at h
          obtain ⟨rfl, rfl⟩ := h
          obtain ⟨g1, g2, g3⟩ := upd_obj (P := P) (ob' := .stringIter s (p + (Utf8.decode s p).2)) (o' := .iter s (p + (Utf8.decode s p).2)) hH hsp rfl hb hheap (fun _ _ _ e => by cases e) (fun _ _ e => by cases e) (fun _ e => by cases e) (fun _ _ _ => ⟨s, p, rfl⟩) (fun _ => ⟨b, by simp [Cx.upd, hb], by simp [Cx.upd, hlt]⟩)
          refine ⟨_, _, .value (.tuple #[.bool true, goInt p, .int .i32 (Utf8.decode s p).1]), _, ?_, .inl rfl, g2, g3, tup3 (.bool _) (.int _ _) (.int _ _)⟩
          simp only [execOp, ho, Instr.next, Sem.run_bind, Sem.run_pure, Result.andThen_ok, hva, hget, hps, if_true, g1]
        · rename_i hps
          simp only [Option.some.injEq, Prod.mk.injEq] at h
          obtain ⟨rfl, rfl⟩ := h
          refine ⟨c.ι, c.w, .value (.tuple #[.bool false]), _, ?_, .inl rfl, hH, Fr.refl c, .tup _ _ rfl fun i q hq => ?_⟩
          · simp only [execOp, ho, Instr.next, Sem.run_bind, Sem.run_pure, Result.andThen_ok, hva, hget, hps, if_false]
          · cases i with
            | zero => simp at hq; subst hq; exact .bool _
            | succ i => simp at hq
    · simp at h
  · simp at h
end
end Go.Proofs.YtnbdpjhmepgoaaaDoor
namespace Go.Proofs.YtnbdpjhmepgoaaaDoor
open Go.RowKit
section
variable {P : Program} {c : Cx} {ρ : Operand → Value} {t : Tm}
theorem s_copy (hH : RepH c) (hρ : ∀ x, RepV c (ev t (lowX x)) (ρ x)) {o : Oper} {cl : Call} {d s : Operand} {e e' : TypeId} (ho : o.op = .call cl) (hc : cl.callee = .builtin .copy) (ha : cl.args = #[d, s])
    (h0 : (cl.argTypes[0]?).bind P.underlying = some (.slice e)) (h1 : (cl.argTypes[1]?).bind P.underlying = some (.slice e')) (hs : szOf P e = 1) {v : AV} {H' : List AObj}
    (h : stepL (.copy (szOf P e) (lowX d) (lowX s)) ⟨t, c.H⟩ = some (v, H')) : Does P ρ o c v H' := by
  obtain ⟨ta, ht0, ht1⟩ := Option.bind_eq_some_iff.1 h0
  obtain ⟨tx, hx0, hx1⟩ := Option.bind_eq_some_iff.1 h1
  have hi := info_of_sz (P := P) (t := e) (by omega)
  rw [hs] at h
  simp only [stepL] at h
  split at h
  · rename_i ad as sz' k n off len ys hd hys
    split at h
    · rename_i z xs hk
      split at h
      · rename_i hcond
        obtain ⟨hn, rfl, rfl, hle, hok⟩ := hcond
        simp only [Option.some.injEq, Prod.mk.injEq] at h
        obtain ⟨rfl, rfl⟩ := h
        obtain ⟨news, hR, hsrc⟩ := src_of (P := P) hH (hρ s) hys hok hx1
        have hdv := hρ d
        rw [hd] at hdv
        obtain ⟨_, hrows, hlen, hobj⟩ := hH.obj k _ hk
        have hkl : k < c.H.length := (List.getElem?_eq_some_iff.1 hk).1
        let m := min ys.length len
        have hm1 : m ≤ ys.length := Nat.min_le_left _ _
        have hm2 : m ≤ len := Nat.min_le_right _ _
        have hcells : (Builtin.firstCells 1 m (ρ s)).run P c.w = .ok (news.take m).toArray c.w := by
          obtain ⟨A, cap, hv, hd'⟩ := elems_spec hH (hρ s) hys
          rcases hd' with ⟨hy0, _⟩ | ⟨sz2, b, o', news2, h02, rfl, h12, h22⟩
          · have : m = 0 := by simp only [m, hy0]; simp
            rw [this, hv]
            cases A <;> simp [Builtin.firstCells, loadCells, loadCellsFrom]
          · by_cases hm0 : m = 0
            · rw [hm0, hv]
              simp [Builtin.firstCells, loadCells, loadCellsFrom]
            · have hsz2 : sz2 = 1 := by
                cases ys with
                | nil => simp [m] at hm0
                | cons y ys => rw [← h12.rows y (by simp), hR.rows y (by simp)]
              subst hsz2
              have hfull := hsrc.cells
              rw [hv] at hfull ⊢
              have hl := run_firstCells_some (P := P) c.w 1 m ⟨b, o', none⟩ ys.length cap (news2.take m) (by rw [List.length_take, h12.len]; omega) (fun j u hj => by
                rw [add_zero']
                rw [List.getElem?_take] at hj
                split at hj
                · exact h22 j u hj
                · simp at hj)
              have hfull2 := run_firstCells_some (P := P) c.w 1 ys.length ⟨b, o', none⟩ ys.length cap news2 h12.len (fun j u hj => by rw [add_zero']; exact h22 j u hj)
              rw [hfull] at hfull2
              simp only [Result.ok.injEq, and_true] at hfull2
              have : news = news2 := by simpa using hfull2
              rw [this]
              exact hl
        have hone : ∀ u ∈ news.take m, u.oneCell' = true := fun u hu => hsrc.one u (List.mem_of_mem_take hu)
        have htl : (news.take m).length = m := by rw [List.length_take, hR.len]; omega
        have hlenOf := hsrc.len c.w
        have run : ∀ (A : Option Addr) (cap : Nat) (w' : World), ρ d = .slice A len cap → (match A with | some a => (storeCells a (news.take m)).run P c.w = .ok () w' | none => w' = c.w) → (execOp ρ o).run P c.w = .ok (.value (.int .i64 m)) w' := fun A cap w' hv hst => by
          have e1 : (Builtin.copy_ cl.argTypes o.type #[ρ d, ρ s]).run P c.w = .ok (goInt m) w' := by
            have hmin : Nat.min ys.length len = m := rfl
            cases A with
            | none => simp [Builtin.copy_, ht0, run_underlying ht1, hv, hlenOf, run_sizeOf' hi, hs, hmin, hcells, hst]
            | some a => simp [Builtin.copy_, ht0, run_underlying ht1, hv, hlenOf, run_sizeOf' hi, hs, hmin, hcells, hst]
          simp only [execOp, ho, resolve, hc, ha]
          simp only [Sem.run_bind, Sem.run_pure, Result.andThen_ok, invoke, builtin]
          rw [show (#[d, s] : Array Operand).map ρ = #[ρ d, ρ s] from by simp, e1]
          rfl
        cases hva : ρ d with
        | slice A l cap =>
          rw [hva] at hdv
          cases hdv with
          | sl _ _ _ _ _ _ _ hk' hcl hA hn' hval =>
            obtain ⟨_, hdis⟩ := hval xs hk hn
            rcases hdis with ⟨b, hb, rfl, hcapb⟩ | ⟨hz1, hz2⟩
            · rw [hb] at hobj
              obtain ⟨cs, el, fr, g1, g2, g3, g4⟩ := hobj
              simp only [Nat.mul_one] at *
              have hcell : ∀ j, j < (news.take m).length → c.w.cell? ⟨b, off + 0 + j, none⟩ = some (cs.getD (off + j) undef) := fun j hj => by
                rw [htl] at hj
                have : off + j < cs.size := by omega
                simp [World.cell?, g1, this]
              have hst := run_storeCells_cells (P := P) b off (news.take m) 0 c.w (fun j hj => by rw [hcell j hj]; rfl) (fun j hj => by
                rw [htl] at hj
                have hlt : off + j < cs.size := by omega
                have := g3 _ hlt
                simp only [World.frozen?, g1]
                simpa using this) hone
              let w' := c.w.setCells b (off + 0) (news.take m)
              have hw' : w'.heap[b]? = some (.cells (putAll cs (off + 0) (news.take m)) el fr) := heap_setCells _ _ _ _ _ _ _ g1
              have hxl : (xs.take off ++ ys.take m ++ xs.drop (off + m)).length = xs.length := by simp; omega
              have u : Upd c k (.vec 1 xs) (.vec 1 (xs.take off ++ ys.take m ++ xs.drop (off + m))) (c.ι k) w' := ⟨hk, rfl, os_setCells _ _ _ _, tape_setCells _ _ _ _, output_setCells _ _ _ _, by rw [size_setCells]; exact Nat.le_refl _,
                fun b' _ hne => heap_setCells_ne _ _ _ _ _ (fun e => hne (by rw [hb, e])), .inl rfl, fun sz zs he => by
                  simp only [AObj.vec.injEq] at he
                  obtain ⟨rfl, rfl⟩ := he
                  refine ⟨xs, rfl, by rw [hxl]; exact Nat.le_refl _, fun _ => ⟨rfl, fun b' hb' => ?_⟩⟩
                  rw [hb] at hb'
                  simp only [Option.some.injEq] at hb'
                  subst hb'
                  simp [cellsIn, hw', g1, putAll_size], fun es he => by simp at he, fun s p he => by simp at he⟩
              have hf := u.fr hH
              have hι : (c.upd k (.vec 1 (xs.take off ++ ys.take m ++ xs.drop (off + m))) (c.ι k) w').ι k = some b := by simp [Cx.upd, hb]
              refine ⟨_, w', _, _, run _ _ w' hva hst, .inl rfl, u.rep hH ⟨by omega, fun r hr => ?_, by rw [hxl]; exact hlen, ?_⟩, hf, .int _ _⟩
              · rcases List.mem_append.1 hr with h | h
                · rcases List.mem_append.1 h with h | h
                  · exact hrows r (List.mem_of_mem_take h)
                  · exact hR.rows r (List.mem_of_mem_take h)
                · exact hrows r (List.mem_of_mem_drop h)
              · rw [hι]
                refine ⟨_, el, fr, hw', by rw [putAll_size, hxl]; simpa using g2, fun j hj => g3 j (by rwa [putAll_size] at hj), fun q j a ha => ?_⟩
                have hql : q < (xs.take off ++ ys.take m ++ xs.drop (off + m)).length := by
                  simp only [cellAt, Option.bind_eq_some_iff] at ha
                  obtain ⟨r, hr, _⟩ := ha
                  exact (List.getElem?_eq_some_iff.1 hr).1
                rw [hxl] at hql
                by_cases h1 : q < off
                · have ha' : cellAt xs q j = some a := by
                    simp only [cellAt, List.append_assoc] at ha ⊢
                    rw [List.getElem?_append_left (by simp; omega), List.getElem?_take, if_pos h1] at ha
                    exact ha
                  obtain ⟨_, hj, _⟩ := cellAt_lt hrows ha'
                  rw [putAll_out _ _ _ _ (.inl (by omega))]
                  rw [Nat.mul_one]
                  exact (g4 q j a ha').mono hf
                · by_cases h2 : q < off + m
                  · obtain ⟨p, rfl⟩ : ∃ p, q = off + p := ⟨q - off, by omega⟩
                    have ha' : cellAt ys p j = some a := by
                      simp only [cellAt, List.append_assoc] at ha ⊢
                      rw [List.getElem?_append_right (by simp; omega), List.getElem?_append_left (by simp; omega)] at ha
                      have : off + p - (xs.take off).length = p := by simp; omega
                      rw [this, List.getElem?_take, if_pos (by omega)] at ha
                      exact ha
                    obtain ⟨hp, hj, hpl⟩ := cellAt_lt hR.rows ha'
                    have hval := hR.val p j a ha'
                    rw [show (off + p) * 1 + j = off + 0 + (p * 1 + j) by omega, putAll_in _ _ _ _ (by omega) (by omega)]
                    have : (news.take m).getD (p * 1 + j) undef = news.getD (p * 1 + j) undef := by
                      simp only [List.getD_eq_getElem?_getD, List.getElem?_take]
                      rw [if_pos (by omega)]
                    rw [this]
                    exact hval.mono hf
                  · have ha' : cellAt xs q j = some a := by
                      simp only [cellAt] at ha ⊢
                      rw [List.getElem?_append_right (by simp; omega), List.getElem?_drop] at ha
                      have : off + m + (q - (xs.take off ++ ys.take m).length) = q := by simp; omega
                      rw [this] at ha
                      exact ha
                    obtain ⟨_, hj, _⟩ := cellAt_lt hrows ha'
                    rw [putAll_out _ _ _ _ (.inr (by omega)), Nat.mul_one]
                    exact (g4 q j a ha').mono hf
            · have hm0 : m = 0 := by omega
              have hset : c.H.set k (.vec 1 (xs.take off ++ ys.take (min ys.length len) ++ xs.drop (off + min ys.length len))) = c.H := by
                have e1 : min ys.length len = 0 := hm0
                have : c.H[k] = .vec 1 xs := (List.getElem?_eq_some_iff.1 hk).2
                rw [e1, List.take_zero, List.append_nil, Nat.add_zero, List.take_append_drop, ← this, List.set_getElem_self]
              rw [hset]
              refine ⟨c.ι, c.w, _, _, run _ _ c.w hva ?_, .inl rfl, hH, Fr.refl c, .int _ _⟩
              rw [hm0, List.take_zero]
              cases A <;> simp [storeCells]
        | _ => rw [hva] at hdv; obtain ⟨_, _, h'⟩ := hdv.sl_inv; cases h'
      · simp at h
    · simp at h
  · simp at h
end
end Go.Proofs.YtnbdpjhmepgoaaaDoor
