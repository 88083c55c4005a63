/-
  Texts as lists of bytes.
-/
import Derived.Test.YtoiceinjademgaaDoorCA
namespace Go.Proofs.YtoiceinjademgaaDoor
open Go.RowKit
set_option linter.unusedVariables false
set_option linter.unusedSimpArgs false

/-- A text of bytes. -/
def bs (l : List UInt8) : ByteArray := ⟨l.toArray⟩
theorem bs_mk {l : List UInt8} : (⟨l.toArray⟩ : ByteArray) = bs l := rfl
theorem bs_of (s : ByteArray) : s = bs s.data.toList := rfl
theorem bs_empty : ByteArray.empty = bs [] := rfl
theorem bs_app {l m : List UInt8} : bs l ++ bs m = bs (l ++ m) := by
  apply ByteArray.ext
  rw [ByteArray.data_append]
  simp [bs]
theorem bs_size {l : List UInt8} : (bs l).size = l.length := by simp [bs, ByteArray.size]
theorem bs_get {l : List UInt8} {i : Nat} : (bs l).get! i = l.getD i 0 := by
  show (l.toArray)[i]! = _
  simp [List.getD, getElem!_def]
  cases l[i]? <;> rfl
theorem bs_ext {l : List UInt8} {a b : Nat} : (bs l).extract a b = bs ((l.take b).drop a) := by
  apply ByteArray.ext
  rw [ByteArray.data_extract]
  simp only [bs]
  apply Array.toList_inj.1
  rw [Array.toList_extract]
  simp [List.extract_eq_take_drop, List.drop_take]
theorem bs_inj {l m : List UInt8} : (bs l = bs m) = (l = m) := by
  apply propext
  constructor
  · intro h
    have := congrArg (fun s : ByteArray => s.data.toList) h
    simpa [bs] using this
  · rintro rfl; rfl

/-- Rows of bytes. -/
def encB (b : UInt8) : List AV := [.int .u8 (b.toNat : Int)]
theorem encB_def {b : UInt8} : encB b = [.int .u8 (b.toNat : Int)] := rfl
theorem bytes_map : ∀ (l : List UInt8), bytesOf (l.map encB) = some l
  | [] => rfl
  | b :: l => by
    simp only [List.map_cons, encB, bytesOf, bytes_map l, Option.map_some]
    simp
theorem bytes_rows {l : List UInt8} : byteRows (bs l) = l.map encB := by simp [byteRows, bs, encB]

/-! ### Runes -/
def far (c : UInt8) : Bool := decide (128 ≤ c.toNat)

theorem dec_near {l : List UInt8} {p : Nat} (h : (l.getD p 0).toNat < 128) : Utf8.decode (bs l) p = ((l.getD p 0).toNat, 1) := by
  simp only [Utf8.decode, Nat.add_zero, bs_get]
  rw [if_pos (by omega)]

theorem dec_far {l : List UInt8} {p : Nat} (hp : p < l.length) (h : 128 ≤ (l.getD p 0).toNat) :
    128 ≤ (Utf8.decode (bs l) p).1 ∧ 1 ≤ (Utf8.decode (bs l) p).2 ∧ p + (Utf8.decode (bs l) p).2 ≤ l.length ∧ ∀ q, p ≤ q → q < p + (Utf8.decode (bs l) p).2 → 128 ≤ (l.getD q 0).toNat := by
  have base : ∀ q, p ≤ q → q < p + 1 → 128 ≤ (l.getD q 0).toNat := fun q h1 h2 => by
    have : q = p := by omega
    subst this; exact h
  have cont : ∀ k, (decide (p + k < (bs l).size) && ((l.getD (p + k) 0).toNat / 64 == 2)) = true → p + k < l.length ∧ 128 ≤ (l.getD (p + k) 0).toNat := fun k hk => by
    simp only [Bool.and_eq_true, decide_eq_true_eq, beq_iff_eq, bs_size] at hk
    exact ⟨hk.1, by omega⟩
  have e0 : (128 : Nat) ≤ Utf8.runeError := by decide
  simp only [Utf8.decode, Nat.add_zero, bs_get]
  rw [if_neg (by omega)]
  split
  · rename_i hc
    simp only [Bool.and_eq_true] at hc
    have c1 := cont 1 (by simpa using hc.2)
    split
    · rename_i h2
      refine ⟨h2, by omega, by omega, fun q h3 h4 => ?_⟩
      have : q = p ∨ q = p + 1 := by simp only at h4; omega
      rcases this with rfl | rfl
      · exact h
      · exact c1.2
    · exact ⟨e0, Nat.le_refl _, hp, base⟩
  · split
    · rename_i hc
      simp only [Bool.and_eq_true] at hc
      have c1 := cont 1 (by simpa using hc.1.2)
      have c2 := cont 2 (by simpa using hc.2)
      split
      · rename_i h2
        simp only [Bool.and_eq_true, decide_eq_true_eq] at h2
        refine ⟨by simp only; omega, by simp only; omega, by simp only; omega, fun q h3 h4 => ?_⟩
        have : q = p ∨ q = p + 1 ∨ q = p + 2 := by simp only at h4; omega
        rcases this with rfl | rfl | rfl
        · exact h
        · exact c1.2
        · exact c2.2
      · exact ⟨e0, Nat.le_refl _, hp, base⟩
    · split
      · rename_i hc
        simp only [Bool.and_eq_true] at hc
        have c1 := cont 1 (by simpa using hc.1.1.2)
        have c2 := cont 2 (by simpa using hc.1.2)
        have c3 := cont 3 (by simpa using hc.2)
        split
        · rename_i h2
          simp only [Bool.and_eq_true, decide_eq_true_eq] at h2
          refine ⟨by simp only; omega, by simp only; omega, by simp only; omega, fun q h3 h4 => ?_⟩
          have : q = p ∨ q = p + 1 ∨ q = p + 2 ∨ q = p + 3 := by simp only at h4; omega
          rcases this with rfl | rfl | rfl | rfl
          · exact h
          · exact c1.2
          · exact c2.2
          · exact c3.2
        · exact ⟨e0, Nat.le_refl _, hp, base⟩
      · exact ⟨e0, Nat.le_refl _, hp, base⟩

/-- What is not to be used as a rule. -/
structure Hold (p : Prop) : Prop where
  of : p

/-! ### Objects that are there already -/
theorem Clean.set {m k : Nat} {H : List AObj} {o : AObj} (h : Clean m H) (ho : o.clean m) : Clean m (H.set k o) := fun j p hj => by
  rw [List.getElem?_set] at hj
  split at hj
  · split at hj
    · simp only [Option.some.injEq] at hj; subst hj; exact ho
    · simp at hj
  · exact h j p hj

/-- What a function hands back that changes objects. -/
theorem RetOk.upd {B : Nat} {t : Tm} {G L : List AObj} {rs : List LRes} {QF : AV → List AObj → Prop} (r : AV) (hB : B ≤ G.length) (hcl : Clean G.length G) (h : match resE ⟨t, G ++ L⟩ rs with | some l => View (G ++ L) G.length (resV l) r | none => False) (hq : QF r G) : RetOk B rs QF ⟨t, G ++ L⟩ := by
  split at h
  · rename_i l hl
    exact ⟨l, G.length, r, hl, hB, by rw [show (AS.mk t (G ++ L)).H.take G.length = G from take_self G L]; exact hcl, h, by rw [show (AS.mk t (G ++ L)).H.take G.length = G from take_self G L]; exact hq⟩
  · exact h.elim

theorem in_get {H L : List AObj} {k : Nat} (h : k < H.length) : (H ++ L)[k]? = H[k]? := List.getElem?_append_left h
theorem in_set {H L : List AObj} {k : Nat} {o : AObj} (h : k < H.length) : (H ++ L).set k o = H.set k o ++ L := by rw [List.set_append, if_pos h]
theorem set_set {H : List AObj} {k : Nat} {o p : AObj} : (H.set k o).set k p = H.set k p := by simp
theorem set_get {H : List AObj} {k : Nat} {o : AObj} (h : k < H.length) : (H.set k o)[k]? = some o := by simp [h]

/-! ### Whole numbers of 64 bits -/
def in64 (n : Int) : Prop := -9223372036854775808 ≤ n ∧ n ≤ 9223372036854775807
theorem wrap64 {n : Int} (h : in64 n) : IntKind.i64.wrap n = n := wrap_i64_in h.1 h.2

theorem sb : type_of% (And.intro @bs_mk (And.intro @bs_empty (And.intro @bs_app (And.intro @bs_size (And.intro @bs_get (And.intro @bs_ext (And.intro @bs_inj (And.intro @bytes_map (@bytes_rows))))))))) :=
  And.intro @bs_mk (And.intro @bs_empty (And.intro @bs_app (And.intro @bs_size (And.intro @bs_get (And.intro @bs_ext (And.intro @bs_inj (And.intro @bytes_map (@bytes_rows))))))))
end Go.Proofs.YtoiceinjademgaaDoor
