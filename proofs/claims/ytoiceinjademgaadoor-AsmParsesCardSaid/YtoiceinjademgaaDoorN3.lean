/-
  Numbers' texts, read: plain laws.
-/
import Derived.Test.YtoiceinjademgaaDoorN2
namespace Go.Proofs.YtoiceinjademgaaDoor
set_option linter.unusedVariables false
set_option linter.unusedSimpArgs false

def isDig (c : UInt8) : Bool := decide (48 ≤ c.toNat) && decide (c.toNat ≤ 57)
def dv (c : UInt8) : Nat := c.toNat - 48
def valA : List UInt8 → Nat → Nat
  | [], a => a
  | c :: r, a => valA r (a * 10 + dv c)
def valD (l : List UInt8) : Nat := valA l 0

theorem valA_app : ∀ (l m : List UInt8) (a : Nat), valA (l ++ m) a = valA m (valA l a)
  | [], m, a => rfl
  | c :: r, m, a => valA_app r m _
theorem valD_snoc (l : List UInt8) (c : UInt8) : valD (l ++ [c]) = valD l * 10 + dv c := valA_app l [c] 0

theorem valD_lt : ∀ (n : Nat) (l : List UInt8), l.length = n → l.all isDig = true → valD l < 10 ^ n
  | 0, l, h, _ => by have := List.eq_nil_of_length_eq_zero h; subst this; simp [valD, valA]
  | n + 1, l, h, hd => by
    rcases List.eq_nil_or_concat l with rfl | ⟨l', c, rfl⟩
    · simp at h
    · rw [List.concat_eq_append] at *
      simp only [List.length_append, List.length_cons, List.length_nil, Nat.zero_add, Nat.add_right_cancel_iff] at h
      simp only [List.all_append, List.all_cons, List.all_nil, Bool.and_true, Bool.and_eq_true] at hd
      have := valD_lt n l' h hd.1
      rw [valD_snoc, Nat.pow_succ]
      have : dv c ≤ 9 := by have := hd.2; simp [isDig] at this; unfold dv; omega
      omega

theorem dig_isDig (n : Nat) : isDig (dig n) = true := by simp [isDig, dig_toNat]; omega
theorem dv_dig (n : Nat) : dv (dig n) = n % 10 := by unfold dv; rw [dig_toNat]; omega
theorem dig_dv {c : UInt8} (h : isDig c = true) (n : Nat) : dig (n * 10 + dv c) = c := by
  apply UInt8.toNat_inj.1
  rw [dig_toNat]
  simp [isDig] at h
  unfold dv
  omega

theorem decB_all : ∀ (k n : Nat), (decF k n).all isDig = true
  | 0, n => rfl
  | k + 1, n => by
    rw [decF]
    split
    · simp [dig_isDig]
    · simp [decB_all k, dig_isDig]
theorem valD_decB : ∀ (n : Nat), n < 10 ^ 20 → valD (decB n) = n := by
  intro n
  induction n using Nat.strongRecOn with
  | ind n ih =>
  intro h
  rw [decB_step h]
  split
  · rename_i h'
    simp only [valD, valA, dv_dig]; omega
  · rw [valD_snoc, ih (n / 10) (by omega) (by omega), dv_dig]; omega

/-- No digit 0 ahead of others. -/
def lead (l : List UInt8) : Bool := match l with
  | [] => false
  | [c] => true
  | c :: _ => c != 48

theorem decB_lead : ∀ (n : Nat), n < 10 ^ 20 → lead (decB n) = true ∧ (1 ≤ n → (decB n).headD 0 ≠ 48) := by
  intro n
  induction n using Nat.strongRecOn with
  | ind n ih =>
  intro h
  rw [decB_step h]
  split
  · rename_i h'
    refine ⟨rfl, fun h1 e => ?_⟩
    simp only [List.headD_cons] at e
    have := congrArg UInt8.toNat e
    rw [dig_toNat] at this
    have e48 : (48 : UInt8).toNat = 48 := rfl
    rw [e48] at this
    omega
  · rename_i h'
    obtain ⟨h1, h2⟩ := ih (n / 10) (by omega) (by omega)
    have h2 := h2 (by omega)
    have hp := decB_pos (n := n / 10) (by omega)
    cases hd : decB (n / 10) with
    | nil => rw [hd] at hp; simp at hp
    | cons c r =>
      rw [hd] at h2
      simp only [List.headD_cons] at h2
      cases r with
      | nil => simp [lead, h2]
      | cons d r => simp [lead, h2]

theorem decB_val : ∀ (n : Nat) (l : List UInt8), l.length = n → n ≤ 20 → l.all isDig = true → lead l = true → decB (valD l) = l
  | 0, l, h, _, _, hl => by have := List.eq_nil_of_length_eq_zero h; subst this; simp [lead] at hl
  | n + 1, l, h, hn, hd, hl => by
    have hlt := valD_lt (n + 1) l h hd
    have hlt20 : valD l < 10 ^ 20 := Nat.lt_of_lt_of_le hlt (Nat.pow_le_pow_right (by omega) hn)
    rcases List.eq_nil_or_concat l with rfl | ⟨l', c, rfl⟩
    · simp at h
    · rw [List.concat_eq_append] at *
      simp only [List.length_append, List.length_cons, List.length_nil, Nat.zero_add, Nat.add_right_cancel_iff] at h
      simp only [List.all_append, List.all_cons, List.all_nil, Bool.and_true, Bool.and_eq_true] at hd
      have hc : dv c ≤ 9 := by have := hd.2; simp [isDig] at this; unfold dv; omega
      rw [decB_step hlt20, valD_snoc]
      cases l' with
      | nil =>
        have : valD [] = 0 := rfl
        rw [this, if_pos (by omega), dig_dv hd.2]
        rfl
      | cons d r =>
        have hl2 : d ≠ 48 := by
          simpa [lead] using hl
        have hl' : lead (d :: r) = true := by
          cases r with
          | nil => rfl
          | cons e r => simpa [lead] using hl2
        have ih := decB_val n (d :: r) h (by omega) hd.1 hl'
        have hv : 1 ≤ valD (d :: r) := by
          rcases Nat.eq_zero_or_pos (valD (d :: r)) with e | e
          · rw [e] at ih
            have : decB 0 = [48] := rfl
            rw [this] at ih
            simp at ih
            exact absurd ih.1.symm hl2
          · exact e
        rw [if_neg (by omega), dig_dv hd.2]
        have : (valD (d :: r) * 10 + dv c) / 10 = valD (d :: r) := by omega
        rw [this, ih]

/-- The number of a text. -/
def numOf (s : List UInt8) : Option Int :=
  if s.head? = some 45 then
    if s.tail.all isDig && decide (decB (valD s.tail) = s.tail) && decide (1 ≤ valD s.tail) && decide (valD s.tail ≤ 9223372036854775808) then some (-(valD s.tail : Int)) else none
  else if s.all isDig && decide (decB (valD s) = s) && decide (valD s ≤ 9223372036854775807) then some (valD s : Int) else none

theorem numOf_iff {s : List UInt8} {n : Int} : numOf s = some n ↔ in64 n ∧ numText n = s := by
  constructor
  · intro h
    unfold numOf at h
    split at h
    · rename_i h45
      split at h
      · rename_i hc
        simp only [Bool.and_eq_true, decide_eq_true_eq] at hc
        simp only [Option.some.injEq] at h
        cases s with
        | nil => simp at h45
        | cons c r =>
          simp at h45
          subst h45
          simp only [List.tail_cons] at *
          subst h
          refine ⟨⟨by omega, by omega⟩, ?_⟩
          unfold numText
          rw [if_pos (by omega)]
          have : (-(valD r : Int)).natAbs = valD r := by omega
          rw [this, hc.1.1.2]
      · simp at h
    · split at h
      · rename_i hc
        simp only [Bool.and_eq_true, decide_eq_true_eq] at hc
        simp only [Option.some.injEq] at h
        subst h
        refine ⟨⟨by omega, by omega⟩, ?_⟩
        unfold numText
        rw [if_neg (by omega)]
        have : ((valD s : Nat) : Int).natAbs = valD s := by omega
        rw [this, hc.1.2]
      · simp at h
  · rintro ⟨⟨h1, h2⟩, rfl⟩
    have hv := valD_decB n.natAbs (by omega)
    have ha : (decB n.natAbs).all isDig = true := decB_all 20 n.natAbs
    by_cases hn : n < 0
    · have e : numText n = 45 :: decB n.natAbs := by unfold numText; rw [if_pos hn]
      rw [e]
      unfold numOf
      simp only [List.head?_cons, if_true, List.tail_cons, hv, ha]
      rw [if_pos (by simp; omega)]
      congr 1
      omega
    · have e : numText n = decB n.natAbs := by unfold numText; rw [if_neg hn]
      rw [e]
      unfold numOf
      have hne : ¬ (decB n.natAbs).head? = some 45 := fun h => by
        cases hd : decB n.natAbs with
        | nil => rw [hd] at h; simp at h
        | cons c r =>
          rw [hd] at h ha
          simp at h
          subst h
          simp [isDig] at ha
      rw [if_neg hne]
      simp only [hv, ha]
      rw [if_pos (by simp; omega)]
      congr 1
      omega

theorem numText_inj {m n : Int} (hm : in64 m) (hn : in64 n) (h : numText m = numText n) : m = n := by
  have h1 := numOf_iff.2 ⟨hm, rfl⟩
  have h2 := numOf_iff.2 ⟨hn, h.symm⟩
  rw [h1] at h2
  exact Option.some.inj h2

/-- The program's way. -/
theorem numOf_low {r : List UInt8} : numOf (45 :: r) = if r.length = 0 ∨ 19 < r.length ∨ r.head? = some 48 then none else if r.all isDig = true ∧ valD r ≤ 9223372036854775808 then some (-(valD r : Int)) else none := by
  cases h : numOf (45 :: r) with
  | some n =>
    obtain ⟨⟨h1, h2⟩, h3⟩ := numOf_iff.1 h
    unfold numText at h3
    have hl := decB_lead n.natAbs (by omega)
    split at h3
    · rename_i hn
      simp only [List.cons.injEq, true_and] at h3
      have hv := valD_decB n.natAbs (by omega)
      have ha := decB_all 20 n.natAbs
      change (decB n.natAbs).all isDig = true at ha
      have hp := decB_pos (n := n.natAbs) (by omega)
      have hle : (decB n.natAbs).length ≤ 19 := by
        rcases Nat.lt_or_ge 19 (decB n.natAbs).length with hx | hx
        · exfalso
          have h19 : decF 19 n.natAbs = decF 20 n.natAbs := (decF_more 18 n.natAbs (by omega)).symm
          have := decF_len 19 n.natAbs
          rw [h19] at this
          change (decB n.natAbs).length ≤ 19 at this
          omega
        · exact hx
      have hh := hl.2 (by omega)
      rw [h3] at hv ha hp hle hh
      rw [if_neg, if_pos ⟨ha, by omega⟩]
      · congr 1; omega
      · rintro (e | e | e)
        · omega
        · omega
        · cases r with
          | nil => simp at hp
          | cons c r => simp at e hh; exact hh e
    · exfalso
      rename_i hn
      have ha := decB_all 20 n.natAbs
      change (decB n.natAbs).all isDig = true at ha
      rw [h3] at ha
      simp [isDig] at ha
  | none =>
    split
    · rfl
    · rename_i hc
      split
      · rename_i hd
        exfalso
        have hlead : lead r = true := by
          cases r with
          | nil => simp at hc
          | cons c r =>
            cases r with
            | nil => rfl
            | cons d r => simp [lead]; intro e; subst e; exact hc (.inr (.inr rfl))
        have hb := decB_val r.length r rfl (by omega) hd.1 hlead
        have hpos : 1 ≤ valD r := by
          rcases Nat.eq_zero_or_pos (valD r) with e | e
          · rw [e] at hb
            have : decB 0 = [48] := rfl
            rw [this] at hb
            exact absurd (.inr (.inr (by rw [← hb]; rfl))) hc
          · exact e
        have : numOf (45 :: r) = some (-(valD r : Int)) := numOf_iff.2 ⟨⟨by omega, by omega⟩, by
          unfold numText
          rw [if_pos (by omega)]
          have : (-(valD r : Int)).natAbs = valD r := by omega
          rw [this, hb]⟩
        rw [h] at this
        simp at this
      · rfl

theorem numOf_high {r : List UInt8} (h45 : r.head? ≠ some 45) : numOf r = if r.length = 0 ∨ 19 < r.length ∨ (r.head? = some 48 ∧ 1 < r.length) then none else if r.all isDig = true ∧ valD r ≤ 9223372036854775807 then some (valD r : Int) else none := by
  cases h : numOf r with
  | some n =>
    obtain ⟨⟨h1, h2⟩, h3⟩ := numOf_iff.1 h
    unfold numText at h3
    have hl := decB_lead n.natAbs (by omega)
    split at h3
    · exfalso; subst h3; simp at h45
    · rename_i hn
      have hv := valD_decB n.natAbs (by omega)
      have ha := decB_all 20 n.natAbs
      change (decB n.natAbs).all isDig = true at ha
      have hp := decB_pos (n := n.natAbs) (by omega)
      have hle : (decB n.natAbs).length ≤ 19 := by
        have h19 : decF 19 n.natAbs = decF 20 n.natAbs := (decF_more 18 n.natAbs (by omega)).symm
        have := decF_len 19 n.natAbs
        rw [h19] at this
        exact this
      rw [h3] at hv ha hp hle hl
      rw [if_neg, if_pos ⟨ha, by omega⟩]
      · congr 1; omega
      · rintro (e | e | ⟨e, e2⟩)
        · omega
        · omega
        · cases r with
          | nil => simp at hp
          | cons c r =>
            cases r with
            | nil => simp at e2
            | cons d r => simp at e; subst e; simp [lead] at hl
  | none =>
    split
    · rfl
    · rename_i hc
      split
      · rename_i hd
        exfalso
        have hlead : lead r = true := by
          cases r with
          | nil => simp at hc
          | cons c r =>
            cases r with
            | nil => rfl
            | cons d r => simp [lead]; intro e; subst e; exact hc (.inr (.inr ⟨rfl, by simp⟩))
        have hb := decB_val r.length r rfl (by omega) hd.1 hlead
        have : numOf r = some (valD r : Int) := numOf_iff.2 ⟨⟨by omega, by omega⟩, by
          unfold numText
          rw [if_neg (by omega)]
          have : ((valD r : Nat) : Int).natAbs = valD r := by omega
          rw [this, hb]⟩
        rw [h] at this
        simp at this
      · rfl

/-- The reference's way: with 64 bits. -/
def wrapA : List UInt8 → Int → Int
  | [], a => a
  | c :: r, a => wrapA r (IntKind.i64.wrap (IntKind.i64.wrap (a * 10) - (dv c : Int)))
theorem wrapA_app : ∀ (l m : List UInt8) (a : Int), wrapA (l ++ m) a = wrapA m (wrapA l a)
  | [], m, a => rfl
  | c :: r, m, a => wrapA_app r m _
theorem wrapA_val : ∀ (n : Nat) (l : List UInt8), l.length = n → valD l ≤ 9223372036854775808 → wrapA l 0 = -(valD l : Int)
  | 0, l, h, _ => by have := List.eq_nil_of_length_eq_zero h; subst this; rfl
  | n + 1, l, h, hv => by
    rcases List.eq_nil_or_concat l with rfl | ⟨l', c, rfl⟩
    · simp at h
    · rw [List.concat_eq_append] at *
      simp only [List.length_append, List.length_cons, List.length_nil, Nat.zero_add, Nat.add_right_cancel_iff] at h
      rw [valD_snoc] at hv ⊢
      rw [wrapA_app, wrapA_val n l' h (by omega)]
      simp only [wrapA]
      rw [IntKind.wrap_i64, IntKind.wrap_i64]
      omega
theorem wrapA_in : ∀ (l : List UInt8) (a : Int), in64 a → in64 (wrapA l a)
  | [], a, h => h
  | c :: r, a, h => wrapA_in r _ (by unfold in64; rw [IntKind.wrap_i64, IntKind.wrap_i64]; omega)

/-- The number that the reference makes of a text. -/
def refN (s : List UInt8) : Int := if s.head? = some 45 then wrapA s.tail 0 else IntKind.i64.wrap (0 - wrapA s 0)

theorem refN_in (s : List UInt8) : in64 (refN s) := by
  unfold refN
  split
  · exact wrapA_in _ _ (by unfold in64; omega)
  · unfold in64; rw [IntKind.wrap_i64]; omega

theorem numOf_ref {s : List UInt8} : numOf s = if numText (refN s) = s then some (refN s) else none := by
  split
  · rename_i h
    exact numOf_iff.2 ⟨refN_in s, h⟩
  · rename_i h
    cases hn : numOf s with
    | none => rfl
    | some n =>
      exfalso
      obtain ⟨⟨h1, h2⟩, h3⟩ := numOf_iff.1 hn
      apply h
      have : refN s = n := by
        have hv := valD_decB n.natAbs (by omega)
        have hw := wrapA_val _ (decB n.natAbs) rfl (by omega)
        rw [hv] at hw
        by_cases hneg : n < 0
        · have e : s = 45 :: decB n.natAbs := by rw [← h3]; unfold numText; rw [if_pos hneg]
          rw [e]
          unfold refN
          simp only [List.head?_cons, if_true, List.tail_cons]
          rw [hw]; omega
        · have e : s = decB n.natAbs := by rw [← h3]; unfold numText; rw [if_neg hneg]
          unfold refN
          rw [if_neg, e, hw, IntKind.wrap_i64]
          · omega
          · intro h45
            have hx : numOf s = numOf s := rfl
            have ha := decB_all 20 n.natAbs
            change (decB n.natAbs).all isDig = true at ha
            rw [← e] at ha
            cases s with
            | nil => simp at h45
            | cons c r =>
              simp at h45
              subst h45
              simp [isDig] at ha
      rw [this, h3]
end Go.Proofs.YtoiceinjademgaaDoor
