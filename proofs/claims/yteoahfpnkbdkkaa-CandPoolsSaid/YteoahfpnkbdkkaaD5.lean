/-
  cand: the numbers that are dealt.
-/
import Derived.Test.YteoahfpnkbdkkaaD4
namespace Go.Proofs.Yteoahfpnkbdkkaa
set_option linter.unusedVariables false
set_option linter.unusedSimpArgs false

def nf (no : List Int) : Nat → Int → Int
  | 0, a => a
  | k + 1, a => if a ∈ no then nf no k (a + 1) else a

theorem filter_le (a : Int) : ∀ no : List Int, (no.filter fun x => decide (a + 1 ≤ x)).length ≤ (no.filter fun x => decide (a ≤ x)).length
  | [] => by simp
  | x :: no => by
    have ih := filter_le a no
    simp only [List.filter_cons]
    by_cases h : a + 1 ≤ x
    · have h' : a ≤ x := by omega
      simp [h, h']; exact ih
    · by_cases h' : a ≤ x
      · simp [h, h']; omega
      · simp [h, h']; exact ih

theorem filter_lt (a : Int) : ∀ no : List Int, a ∈ no → (no.filter fun x => decide (a + 1 ≤ x)).length < (no.filter fun x => decide (a ≤ x)).length
  | [], h => by simp at h
  | x :: no, h => by
    simp only [List.filter_cons]
    by_cases hx : x = a
    · subst hx
      have := filter_le x no
      have h1 : ¬ x + 1 ≤ x := by omega
      simp [h1]; omega
    · have hm : a ∈ no := by
        rcases List.mem_cons.1 h with e | e
        · exact absurd e.symm hx
        · exact e
      have ih := filter_lt a no hm
      by_cases h1 : a + 1 ≤ x
      · have h' : a ≤ x := by omega
        simp [h1, h']; exact ih
      · by_cases h' : a ≤ x
        · exact absurd (by omega) hx
        · simp [h1, h']; exact ih

theorem nf_fresh (no : List Int) : ∀ (k : Nat) (a : Int), (no.filter fun x => decide (a ≤ x)).length ≤ k → Fresh no a (nf no k a) ∧ nf no k a ≤ a + k
  | 0, a, h => by
    have h0 : a ∉ no := fun hm => by
      have : a ∈ no.filter fun x => decide (a ≤ x) := by simp [hm]
      have := List.length_pos_of_mem this
      omega
    exact ⟨⟨Int.le_refl _, h0, fun x h1 h2 => by simp [nf] at h2; omega⟩, by simp [nf]⟩
  | k + 1, a, h => by
    unfold nf
    by_cases hm : a ∈ no
    · have := filter_lt a no hm
      obtain ⟨⟨h1, h2, h3⟩, h4⟩ := nf_fresh no k (a + 1) (by omega)
      rw [if_pos hm]
      refine ⟨⟨by omega, h2, fun x hx1 hx2 => ?_⟩, by omega⟩
      by_cases e : x = a
      · subst e; exact hm
      · exact h3 x (by omega) hx2
    · rw [if_neg hm]
      exact ⟨⟨Int.le_refl _, hm, fun x h1 h2 => by omega⟩, by omega⟩

def nxt (no : List Int) (a : Int) : Int := nf no no.length a
theorem nxt_fresh (no : List Int) (a : Int) : Fresh no a (nxt no a) ∧ nxt no a ≤ a + no.length := nf_fresh no _ a (List.length_filter_le _ _)

def dealAt (no : List Int) : Nat → Int
  | 0 => 1000003
  | k + 1 => nxt no (dealAt no k) + 1
def deals (no : List Int) : Nat → List Int
  | 0 => []
  | k + 1 => deals no k ++ [nxt no (dealAt no k)]

theorem deals_len (no : List Int) : ∀ k, (deals no k).length = k
  | 0 => rfl
  | k + 1 => by simp [deals, deals_len no k]

theorem dealAt_bound (no : List Int) (n : Nat) (hn : no.length ≤ n) : ∀ k : Nat, 1000003 ≤ dealAt no k ∧ dealAt no k ≤ 1000003 + (k : Int) * (n + 1)
  | 0 => by simp [dealAt]
  | k + 1 => by
    obtain ⟨h1, h2⟩ := dealAt_bound no n hn k
    obtain ⟨⟨h3, _, _⟩, h4⟩ := nxt_fresh no (dealAt no k)
    simp only [dealAt]
    have e : ((k + 1 : Nat) : Int) * ((n : Int) + 1) = (k : Int) * (n + 1) + (n + 1) := by push_cast; rw [Int.add_mul]; omega
    rw [e]
    omega

theorem deals_mem (no : List Int) : ∀ (k : Nat) (x : Int), x ∈ deals no k → x < dealAt no k ∧ x ∉ no
  | 0, x, h => by simp [deals] at h
  | k + 1, x, h => by
    obtain ⟨⟨h3, h5, _⟩, h4⟩ := nxt_fresh no (dealAt no k)
    simp only [deals, List.mem_append, List.mem_singleton] at h
    simp only [dealAt]
    rcases h with h | rfl
    · obtain ⟨h1, h2⟩ := deals_mem no k x h
      exact ⟨by omega, h2⟩
    · exact ⟨by omega, h5⟩

theorem deals_nodup (no : List Int) : ∀ (k : Nat), (deals no k).Nodup
  | 0 => by simp [deals]
  | k + 1 => by
    simp only [deals]
    rw [List.nodup_append]
    refine ⟨deals_nodup no k, by simp, fun a ha b hb e => ?_⟩
    simp only [List.mem_singleton] at hb
    subst hb
    have := (deals_mem no k a ha).1
    have := (nxt_fresh no (dealAt no k)).1.1
    omega

theorem deals_take (no : List Int) (j : Nat) : ∀ k, (deals no (j + k)).take j = deals no j
  | 0 => by rw [List.take_of_length_le (by rw [deals_len]; omega)]; rfl
  | k + 1 => by
    show (deals no (j + k) ++ _).take j = _
    rw [List.take_append_of_le_length (by rw [deals_len]; omega)]
    exact deals_take no j k

theorem deals_drop (no : List Int) (j k : Nat) : (deals no (j + (k + 1))).drop j = (deals no (j + k)).drop j ++ [nxt no (dealAt no (j + k))] := by
  show (deals no (j + k) ++ _).drop j = _
  rw [List.drop_append_of_le_length (by rw [deals_len]; omega)]
  rfl

def noOf (f g : List Ins) : List Int := constsOf (f.take 200) ++ constsOf (g.take 200)
def manyOf (f g : List Ins) : Nat := (f.take 200).length + (g.take 200).length

/-- The first case. -/
def firstOf (f g : List Ins) : Case := { R := deals (noOf f g) 8, heap := [], answers := (deals (noOf f g) (8 + (manyOf f g + 2))).drop 8, fuel := ((manyOf f g + 2 : Nat) : Int) }

theorem Fresh.of {ks no : List Int} (h : ∀ x, x ∈ ks ↔ x ∈ no) {a m : Int} (hf : Fresh no a m) : Fresh ks a m :=
  ⟨hf.1, fun e => hf.2.1 ((h m).1 e), fun x h1 h2 => (h x).2 (hf.2.2 x h1 h2)⟩

theorem noOf_len (f g : List Ins) : (noOf f g).length ≤ 400 := by
  have h1 := constsOf_len (f.take 200)
  have h2 := constsOf_len (g.take 200)
  have h3 := take_len f
  have h4 := take_len g
  unfold noOf
  rw [List.length_append]
  omega
theorem manyOf_le (f g : List Ins) : manyOf f g ≤ 400 := by
  have h3 := take_len f
  have h4 := take_len g
  unfold manyOf
  omega

theorem deal_fits (f g : List Ins) (k : Nat) (hk : k ≤ 500) : -9223372036854775807 ≤ dealAt (noOf f g) k ∧ nxt (noOf f g) (dealAt (noOf f g) k) < 9223372036854775807 := by
  obtain ⟨h1, h2⟩ := dealAt_bound (noOf f g) 400 (noOf_len f g) k
  have h3 := (nxt_fresh (noOf f g) (dealAt (noOf f g) k)).2
  have h4 := noOf_len f g
  have e : (((400 : Nat) : Int) + 1) = 401 := rfl
  rw [e] at h2
  omega
end Go.Proofs.Yteoahfpnkbdkkaa
