/-
  The abstract layer, part 25: loops that end by what comes ahead of the test (ranges over texts).
-/
import Derived.Test.YtoiceinjademgaaDoorC6
namespace Go.Proofs.YtoiceinjademgaaDoor
open Go.RowKit
set_option linter.unusedVariables false
set_option linter.unusedSimpArgs false

section
variable {P : Program} {N B : Nat} {Q : Exit → AS → Prop} {σ : AS}

/-- A loop without a step of its own: what comes ahead of the test says whether it goes on. 'I': at its head, with a number that falls; 'J': in the body; 'E': behind it. -/
theorem LCB.wfor {b c : Nat} {pre : List LOper} {body : LCode} {S : Type} (I J E : S → AS → Prop) (m : S → Nat) (s0 : S) (hI : I s0 σ)
    (hpre : ∀ s σ, I s σ → wpL P pre (fun σ' => (σ'.t c = .bool true ∧ J s σ') ∨ (σ'.t c = .bool false ∧ E s σ')) σ)
    (hbody : ∀ s σ, J s σ → LCB P N B body (fun e σ' => match e with
      | .normal => ∃ s' σ'', Weak B N σ' σ'' ∧ m s' < m s ∧ I s' σ''
      | .exit b' => if b' = b then Q .normal σ' else Q (.exit b') σ'
      | e => Q e σ') σ)
    (hend : ∀ s σ, E s σ → Q .normal σ) :
    LCB P N B (.block b (.loop (.seq (.text pre) (.seq (.cond (.tmp c) .skip (.exit b)) body)))) Q σ := by
  refine LCB.block (LCB.loop (fun n σ => ∃ s, n = m s ∧ I s σ) (m s0) ⟨s0, rfl, hI⟩ ?_)
  rintro n σ ⟨s, rfl, hIs⟩
  refine LCB.seq (LCB.text (wpL_mono ?_ (hpre s σ hIs)))
  rintro σ (⟨hc, hJ⟩ | ⟨hc, hE⟩)
  · refine LCB.seq (LCB.cond (t := true) hc (fun _ => LCB.skip ?_) (fun h => by simp at h))
    refine LCB.post ((hbody s σ hJ).mono fun e σ' he => ?_)
    cases e with
    | normal =>
      obtain ⟨s', σ'', hw, hm, h⟩ := he
      exact ⟨σ'', hw, m s', hm, s', rfl, h⟩
    | exit b' => exact ⟨σ', Weak.refl _ _ _, he⟩
    | _ => exact ⟨σ', Weak.refl _ _ _, he⟩
  · refine LCB.seq (LCB.cond (t := false) hc (fun h => by simp at h) (fun _ => LCB.exit ?_))
    simp only [if_true]
    exact hend s _ hE
end

/-! ### Texts of ASCII -/
def ascii (s : ByteArray) : Prop := ∀ p, p < s.size → (s.get! p).toNat < 128

theorem decode_lt {s : ByteArray} {p : Nat} (h : (s.get! p).toNat < 128) : Utf8.decode s p = ((s.get! p).toNat, 1) := by
  simp [Utf8.decode, h]

/-- The letters of a text. -/
def lettersOf (s : ByteArray) : List Int := s.data.toList.map fun b => (b.toNat : Int)

theorem letters_len (s : ByteArray) : (lettersOf s).length = s.size := by
  unfold lettersOf
  rw [List.length_map, Array.length_toList]
  rfl

theorem letters_at {s : ByteArray} {p : Nat} (h : p < s.size) : (lettersOf s)[p]? = some (((s.get! p).toNat : Nat) : Int) := by
  have h' : p < s.data.size := h
  have e : s.get! p = s.data[p] := by
    show s.data[p]! = s.data[p]
    exact getElem!_pos s.data p h'
  unfold lettersOf
  rw [List.getElem?_map, Array.getElem?_toList, Array.getElem?_eq_getElem h', e]
  rfl
end Go.Proofs.YtoiceinjademgaaDoor
