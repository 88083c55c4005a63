/-
  The abstract layer, part 23: laws for walking: heaps, loops, what is forgotten.
-/
import Derived.Test.YtoiceinjademgaaDoorC4
namespace Go.Proofs.YtoiceinjademgaaDoor
open Go.RowKit
set_option linter.unusedVariables false
set_option linter.unusedSimpArgs false

/-! ### Heaps: what was there, and what is one's own -/
theorem hp_get (H L : List AObj) (n : Nat) : (H ++ L)[H.length + n]? = L[n]? := by rw [List.getElem?_append_right (by omega)]; congr 1; omega
theorem hp_get0 (H L : List AObj) : (H ++ L)[H.length]? = L[0]? := hp_get H L 0
theorem hp_set (H L : List AObj) (n : Nat) (o : AObj) : (H ++ L).set (H.length + n) o = H ++ L.set n o := by simp [List.set_append]
theorem hp_set0 (H L : List AObj) (o : AObj) : (H ++ L).set H.length o = H ++ L.set 0 o := by simp [List.set_append]
theorem hp_len (H L : List AObj) : (H ++ L).length = H.length + L.length := by simp
theorem hp_app (H L M : List AObj) : (H ++ L) ++ M = H ++ (L ++ M) := by simp
theorem hp_take (H L : List AObj) (n : Nat) : (H ++ L).take (H.length + n) = H ++ L.take n := by rw [List.take_append, List.take_of_length_le (by omega)]; congr 2; omega

mutual
theorem AV.clean_le {m n : Nat} (hmn : m ≤ n) : ∀ (a : AV), a.clean m = true → a.clean n = true
  | .int _ _, _ | .bool _, _ | .str _, _ | .imm _, _ | .list _, _ | .lptr _ _, _ | .dead, _ => rfl
  | .sl _ k _ _ _, h => by simp [AV.clean] at h ⊢; omega
  | .ptr k _ _ _, h => by simp [AV.clean] at h ⊢; omega
  | .iter k, h => by simp [AV.clean] at h ⊢; omega
  | .map k, h => by simp [AV.clean] at h ⊢; omega
  | .fn _ f g, h => by
    simp only [AV.clean, Bool.and_eq_true] at h ⊢
    exact ⟨cleanAll_le hmn f h.1, cleanAll_le hmn g h.2⟩
  | .iface _ a, h => by simp only [AV.clean] at h ⊢; exact AV.clean_le hmn a h
  | .agg as, h => by simp only [AV.clean] at h ⊢; exact cleanAll_le hmn as h
  | .tup as, h => by simp only [AV.clean] at h ⊢; exact cleanAll_le hmn as h
theorem cleanAll_le {m n : Nat} (hmn : m ≤ n) : ∀ (l : List AV), cleanAll m l = true → cleanAll n l = true
  | [], _ => rfl
  | a :: r, h => by
    simp only [cleanAll, Bool.and_eq_true] at h ⊢
    exact ⟨AV.clean_le hmn a h.1, cleanAll_le hmn r h.2⟩
end

theorem AObj.clean_le {m n : Nat} (hmn : m ≤ n) {o : AObj} (h : o.clean m) : o.clean n := by
  cases o with
  | vec sz xs => exact fun i j a ha => AV.clean_le hmn a (h i j a ha)
  | map es => exact fun i p hp => ⟨AV.clean_le hmn _ (h i p hp).1, AV.clean_le hmn _ (h i p hp).2⟩
  | _ => trivial

theorem Clean.le {m n : Nat} (hmn : m ≤ n) {H : List AObj} (h : Clean m H) : Clean n H := fun k o hk => AObj.clean_le hmn (h k o hk)

theorem Clean.app {m : Nat} {H L : List AObj} (h : Clean m H) (hl : Clean m L) : Clean m (H ++ L) := fun k o hk => by
  by_cases hlt : k < H.length
  · rw [List.getElem?_append_left hlt] at hk; exact h k o hk
  · rw [List.getElem?_append_right (by omega)] at hk; exact hl _ o hk

theorem Clean.nil {m : Nat} : Clean m [] := fun k o hk => by simp at hk
theorem Clean.cons {m : Nat} {o : AObj} {L : List AObj} (h : o.clean m) (hl : Clean m L) : Clean m (o :: L) := fun k p hk => by
  cases k with
  | zero => simp at hk; subst hk; exact h
  | succ k => exact hl k p (by simpa using hk)

theorem vec_clean {m sz : Nat} {xs : List (List AV)} (h : ∀ r ∈ xs, cleanAll m r = true) : (AObj.vec sz xs).clean m := fun i j a ha => by
  simp only [cellAt, Option.bind_eq_some_iff] at ha
  obtain ⟨r, h1, h2⟩ := ha
  exact cleanAll_iff.1 (h r (List.mem_of_getElem? h1)) j a h2

theorem vec_clean_map {α : Type} {m sz : Nat} (f : α → List AV) (h : ∀ x, cleanAll m (f x) = true) (l : List α) : (AObj.vec sz (l.map f)).clean m := vec_clean fun r hr => by
  obtain ⟨x, _, rfl⟩ := List.mem_map.1 hr
  exact h x

theorem rows_clean_map {α : Type} (f : α → List AV) (h : ∀ x, cleanAll 0 (f x) = true) (l : List α) : ∀ (i j : Nat) (a : AV), cellAt (l.map f) i j = some a → a.clean 0 = true := vec_clean_map (sz := 0) f h l

/-- A slice of one's own, handed back whole. -/
theorem View.own {α : Type} {H L : List AObj} {sz : Nat} (k : Nat) {n : Nat} (f : α → List AV) (l : List α) (hL : L[k]? = some (.vec sz (l.map f))) (hn : n = l.length) (hf : ∀ x, cleanAll 0 (f x) = true) : View (H ++ L) H.length (.sl sz (H.length + k) n 0 n) (.list (l.map f)) :=
  .sl _ _ _ _ _ _ _ (by omega) (by rw [hp_get]; exact hL) (by simp [hn]) (by rw [List.drop_zero, List.take_of_length_le (by simp [hn])]) (rows_clean_map f hf l)
theorem View.own0 {α : Type} {H L : List AObj} {sz n : Nat} (f : α → List AV) (l : List α) (hL : L[0]? = some (.vec sz (l.map f))) (hn : n = l.length) (hf : ∀ x, cleanAll 0 (f x) = true) : View (H ++ L) H.length (.sl sz H.length n 0 n) (.list (l.map f)) := View.own (H := H) 0 f l hL hn hf

/-- Only some slots are kept. -/
def keepT (ks : List Nat) (t : Tm) : Tm := fun n => if ks.contains n then t n else .dead

theorem Weak.keep {B N m : Nat} {t : Tm} {H : List AObj} (ks : List Nat) (hm : B ≤ m) (hc : Clean m (H.take m)) (hk : ∀ n ∈ ks, (t n).clean m = true) : Weak B N ⟨t, H⟩ ⟨keepT ks t, H.take m⟩ :=
  Weak.take m hm hc fun n => by
    unfold keepT
    split
    · rename_i h
      exact .same _ (hk n (by simpa using h))
    · exact .dead _

/-- What is one's own from place n on is forgotten. -/
theorem Weak.cut {B N : Nat} {t : Tm} {H L : List AObj} (ks : List Nat) (n : Nat) (hB : B ≤ H.length + n) (hH : Clean H.length H) (hL : Clean (H.length + n) (L.take n)) (hk : ∀ s ∈ ks, (t s).clean (H.length + n) = true) : Weak B N ⟨t, H ++ L⟩ ⟨keepT ks t, H ++ L.take n⟩ := by
  have := Weak.keep (B := B) (N := N) (t := t) (H := H ++ L) ks hB (by rw [hp_take]; exact (hH.le (by omega)).app hL) hk
  rwa [hp_take] at this

section
variable {P : Program} {N B : Nat} {Q : Exit → AS → Prop} {σ : AS}

theorem wpO_mono {o : LOper} {K K' : AS → Prop} (h : ∀ σ, K σ → K' σ) (hw : wpO P o K σ) : wpO P o K' σ := by
  unfold wpO at hw ⊢
  split
  · rename_i f args hop
    rw [hop] at hw
    simp only at hw
    unfold CallA at hw ⊢
    split
    · rename_i hf
      rw [hf] at hw
      exact ACalls.mono hw fun r H' hr => h _ hr
    · rename_i hf
      split at hw
      · rename_i h2; exact absurd h2 (hf _ _ _)
      · exact hw
  · rename_i hop
    split at hw
    · rename_i h2; exact absurd h2 (hop _ _)
    · split
      · rename_i h3; rw [h3] at hw; exact h _ hw
      · rename_i h3; rw [h3] at hw; exact hw

theorem wpG_mono {o : LOper} {K K' : AS → Prop} (h : ∀ σ, K σ → K' σ) (hw : wpG P o K σ) : wpG P o K' σ := by
  unfold wpG at hw ⊢
  split
  · rename_i hg; rw [hg] at hw; exact wpO_mono h hw
  · rename_i g b hg
    rw [hg] at hw
    simp only at hw
    split
    · rename_i x hx
      rw [hx] at hw
      exact ⟨fun e => wpO_mono h (hw.1 e), fun e => h _ (hw.2 e)⟩
    · rename_i u hu
      rw [hu] at hw
      exact ⟨hw.1, h _ hw.2⟩
    · rename_i hx hx2
      split at hw
      · rename_i h2; exact absurd h2 (hx _)
      · rename_i h2; exact absurd h2 (hx2 _)
      · exact hw

theorem wpL_app (l m : List LOper) {K : AS → Prop} : ∀ (σ : AS), wpL P l (wpL P m K) σ → wpL P (l ++ m) K σ := by
  induction l with
  | nil => intro σ h; exact h
  | cons o l ih => intro σ h; exact wpG_mono ih h

theorem wpL_mono {l : List LOper} {K K' : AS → Prop} (h : ∀ σ, K σ → K' σ) : ∀ {σ : AS}, wpL P l K σ → wpL P l K' σ := by
  induction l with
  | nil => intro σ hw; exact h σ hw
  | cons o l ih => intro σ hw; exact wpG_mono (fun σ => ih) hw

/-- The first n operations; what follows is kept behind a name. -/
theorem wpL_at (n : Nat) {l : List LOper} {K : AS → Prop} (h : ∀ K' : AS → Prop, (∀ σ, wpL P (l.drop n) K σ → K' σ) → wpL P (l.take n) K' σ) : wpL P l K σ := by
  have := wpL_app (P := P) (l.take n) (l.drop n) (K := K) σ (h _ fun _ h => h)
  rwa [List.take_append_drop] at this

/-- A part, and what is known behind it. -/
theorem LCB.seqM {x y : LCode} (M : AS → Prop) (h : LCB P N B x (fun e σ' => match e with | .normal => M σ' | e => Q e σ') σ) (hy : ∀ σ, M σ → LCB P N B y Q σ) : LCB P N B (.seq x y) Q σ :=
  .seq (h.mono fun e σ' h => by cases e <;> first | exact hy σ' h | exact h)

theorem wrap_i64_in {n : Int} (h0 : -9223372036854775808 ≤ n) (h1 : n ≤ 9223372036854775807) : IntKind.i64.wrap n = n := by rw [IntKind.wrap_i64]; omega

/-- A loop that counts: 'for i := 0; i < n; i++'. What is said of the slots (but the counter's three) holds at each round's head. -/
theorem LCB.count {b i c j : Nat} {lim : Opd} {body : LCode} (len : Nat) (hlen : len ≤ 9223372036854775806) (I : Nat → AS → Prop) (k0 : Nat) (h0 : σ.t i = .int .i64 (k0 : Int)) (hk0 : k0 ≤ len) (hI : I k0 σ)
    (hci : c ≠ i) (hji : j ≠ i)
    (hput : ∀ k t H d v, (d = i ∨ d = c ∨ d = j) → I k ⟨t, H⟩ → I k ⟨t.put (some d) v, H⟩)
    (hlim : ∀ k t H, k ≤ len → I k ⟨t, H⟩ → ev t lim = .int .i64 (len : Int))
    (hbody : ∀ k t H, k < len → t i = .int .i64 (k : Int) → I k ⟨t, H⟩ → LCB P N B body (fun e σ' => match e with
      | .normal => ∃ σ'', Weak B N σ' σ'' ∧ σ''.t i = .int .i64 (k : Int) ∧ I (k + 1) σ''
      | .exit b' => if b' = b then Q .normal σ' else Q (.exit b') σ'
      | e => Q e σ') ⟨t, H⟩)
    (hend : ∀ t H, I len ⟨t, H⟩ → Q .normal ⟨t, H⟩) :
    LCB P N B (.block b (.loop (.seq (.text [⟨some c, .bin .lss .other (.tmp i) lim, none⟩]) (.seq (.cond (.tmp c) .skip (.exit b)) (.seq body (.text [⟨some j, .bin .add .other (.tmp i) (.cst (.int .i64 1)), none⟩, ⟨some i, .mv (.tmp j), none⟩])))))) Q σ := by
  refine LCB.block (LCB.loop (fun n σ => ∃ k, k ≤ len ∧ n = len - k ∧ σ.t i = .int .i64 (k : Int) ∧ I k σ) (len - k0) ⟨k0, hk0, rfl, h0, hI⟩ ?_)
  rintro n ⟨t, H⟩ ⟨k, hk, rfl, hti, hIk⟩
  replace hti : t i = .int .i64 (k : Int) := hti
  have hl := hlim k t H hk hIk
  refine LCB.seq (LCB.text ?_)
  simp only [wpL, wpG, wpO, stepL, pureStep, ev_tmp, hti, hl, binA_int, arith, Option.map_some]
  refine LCB.seq (LCB.cond (t := decide ((k : Int) < (len : Int))) (by simp only [ev_tmp, Tm.put_some, if_true]) (fun hlt => ?_) (fun hge => ?_))
  · have hlt' : k < len := by simpa using hlt
    refine LCB.skip ?_
    refine LCB.seq ((hbody k _ H hlt' (by simp [Tm.put_some, Ne.symm hci, hti]) (hput k t H c _ (.inr (.inl rfl)) hIk)).mono fun e σ' he => ?_)
    cases e with
    | normal =>
      obtain ⟨σ'', hw, h1, h2⟩ := he
      refine LCB.pre hw (LCB.text ?_)
      obtain ⟨t2, H2⟩ := σ''
      simp only at h1
      simp only [wpL, wpG, wpO, stepL, pureStep, ev_tmp, ev_cst, h1, binA_int, arith, Option.map_some, if_true, Tm.put_some]
      refine ⟨len - (k + 1), by omega, k + 1, by omega, rfl, ?_, ?_⟩
      · rw [wrap_i64_in (by omega) (by omega)]
        rfl
      · exact hput _ _ _ _ _ (.inl rfl) (hput _ _ _ _ _ (.inr (.inr rfl)) h2)
    | exit b' => exact he
    | _ => exact he
  · have hge' : k = len := by
      have : ¬ k < len := by simpa using hge
      omega
    subst hge'
    refine LCB.exit ?_
    simp only [if_true]
    exact hend _ _ (hput _ _ _ _ _ (.inr (.inl rfl)) hIk)

end
end Go.Proofs.YtoiceinjademgaaDoor
