/-
  Plain laws: an instruction's text is read as it, and what was read has just that text.
-/
import Derived.Test.YtoiceinjademgaaDoorP6
namespace Go.Proofs.YtoiceinjademgaaDoor
open Go.RowKit
set_option linter.unusedVariables false
set_option linter.unusedSimpArgs false

/-! ### Words -/
theorem split_word : ∀ (w r : List UInt8), (∀ c ∈ w, c ≠ 32) → splitSp (w ++ 32 :: r) = w :: splitSp r
  | [], r, _ => by simp [splitSp]
  | c :: w, r, h => by
    rw [List.cons_append, splitSp, if_neg (h c (by simp)), split_word w r (fun d hd => h d (by simp [hd]))]
    rfl
theorem split_last : ∀ (w : List UInt8), (∀ c ∈ w, c ≠ 32) → splitSp w = [w]
  | [], _ => rfl
  | c :: w, h => by
    rw [splitSp, if_neg (h c (by simp)), split_last w (fun d hd => h d (by simp [hd]))]
    rfl
theorem split_fields (x : Ins) : ∀ (l w : List UInt8), (∀ c ∈ w, c ≠ 32) → (∀ c ∈ l, ∀ d ∈ fieldT x c, d ≠ 32) → splitSp (w ++ fieldsT x l) = w :: l.map (fieldT x)
  | [], w, h, _ => by
    have : fieldsT x [] = [] := rfl
    rw [this, List.append_nil, split_last w h]
    rfl
  | c :: l, w, h, hl => by
    have : fieldsT x (c :: l) = 32 :: (fieldT x c ++ fieldsT x l) := by simp [fieldsT]
    rw [this, split_word _ _ h, split_fields x l _ (hl c (by simp)) (fun d hd => hl d (by simp [hd]))]
    rfl
def glued : List (List UInt8) → List UInt8
  | [] => []
  | w :: ws => w ++ ws.flatMap fun v => 32 :: v
theorem glued_split : ∀ (s : List UInt8), glued (splitSp s) = s
  | [] => rfl
  | c :: r => by
    have ih := glued_split r
    rw [splitSp]
    cases h : splitSp r with
    | nil => exact absurd h (splitSp_ne r)
    | cons v vs =>
      rw [h] at ih
      split
      · rename_i hc
        rw [hc]
        simp only [glued, List.flatMap_cons, List.nil_append, List.cons_append] at ih ⊢
        rw [ih]
      · simp only [glueL, glued, List.cons_append, List.nil_append] at ih ⊢
        rw [ih]

theorem numText_char (n : Int) : ∀ c ∈ numText n, c = 45 ∨ isDig c = true := by
  intro c hc
  have hall := decB_all 20 n.natAbs
  rw [List.all_eq_true] at hall
  unfold numText decB at hc
  split at hc
  · rcases List.mem_cons.1 hc with h | h
    · exact .inl h
    · exact .inr (hall c h)
  · exact .inr (hall c hc)
theorem isDig_ne {c : UInt8} (h : isDig c = true) : c ≠ 32 ∧ c ≠ 114 ∧ c ≠ 115 := by
  simp [isDig] at h
  refine ⟨?_, ?_, ?_⟩ <;> (rintro rfl; revert h; decide)
theorem numText_no (n : Int) : ∀ c ∈ numText n, c ≠ 32 ∧ c ≠ 114 ∧ c ≠ 115 := fun c hc => by
  rcases numText_char n c hc with rfl | h
  · decide
  · exact isDig_ne h
theorem locText_no (l : Int) : ∀ c ∈ locText l, c ≠ 32 := fun c hc => by
  unfold locText at hc
  split at hc
  · rcases List.mem_cons.1 hc with rfl | h
    · decide
    · exact (numText_no _ c h).1
  · rcases List.mem_cons.1 hc with rfl | h
    · decide
    · exact (numText_no _ c h).1
theorem fieldT_no (x : Ins) (c : UInt8) : ∀ d ∈ fieldT x c, d ≠ 32 := fun d hd => by
  unfold fieldT at hd
  split at hd
  · exact (numText_no _ d hd).1
  · split at hd
    · exact (numText_no _ d hd).1
    · exact locText_no _ d hd
theorem words_no : ∀ p ∈ shapeTbl, ∀ c ∈ p.1.data.toList, c ≠ 32 := by decide
theorem wordL_no (op : Int) : ∀ c ∈ wordL op, c ≠ 32 := by
  unfold wordL shapeOf
  rw [List.getD_eq_getElem?_getD]
  cases h : shapeTbl[(op - 1).toNat]? with
  | none => simp
  | some p => exact words_no p (List.mem_of_getElem? h)
theorem split_text (x : Ins) : splitSp (insText x) = wordL x.op :: (fieldL x.op).map (fieldT x) := split_fields x _ _ (wordL_no _) (fun c _ => fieldT_no x c)
theorem locOf_num (n : Int) : locOf (numText n) = none := by
  cases h : locOf (numText n) with
  | none => rfl
  | some l =>
    have h2 := (locOf_iff.1 h).2
    have h3 := numText_no n
    rw [← h2] at h3
    unfold locText at h3
    split at h3
    · exact absurd rfl (h3 114 (by simp)).2.1
    · exact absurd rfl (h3 115 (by simp)).2.2

/-! ### Print, then parse -/
theorem word_inj : ∀ i : Fin 18, ∀ j : Fin 18, wordL ((i.val + 1 : Nat) : Int) = wordL ((j.val + 1 : Nat) : Int) → i = j := by decide +kernel
def valAt (x : Ins) (c : UInt8) : Int := if c = 78 then x.n else if c = 84 then x.to else fieldVal x (c.toNat : Int)
theorem fill_back {x : Ins} (hx : Ok64 x) {c : UInt8} (hc : badPlace x (c.toNat : Int) = false) : fillV c (fieldT x c) = some (valAt x c) := by
  unfold fillV fieldT valAt
  by_cases h1 : c = 78
  · rw [if_pos (.inl h1), if_pos h1, if_pos h1]
    exact numOf_iff.2 ⟨hx.n, rfl⟩
  · by_cases h2 : c = 84
    · rw [if_pos (.inr h2), if_neg h1, if_neg h1, if_pos h2, if_pos h2]
      exact numOf_iff.2 ⟨hx.to, rfl⟩
    · rw [if_neg (by simp [h1, h2]), if_neg h1, if_neg h1, if_neg h2, if_neg h2]
      exact locOf_iff.2 ⟨place_good hc h1 h2, rfl⟩
def setAll (x : Ins) (y : Ins) (F : List UInt8) : Ins := F.foldl (fun y c => setField y c (valAt x c)) y
theorem fillAll_back {x : Ins} (hx : Ok64 x) : ∀ (F : List UInt8) (y : Ins), (∀ c ∈ F, badPlace x (c.toNat : Int) = false) → fillAll y F (F.map (fieldT x)) = some (setAll x y F)
  | [], y, _ => rfl
  | c :: F, y, h => by
    rw [List.map_cons, fillAll, fill_back hx (h c (by simp))]
    exact fillAll_back hx F _ (fun d hd => h d (by simp [hd]))
theorem setAll_good {x : Ins} (h : badForm x = false) : setAll x { noIns with op := x.op } (fieldL x.op) = x := by
  have hop : opOk x.op = true := by
    unfold badForm at h
    simp at h
    exact h.1.1
  obtain ⟨op, d, a, b, n, to⟩ := x
  simp only at hop h ⊢
  rcases op_cases hop with rfl | rfl | rfl | rfl | rfl | rfl | rfl | rfl | rfl | rfl | rfl | rfl | rfl | rfl | rfl | rfl | rfl | rfl
  all_goals simp [badForm, opOk, restOf, letters, fieldL, shapeOf, shapeTbl, zeroAt, noIns] at h
  all_goals simp [setAll, fieldL, shapeOf, shapeTbl, setField, valAt, fieldVal, noIns]
  all_goals omega
theorem parse_print {x : Ins} (hx : Ok64 x) (h : chk x 200 = 0) : parseIns (insText x) = some x := by
  obtain ⟨hop, hbf, hpl⟩ := chk_good h
  have ho : 1 ≤ x.op ∧ x.op ≤ 18 := by simpa [opOk] using hop
  obtain ⟨i, hi⟩ : ∃ i : Nat, x.op = ((i + 1 : Nat) : Int) := ⟨(x.op - 1).toNat, by omega⟩
  have hi18 : i < 18 := by omega
  unfold parseIns
  rw [split_text]
  unfold parseW
  have hm : matchOp (wordL x.op :: (fieldL x.op).map (fieldT x)) i = true := by
    unfold matchOp
    rw [← hi]
    simp
  have hm2 : ∀ j, j < i → matchOp (wordL x.op :: (fieldL x.op).map (fieldT x)) j = false := fun j hj => by
    unfold matchOp
    rw [Bool.and_eq_false_iff]
    left
    rw [decide_eq_false_iff_not]
    intro e
    rw [hi] at e
    have := word_inj ⟨j, by omega⟩ ⟨i, hi18⟩ e
    simp at this
    omega
  rw [find_range hi18 hm hm2]
  simp only
  unfold parseAt
  rw [← hi]
  simp only [List.tail_cons]
  rw [fillAll_back hx _ _ hpl, setAll_good hbf]
  simp [h]

/-! ### Parse, then print -/
def txt (c : UInt8) (v : Int) : List UInt8 := if c = 78 ∨ c = 84 then numText v else locText v
theorem fillV_some {c : UInt8} {w : List UInt8} {v : Int} (h : fillV c w = some v) : w = txt c v ∧ in64 v := by
  unfold fillV at h
  unfold txt
  split at h
  · rename_i hc
    rw [if_pos hc]
    have := numOf_iff.1 h
    exact ⟨this.2.symm, this.1⟩
  · rename_i hc
    rw [if_neg hc]
    have := locOf_iff.1 h
    refine ⟨this.2.symm, ?_⟩
    have h2 := this.1
    simp [inR] at h2
    unfold in64
    omega
def setL : Ins → List UInt8 → List Int → Ins
  | y, c :: F, v :: vs => setL (setField y c v) F vs
  | y, _, _ => y
def txts : List UInt8 → List Int → List (List UInt8)
  | c :: F, v :: vs => txt c v :: txts F vs
  | _, _ => []
theorem fillAll_some : ∀ (F : List UInt8) (ws : List (List UInt8)) (y x : Ins), ws.length = F.length → fillAll y F ws = some x → ∃ vs : List Int, vs.length = F.length ∧ (∀ v ∈ vs, in64 v) ∧ ws = txts F vs ∧ x = setL y F vs
  | [], ws, y, x, hl, h => by
    have : ws = [] := List.length_eq_zero_iff.1 (by simpa using hl)
    subst this
    exact ⟨[], rfl, by simp, rfl, by simpa [fillAll, setL] using h.symm⟩
  | c :: F, [], y, x, hl, h => by simp at hl
  | c :: F, w :: ws, y, x, hl, h => by
    rw [fillAll] at h
    cases hv : fillV c w with
    | none => rw [hv] at h; simp at h
    | some v =>
      rw [hv] at h
      obtain ⟨vs, h1, h2, h3, h4⟩ := fillAll_some F ws _ x (by simpa using hl) h
      obtain ⟨g1, g2⟩ := fillV_some hv
      refine ⟨v :: vs, by simp [h1], ?_, by rw [txts, ← h3, ← g1], h4⟩
      intro u hu
      rcases List.mem_cons.1 hu with rfl | hu
      · exact g2
      · exact h2 u hu
theorem setL_ok {op : Int} (hop : opOk op = true) {vs : List Int} (hl : vs.length = (fieldL op).length) (hv : ∀ v ∈ vs, in64 v) : Ok64 (setL { noIns with op := op } (fieldL op) vs) ∧ (setL { noIns with op := op } (fieldL op) vs).op = op ∧ (fieldL op).map (fieldT (setL { noIns with op := op } (fieldL op) vs)) = txts (fieldL op) vs := by
  have z : in64 0 := by unfold in64; omega
  rcases op_cases hop with rfl | rfl | rfl | rfl | rfl | rfl | rfl | rfl | rfl | rfl | rfl | rfl | rfl | rfl | rfl | rfl | rfl | rfl
  all_goals
    match vs, hl, hv with
    | [v1], hl, hv => 
      first
      | (simp [fieldL, shapeOf, shapeTbl] at hl; done)
      | (have := hv v1 (by simp)
         refine ⟨?_, rfl, ?_⟩
         · constructor <;> first | assumption | (unfold in64; simp [setL, fieldL, shapeOf, shapeTbl, setField, noIns]; done)
         · simp [setL, txts, txt, fieldL, shapeOf, shapeTbl, setField, fieldT, fieldVal, noIns])
    | [v1, v2], hl, hv =>
      first
      | (simp [fieldL, shapeOf, shapeTbl] at hl; done)
      | (have := hv v1 (by simp)
         have := hv v2 (by simp)
         refine ⟨?_, rfl, ?_⟩
         · constructor <;> first | assumption | (unfold in64; simp [setL, fieldL, shapeOf, shapeTbl, setField, noIns]; done)
         · simp [setL, txts, txt, fieldL, shapeOf, shapeTbl, setField, fieldT, fieldVal, noIns])
    | [v1, v2, v3], hl, hv =>
      first
      | (simp [fieldL, shapeOf, shapeTbl] at hl; done)
      | (have := hv v1 (by simp)
         have := hv v2 (by simp)
         have := hv v3 (by simp)
         refine ⟨?_, rfl, ?_⟩
         · constructor <;> first | assumption | (unfold in64; simp [setL, fieldL, shapeOf, shapeTbl, setField, noIns]; done)
         · simp [setL, txts, txt, fieldL, shapeOf, shapeTbl, setField, fieldT, fieldVal, noIns])
    | [], hl, hv => simp [fieldL, shapeOf, shapeTbl] at hl
    | _ :: _ :: _ :: _ :: _, hl, hv => simp [fieldL, shapeOf, shapeTbl] at hl
theorem print_parse {s : List UInt8} {x : Ins} (h : parseIns s = some x) : chk x 200 = 0 ∧ Ok64 x ∧ insText x = s := by
  unfold parseIns parseW at h
  cases hf : (List.range 18).find? (matchOp (splitSp s)) with
  | none => rw [hf] at h; simp at h
  | some i =>
    rw [hf] at h
    simp only at h
    have hm := List.find?_some hf
    have hi : i < 18 := by simpa using List.mem_of_find?_eq_some hf
    unfold matchOp at hm
    simp only [Bool.and_eq_true, decide_eq_true_eq] at hm
    obtain ⟨hw, hn⟩ := hm
    unfold parseAt at h
    have hg := glued_split s
    generalize splitSp s = W at *
    have hop : opOk ((i + 1 : Nat) : Int) = true := by simp [opOk]; omega
    generalize hopi : ((i + 1 : Nat) : Int) = op at *
    match W, hn with
    | w :: ws, hn =>
      simp only [List.headD_cons, List.tail_cons] at hw h
      cases hfa : fillAll { noIns with op := op } (fieldL op) ws with
      | none => rw [hfa] at h; simp at h
      | some y =>
        rw [hfa] at h
        simp only at h
        split at h
        · rename_i hc
          simp only [Option.some.injEq] at h
          subst h
          obtain ⟨vs, g1, g2, g3, g4⟩ := fillAll_some _ _ _ _ (by simpa using hn.symm) hfa
          obtain ⟨k1, k2, k3⟩ := setL_ok hop g1 g2
          rw [← g4] at k1 k2 k3
          refine ⟨hc, k1, ?_⟩
          unfold insText fieldsT
          rw [k2, ← hg, glued, ← hw, g3, ← k3, List.flatMap_map]
        · simp at h
theorem insText_inj {x y : Ins} (hx : Ok64 x) (hy : Ok64 y) (h1 : chk x 200 = 0) (h2 : chk y 200 = 0) (h : insText x = insText y) : x = y := by
  have e1 := parse_print hx h1
  have e2 := parse_print hy h2
  rw [h, e2] at e1
  exact (Option.some.inj e1).symm

/-! ### The reference's guess -/
def gStep (op : Int) (y : Ins) (k : Nat) (w : List UInt8) : Ins :=
  let j := if op = 14 ∨ op = 17 ∨ op = 18 then k + 1 else k
  match locOf w with
  | some l => if j = 1 then { y with d := l } else if j = 2 then { y with a := l } else { y with b := l }
  | none => match numOf w with
    | some n => if op = 16 ∨ op = 17 then { y with to := n } else { y with n := n }
    | none => y
def guess (op : Int) : Ins → Nat → List (List UInt8) → Ins
  | y, _, [] => y
  | y, k, w :: ws => guess op (gStep op y k w) (k + 1) ws
theorem gStep_ok {op : Int} {y : Ins} (hy : Ok64 y) (k : Nat) (w : List UInt8) : Ok64 (gStep op y k w) ∧ (gStep op y k w).op = y.op := by
  unfold gStep
  cases hl : locOf w with
  | some l =>
    have := (locOf_iff.1 hl).1
    have h2 : in64 l := by simp [inR] at this; unfold in64; omega
    simp only
    obtain ⟨a1, a2, a3, a4, a5, a6⟩ := hy
    split
    all_goals split
    all_goals first | exact ⟨⟨a1, by assumption, by assumption, by assumption, a5, a6⟩, rfl⟩ | (split <;> exact ⟨⟨a1, by assumption, by assumption, by assumption, a5, a6⟩, rfl⟩)
  | none =>
    cases hn : numOf w with
    | some n =>
      have h2 := (numOf_iff.1 hn).1
      obtain ⟨a1, a2, a3, a4, a5, a6⟩ := hy
      simp only
      split <;> exact ⟨⟨a1, a2, a3, a4, by assumption, by assumption⟩, rfl⟩
    | none => exact ⟨hy, rfl⟩
theorem guess_good {x : Ins} (hx : Ok64 x) (h : chk x 200 = 0) : guess x.op { noIns with op := x.op } 1 ((fieldL x.op).map (fieldT x)) = x := by
  obtain ⟨hop, hbf, hpl⟩ := chk_good h
  have hloc : ∀ v, inR 24 v = true → locOf (locText v) = some v := fun v hv => locOf_iff.2 ⟨hv, rfl⟩
  have hnum : numOf (numText x.n) = some x.n := numOf_iff.2 ⟨hx.n, rfl⟩
  have hto : numOf (numText x.to) = some x.to := numOf_iff.2 ⟨hx.to, rfl⟩
  have hnl := locOf_num
  clear hx h
  obtain ⟨op, d, a, b, n, to⟩ := x
  simp only at *
  rcases op_cases hop with rfl | rfl | rfl | rfl | rfl | rfl | rfl | rfl | rfl | rfl | rfl | rfl | rfl | rfl | rfl | rfl | rfl | rfl
  all_goals simp [badForm, opOk, restOf, letters, fieldL, shapeOf, shapeTbl, zeroAt, noIns] at hbf
  all_goals simp [fieldL, shapeOf, shapeTbl, badPlace, fieldVal, inR] at hpl
  all_goals
    have hd : locOf (locText d) = some d ∨ True := by first | exact .inl (hloc d (by simp [inR]; omega)) | exact .inr trivial
    try (replace hd : locOf (locText d) = some d := hloc d (by simp [inR]; omega))
    try (have ha : locOf (locText a) = some a := hloc a (by simp [inR]; omega))
    try (have hb : locOf (locText b) = some b := hloc b (by simp [inR]; omega))
    clear hloc hpl hop
    simp [guess, gStep, fieldL, shapeOf, shapeTbl, fieldT, fieldVal, noIns, *]
end Go.Proofs.YtoiceinjademgaaDoor
/-
  The reference's Parse.
-/
namespace Go.Proofs.YtoiceinjademgaaDoor
open Go.RowKit
set_option linter.unusedVariables false
set_option linter.unusedSimpArgs false

def refR (r : Option Ins) : AV := match r with
  | some x => .tup [insA x, .bool true]
  | none => .tup [insA noIns, .bool false]
def op0 (op : Int) : Ins := { noIns with op := op }
theorem op0_eq (op : Int) : op0 op = ⟨op, 0, 0, 0, 0, 0⟩ := rfl
def gAt (W : List (List UInt8)) (op : Int) : Ins := guess op (op0 op) 1 W.tail
def hit (s : List UInt8) (W : List (List UInt8)) (op : Int) : Prop := wordL op = W.getD 0 [] ∧ W.length ≤ 4 ∧ chk (gAt W op) 200 = 0 ∧ insText (gAt W op) = s
theorem no_hit {s : List UInt8} (h : ∀ j, j < 18 → ¬ hit s (splitSp s) ((j + 1 : Nat) : Int)) : parseIns s = none := by
  cases hp : parseIns s with
  | none => rfl
  | some x =>
    obtain ⟨hc, hx, ht⟩ := print_parse hp
    obtain ⟨hop, _, _⟩ := chk_good hc
    have ho : 1 ≤ x.op ∧ x.op ≤ 18 := by simpa [opOk] using hop
    refine absurd ?_ (h (x.op - 1).toNat (by omega))
    have e : (((x.op - 1).toNat + 1 : Nat) : Int) = x.op := by omega
    rw [e]
    have hs := split_text x
    rw [ht] at hs
    have hg : gAt (splitSp s) x.op = x := by
      unfold gAt
      rw [hs]
      exact guess_good hx hc
    obtain ⟨_, s2, _⟩ := shape_short x.op
    refine ⟨by rw [hs]; rfl, by rw [hs]; simp; omega, by rw [hg]; exact hc, by rw [hg]; exact ht⟩

set_option maxHeartbeats 2000000 in
theorem ref03_Parse_ok (s : List UInt8) (hs : s.length ≤ 1000000) : Pure Tryd.prog 27 [.str (bs s)] (refR (parseIns s)) := by
  intro H
  refine ACalls.go joineryref03_Parse.low (by simp) fun hcl => ?_
  have hww := ref03_Words_ok s hs
  (refine R.seq ?_; refine LCB.text ?_; repeat' (first | simp only [seval, ev1, ev2, ev3, ev4, beq_self_eq_true, encB_def, encS_def, sb, insA, encIns, ins_dec, ins_eta, noIns, op0_eq, *] | simp (disch := omega) only [if_pos, if_neg]))
  refine R.seq (LCB.text ?_)
  repeat' (first | simp only [seval, ev1, ev2, ev3, ev4, beq_self_eq_true, encB_def, encS_def, sb, insA, encIns, ins_dec, ins_eta, noIns, op0_eq, *] | simp (disch := omega) only [if_pos, if_neg])
  refine ACalls.pure hww ?_
  clear hww
  have hW0 := splitSp_ne s
  have hWl := splitSp_len s
  have hWs : ∀ w ∈ splitSp s, w.length ≤ 1000000 := fun w hw => by have := splitSp_word s w hw; omega
  have hno := no_hit (s := s)
  generalize splitSp s = W at *
  have hW1 : 0 < W.length := by
    cases W with
    | nil => exact absurd rfl hW0
    | cons a b => simp
  replace hW0 := Hold.mk hW0
  replace hWs := Hold.mk hWs
  replace hno := Hold.mk hno
  repeat' (first | simp only [seval, ev1, ev2, ev3, ev4, beq_self_eq_true, encB_def, encS_def, sb, insA, encIns, ins_dec, ins_eta, noIns, op0_eq, *] | simp (disch := omega) only [if_pos, if_neg] | refine R.seq ?_ | refine LCB.text ?_ | refine LCB.quiet rfl ?_ | refine R.calls rfl ?_ | refine R.block ?_ | refine LCB.skip ?_ | refine LCB.exit ?_ | refine LCB.ret ?_ | (refine RetOk.val hcl ?_; simp only [seval, ev1, ev2, ev3, wk, List.forall_mem_cons, List.forall_mem_map, List.forall_mem_append, List.not_mem_nil, encB_def, encS_def, sb, insA, encIns, ins_dec, ins_eta, noIns, op0_eq, *]) | (refine Weak.at hcl ?_; simp only [seval, ev1, ev2, ev3, wk, List.forall_mem_cons, List.forall_mem_map, List.forall_mem_append, List.not_mem_nil, encB_def, encS_def, sb, insA, encIns, ins_dec, ins_eta, noIns, op0_eq, *]) | (refine LCB.cond (by (simp only [seval, ev1, ev2, ev3, ev4, beq_self_eq_true, encB_def, encS_def, sb, insA, encIns, ins_dec, ins_eta, noIns, op0_eq, *]) <;> rfl) (fun hc => ?_) (fun hc => ?_) <;> try simp only [seval, decide_eq_true_eq, decide_eq_false_iff_not, Bool.not_eq_true', Bool.not_eq_false', Bool.not_true, Bool.not_false] at hc) | (refine wpG_split (by (simp only [seval, ev1, ev2, ev3, ev4, beq_self_eq_true, encB_def, encS_def, sb, insA, encIns, ins_dec, ins_eta, noIns, op0_eq, *]) <;> rfl) (fun hc => ?_) (fun hc => ?_) <;> try simp only [seval, decide_eq_true_eq, decide_eq_false_iff_not, Bool.not_eq_true', Bool.not_eq_false', Bool.not_true, Bool.not_false] at hc) | (refine wqG_split (by (simp only [seval, ev1, ev2, ev3, ev4, beq_self_eq_true, encB_def, encS_def, sb, insA, encIns, ins_dec, ins_eta, noIns, op0_eq, *]) <;> rfl) (fun hc => ?_) (fun hc => ?_) <;> try simp only [seval, decide_eq_true_eq, decide_eq_false_iff_not, Bool.not_eq_true', Bool.not_eq_false', Bool.not_true, Bool.not_false] at hc) | refine ACalls.inst ?_ | refine CallP.inst rfl ?_)
  refine R.loop (S := Nat) ⟨fun i => [(0, .str (bs s)), (2, .ptr H.length 1 0 0), (4, .list (W.map encS)), (5, .int .i64 ((i + 1 : Nat) : Int))], fun i => H ++ [.vec 6 [encIns noIns]], fun i => i ≤ 18 ∧ ∀ j, j < i → ¬ hit s W ((j + 1 : Nat) : Int), fun i => 18 - i⟩ 0 ⟨Nat.zero_le _, fun j hj => by omega⟩ (Weak.at hcl ?_) ?_
  · simp only [seval, ev1, ev2, ev3, wk, List.forall_mem_cons, List.forall_mem_map, List.forall_mem_append, List.not_mem_nil, encB_def, encS_def, sb, insA, encIns, ins_dec, ins_eta, noIns, op0_eq, *]
  rintro i ⟨hi, hj⟩
  simp only at hi hj ⊢
  replace hj := Hold.mk hj
  by_cases hlt : ¬ i < 18
  · have : i = 18 := by omega
    subst this
    have hr : refR (parseIns s) = .tup [insA noIns, .bool false] := by rw [hno.of hj.of]; rfl
    repeat' (first | simp only [seval, ev1, ev2, ev3, ev4, beq_self_eq_true, encB_def, encS_def, sb, insA, encIns, ins_dec, ins_eta, noIns, op0_eq, *] | simp (disch := omega) only [if_pos, if_neg] | refine R.seq ?_ | refine LCB.text ?_ | refine LCB.quiet rfl ?_ | refine R.calls rfl ?_ | refine R.block ?_ | refine LCB.skip ?_ | refine LCB.exit ?_ | refine LCB.ret ?_ | (refine RetOk.val hcl ?_; simp only [seval, ev1, ev2, ev3, wk, List.forall_mem_cons, List.forall_mem_map, List.forall_mem_append, List.not_mem_nil, encB_def, encS_def, sb, insA, encIns, ins_dec, ins_eta, noIns, op0_eq, *]) | (refine Weak.at hcl ?_; simp only [seval, ev1, ev2, ev3, wk, List.forall_mem_cons, List.forall_mem_map, List.forall_mem_append, List.not_mem_nil, encB_def, encS_def, sb, insA, encIns, ins_dec, ins_eta, noIns, op0_eq, *]) | (refine LCB.cond (by (simp only [seval, ev1, ev2, ev3, ev4, beq_self_eq_true, encB_def, encS_def, sb, insA, encIns, ins_dec, ins_eta, noIns, op0_eq, *]) <;> rfl) (fun hc => ?_) (fun hc => ?_) <;> try simp only [seval, decide_eq_true_eq, decide_eq_false_iff_not, Bool.not_eq_true', Bool.not_eq_false', Bool.not_true, Bool.not_false] at hc) | (refine wpG_split (by (simp only [seval, ev1, ev2, ev3, ev4, beq_self_eq_true, encB_def, encS_def, sb, insA, encIns, ins_dec, ins_eta, noIns, op0_eq, *]) <;> rfl) (fun hc => ?_) (fun hc => ?_) <;> try simp only [seval, decide_eq_true_eq, decide_eq_false_iff_not, Bool.not_eq_true', Bool.not_eq_false', Bool.not_true, Bool.not_false] at hc) | (refine wqG_split (by (simp only [seval, ev1, ev2, ev3, ev4, beq_self_eq_true, encB_def, encS_def, sb, insA, encIns, ins_dec, ins_eta, noIns, op0_eq, *]) <;> rfl) (fun hc => ?_) (fun hc => ?_) <;> try simp only [seval, decide_eq_true_eq, decide_eq_false_iff_not, Bool.not_eq_true', Bool.not_eq_false', Bool.not_true, Bool.not_false] at hc) | refine ACalls.inst ?_ | refine CallP.inst rfl ?_)
  replace hlt : i < 18 := by omega
  have e1 : ((i + 1 : Nat) : Int) ≤ 18 := by omega
  have e2 : IntKind.i64.wrap (((i + 1 : Nat) : Int) + 1) = ((i + 1 + 1 : Nat) : Int) := by rw [IntKind.wrap_i64]; omega
  have hg0 := getD_map hW1
  have hop : Hold (opOk ((i + 1 : Nat) : Int) = true) := ⟨by simp [opOk]; omega⟩
  have hopr : Hold (1 ≤ ((i + 1 : Nat) : Int) ∧ ((i + 1 : Nat) : Int) ≤ 18) := ⟨by omega⟩
  have hjn : Hold (¬ hit s W ((i + 1 : Nat) : Int) → ∀ j, j < i + 1 → ¬ hit s W ((j + 1 : Nat) : Int)) := ⟨fun h j hj1 => by
    rcases Nat.lt_or_ge j i with h2 | h2
    · exact hj.of j h2
    · have : j = i := by omega
      subst this; exact h⟩
  generalize hopi : ((i + 1 : Nat) : Int) = op at *
  replace hopi := Hold.mk hopi
  have hword := Hold.mk (ref03_word_ok op hop.of)
  have hhit : Hold (hit s W op ↔ (wordL op = W.getD 0 [] ∧ W.length ≤ 4 ∧ chk (gAt W op) 200 = 0 ∧ insText (gAt W op) = s)) := ⟨Iff.rfl⟩
  by_cases hw : wordL op = W.getD 0 []
  · by_cases hl4 : W.length ≤ 4
    · have e3 : ¬ (4 : Int) < (W.length : Int) := by omega
      generalize wordL op = wd at *
      subst hw
      repeat' (first | simp only [seval, ev1, ev2, ev3, ev4, beq_self_eq_true, encB_def, encS_def, sb, insA, encIns, ins_dec, ins_eta, noIns, op0_eq, *] | simp (disch := omega) only [if_pos, if_neg] | refine R.seq ?_ | refine LCB.text ?_ | refine LCB.quiet rfl ?_ | refine R.calls rfl ?_ | refine R.block ?_ | refine LCB.skip ?_ | refine LCB.exit ?_ | refine LCB.ret ?_ | (refine RetOk.val hcl ?_; simp only [seval, ev1, ev2, ev3, wk, List.forall_mem_cons, List.forall_mem_map, List.forall_mem_append, List.not_mem_nil, encB_def, encS_def, sb, insA, encIns, ins_dec, ins_eta, noIns, op0_eq, *]) | (refine Weak.at hcl ?_; simp only [seval, ev1, ev2, ev3, wk, List.forall_mem_cons, List.forall_mem_map, List.forall_mem_append, List.not_mem_nil, encB_def, encS_def, sb, insA, encIns, ins_dec, ins_eta, noIns, op0_eq, *]) | (refine LCB.cond (by (simp only [seval, ev1, ev2, ev3, ev4, beq_self_eq_true, encB_def, encS_def, sb, insA, encIns, ins_dec, ins_eta, noIns, op0_eq, *]) <;> rfl) (fun hc => ?_) (fun hc => ?_) <;> try simp only [seval, decide_eq_true_eq, decide_eq_false_iff_not, Bool.not_eq_true', Bool.not_eq_false', Bool.not_true, Bool.not_false] at hc) | (refine wpG_split (by (simp only [seval, ev1, ev2, ev3, ev4, beq_self_eq_true, encB_def, encS_def, sb, insA, encIns, ins_dec, ins_eta, noIns, op0_eq, *]) <;> rfl) (fun hc => ?_) (fun hc => ?_) <;> try simp only [seval, decide_eq_true_eq, decide_eq_false_iff_not, Bool.not_eq_true', Bool.not_eq_false', Bool.not_true, Bool.not_false] at hc) | (refine wqG_split (by (simp only [seval, ev1, ev2, ev3, ev4, beq_self_eq_true, encB_def, encS_def, sb, insA, encIns, ins_dec, ins_eta, noIns, op0_eq, *]) <;> rfl) (fun hc => ?_) (fun hc => ?_) <;> try simp only [seval, decide_eq_true_eq, decide_eq_false_iff_not, Bool.not_eq_true', Bool.not_eq_false', Bool.not_true, Bool.not_false] at hc) | refine ACalls.inst ?_ | refine CallP.inst rfl ?_)
      first | refine ACalls.pure (hword.of) ?_ | refine CallP.pure (hword.of) rfl ?_
      repeat' (first | simp only [seval, ev1, ev2, ev3, ev4, beq_self_eq_true, encB_def, encS_def, sb, insA, encIns, ins_dec, ins_eta, noIns, op0_eq, *] | simp (disch := omega) only [if_pos, if_neg] | refine R.seq ?_ | refine LCB.text ?_ | refine LCB.quiet rfl ?_ | refine R.calls rfl ?_ | refine R.block ?_ | refine LCB.skip ?_ | refine LCB.exit ?_ | refine LCB.ret ?_ | (refine RetOk.val hcl ?_; simp only [seval, ev1, ev2, ev3, wk, List.forall_mem_cons, List.forall_mem_map, List.forall_mem_append, List.not_mem_nil, encB_def, encS_def, sb, insA, encIns, ins_dec, ins_eta, noIns, op0_eq, *]) | (refine Weak.at hcl ?_; simp only [seval, ev1, ev2, ev3, wk, List.forall_mem_cons, List.forall_mem_map, List.forall_mem_append, List.not_mem_nil, encB_def, encS_def, sb, insA, encIns, ins_dec, ins_eta, noIns, op0_eq, *]) | (refine LCB.cond (by (simp only [seval, ev1, ev2, ev3, ev4, beq_self_eq_true, encB_def, encS_def, sb, insA, encIns, ins_dec, ins_eta, noIns, op0_eq, *]) <;> rfl) (fun hc => ?_) (fun hc => ?_) <;> try simp only [seval, decide_eq_true_eq, decide_eq_false_iff_not, Bool.not_eq_true', Bool.not_eq_false', Bool.not_true, Bool.not_false] at hc) | (refine wpG_split (by (simp only [seval, ev1, ev2, ev3, ev4, beq_self_eq_true, encB_def, encS_def, sb, insA, encIns, ins_dec, ins_eta, noIns, op0_eq, *]) <;> rfl) (fun hc => ?_) (fun hc => ?_) <;> try simp only [seval, decide_eq_true_eq, decide_eq_false_iff_not, Bool.not_eq_true', Bool.not_eq_false', Bool.not_true, Bool.not_false] at hc) | (refine wqG_split (by (simp only [seval, ev1, ev2, ev3, ev4, beq_self_eq_true, encB_def, encS_def, sb, insA, encIns, ins_dec, ins_eta, noIns, op0_eq, *]) <;> rfl) (fun hc => ?_) (fun hc => ?_) <;> try simp only [seval, decide_eq_true_eq, decide_eq_false_iff_not, Bool.not_eq_true', Bool.not_eq_false', Bool.not_true, Bool.not_false] at hc) | refine ACalls.inst ?_ | refine CallP.inst rfl ?_)
      have hy0 : Ok64 (op0 op) := by
        have := hopr.of
        constructor <;> (unfold in64; simp [op0_eq]; try omega)
      have hga : Hold (gAt W op = guess op (op0 op) 1 (W.drop 1)) := ⟨by unfold gAt; rw [List.drop_one]⟩
      refine R.loop (S := Nat × Ins) ⟨fun y => [(0, .str (bs s)), (2, .ptr H.length 1 0 0), (4, .list (W.map encS)), (5, .int .i64 op), (6, .ptr (H.length + 1) 1 0 0), (7, .int .i64 (y.1 : Int))], fun y => H ++ [.vec 6 [encIns noIns], .vec 6 [encIns y.2]],
        fun y => 1 ≤ y.1 ∧ y.1 ≤ W.length ∧ Ok64 y.2 ∧ y.2.op = op ∧ guess op y.2 y.1 (W.drop y.1) = gAt W op, fun y => W.length - y.1⟩ (1, op0 op) ⟨Nat.le_refl _, hW1, hy0, rfl, hga.of.symm⟩ (Weak.at hcl ?_) ?_
      · simp only [seval, ev1, ev2, ev3, wk, List.forall_mem_cons, List.forall_mem_map, List.forall_mem_append, List.not_mem_nil, encB_def, encS_def, sb, insA, encIns, ins_dec, ins_eta, noIns, op0_eq, *]
      rintro ⟨k, y⟩ ⟨hk1, hk2, hy, hyo, hq⟩
      simp only at hk1 hk2 hy hyo hq ⊢
      clear hga hy0
      replace hq := Hold.mk hq
      replace hyo := Hold.mk hyo
      replace hy := Hold.mk hy
      by_cases hlt2 : k < W.length
      · have hkl : (k : Int) < (W.length : Int) := by omega
        have hgk := getD_map hlt2
        have hdw : W.drop k = W.getD k [] :: W.drop (k + 1) := by
          rw [List.drop_eq_getElem_cons hlt2]
          simp [List.getD, hlt2]
        have hq2 := hq.of
        rw [hdw, guess] at hq2
        replace hq2 := Hold.mk hq2
        have hwm : W.getD k [] ∈ W := by simp [List.getD, hlt2]
        have hwlen := hWs.of _ hwm
        have e8 : IntKind.i64.wrap ((k : Int) + 1) = ((k + 1 : Nat) : Int) := by rw [IntKind.wrap_i64]; omega
        clear hdw hwm hg0 hq
        generalize W.getD k [] = w at *
        have c1 := Hold.mk (ref02_Parse_ok w)
        have c2 := Hold.mk (ref01_Parse_ok w (by omega))
        unfold locR at c1
        unfold numR at c2
        obtain ⟨gs1, gs2⟩ := gStep_ok (op := op) hy.of k w
        have gs := Hold.mk (And.intro gs1 gs2)
        clear gs1 gs2
        obtain ⟨j, hjd⟩ : ∃ j : Nat, j = if op = 14 ∨ op = 17 ∨ op = 18 then k + 1 else k := ⟨_, rfl⟩
        have hgS : Hold (gStep op y k w = match locOf w with
          | some l => if j = 1 then { y with d := l } else if j = 2 then { y with a := l } else { y with b := l }
          | none => match numOf w with
            | some n => if op = 16 ∨ op = 17 then { y with to := n } else { y with n := n }
            | none => y) := ⟨by subst hjd; rfl⟩
        replace hjd := Hold.mk hjd
        obtain ⟨ol, hol⟩ : ∃ ol, locOf w = ol := ⟨_, rfl⟩
        obtain ⟨on, hon⟩ : ∃ on, numOf w = on := ⟨_, rfl⟩
        rw [hol] at c1 hgS
        rw [hon] at c2 hgS
        generalize gStep op y k w = y' at *
        repeat' (first | simp only [seval, ev1, ev2, ev3, ev4, beq_self_eq_true, encB_def, encS_def, sb, insA, encIns, ins_dec, ins_eta, noIns, op0_eq, *] | simp (disch := omega) only [if_pos, if_neg] | refine R.seq ?_ | refine LCB.text ?_ | refine LCB.quiet rfl ?_ | refine R.calls rfl ?_ | refine R.block ?_ | refine LCB.skip ?_ | refine LCB.exit ?_ | refine LCB.ret ?_ | (refine RetOk.val hcl ?_; simp only [seval, ev1, ev2, ev3, wk, List.forall_mem_cons, List.forall_mem_map, List.forall_mem_append, List.not_mem_nil, encB_def, encS_def, sb, insA, encIns, ins_dec, ins_eta, noIns, op0_eq, *]) | (refine Weak.at hcl ?_; simp only [seval, ev1, ev2, ev3, wk, List.forall_mem_cons, List.forall_mem_map, List.forall_mem_append, List.not_mem_nil, encB_def, encS_def, sb, insA, encIns, ins_dec, ins_eta, noIns, op0_eq, *]) | (refine LCB.cond (by (simp only [seval, ev1, ev2, ev3, ev4, beq_self_eq_true, encB_def, encS_def, sb, insA, encIns, ins_dec, ins_eta, noIns, op0_eq, *]) <;> rfl) (fun hc => ?_) (fun hc => ?_) <;> try simp only [seval, decide_eq_true_eq, decide_eq_false_iff_not, Bool.not_eq_true', Bool.not_eq_false', Bool.not_true, Bool.not_false] at hc) | (refine wpG_split (by (simp only [seval, ev1, ev2, ev3, ev4, beq_self_eq_true, encB_def, encS_def, sb, insA, encIns, ins_dec, ins_eta, noIns, op0_eq, *]) <;> rfl) (fun hc => ?_) (fun hc => ?_) <;> try simp only [seval, decide_eq_true_eq, decide_eq_false_iff_not, Bool.not_eq_true', Bool.not_eq_false', Bool.not_true, Bool.not_false] at hc) | (refine wqG_split (by (simp only [seval, ev1, ev2, ev3, ev4, beq_self_eq_true, encB_def, encS_def, sb, insA, encIns, ins_dec, ins_eta, noIns, op0_eq, *]) <;> rfl) (fun hc => ?_) (fun hc => ?_) <;> try simp only [seval, decide_eq_true_eq, decide_eq_false_iff_not, Bool.not_eq_true', Bool.not_eq_false', Bool.not_true, Bool.not_false] at hc) | refine ACalls.inst ?_ | refine CallP.inst rfl ?_)
        first | refine ACalls.pure (c1.of) ?_ | refine CallP.pure (c1.of) rfl ?_
        repeat' (first | simp only [seval, ev1, ev2, ev3, ev4, beq_self_eq_true, encB_def, encS_def, sb, insA, encIns, ins_dec, ins_eta, noIns, op0_eq, *] | simp (disch := omega) only [if_pos, if_neg] | refine R.seq ?_ | refine LCB.text ?_ | refine LCB.quiet rfl ?_ | refine R.calls rfl ?_ | refine R.block ?_ | refine LCB.skip ?_ | refine LCB.exit ?_ | refine LCB.ret ?_ | (refine RetOk.val hcl ?_; simp only [seval, ev1, ev2, ev3, wk, List.forall_mem_cons, List.forall_mem_map, List.forall_mem_append, List.not_mem_nil, encB_def, encS_def, sb, insA, encIns, ins_dec, ins_eta, noIns, op0_eq, *]) | (refine Weak.at hcl ?_; simp only [seval, ev1, ev2, ev3, wk, List.forall_mem_cons, List.forall_mem_map, List.forall_mem_append, List.not_mem_nil, encB_def, encS_def, sb, insA, encIns, ins_dec, ins_eta, noIns, op0_eq, *]) | (refine LCB.cond (by (simp only [seval, ev1, ev2, ev3, ev4, beq_self_eq_true, encB_def, encS_def, sb, insA, encIns, ins_dec, ins_eta, noIns, op0_eq, *]) <;> rfl) (fun hc => ?_) (fun hc => ?_) <;> try simp only [seval, decide_eq_true_eq, decide_eq_false_iff_not, Bool.not_eq_true', Bool.not_eq_false', Bool.not_true, Bool.not_false] at hc) | (refine wpG_split (by (simp only [seval, ev1, ev2, ev3, ev4, beq_self_eq_true, encB_def, encS_def, sb, insA, encIns, ins_dec, ins_eta, noIns, op0_eq, *]) <;> rfl) (fun hc => ?_) (fun hc => ?_) <;> try simp only [seval, decide_eq_true_eq, decide_eq_false_iff_not, Bool.not_eq_true', Bool.not_eq_false', Bool.not_true, Bool.not_false] at hc) | (refine wqG_split (by (simp only [seval, ev1, ev2, ev3, ev4, beq_self_eq_true, encB_def, encS_def, sb, insA, encIns, ins_dec, ins_eta, noIns, op0_eq, *]) <;> rfl) (fun hc => ?_) (fun hc => ?_) <;> try simp only [seval, decide_eq_true_eq, decide_eq_false_iff_not, Bool.not_eq_true', Bool.not_eq_false', Bool.not_true, Bool.not_false] at hc) | refine ACalls.inst ?_ | refine CallP.inst rfl ?_)
        first | refine ACalls.pure (c2.of) ?_ | refine CallP.pure (c2.of) rfl ?_
        repeat' (first | simp only [seval, ev1, ev2, ev3, ev4, beq_self_eq_true, encB_def, encS_def, sb, insA, encIns, ins_dec, ins_eta, noIns, op0_eq, *] | simp (disch := omega) only [if_pos, if_neg])
        (refine R.seq ?_; refine LCB.text ?_; repeat' (first | simp only [seval, ev1, ev2, ev3, ev4, beq_self_eq_true, encB_def, encS_def, sb, insA, encIns, ins_dec, ins_eta, noIns, op0_eq, *] | simp (disch := omega) only [if_pos, if_neg]))
        refine R.cut [(0, .str (bs s)), (2, .ptr H.length 1 0 0), (4, .list (W.map encS)), (5, .int .i64 op), (6, .ptr (H.length + 1) 1 0 0), (7, .int .i64 (k : Int)), (8, .int .i64 (ol.getD 0)), (9, .bool ol.isSome), (10, .int .i64 (on.getD 0)), (11, .bool on.isSome), (12, .int .i64 (j : Int))] (H ++ [.vec 6 [encIns noIns], .vec 6 [encIns y]]) ?_ ?_
        · repeat' (first | simp only [seval, ev1, ev2, ev3, ev4, beq_self_eq_true, encB_def, encS_def, sb, insA, encIns, ins_dec, ins_eta, noIns, op0_eq, *] | simp (disch := omega) only [if_pos, if_neg] | refine R.seq ?_ | refine LCB.text ?_ | refine LCB.quiet rfl ?_ | refine R.calls rfl ?_ | refine R.block ?_ | refine LCB.skip ?_ | refine LCB.exit ?_ | refine LCB.ret ?_ | (refine RetOk.val hcl ?_; simp only [seval, ev1, ev2, ev3, wk, List.forall_mem_cons, List.forall_mem_map, List.forall_mem_append, List.not_mem_nil, encB_def, encS_def, sb, insA, encIns, ins_dec, ins_eta, noIns, op0_eq, *]) | (refine Weak.at hcl ?_; simp only [seval, ev1, ev2, ev3, wk, List.forall_mem_cons, List.forall_mem_map, List.forall_mem_append, List.not_mem_nil, encB_def, encS_def, sb, insA, encIns, ins_dec, ins_eta, noIns, op0_eq, *]) | (refine LCB.cond (by (simp only [seval, ev1, ev2, ev3, ev4, beq_self_eq_true, encB_def, encS_def, sb, insA, encIns, ins_dec, ins_eta, noIns, op0_eq, *]) <;> rfl) (fun hc => ?_) (fun hc => ?_) <;> try simp only [seval, decide_eq_true_eq, decide_eq_false_iff_not, Bool.not_eq_true', Bool.not_eq_false', Bool.not_true, Bool.not_false] at hc) | (refine wpG_split (by (simp only [seval, ev1, ev2, ev3, ev4, beq_self_eq_true, encB_def, encS_def, sb, insA, encIns, ins_dec, ins_eta, noIns, op0_eq, *]) <;> rfl) (fun hc => ?_) (fun hc => ?_) <;> try simp only [seval, decide_eq_true_eq, decide_eq_false_iff_not, Bool.not_eq_true', Bool.not_eq_false', Bool.not_true, Bool.not_false] at hc) | (refine wqG_split (by (simp only [seval, ev1, ev2, ev3, ev4, beq_self_eq_true, encB_def, encS_def, sb, insA, encIns, ins_dec, ins_eta, noIns, op0_eq, *]) <;> rfl) (fun hc => ?_) (fun hc => ?_) <;> try simp only [seval, decide_eq_true_eq, decide_eq_false_iff_not, Bool.not_eq_true', Bool.not_eq_false', Bool.not_true, Bool.not_false] at hc) | refine ACalls.inst ?_ | refine CallP.inst rfl ?_)
          all_goals
            have hjj := hjd.of
            split at hjj <;> omega
        have fin : ∀ z, y' = z → Hold (y' = z ∧ guess op z (k + 1) (W.drop (k + 1)) = gAt W op ∧ Ok64 z ∧ z.op = op) := fun z hz => ⟨by
          have g1 := hq2.of
          have g2 := gs.of
          rw [hz] at g1 g2
          exact ⟨hz, g1, g2.1, by rw [g2.2]; exact hyo.of⟩⟩
        replace hjd := Hold.mk hjd
        replace hol := Hold.mk hol
        replace hon := Hold.mk hon
        clear c1 c2 e8
        have e8 : IntKind.i64.wrap ((k : Int) + 1) = ((k + 1 : Nat) : Int) := by rw [IntKind.wrap_i64]; omega
        have os1 : ∀ v : Int, (some v).isSome = true := fun _ => rfl
        have os2 : ∀ v : Int, (some v).getD 0 = v := fun _ => rfl
        have os3 : (none : Option Int).isSome = false := rfl
        have os4 : (none : Option Int).getD 0 = 0 := rfl
        cases ol with
        | some l =>
          by_cases j1 : j = 1
          · have hf := fin _ (hgS.of.trans (if_pos j1))
            subst j1
            ((repeat' (first | simp only [seval, ev1, ev2, ev3, ev4, beq_self_eq_true, encB_def, encS_def, sb, insA, encIns, ins_dec, ins_eta, noIns, op0_eq, *] | simp (disch := omega) only [if_pos, if_neg] | refine R.seq ?_ | refine LCB.text ?_ | refine LCB.quiet rfl ?_ | refine R.calls rfl ?_ | refine R.block ?_ | refine LCB.skip ?_ | refine LCB.exit ?_ | refine LCB.ret ?_ | (refine RetOk.val hcl ?_; simp only [seval, ev1, ev2, ev3, wk, List.forall_mem_cons, List.forall_mem_map, List.forall_mem_append, List.not_mem_nil, encB_def, encS_def, sb, insA, encIns, ins_dec, ins_eta, noIns, op0_eq, *]) | (refine Weak.at hcl ?_; simp only [seval, ev1, ev2, ev3, wk, List.forall_mem_cons, List.forall_mem_map, List.forall_mem_append, List.not_mem_nil, encB_def, encS_def, sb, insA, encIns, ins_dec, ins_eta, noIns, op0_eq, *]) | (refine LCB.cond (by (simp only [seval, ev1, ev2, ev3, ev4, beq_self_eq_true, encB_def, encS_def, sb, insA, encIns, ins_dec, ins_eta, noIns, op0_eq, *]) <;> rfl) (fun hc => ?_) (fun hc => ?_) <;> try simp only [seval, decide_eq_true_eq, decide_eq_false_iff_not, Bool.not_eq_true', Bool.not_eq_false', Bool.not_true, Bool.not_false] at hc) | (refine wpG_split (by (simp only [seval, ev1, ev2, ev3, ev4, beq_self_eq_true, encB_def, encS_def, sb, insA, encIns, ins_dec, ins_eta, noIns, op0_eq, *]) <;> rfl) (fun hc => ?_) (fun hc => ?_) <;> try simp only [seval, decide_eq_true_eq, decide_eq_false_iff_not, Bool.not_eq_true', Bool.not_eq_false', Bool.not_true, Bool.not_false] at hc) | (refine wqG_split (by (simp only [seval, ev1, ev2, ev3, ev4, beq_self_eq_true, encB_def, encS_def, sb, insA, encIns, ins_dec, ins_eta, noIns, op0_eq, *]) <;> rfl) (fun hc => ?_) (fun hc => ?_) <;> try simp only [seval, decide_eq_true_eq, decide_eq_false_iff_not, Bool.not_eq_true', Bool.not_eq_false', Bool.not_true, Bool.not_false] at hc) | refine ACalls.inst ?_ | refine CallP.inst rfl ?_)); refine ⟨(k + 1, _), ⟨by simp only; omega, hlt2, hf.of.2.2.1, hf.of.2.2.2, hf.of.2.1⟩, by simp only; omega, Weak.at hcl ?_⟩; simp only [seval, ev1, ev2, ev3, wk, List.forall_mem_cons, List.forall_mem_map, List.forall_mem_append, List.not_mem_nil, encB_def, encS_def, sb, insA, encIns, ins_dec, ins_eta, noIns, op0_eq, *])
          · by_cases j2 : j = 2
            · have hf := fin _ (hgS.of.trans ((if_neg j1).trans (if_pos j2)))
              subst j2
              ((repeat' (first | simp only [seval, ev1, ev2, ev3, ev4, beq_self_eq_true, encB_def, encS_def, sb, insA, encIns, ins_dec, ins_eta, noIns, op0_eq, *] | simp (disch := omega) only [if_pos, if_neg] | refine R.seq ?_ | refine LCB.text ?_ | refine LCB.quiet rfl ?_ | refine R.calls rfl ?_ | refine R.block ?_ | refine LCB.skip ?_ | refine LCB.exit ?_ | refine LCB.ret ?_ | (refine RetOk.val hcl ?_; simp only [seval, ev1, ev2, ev3, wk, List.forall_mem_cons, List.forall_mem_map, List.forall_mem_append, List.not_mem_nil, encB_def, encS_def, sb, insA, encIns, ins_dec, ins_eta, noIns, op0_eq, *]) | (refine Weak.at hcl ?_; simp only [seval, ev1, ev2, ev3, wk, List.forall_mem_cons, List.forall_mem_map, List.forall_mem_append, List.not_mem_nil, encB_def, encS_def, sb, insA, encIns, ins_dec, ins_eta, noIns, op0_eq, *]) | (refine LCB.cond (by (simp only [seval, ev1, ev2, ev3, ev4, beq_self_eq_true, encB_def, encS_def, sb, insA, encIns, ins_dec, ins_eta, noIns, op0_eq, *]) <;> rfl) (fun hc => ?_) (fun hc => ?_) <;> try simp only [seval, decide_eq_true_eq, decide_eq_false_iff_not, Bool.not_eq_true', Bool.not_eq_false', Bool.not_true, Bool.not_false] at hc) | (refine wpG_split (by (simp only [seval, ev1, ev2, ev3, ev4, beq_self_eq_true, encB_def, encS_def, sb, insA, encIns, ins_dec, ins_eta, noIns, op0_eq, *]) <;> rfl) (fun hc => ?_) (fun hc => ?_) <;> try simp only [seval, decide_eq_true_eq, decide_eq_false_iff_not, Bool.not_eq_true', Bool.not_eq_false', Bool.not_true, Bool.not_false] at hc) | (refine wqG_split (by (simp only [seval, ev1, ev2, ev3, ev4, beq_self_eq_true, encB_def, encS_def, sb, insA, encIns, ins_dec, ins_eta, noIns, op0_eq, *]) <;> rfl) (fun hc => ?_) (fun hc => ?_) <;> try simp only [seval, decide_eq_true_eq, decide_eq_false_iff_not, Bool.not_eq_true', Bool.not_eq_false', Bool.not_true, Bool.not_false] at hc) | refine ACalls.inst ?_ | refine CallP.inst rfl ?_)); refine ⟨(k + 1, _), ⟨by simp only; omega, hlt2, hf.of.2.2.1, hf.of.2.2.2, hf.of.2.1⟩, by simp only; omega, Weak.at hcl ?_⟩; simp only [seval, ev1, ev2, ev3, wk, List.forall_mem_cons, List.forall_mem_map, List.forall_mem_append, List.not_mem_nil, encB_def, encS_def, sb, insA, encIns, ins_dec, ins_eta, noIns, op0_eq, *])
            · have hf := fin _ (hgS.of.trans ((if_neg j1).trans (if_neg j2)))
              have j3 : ¬ (j : Int) = 1 := by omega
              have j4 : ¬ (j : Int) = 2 := by omega
              ((repeat' (first | simp only [seval, ev1, ev2, ev3, ev4, beq_self_eq_true, encB_def, encS_def, sb, insA, encIns, ins_dec, ins_eta, noIns, op0_eq, *] | simp (disch := omega) only [if_pos, if_neg] | refine R.seq ?_ | refine LCB.text ?_ | refine LCB.quiet rfl ?_ | refine R.calls rfl ?_ | refine R.block ?_ | refine LCB.skip ?_ | refine LCB.exit ?_ | refine LCB.ret ?_ | (refine RetOk.val hcl ?_; simp only [seval, ev1, ev2, ev3, wk, List.forall_mem_cons, List.forall_mem_map, List.forall_mem_append, List.not_mem_nil, encB_def, encS_def, sb, insA, encIns, ins_dec, ins_eta, noIns, op0_eq, *]) | (refine Weak.at hcl ?_; simp only [seval, ev1, ev2, ev3, wk, List.forall_mem_cons, List.forall_mem_map, List.forall_mem_append, List.not_mem_nil, encB_def, encS_def, sb, insA, encIns, ins_dec, ins_eta, noIns, op0_eq, *]) | (refine LCB.cond (by (simp only [seval, ev1, ev2, ev3, ev4, beq_self_eq_true, encB_def, encS_def, sb, insA, encIns, ins_dec, ins_eta, noIns, op0_eq, *]) <;> rfl) (fun hc => ?_) (fun hc => ?_) <;> try simp only [seval, decide_eq_true_eq, decide_eq_false_iff_not, Bool.not_eq_true', Bool.not_eq_false', Bool.not_true, Bool.not_false] at hc) | (refine wpG_split (by (simp only [seval, ev1, ev2, ev3, ev4, beq_self_eq_true, encB_def, encS_def, sb, insA, encIns, ins_dec, ins_eta, noIns, op0_eq, *]) <;> rfl) (fun hc => ?_) (fun hc => ?_) <;> try simp only [seval, decide_eq_true_eq, decide_eq_false_iff_not, Bool.not_eq_true', Bool.not_eq_false', Bool.not_true, Bool.not_false] at hc) | (refine wqG_split (by (simp only [seval, ev1, ev2, ev3, ev4, beq_self_eq_true, encB_def, encS_def, sb, insA, encIns, ins_dec, ins_eta, noIns, op0_eq, *]) <;> rfl) (fun hc => ?_) (fun hc => ?_) <;> try simp only [seval, decide_eq_true_eq, decide_eq_false_iff_not, Bool.not_eq_true', Bool.not_eq_false', Bool.not_true, Bool.not_false] at hc) | refine ACalls.inst ?_ | refine CallP.inst rfl ?_)); refine ⟨(k + 1, _), ⟨by simp only; omega, hlt2, hf.of.2.2.1, hf.of.2.2.2, hf.of.2.1⟩, by simp only; omega, Weak.at hcl ?_⟩; simp only [seval, ev1, ev2, ev3, wk, List.forall_mem_cons, List.forall_mem_map, List.forall_mem_append, List.not_mem_nil, encB_def, encS_def, sb, insA, encIns, ins_dec, ins_eta, noIns, op0_eq, *])
        | none =>
          cases on with
          | some n =>
            by_cases o1 : op = 16 ∨ op = 17
            · have hf := fin _ (hgS.of.trans (if_pos o1))
              rcases o1 with rfl | rfl
              · ((repeat' (first | simp only [seval, ev1, ev2, ev3, ev4, beq_self_eq_true, encB_def, encS_def, sb, insA, encIns, ins_dec, ins_eta, noIns, op0_eq, *] | simp (disch := omega) only [if_pos, if_neg] | refine R.seq ?_ | refine LCB.text ?_ | refine LCB.quiet rfl ?_ | refine R.calls rfl ?_ | refine R.block ?_ | refine LCB.skip ?_ | refine LCB.exit ?_ | refine LCB.ret ?_ | (refine RetOk.val hcl ?_; simp only [seval, ev1, ev2, ev3, wk, List.forall_mem_cons, List.forall_mem_map, List.forall_mem_append, List.not_mem_nil, encB_def, encS_def, sb, insA, encIns, ins_dec, ins_eta, noIns, op0_eq, *]) | (refine Weak.at hcl ?_; simp only [seval, ev1, ev2, ev3, wk, List.forall_mem_cons, List.forall_mem_map, List.forall_mem_append, List.not_mem_nil, encB_def, encS_def, sb, insA, encIns, ins_dec, ins_eta, noIns, op0_eq, *]) | (refine LCB.cond (by (simp only [seval, ev1, ev2, ev3, ev4, beq_self_eq_true, encB_def, encS_def, sb, insA, encIns, ins_dec, ins_eta, noIns, op0_eq, *]) <;> rfl) (fun hc => ?_) (fun hc => ?_) <;> try simp only [seval, decide_eq_true_eq, decide_eq_false_iff_not, Bool.not_eq_true', Bool.not_eq_false', Bool.not_true, Bool.not_false] at hc) | (refine wpG_split (by (simp only [seval, ev1, ev2, ev3, ev4, beq_self_eq_true, encB_def, encS_def, sb, insA, encIns, ins_dec, ins_eta, noIns, op0_eq, *]) <;> rfl) (fun hc => ?_) (fun hc => ?_) <;> try simp only [seval, decide_eq_true_eq, decide_eq_false_iff_not, Bool.not_eq_true', Bool.not_eq_false', Bool.not_true, Bool.not_false] at hc) | (refine wqG_split (by (simp only [seval, ev1, ev2, ev3, ev4, beq_self_eq_true, encB_def, encS_def, sb, insA, encIns, ins_dec, ins_eta, noIns, op0_eq, *]) <;> rfl) (fun hc => ?_) (fun hc => ?_) <;> try simp only [seval, decide_eq_true_eq, decide_eq_false_iff_not, Bool.not_eq_true', Bool.not_eq_false', Bool.not_true, Bool.not_false] at hc) | refine ACalls.inst ?_ | refine CallP.inst rfl ?_)); refine ⟨(k + 1, _), ⟨by simp only; omega, hlt2, hf.of.2.2.1, hf.of.2.2.2, hf.of.2.1⟩, by simp only; omega, Weak.at hcl ?_⟩; simp only [seval, ev1, ev2, ev3, wk, List.forall_mem_cons, List.forall_mem_map, List.forall_mem_append, List.not_mem_nil, encB_def, encS_def, sb, insA, encIns, ins_dec, ins_eta, noIns, op0_eq, *])
              · ((repeat' (first | simp only [seval, ev1, ev2, ev3, ev4, beq_self_eq_true, encB_def, encS_def, sb, insA, encIns, ins_dec, ins_eta, noIns, op0_eq, *] | simp (disch := omega) only [if_pos, if_neg] | refine R.seq ?_ | refine LCB.text ?_ | refine LCB.quiet rfl ?_ | refine R.calls rfl ?_ | refine R.block ?_ | refine LCB.skip ?_ | refine LCB.exit ?_ | refine LCB.ret ?_ | (refine RetOk.val hcl ?_; simp only [seval, ev1, ev2, ev3, wk, List.forall_mem_cons, List.forall_mem_map, List.forall_mem_append, List.not_mem_nil, encB_def, encS_def, sb, insA, encIns, ins_dec, ins_eta, noIns, op0_eq, *]) | (refine Weak.at hcl ?_; simp only [seval, ev1, ev2, ev3, wk, List.forall_mem_cons, List.forall_mem_map, List.forall_mem_append, List.not_mem_nil, encB_def, encS_def, sb, insA, encIns, ins_dec, ins_eta, noIns, op0_eq, *]) | (refine LCB.cond (by (simp only [seval, ev1, ev2, ev3, ev4, beq_self_eq_true, encB_def, encS_def, sb, insA, encIns, ins_dec, ins_eta, noIns, op0_eq, *]) <;> rfl) (fun hc => ?_) (fun hc => ?_) <;> try simp only [seval, decide_eq_true_eq, decide_eq_false_iff_not, Bool.not_eq_true', Bool.not_eq_false', Bool.not_true, Bool.not_false] at hc) | (refine wpG_split (by (simp only [seval, ev1, ev2, ev3, ev4, beq_self_eq_true, encB_def, encS_def, sb, insA, encIns, ins_dec, ins_eta, noIns, op0_eq, *]) <;> rfl) (fun hc => ?_) (fun hc => ?_) <;> try simp only [seval, decide_eq_true_eq, decide_eq_false_iff_not, Bool.not_eq_true', Bool.not_eq_false', Bool.not_true, Bool.not_false] at hc) | (refine wqG_split (by (simp only [seval, ev1, ev2, ev3, ev4, beq_self_eq_true, encB_def, encS_def, sb, insA, encIns, ins_dec, ins_eta, noIns, op0_eq, *]) <;> rfl) (fun hc => ?_) (fun hc => ?_) <;> try simp only [seval, decide_eq_true_eq, decide_eq_false_iff_not, Bool.not_eq_true', Bool.not_eq_false', Bool.not_true, Bool.not_false] at hc) | refine ACalls.inst ?_ | refine CallP.inst rfl ?_)); refine ⟨(k + 1, _), ⟨by simp only; omega, hlt2, hf.of.2.2.1, hf.of.2.2.2, hf.of.2.1⟩, by simp only; omega, Weak.at hcl ?_⟩; simp only [seval, ev1, ev2, ev3, wk, List.forall_mem_cons, List.forall_mem_map, List.forall_mem_append, List.not_mem_nil, encB_def, encS_def, sb, insA, encIns, ins_dec, ins_eta, noIns, op0_eq, *])
            · have hf := fin _ (hgS.of.trans (if_neg o1))
              have o2 : ¬ op = 16 := fun h => o1 (.inl h)
              have o3 : ¬ op = 17 := fun h => o1 (.inr h)
              replace o1 := Hold.mk o1
              ((repeat' (first | simp only [seval, ev1, ev2, ev3, ev4, beq_self_eq_true, encB_def, encS_def, sb, insA, encIns, ins_dec, ins_eta, noIns, op0_eq, *] | simp (disch := omega) only [if_pos, if_neg] | refine R.seq ?_ | refine LCB.text ?_ | refine LCB.quiet rfl ?_ | refine R.calls rfl ?_ | refine R.block ?_ | refine LCB.skip ?_ | refine LCB.exit ?_ | refine LCB.ret ?_ | (refine RetOk.val hcl ?_; simp only [seval, ev1, ev2, ev3, wk, List.forall_mem_cons, List.forall_mem_map, List.forall_mem_append, List.not_mem_nil, encB_def, encS_def, sb, insA, encIns, ins_dec, ins_eta, noIns, op0_eq, *]) | (refine Weak.at hcl ?_; simp only [seval, ev1, ev2, ev3, wk, List.forall_mem_cons, List.forall_mem_map, List.forall_mem_append, List.not_mem_nil, encB_def, encS_def, sb, insA, encIns, ins_dec, ins_eta, noIns, op0_eq, *]) | (refine LCB.cond (by (simp only [seval, ev1, ev2, ev3, ev4, beq_self_eq_true, encB_def, encS_def, sb, insA, encIns, ins_dec, ins_eta, noIns, op0_eq, *]) <;> rfl) (fun hc => ?_) (fun hc => ?_) <;> try simp only [seval, decide_eq_true_eq, decide_eq_false_iff_not, Bool.not_eq_true', Bool.not_eq_false', Bool.not_true, Bool.not_false] at hc) | (refine wpG_split (by (simp only [seval, ev1, ev2, ev3, ev4, beq_self_eq_true, encB_def, encS_def, sb, insA, encIns, ins_dec, ins_eta, noIns, op0_eq, *]) <;> rfl) (fun hc => ?_) (fun hc => ?_) <;> try simp only [seval, decide_eq_true_eq, decide_eq_false_iff_not, Bool.not_eq_true', Bool.not_eq_false', Bool.not_true, Bool.not_false] at hc) | (refine wqG_split (by (simp only [seval, ev1, ev2, ev3, ev4, beq_self_eq_true, encB_def, encS_def, sb, insA, encIns, ins_dec, ins_eta, noIns, op0_eq, *]) <;> rfl) (fun hc => ?_) (fun hc => ?_) <;> try simp only [seval, decide_eq_true_eq, decide_eq_false_iff_not, Bool.not_eq_true', Bool.not_eq_false', Bool.not_true, Bool.not_false] at hc) | refine ACalls.inst ?_ | refine CallP.inst rfl ?_)); refine ⟨(k + 1, _), ⟨by simp only; omega, hlt2, hf.of.2.2.1, hf.of.2.2.2, hf.of.2.1⟩, by simp only; omega, Weak.at hcl ?_⟩; simp only [seval, ev1, ev2, ev3, wk, List.forall_mem_cons, List.forall_mem_map, List.forall_mem_append, List.not_mem_nil, encB_def, encS_def, sb, insA, encIns, ins_dec, ins_eta, noIns, op0_eq, *])
          | none =>
            have hf := fin _ hgS.of
            ((repeat' (first | simp only [seval, ev1, ev2, ev3, ev4, beq_self_eq_true, encB_def, encS_def, sb, insA, encIns, ins_dec, ins_eta, noIns, op0_eq, *] | simp (disch := omega) only [if_pos, if_neg] | refine R.seq ?_ | refine LCB.text ?_ | refine LCB.quiet rfl ?_ | refine R.calls rfl ?_ | refine R.block ?_ | refine LCB.skip ?_ | refine LCB.exit ?_ | refine LCB.ret ?_ | (refine RetOk.val hcl ?_; simp only [seval, ev1, ev2, ev3, wk, List.forall_mem_cons, List.forall_mem_map, List.forall_mem_append, List.not_mem_nil, encB_def, encS_def, sb, insA, encIns, ins_dec, ins_eta, noIns, op0_eq, *]) | (refine Weak.at hcl ?_; simp only [seval, ev1, ev2, ev3, wk, List.forall_mem_cons, List.forall_mem_map, List.forall_mem_append, List.not_mem_nil, encB_def, encS_def, sb, insA, encIns, ins_dec, ins_eta, noIns, op0_eq, *]) | (refine LCB.cond (by (simp only [seval, ev1, ev2, ev3, ev4, beq_self_eq_true, encB_def, encS_def, sb, insA, encIns, ins_dec, ins_eta, noIns, op0_eq, *]) <;> rfl) (fun hc => ?_) (fun hc => ?_) <;> try simp only [seval, decide_eq_true_eq, decide_eq_false_iff_not, Bool.not_eq_true', Bool.not_eq_false', Bool.not_true, Bool.not_false] at hc) | (refine wpG_split (by (simp only [seval, ev1, ev2, ev3, ev4, beq_self_eq_true, encB_def, encS_def, sb, insA, encIns, ins_dec, ins_eta, noIns, op0_eq, *]) <;> rfl) (fun hc => ?_) (fun hc => ?_) <;> try simp only [seval, decide_eq_true_eq, decide_eq_false_iff_not, Bool.not_eq_true', Bool.not_eq_false', Bool.not_true, Bool.not_false] at hc) | (refine wqG_split (by (simp only [seval, ev1, ev2, ev3, ev4, beq_self_eq_true, encB_def, encS_def, sb, insA, encIns, ins_dec, ins_eta, noIns, op0_eq, *]) <;> rfl) (fun hc => ?_) (fun hc => ?_) <;> try simp only [seval, decide_eq_true_eq, decide_eq_false_iff_not, Bool.not_eq_true', Bool.not_eq_false', Bool.not_true, Bool.not_false] at hc) | refine ACalls.inst ?_ | refine CallP.inst rfl ?_)); refine ⟨(k + 1, _), ⟨by simp only; omega, hlt2, hf.of.2.2.1, hf.of.2.2.2, hf.of.2.1⟩, by simp only; omega, Weak.at hcl ?_⟩; simp only [seval, ev1, ev2, ev3, wk, List.forall_mem_cons, List.forall_mem_map, List.forall_mem_append, List.not_mem_nil, encB_def, encS_def, sb, insA, encIns, ins_dec, ins_eta, noIns, op0_eq, *])
      · have hkl : ¬ (k : Int) < (W.length : Int) := by omega
        have hke : k = W.length := by omega
        subst hke
        have hyg : y = gAt W op := by
          have := hq.of
          rw [List.drop_length] at this
          exact this
        have c3 := Hold.mk (ref03_Check_ok y 200)
        have c4 := Hold.mk (ref03_Print_ok y hy.of (by rw [hyo.of]; exact hop.of))
        by_cases hk : chk y 200 = 0
        · by_cases ht : insText y = s
          · have hpp : parseIns s = some y := by rw [← ht]; exact parse_print hy.of hk
            have hr : refR (parseIns s) = .tup [insA y, .bool true] := by rw [hpp]; rfl
            clear hpp
            replace hyg := Hold.mk hyg
            generalize insText y = T at *
            subst ht
            repeat' (first | simp only [seval, ev1, ev2, ev3, ev4, beq_self_eq_true, encB_def, encS_def, sb, insA, encIns, ins_dec, ins_eta, noIns, op0_eq, *] | simp (disch := omega) only [if_pos, if_neg] | refine R.seq ?_ | refine LCB.text ?_ | refine LCB.quiet rfl ?_ | refine R.calls rfl ?_ | refine R.block ?_ | refine LCB.skip ?_ | refine LCB.exit ?_ | refine LCB.ret ?_ | (refine RetOk.val hcl ?_; simp only [seval, ev1, ev2, ev3, wk, List.forall_mem_cons, List.forall_mem_map, List.forall_mem_append, List.not_mem_nil, encB_def, encS_def, sb, insA, encIns, ins_dec, ins_eta, noIns, op0_eq, *]) | (refine Weak.at hcl ?_; simp only [seval, ev1, ev2, ev3, wk, List.forall_mem_cons, List.forall_mem_map, List.forall_mem_append, List.not_mem_nil, encB_def, encS_def, sb, insA, encIns, ins_dec, ins_eta, noIns, op0_eq, *]) | (refine LCB.cond (by (simp only [seval, ev1, ev2, ev3, ev4, beq_self_eq_true, encB_def, encS_def, sb, insA, encIns, ins_dec, ins_eta, noIns, op0_eq, *]) <;> rfl) (fun hc => ?_) (fun hc => ?_) <;> try simp only [seval, decide_eq_true_eq, decide_eq_false_iff_not, Bool.not_eq_true', Bool.not_eq_false', Bool.not_true, Bool.not_false] at hc) | (refine wpG_split (by (simp only [seval, ev1, ev2, ev3, ev4, beq_self_eq_true, encB_def, encS_def, sb, insA, encIns, ins_dec, ins_eta, noIns, op0_eq, *]) <;> rfl) (fun hc => ?_) (fun hc => ?_) <;> try simp only [seval, decide_eq_true_eq, decide_eq_false_iff_not, Bool.not_eq_true', Bool.not_eq_false', Bool.not_true, Bool.not_false] at hc) | (refine wqG_split (by (simp only [seval, ev1, ev2, ev3, ev4, beq_self_eq_true, encB_def, encS_def, sb, insA, encIns, ins_dec, ins_eta, noIns, op0_eq, *]) <;> rfl) (fun hc => ?_) (fun hc => ?_) <;> try simp only [seval, decide_eq_true_eq, decide_eq_false_iff_not, Bool.not_eq_true', Bool.not_eq_false', Bool.not_true, Bool.not_false] at hc) | refine ACalls.inst ?_ | refine CallP.inst rfl ?_)
            first | refine ACalls.pure (c3.of) ?_ | refine CallP.pure (c3.of) rfl ?_
            repeat' (first | simp only [seval, ev1, ev2, ev3, ev4, beq_self_eq_true, encB_def, encS_def, sb, insA, encIns, ins_dec, ins_eta, noIns, op0_eq, *] | simp (disch := omega) only [if_pos, if_neg] | refine R.seq ?_ | refine LCB.text ?_ | refine LCB.quiet rfl ?_ | refine R.calls rfl ?_ | refine R.block ?_ | refine LCB.skip ?_ | refine LCB.exit ?_ | refine LCB.ret ?_ | (refine RetOk.val hcl ?_; simp only [seval, ev1, ev2, ev3, wk, List.forall_mem_cons, List.forall_mem_map, List.forall_mem_append, List.not_mem_nil, encB_def, encS_def, sb, insA, encIns, ins_dec, ins_eta, noIns, op0_eq, *]) | (refine Weak.at hcl ?_; simp only [seval, ev1, ev2, ev3, wk, List.forall_mem_cons, List.forall_mem_map, List.forall_mem_append, List.not_mem_nil, encB_def, encS_def, sb, insA, encIns, ins_dec, ins_eta, noIns, op0_eq, *]) | (refine LCB.cond (by (simp only [seval, ev1, ev2, ev3, ev4, beq_self_eq_true, encB_def, encS_def, sb, insA, encIns, ins_dec, ins_eta, noIns, op0_eq, *]) <;> rfl) (fun hc => ?_) (fun hc => ?_) <;> try simp only [seval, decide_eq_true_eq, decide_eq_false_iff_not, Bool.not_eq_true', Bool.not_eq_false', Bool.not_true, Bool.not_false] at hc) | (refine wpG_split (by (simp only [seval, ev1, ev2, ev3, ev4, beq_self_eq_true, encB_def, encS_def, sb, insA, encIns, ins_dec, ins_eta, noIns, op0_eq, *]) <;> rfl) (fun hc => ?_) (fun hc => ?_) <;> try simp only [seval, decide_eq_true_eq, decide_eq_false_iff_not, Bool.not_eq_true', Bool.not_eq_false', Bool.not_true, Bool.not_false] at hc) | (refine wqG_split (by (simp only [seval, ev1, ev2, ev3, ev4, beq_self_eq_true, encB_def, encS_def, sb, insA, encIns, ins_dec, ins_eta, noIns, op0_eq, *]) <;> rfl) (fun hc => ?_) (fun hc => ?_) <;> try simp only [seval, decide_eq_true_eq, decide_eq_false_iff_not, Bool.not_eq_true', Bool.not_eq_false', Bool.not_true, Bool.not_false] at hc) | refine ACalls.inst ?_ | refine CallP.inst rfl ?_)
            first | refine ACalls.pure (c4.of) ?_ | refine CallP.pure (c4.of) rfl ?_
            repeat' (first | simp only [seval, ev1, ev2, ev3, ev4, beq_self_eq_true, encB_def, encS_def, sb, insA, encIns, ins_dec, ins_eta, noIns, op0_eq, *] | simp (disch := omega) only [if_pos, if_neg] | refine R.seq ?_ | refine LCB.text ?_ | refine LCB.quiet rfl ?_ | refine R.calls rfl ?_ | refine R.block ?_ | refine LCB.skip ?_ | refine LCB.exit ?_ | refine LCB.ret ?_ | (refine RetOk.val hcl ?_; simp only [seval, ev1, ev2, ev3, wk, List.forall_mem_cons, List.forall_mem_map, List.forall_mem_append, List.not_mem_nil, encB_def, encS_def, sb, insA, encIns, ins_dec, ins_eta, noIns, op0_eq, *]) | (refine Weak.at hcl ?_; simp only [seval, ev1, ev2, ev3, wk, List.forall_mem_cons, List.forall_mem_map, List.forall_mem_append, List.not_mem_nil, encB_def, encS_def, sb, insA, encIns, ins_dec, ins_eta, noIns, op0_eq, *]) | (refine LCB.cond (by (simp only [seval, ev1, ev2, ev3, ev4, beq_self_eq_true, encB_def, encS_def, sb, insA, encIns, ins_dec, ins_eta, noIns, op0_eq, *]) <;> rfl) (fun hc => ?_) (fun hc => ?_) <;> try simp only [seval, decide_eq_true_eq, decide_eq_false_iff_not, Bool.not_eq_true', Bool.not_eq_false', Bool.not_true, Bool.not_false] at hc) | (refine wpG_split (by (simp only [seval, ev1, ev2, ev3, ev4, beq_self_eq_true, encB_def, encS_def, sb, insA, encIns, ins_dec, ins_eta, noIns, op0_eq, *]) <;> rfl) (fun hc => ?_) (fun hc => ?_) <;> try simp only [seval, decide_eq_true_eq, decide_eq_false_iff_not, Bool.not_eq_true', Bool.not_eq_false', Bool.not_true, Bool.not_false] at hc) | (refine wqG_split (by (simp only [seval, ev1, ev2, ev3, ev4, beq_self_eq_true, encB_def, encS_def, sb, insA, encIns, ins_dec, ins_eta, noIns, op0_eq, *]) <;> rfl) (fun hc => ?_) (fun hc => ?_) <;> try simp only [seval, decide_eq_true_eq, decide_eq_false_iff_not, Bool.not_eq_true', Bool.not_eq_false', Bool.not_true, Bool.not_false] at hc) | refine ACalls.inst ?_ | refine CallP.inst rfl ?_)
          · have hne := hjn.of fun h => ht (by rw [hyg]; exact h.2.2.2)
            replace hne := Hold.mk hne
            replace hyg := Hold.mk hyg
            generalize insText y = T at *
            repeat' (first | simp only [seval, ev1, ev2, ev3, ev4, beq_self_eq_true, encB_def, encS_def, sb, insA, encIns, ins_dec, ins_eta, noIns, op0_eq, *] | simp (disch := omega) only [if_pos, if_neg] | refine R.seq ?_ | refine LCB.text ?_ | refine LCB.quiet rfl ?_ | refine R.calls rfl ?_ | refine R.block ?_ | refine LCB.skip ?_ | refine LCB.exit ?_ | refine LCB.ret ?_ | (refine RetOk.val hcl ?_; simp only [seval, ev1, ev2, ev3, wk, List.forall_mem_cons, List.forall_mem_map, List.forall_mem_append, List.not_mem_nil, encB_def, encS_def, sb, insA, encIns, ins_dec, ins_eta, noIns, op0_eq, *]) | (refine Weak.at hcl ?_; simp only [seval, ev1, ev2, ev3, wk, List.forall_mem_cons, List.forall_mem_map, List.forall_mem_append, List.not_mem_nil, encB_def, encS_def, sb, insA, encIns, ins_dec, ins_eta, noIns, op0_eq, *]) | (refine LCB.cond (by (simp only [seval, ev1, ev2, ev3, ev4, beq_self_eq_true, encB_def, encS_def, sb, insA, encIns, ins_dec, ins_eta, noIns, op0_eq, *]) <;> rfl) (fun hc => ?_) (fun hc => ?_) <;> try simp only [seval, decide_eq_true_eq, decide_eq_false_iff_not, Bool.not_eq_true', Bool.not_eq_false', Bool.not_true, Bool.not_false] at hc) | (refine wpG_split (by (simp only [seval, ev1, ev2, ev3, ev4, beq_self_eq_true, encB_def, encS_def, sb, insA, encIns, ins_dec, ins_eta, noIns, op0_eq, *]) <;> rfl) (fun hc => ?_) (fun hc => ?_) <;> try simp only [seval, decide_eq_true_eq, decide_eq_false_iff_not, Bool.not_eq_true', Bool.not_eq_false', Bool.not_true, Bool.not_false] at hc) | (refine wqG_split (by (simp only [seval, ev1, ev2, ev3, ev4, beq_self_eq_true, encB_def, encS_def, sb, insA, encIns, ins_dec, ins_eta, noIns, op0_eq, *]) <;> rfl) (fun hc => ?_) (fun hc => ?_) <;> try simp only [seval, decide_eq_true_eq, decide_eq_false_iff_not, Bool.not_eq_true', Bool.not_eq_false', Bool.not_true, Bool.not_false] at hc) | refine ACalls.inst ?_ | refine CallP.inst rfl ?_)
            first | refine ACalls.pure (c3.of) ?_ | refine CallP.pure (c3.of) rfl ?_
            repeat' (first | simp only [seval, ev1, ev2, ev3, ev4, beq_self_eq_true, encB_def, encS_def, sb, insA, encIns, ins_dec, ins_eta, noIns, op0_eq, *] | simp (disch := omega) only [if_pos, if_neg] | refine R.seq ?_ | refine LCB.text ?_ | refine LCB.quiet rfl ?_ | refine R.calls rfl ?_ | refine R.block ?_ | refine LCB.skip ?_ | refine LCB.exit ?_ | refine LCB.ret ?_ | (refine RetOk.val hcl ?_; simp only [seval, ev1, ev2, ev3, wk, List.forall_mem_cons, List.forall_mem_map, List.forall_mem_append, List.not_mem_nil, encB_def, encS_def, sb, insA, encIns, ins_dec, ins_eta, noIns, op0_eq, *]) | (refine Weak.at hcl ?_; simp only [seval, ev1, ev2, ev3, wk, List.forall_mem_cons, List.forall_mem_map, List.forall_mem_append, List.not_mem_nil, encB_def, encS_def, sb, insA, encIns, ins_dec, ins_eta, noIns, op0_eq, *]) | (refine LCB.cond (by (simp only [seval, ev1, ev2, ev3, ev4, beq_self_eq_true, encB_def, encS_def, sb, insA, encIns, ins_dec, ins_eta, noIns, op0_eq, *]) <;> rfl) (fun hc => ?_) (fun hc => ?_) <;> try simp only [seval, decide_eq_true_eq, decide_eq_false_iff_not, Bool.not_eq_true', Bool.not_eq_false', Bool.not_true, Bool.not_false] at hc) | (refine wpG_split (by (simp only [seval, ev1, ev2, ev3, ev4, beq_self_eq_true, encB_def, encS_def, sb, insA, encIns, ins_dec, ins_eta, noIns, op0_eq, *]) <;> rfl) (fun hc => ?_) (fun hc => ?_) <;> try simp only [seval, decide_eq_true_eq, decide_eq_false_iff_not, Bool.not_eq_true', Bool.not_eq_false', Bool.not_true, Bool.not_false] at hc) | (refine wqG_split (by (simp only [seval, ev1, ev2, ev3, ev4, beq_self_eq_true, encB_def, encS_def, sb, insA, encIns, ins_dec, ins_eta, noIns, op0_eq, *]) <;> rfl) (fun hc => ?_) (fun hc => ?_) <;> try simp only [seval, decide_eq_true_eq, decide_eq_false_iff_not, Bool.not_eq_true', Bool.not_eq_false', Bool.not_true, Bool.not_false] at hc) | refine ACalls.inst ?_ | refine CallP.inst rfl ?_)
            first | refine ACalls.pure (c4.of) ?_ | refine CallP.pure (c4.of) rfl ?_
            repeat' (first | simp only [seval, ev1, ev2, ev3, ev4, beq_self_eq_true, encB_def, encS_def, sb, insA, encIns, ins_dec, ins_eta, noIns, op0_eq, *] | simp (disch := omega) only [if_pos, if_neg] | refine R.seq ?_ | refine LCB.text ?_ | refine LCB.quiet rfl ?_ | refine R.calls rfl ?_ | refine R.block ?_ | refine LCB.skip ?_ | refine LCB.exit ?_ | refine LCB.ret ?_ | (refine RetOk.val hcl ?_; simp only [seval, ev1, ev2, ev3, wk, List.forall_mem_cons, List.forall_mem_map, List.forall_mem_append, List.not_mem_nil, encB_def, encS_def, sb, insA, encIns, ins_dec, ins_eta, noIns, op0_eq, *]) | (refine Weak.at hcl ?_; simp only [seval, ev1, ev2, ev3, wk, List.forall_mem_cons, List.forall_mem_map, List.forall_mem_append, List.not_mem_nil, encB_def, encS_def, sb, insA, encIns, ins_dec, ins_eta, noIns, op0_eq, *]) | (refine LCB.cond (by (simp only [seval, ev1, ev2, ev3, ev4, beq_self_eq_true, encB_def, encS_def, sb, insA, encIns, ins_dec, ins_eta, noIns, op0_eq, *]) <;> rfl) (fun hc => ?_) (fun hc => ?_) <;> try simp only [seval, decide_eq_true_eq, decide_eq_false_iff_not, Bool.not_eq_true', Bool.not_eq_false', Bool.not_true, Bool.not_false] at hc) | (refine wpG_split (by (simp only [seval, ev1, ev2, ev3, ev4, beq_self_eq_true, encB_def, encS_def, sb, insA, encIns, ins_dec, ins_eta, noIns, op0_eq, *]) <;> rfl) (fun hc => ?_) (fun hc => ?_) <;> try simp only [seval, decide_eq_true_eq, decide_eq_false_iff_not, Bool.not_eq_true', Bool.not_eq_false', Bool.not_true, Bool.not_false] at hc) | (refine wqG_split (by (simp only [seval, ev1, ev2, ev3, ev4, beq_self_eq_true, encB_def, encS_def, sb, insA, encIns, ins_dec, ins_eta, noIns, op0_eq, *]) <;> rfl) (fun hc => ?_) (fun hc => ?_) <;> try simp only [seval, decide_eq_true_eq, decide_eq_false_iff_not, Bool.not_eq_true', Bool.not_eq_false', Bool.not_true, Bool.not_false] at hc) | refine ACalls.inst ?_ | refine CallP.inst rfl ?_)
            refine ⟨i + 1, ⟨hlt, hne.of⟩, by simp only; omega, Weak.at hcl ?_⟩
            simp only [seval, ev1, ev2, ev3, wk, List.forall_mem_cons, List.forall_mem_map, List.forall_mem_append, List.not_mem_nil, encB_def, encS_def, sb, insA, encIns, ins_dec, ins_eta, noIns, op0_eq, *]
        · have hne := hjn.of fun h => hk (by rw [hyg]; exact h.2.2.1)
          replace hne := Hold.mk hne
          replace hyg := Hold.mk hyg
          repeat' (first | simp only [seval, ev1, ev2, ev3, ev4, beq_self_eq_true, encB_def, encS_def, sb, insA, encIns, ins_dec, ins_eta, noIns, op0_eq, *] | simp (disch := omega) only [if_pos, if_neg] | refine R.seq ?_ | refine LCB.text ?_ | refine LCB.quiet rfl ?_ | refine R.calls rfl ?_ | refine R.block ?_ | refine LCB.skip ?_ | refine LCB.exit ?_ | refine LCB.ret ?_ | (refine RetOk.val hcl ?_; simp only [seval, ev1, ev2, ev3, wk, List.forall_mem_cons, List.forall_mem_map, List.forall_mem_append, List.not_mem_nil, encB_def, encS_def, sb, insA, encIns, ins_dec, ins_eta, noIns, op0_eq, *]) | (refine Weak.at hcl ?_; simp only [seval, ev1, ev2, ev3, wk, List.forall_mem_cons, List.forall_mem_map, List.forall_mem_append, List.not_mem_nil, encB_def, encS_def, sb, insA, encIns, ins_dec, ins_eta, noIns, op0_eq, *]) | (refine LCB.cond (by (simp only [seval, ev1, ev2, ev3, ev4, beq_self_eq_true, encB_def, encS_def, sb, insA, encIns, ins_dec, ins_eta, noIns, op0_eq, *]) <;> rfl) (fun hc => ?_) (fun hc => ?_) <;> try simp only [seval, decide_eq_true_eq, decide_eq_false_iff_not, Bool.not_eq_true', Bool.not_eq_false', Bool.not_true, Bool.not_false] at hc) | (refine wpG_split (by (simp only [seval, ev1, ev2, ev3, ev4, beq_self_eq_true, encB_def, encS_def, sb, insA, encIns, ins_dec, ins_eta, noIns, op0_eq, *]) <;> rfl) (fun hc => ?_) (fun hc => ?_) <;> try simp only [seval, decide_eq_true_eq, decide_eq_false_iff_not, Bool.not_eq_true', Bool.not_eq_false', Bool.not_true, Bool.not_false] at hc) | (refine wqG_split (by (simp only [seval, ev1, ev2, ev3, ev4, beq_self_eq_true, encB_def, encS_def, sb, insA, encIns, ins_dec, ins_eta, noIns, op0_eq, *]) <;> rfl) (fun hc => ?_) (fun hc => ?_) <;> try simp only [seval, decide_eq_true_eq, decide_eq_false_iff_not, Bool.not_eq_true', Bool.not_eq_false', Bool.not_true, Bool.not_false] at hc) | refine ACalls.inst ?_ | refine CallP.inst rfl ?_)
          first | refine ACalls.pure (c3.of) ?_ | refine CallP.pure (c3.of) rfl ?_
          repeat' (first | simp only [seval, ev1, ev2, ev3, ev4, beq_self_eq_true, encB_def, encS_def, sb, insA, encIns, ins_dec, ins_eta, noIns, op0_eq, *] | simp (disch := omega) only [if_pos, if_neg] | refine R.seq ?_ | refine LCB.text ?_ | refine LCB.quiet rfl ?_ | refine R.calls rfl ?_ | refine R.block ?_ | refine LCB.skip ?_ | refine LCB.exit ?_ | refine LCB.ret ?_ | (refine RetOk.val hcl ?_; simp only [seval, ev1, ev2, ev3, wk, List.forall_mem_cons, List.forall_mem_map, List.forall_mem_append, List.not_mem_nil, encB_def, encS_def, sb, insA, encIns, ins_dec, ins_eta, noIns, op0_eq, *]) | (refine Weak.at hcl ?_; simp only [seval, ev1, ev2, ev3, wk, List.forall_mem_cons, List.forall_mem_map, List.forall_mem_append, List.not_mem_nil, encB_def, encS_def, sb, insA, encIns, ins_dec, ins_eta, noIns, op0_eq, *]) | (refine LCB.cond (by (simp only [seval, ev1, ev2, ev3, ev4, beq_self_eq_true, encB_def, encS_def, sb, insA, encIns, ins_dec, ins_eta, noIns, op0_eq, *]) <;> rfl) (fun hc => ?_) (fun hc => ?_) <;> try simp only [seval, decide_eq_true_eq, decide_eq_false_iff_not, Bool.not_eq_true', Bool.not_eq_false', Bool.not_true, Bool.not_false] at hc) | (refine wpG_split (by (simp only [seval, ev1, ev2, ev3, ev4, beq_self_eq_true, encB_def, encS_def, sb, insA, encIns, ins_dec, ins_eta, noIns, op0_eq, *]) <;> rfl) (fun hc => ?_) (fun hc => ?_) <;> try simp only [seval, decide_eq_true_eq, decide_eq_false_iff_not, Bool.not_eq_true', Bool.not_eq_false', Bool.not_true, Bool.not_false] at hc) | (refine wqG_split (by (simp only [seval, ev1, ev2, ev3, ev4, beq_self_eq_true, encB_def, encS_def, sb, insA, encIns, ins_dec, ins_eta, noIns, op0_eq, *]) <;> rfl) (fun hc => ?_) (fun hc => ?_) <;> try simp only [seval, decide_eq_true_eq, decide_eq_false_iff_not, Bool.not_eq_true', Bool.not_eq_false', Bool.not_true, Bool.not_false] at hc) | refine ACalls.inst ?_ | refine CallP.inst rfl ?_)
          refine ⟨i + 1, ⟨hlt, hne.of⟩, by simp only; omega, Weak.at hcl ?_⟩
          simp only [seval, ev1, ev2, ev3, wk, List.forall_mem_cons, List.forall_mem_map, List.forall_mem_append, List.not_mem_nil, encB_def, encS_def, sb, insA, encIns, ins_dec, ins_eta, noIns, op0_eq, *]
    · have e3 : (4 : Int) < (W.length : Int) := by omega
      generalize wordL op = wd at *
      subst hw
      repeat' (first | simp only [seval, ev1, ev2, ev3, ev4, beq_self_eq_true, encB_def, encS_def, sb, insA, encIns, ins_dec, ins_eta, noIns, op0_eq, *] | simp (disch := omega) only [if_pos, if_neg] | refine R.seq ?_ | refine LCB.text ?_ | refine LCB.quiet rfl ?_ | refine R.calls rfl ?_ | refine R.block ?_ | refine LCB.skip ?_ | refine LCB.exit ?_ | refine LCB.ret ?_ | (refine RetOk.val hcl ?_; simp only [seval, ev1, ev2, ev3, wk, List.forall_mem_cons, List.forall_mem_map, List.forall_mem_append, List.not_mem_nil, encB_def, encS_def, sb, insA, encIns, ins_dec, ins_eta, noIns, op0_eq, *]) | (refine Weak.at hcl ?_; simp only [seval, ev1, ev2, ev3, wk, List.forall_mem_cons, List.forall_mem_map, List.forall_mem_append, List.not_mem_nil, encB_def, encS_def, sb, insA, encIns, ins_dec, ins_eta, noIns, op0_eq, *]) | (refine LCB.cond (by (simp only [seval, ev1, ev2, ev3, ev4, beq_self_eq_true, encB_def, encS_def, sb, insA, encIns, ins_dec, ins_eta, noIns, op0_eq, *]) <;> rfl) (fun hc => ?_) (fun hc => ?_) <;> try simp only [seval, decide_eq_true_eq, decide_eq_false_iff_not, Bool.not_eq_true', Bool.not_eq_false', Bool.not_true, Bool.not_false] at hc) | (refine wpG_split (by (simp only [seval, ev1, ev2, ev3, ev4, beq_self_eq_true, encB_def, encS_def, sb, insA, encIns, ins_dec, ins_eta, noIns, op0_eq, *]) <;> rfl) (fun hc => ?_) (fun hc => ?_) <;> try simp only [seval, decide_eq_true_eq, decide_eq_false_iff_not, Bool.not_eq_true', Bool.not_eq_false', Bool.not_true, Bool.not_false] at hc) | (refine wqG_split (by (simp only [seval, ev1, ev2, ev3, ev4, beq_self_eq_true, encB_def, encS_def, sb, insA, encIns, ins_dec, ins_eta, noIns, op0_eq, *]) <;> rfl) (fun hc => ?_) (fun hc => ?_) <;> try simp only [seval, decide_eq_true_eq, decide_eq_false_iff_not, Bool.not_eq_true', Bool.not_eq_false', Bool.not_true, Bool.not_false] at hc) | refine ACalls.inst ?_ | refine CallP.inst rfl ?_)
      first | refine ACalls.pure (hword.of) ?_ | refine CallP.pure (hword.of) rfl ?_
      repeat' (first | simp only [seval, ev1, ev2, ev3, ev4, beq_self_eq_true, encB_def, encS_def, sb, insA, encIns, ins_dec, ins_eta, noIns, op0_eq, *] | simp (disch := omega) only [if_pos, if_neg] | refine R.seq ?_ | refine LCB.text ?_ | refine LCB.quiet rfl ?_ | refine R.calls rfl ?_ | refine R.block ?_ | refine LCB.skip ?_ | refine LCB.exit ?_ | refine LCB.ret ?_ | (refine RetOk.val hcl ?_; simp only [seval, ev1, ev2, ev3, wk, List.forall_mem_cons, List.forall_mem_map, List.forall_mem_append, List.not_mem_nil, encB_def, encS_def, sb, insA, encIns, ins_dec, ins_eta, noIns, op0_eq, *]) | (refine Weak.at hcl ?_; simp only [seval, ev1, ev2, ev3, wk, List.forall_mem_cons, List.forall_mem_map, List.forall_mem_append, List.not_mem_nil, encB_def, encS_def, sb, insA, encIns, ins_dec, ins_eta, noIns, op0_eq, *]) | (refine LCB.cond (by (simp only [seval, ev1, ev2, ev3, ev4, beq_self_eq_true, encB_def, encS_def, sb, insA, encIns, ins_dec, ins_eta, noIns, op0_eq, *]) <;> rfl) (fun hc => ?_) (fun hc => ?_) <;> try simp only [seval, decide_eq_true_eq, decide_eq_false_iff_not, Bool.not_eq_true', Bool.not_eq_false', Bool.not_true, Bool.not_false] at hc) | (refine wpG_split (by (simp only [seval, ev1, ev2, ev3, ev4, beq_self_eq_true, encB_def, encS_def, sb, insA, encIns, ins_dec, ins_eta, noIns, op0_eq, *]) <;> rfl) (fun hc => ?_) (fun hc => ?_) <;> try simp only [seval, decide_eq_true_eq, decide_eq_false_iff_not, Bool.not_eq_true', Bool.not_eq_false', Bool.not_true, Bool.not_false] at hc) | (refine wqG_split (by (simp only [seval, ev1, ev2, ev3, ev4, beq_self_eq_true, encB_def, encS_def, sb, insA, encIns, ins_dec, ins_eta, noIns, op0_eq, *]) <;> rfl) (fun hc => ?_) (fun hc => ?_) <;> try simp only [seval, decide_eq_true_eq, decide_eq_false_iff_not, Bool.not_eq_true', Bool.not_eq_false', Bool.not_true, Bool.not_false] at hc) | refine ACalls.inst ?_ | refine CallP.inst rfl ?_)
      refine ⟨i + 1, ⟨hlt, hjn.of fun h => hl4 h.2.1⟩, by simp only; omega, Weak.at hcl ?_⟩
      simp only [seval, ev1, ev2, ev3, wk, List.forall_mem_cons, List.forall_mem_map, List.forall_mem_append, List.not_mem_nil, encB_def, encS_def, sb, insA, encIns, ins_dec, ins_eta, noIns, op0_eq, *]
  · generalize hwd : wordL op = wd at *
    replace hwd := Hold.mk hwd
    repeat' (first | simp only [seval, ev1, ev2, ev3, ev4, beq_self_eq_true, encB_def, encS_def, sb, insA, encIns, ins_dec, ins_eta, noIns, op0_eq, *] | simp (disch := omega) only [if_pos, if_neg] | refine R.seq ?_ | refine LCB.text ?_ | refine LCB.quiet rfl ?_ | refine R.calls rfl ?_ | refine R.block ?_ | refine LCB.skip ?_ | refine LCB.exit ?_ | refine LCB.ret ?_ | (refine RetOk.val hcl ?_; simp only [seval, ev1, ev2, ev3, wk, List.forall_mem_cons, List.forall_mem_map, List.forall_mem_append, List.not_mem_nil, encB_def, encS_def, sb, insA, encIns, ins_dec, ins_eta, noIns, op0_eq, *]) | (refine Weak.at hcl ?_; simp only [seval, ev1, ev2, ev3, wk, List.forall_mem_cons, List.forall_mem_map, List.forall_mem_append, List.not_mem_nil, encB_def, encS_def, sb, insA, encIns, ins_dec, ins_eta, noIns, op0_eq, *]) | (refine LCB.cond (by (simp only [seval, ev1, ev2, ev3, ev4, beq_self_eq_true, encB_def, encS_def, sb, insA, encIns, ins_dec, ins_eta, noIns, op0_eq, *]) <;> rfl) (fun hc => ?_) (fun hc => ?_) <;> try simp only [seval, decide_eq_true_eq, decide_eq_false_iff_not, Bool.not_eq_true', Bool.not_eq_false', Bool.not_true, Bool.not_false] at hc) | (refine wpG_split (by (simp only [seval, ev1, ev2, ev3, ev4, beq_self_eq_true, encB_def, encS_def, sb, insA, encIns, ins_dec, ins_eta, noIns, op0_eq, *]) <;> rfl) (fun hc => ?_) (fun hc => ?_) <;> try simp only [seval, decide_eq_true_eq, decide_eq_false_iff_not, Bool.not_eq_true', Bool.not_eq_false', Bool.not_true, Bool.not_false] at hc) | (refine wqG_split (by (simp only [seval, ev1, ev2, ev3, ev4, beq_self_eq_true, encB_def, encS_def, sb, insA, encIns, ins_dec, ins_eta, noIns, op0_eq, *]) <;> rfl) (fun hc => ?_) (fun hc => ?_) <;> try simp only [seval, decide_eq_true_eq, decide_eq_false_iff_not, Bool.not_eq_true', Bool.not_eq_false', Bool.not_true, Bool.not_false] at hc) | refine ACalls.inst ?_ | refine CallP.inst rfl ?_)
    first | refine ACalls.pure (hword.of) ?_ | refine CallP.pure (hword.of) rfl ?_
    repeat' (first | simp only [seval, ev1, ev2, ev3, ev4, beq_self_eq_true, encB_def, encS_def, sb, insA, encIns, ins_dec, ins_eta, noIns, op0_eq, *] | simp (disch := omega) only [if_pos, if_neg] | refine R.seq ?_ | refine LCB.text ?_ | refine LCB.quiet rfl ?_ | refine R.calls rfl ?_ | refine R.block ?_ | refine LCB.skip ?_ | refine LCB.exit ?_ | refine LCB.ret ?_ | (refine RetOk.val hcl ?_; simp only [seval, ev1, ev2, ev3, wk, List.forall_mem_cons, List.forall_mem_map, List.forall_mem_append, List.not_mem_nil, encB_def, encS_def, sb, insA, encIns, ins_dec, ins_eta, noIns, op0_eq, *]) | (refine Weak.at hcl ?_; simp only [seval, ev1, ev2, ev3, wk, List.forall_mem_cons, List.forall_mem_map, List.forall_mem_append, List.not_mem_nil, encB_def, encS_def, sb, insA, encIns, ins_dec, ins_eta, noIns, op0_eq, *]) | (refine LCB.cond (by (simp only [seval, ev1, ev2, ev3, ev4, beq_self_eq_true, encB_def, encS_def, sb, insA, encIns, ins_dec, ins_eta, noIns, op0_eq, *]) <;> rfl) (fun hc => ?_) (fun hc => ?_) <;> try simp only [seval, decide_eq_true_eq, decide_eq_false_iff_not, Bool.not_eq_true', Bool.not_eq_false', Bool.not_true, Bool.not_false] at hc) | (refine wpG_split (by (simp only [seval, ev1, ev2, ev3, ev4, beq_self_eq_true, encB_def, encS_def, sb, insA, encIns, ins_dec, ins_eta, noIns, op0_eq, *]) <;> rfl) (fun hc => ?_) (fun hc => ?_) <;> try simp only [seval, decide_eq_true_eq, decide_eq_false_iff_not, Bool.not_eq_true', Bool.not_eq_false', Bool.not_true, Bool.not_false] at hc) | (refine wqG_split (by (simp only [seval, ev1, ev2, ev3, ev4, beq_self_eq_true, encB_def, encS_def, sb, insA, encIns, ins_dec, ins_eta, noIns, op0_eq, *]) <;> rfl) (fun hc => ?_) (fun hc => ?_) <;> try simp only [seval, decide_eq_true_eq, decide_eq_false_iff_not, Bool.not_eq_true', Bool.not_eq_false', Bool.not_true, Bool.not_false] at hc) | refine ACalls.inst ?_ | refine CallP.inst rfl ?_)
    refine ⟨i + 1, ⟨hlt, hjn.of fun h => hw (hwd.of.symm.trans h.1)⟩, by simp only; omega, Weak.at hcl ?_⟩
    simp only [seval, ev1, ev2, ev3, wk, List.forall_mem_cons, List.forall_mem_map, List.forall_mem_append, List.not_mem_nil, encB_def, encS_def, sb, insA, encIns, ins_dec, ins_eta, noIns, op0_eq, *]
end Go.Proofs.YtoiceinjademgaaDoor
