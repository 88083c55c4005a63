/-
  Plain laws: an instruction's text is read as it, and what was read has just that text.
-/
import Derived.Test.YtoiceinjademgaaDoorP6
import Derived.Test.YtoiceinjademgaaDoorG8
namespace Go.Proofs.YtoiceinjademgaaDoor
open Go.RowKit
set_option linter.unusedVariables false
set_option linter.unusedSimpArgs false

/-! ### Words -/
theorem split_word : ∀ (w r : List UInt8), (∀ c ∈ w, c ≠ 32) → splitSp (w ++ 32 :: r) = w :: splitSp r
  | [], r, _ => by simp [splitSp]
  | c :: w, r, h => by
    rw [List.cons_append, splitSp, if_neg (h c (by simp)), split_word w r (fun d hd => h d (by simp [hd]))]
    rfl
theorem split_last : ∀ (w : List UInt8), (∀ c ∈ w, c ≠ 32) → splitSp w = [w]
  | [], _ => rfl
  | c :: w, h => by
    rw [splitSp, if_neg (h c (by simp)), split_last w (fun d hd => h d (by simp [hd]))]
    rfl
theorem split_fields (x : Ins) : ∀ (l w : List UInt8), (∀ c ∈ w, c ≠ 32) → (∀ c ∈ l, ∀ d ∈ fieldT x c, d ≠ 32) → splitSp (w ++ fieldsT x l) = w :: l.map (fieldT x)
  | [], w, h, _ => by
    have : fieldsT x [] = [] := rfl
    rw [this, List.append_nil, split_last w h]
    rfl
  | c :: l, w, h, hl => by
    have : fieldsT x (c :: l) = 32 :: (fieldT x c ++ fieldsT x l) := by simp [fieldsT]
    rw [this, split_word _ _ h, split_fields x l _ (hl c (by simp)) (fun d hd => hl d (by simp [hd]))]
    rfl
def glued : List (List UInt8) → List UInt8
  | [] => []
  | w :: ws => w ++ ws.flatMap fun v => 32 :: v
theorem glued_split : ∀ (s : List UInt8), glued (splitSp s) = s
  | [] => rfl
  | c :: r => by
    have ih := glued_split r
    rw [splitSp]
    cases h : splitSp r with
    | nil => exact absurd h (splitSp_ne r)
    | cons v vs =>
      rw [h] at ih
      split
      · rename_i hc
        rw [hc]
        simp only [glued, List.flatMap_cons, List.nil_append, List.cons_append] at ih ⊢
        rw [ih]
      · simp only [glueL, glued, List.cons_append, List.nil_append] at ih ⊢
        rw [ih]

theorem numText_char (n : Int) : ∀ c ∈ numText n, c = 45 ∨ isDig c = true := by
  intro c hc
  have hall := decB_all 20 n.natAbs
  rw [List.all_eq_true] at hall
  unfold numText decB at hc
  split at hc
  · rcases List.mem_cons.1 hc with h | h
    · exact .inl h
    · exact .inr (hall c h)
  · exact .inr (hall c hc)
theorem isDig_ne {c : UInt8} (h : isDig c = true) : c ≠ 32 ∧ c ≠ 114 ∧ c ≠ 115 := by
  simp [isDig] at h
  refine ⟨?_, ?_, ?_⟩ <;> (rintro rfl; revert h; decide)
theorem numText_no (n : Int) : ∀ c ∈ numText n, c ≠ 32 ∧ c ≠ 114 ∧ c ≠ 115 := fun c hc => by
  rcases numText_char n c hc with rfl | h
  · decide
  · exact isDig_ne h
theorem locText_no (l : Int) : ∀ c ∈ locText l, c ≠ 32 := fun c hc => by
  unfold locText at hc
  split at hc
  · rcases List.mem_cons.1 hc with rfl | h
    · decide
    · exact (numText_no _ c h).1
  · rcases List.mem_cons.1 hc with rfl | h
    · decide
    · exact (numText_no _ c h).1
theorem fieldT_no (x : Ins) (c : UInt8) : ∀ d ∈ fieldT x c, d ≠ 32 := fun d hd => by
  unfold fieldT at hd
  split at hd
  · exact (numText_no _ d hd).1
  · split at hd
    · exact (numText_no _ d hd).1
    · exact locText_no _ d hd
theorem words_no : ∀ p ∈ shapeTbl, ∀ c ∈ p.1.data.toList, c ≠ 32 := by decide
theorem wordL_no (op : Int) : ∀ c ∈ wordL op, c ≠ 32 := by
  unfold wordL shapeOf
  rw [List.getD_eq_getElem?_getD]
  cases h : shapeTbl[(op - 1).toNat]? with
  | none => simp
  | some p => exact words_no p (List.mem_of_getElem? h)
theorem split_text (x : Ins) : splitSp (insText x) = wordL x.op :: (fieldL x.op).map (fieldT x) := split_fields x _ _ (wordL_no _) (fun c _ => fieldT_no x c)
theorem locOf_num (n : Int) : locOf (numText n) = none := by
  cases h : locOf (numText n) with
  | none => rfl
  | some l =>
    have h2 := (locOf_iff.1 h).2
    have h3 := numText_no n
    rw [← h2] at h3
    unfold locText at h3
    split at h3
    · exact absurd rfl (h3 114 (by simp)).2.1
    · exact absurd rfl (h3 115 (by simp)).2.2

/-! ### Print, then parse -/
theorem word_inj : ∀ i : Fin 18, ∀ j : Fin 18, wordL ((i.val + 1 : Nat) : Int) = wordL ((j.val + 1 : Nat) : Int) → i = j := by decide +kernel
def valAt (x : Ins) (c : UInt8) : Int := if c = 78 then x.n else if c = 84 then x.to else fieldVal x (c.toNat : Int)
theorem fill_back {x : Ins} (hx : Ok64 x) {c : UInt8} (hc : badPlace x (c.toNat : Int) = false) : fillV c (fieldT x c) = some (valAt x c) := by
  unfold fillV fieldT valAt
  by_cases h1 : c = 78
  · rw [if_pos (.inl h1), if_pos h1, if_pos h1]
    exact numOf_iff.2 ⟨hx.n, rfl⟩
  · by_cases h2 : c = 84
    · rw [if_pos (.inr h2), if_neg h1, if_neg h1, if_pos h2, if_pos h2]
      exact numOf_iff.2 ⟨hx.to, rfl⟩
    · rw [if_neg (by simp [h1, h2]), if_neg h1, if_neg h1, if_neg h2, if_neg h2]
      exact locOf_iff.2 ⟨place_good hc h1 h2, rfl⟩
def setAll (x : Ins) (y : Ins) (F : List UInt8) : Ins := F.foldl (fun y c => setField y c (valAt x c)) y
theorem fillAll_back {x : Ins} (hx : Ok64 x) : ∀ (F : List UInt8) (y : Ins), (∀ c ∈ F, badPlace x (c.toNat : Int) = false) → fillAll y F (F.map (fieldT x)) = some (setAll x y F)
  | [], y, _ => rfl
  | c :: F, y, h => by
    rw [List.map_cons, fillAll, fill_back hx (h c (by simp))]
    exact fillAll_back hx F _ (fun d hd => h d (by simp [hd]))
theorem setAll_good {x : Ins} (h : badForm x = false) : setAll x { noIns with op := x.op } (fieldL x.op) = x := by
  have hop : opOk x.op = true := by
    unfold badForm at h
    simp at h
    exact h.1.1
  obtain ⟨op, d, a, b, n, to⟩ := x
  simp only at hop h ⊢
  rcases op_cases hop with rfl | rfl | rfl | rfl | rfl | rfl | rfl | rfl | rfl | rfl | rfl | rfl | rfl | rfl | rfl | rfl | rfl | rfl
  all_goals simp [badForm, opOk, restOf, letters, fieldL, shapeOf, shapeTbl, zeroAt, noIns] at h
  all_goals simp [setAll, fieldL, shapeOf, shapeTbl, setField, valAt, fieldVal, noIns]
  all_goals omega
theorem parse_print {x : Ins} (hx : Ok64 x) (h : chk x 200 = 0) : parseIns (insText x) = some x := by
  obtain ⟨hop, hbf, hpl⟩ := chk_good h
  have ho : 1 ≤ x.op ∧ x.op ≤ 18 := by simpa [opOk] using hop
  obtain ⟨i, hi⟩ : ∃ i : Nat, x.op = ((i + 1 : Nat) : Int) := ⟨(x.op - 1).toNat, by omega⟩
  have hi18 : i < 18 := by omega
  unfold parseIns
  rw [split_text]
  unfold parseW
  have hm : matchOp (wordL x.op :: (fieldL x.op).map (fieldT x)) i = true := by
    unfold matchOp
    rw [← hi]
    simp
  have hm2 : ∀ j, j < i → matchOp (wordL x.op :: (fieldL x.op).map (fieldT x)) j = false := fun j hj => by
    unfold matchOp
    rw [Bool.and_eq_false_iff]
    left
    rw [decide_eq_false_iff_not]
    intro e
    rw [hi] at e
    have := word_inj ⟨j, by omega⟩ ⟨i, hi18⟩ e
    simp at this
    omega
  rw [find_range hi18 hm hm2]
  simp only
  unfold parseAt
  rw [← hi]
  simp only [List.tail_cons]
  rw [fillAll_back hx _ _ hpl, setAll_good hbf]
  simp [h]

/-! ### Parse, then print -/
def txt (c : UInt8) (v : Int) : List UInt8 := if c = 78 ∨ c = 84 then numText v else locText v
theorem fillV_some {c : UInt8} {w : List UInt8} {v : Int} (h : fillV c w = some v) : w = txt c v ∧ in64 v := by
  unfold fillV at h
  unfold txt
  split at h
  · rename_i hc
    rw [if_pos hc]
    have := numOf_iff.1 h
    exact ⟨this.2.symm, this.1⟩
  · rename_i hc
    rw [if_neg hc]
    have := locOf_iff.1 h
    refine ⟨this.2.symm, ?_⟩
    have h2 := this.1
    simp [inR] at h2
    unfold in64
    omega
def setL : Ins → List UInt8 → List Int → Ins
  | y, c :: F, v :: vs => setL (setField y c v) F vs
  | y, _, _ => y
def txts : List UInt8 → List Int → List (List UInt8)
  | c :: F, v :: vs => txt c v :: txts F vs
  | _, _ => []
theorem fillAll_some : ∀ (F : List UInt8) (ws : List (List UInt8)) (y x : Ins), ws.length = F.length → fillAll y F ws = some x → ∃ vs : List Int, vs.length = F.length ∧ (∀ v ∈ vs, in64 v) ∧ ws = txts F vs ∧ x = setL y F vs
  | [], ws, y, x, hl, h => by
    have : ws = [] := List.length_eq_zero_iff.1 (by simpa using hl)
    subst this
    exact ⟨[], rfl, by simp, rfl, by simpa [fillAll, setL] using h.symm⟩
  | c :: F, [], y, x, hl, h => by simp at hl
  | c :: F, w :: ws, y, x, hl, h => by
    rw [fillAll] at h
    cases hv : fillV c w with
    | none => rw [hv] at h; simp at h
    | some v =>
      rw [hv] at h
      obtain ⟨vs, h1, h2, h3, h4⟩ := fillAll_some F ws _ x (by simpa using hl) h
      obtain ⟨g1, g2⟩ := fillV_some hv
      refine ⟨v :: vs, by simp [h1], ?_, by rw [txts, ← h3, ← g1], h4⟩
      intro u hu
      rcases List.mem_cons.1 hu with rfl | hu
      · exact g2
      · exact h2 u hu
theorem setL_ok {op : Int} (hop : opOk op = true) {vs : List Int} (hl : vs.length = (fieldL op).length) (hv : ∀ v ∈ vs, in64 v) : Ok64 (setL { noIns with op := op } (fieldL op) vs) ∧ (setL { noIns with op := op } (fieldL op) vs).op = op ∧ (fieldL op).map (fieldT (setL { noIns with op := op } (fieldL op) vs)) = txts (fieldL op) vs := by
  have z : in64 0 := by unfold in64; omega
  rcases op_cases hop with rfl | rfl | rfl | rfl | rfl | rfl | rfl | rfl | rfl | rfl | rfl | rfl | rfl | rfl | rfl | rfl | rfl | rfl
  all_goals
    match vs, hl, hv with
    | [v1], hl, hv => 
      first
      | (simp [fieldL, shapeOf, shapeTbl] at hl; done)
      | (have := hv v1 (by simp)
         refine ⟨?_, rfl, ?_⟩
         · constructor <;> first | assumption | (unfold in64; simp [setL, fieldL, shapeOf, shapeTbl, setField, noIns]; done)
         · simp [setL, txts, txt, fieldL, shapeOf, shapeTbl, setField, fieldT, fieldVal, noIns])
    | [v1, v2], hl, hv =>
      first
      | (simp [fieldL, shapeOf, shapeTbl] at hl; done)
      | (have := hv v1 (by simp)
         have := hv v2 (by simp)
         refine ⟨?_, rfl, ?_⟩
         · constructor <;> first | assumption | (unfold in64; simp [setL, fieldL, shapeOf, shapeTbl, setField, noIns]; done)
         · simp [setL, txts, txt, fieldL, shapeOf, shapeTbl, setField, fieldT, fieldVal, noIns])
    | [v1, v2, v3], hl, hv =>
      first
      | (simp [fieldL, shapeOf, shapeTbl] at hl; done)
      | (have := hv v1 (by simp)
         have := hv v2 (by simp)
         have := hv v3 (by simp)
         refine ⟨?_, rfl, ?_⟩
         · constructor <;> first | assumption | (unfold in64; simp [setL, fieldL, shapeOf, shapeTbl, setField, noIns]; done)
         · simp [setL, txts, txt, fieldL, shapeOf, shapeTbl, setField, fieldT, fieldVal, noIns])
    | [], hl, hv => simp [fieldL, shapeOf, shapeTbl] at hl
    | _ :: _ :: _ :: _ :: _, hl, hv => simp [fieldL, shapeOf, shapeTbl] at hl
theorem print_parse {s : List UInt8} {x : Ins} (h : parseIns s = some x) : chk x 200 = 0 ∧ Ok64 x ∧ insText x = s := by
  unfold parseIns parseW at h
  cases hf : (List.range 18).find? (matchOp (splitSp s)) with
  | none => rw [hf] at h; simp at h
  | some i =>
    rw [hf] at h
    simp only at h
    have hm := List.find?_some hf
    have hi : i < 18 := by simpa using List.mem_of_find?_eq_some hf
    unfold matchOp at hm
    simp only [Bool.and_eq_true, decide_eq_true_eq] at hm
    obtain ⟨hw, hn⟩ := hm
    unfold parseAt at h
    have hg := glued_split s
    generalize splitSp s = W at *
    have hop : opOk ((i + 1 : Nat) : Int) = true := by simp [opOk]; omega
    generalize hopi : ((i + 1 : Nat) : Int) = op at *
    match W, hn with
    | w :: ws, hn =>
      simp only [List.headD_cons, List.tail_cons] at hw h
      cases hfa : fillAll { noIns with op := op } (fieldL op) ws with
      | none => rw [hfa] at h; simp at h
      | some y =>
        rw [hfa] at h
        simp only at h
        split at h
        · rename_i hc
          simp only [Option.some.injEq] at h
          subst h
          obtain ⟨vs, g1, g2, g3, g4⟩ := fillAll_some _ _ _ _ (by simpa using hn.symm) hfa
          obtain ⟨k1, k2, k3⟩ := setL_ok hop g1 g2
          rw [← g4] at k1 k2 k3
          refine ⟨hc, k1, ?_⟩
          unfold insText fieldsT
          rw [k2, ← hg, glued, ← hw, g3, ← k3, List.flatMap_map]
        · simp at h
theorem insText_inj {x y : Ins} (hx : Ok64 x) (hy : Ok64 y) (h1 : chk x 200 = 0) (h2 : chk y 200 = 0) (h : insText x = insText y) : x = y := by
  have e1 := parse_print hx h1
  have e2 := parse_print hy h2
  rw [h, e2] at e1
  exact (Option.some.inj e1).symm

/-! ### The reference's guess -/
def gStep (op : Int) (y : Ins) (k : Nat) (w : List UInt8) : Ins :=
  let j := if op = 14 ∨ op = 17 ∨ op = 18 then k + 1 else k
  match locOf w with
  | some l => if j = 1 then { y with d := l } else if j = 2 then { y with a := l } else { y with b := l }
  | none => match numOf w with
    | some n => if op = 16 ∨ op = 17 then { y with to := n } else { y with n := n }
    | none => y
def guess (op : Int) : Ins → Nat → List (List UInt8) → Ins
  | y, _, [] => y
  | y, k, w :: ws => guess op (gStep op y k w) (k + 1) ws
theorem gStep_ok {op : Int} {y : Ins} (hy : Ok64 y) (k : Nat) (w : List UInt8) : Ok64 (gStep op y k w) ∧ (gStep op y k w).op = y.op := by
  unfold gStep
  cases hl : locOf w with
  | some l =>
    have := (locOf_iff.1 hl).1
    have h2 : in64 l := by simp [inR] at this; unfold in64; omega
    simp only
    obtain ⟨a1, a2, a3, a4, a5, a6⟩ := hy
    split
    all_goals split
    all_goals first | exact ⟨⟨a1, by assumption, by assumption, by assumption, a5, a6⟩, rfl⟩ | (split <;> exact ⟨⟨a1, by assumption, by assumption, by assumption, a5, a6⟩, rfl⟩)
  | none =>
    cases hn : numOf w with
    | some n =>
      have h2 := (numOf_iff.1 hn).1
      obtain ⟨a1, a2, a3, a4, a5, a6⟩ := hy
      simp only
      split <;> exact ⟨⟨a1, a2, a3, a4, by assumption, by assumption⟩, rfl⟩
    | none => exact ⟨hy, rfl⟩
theorem guess_good {x : Ins} (hx : Ok64 x) (h : chk x 200 = 0) : guess x.op { noIns with op := x.op } 1 ((fieldL x.op).map (fieldT x)) = x := by
  obtain ⟨hop, hbf, hpl⟩ := chk_good h
  have hloc : ∀ v, inR 24 v = true → locOf (locText v) = some v := fun v hv => locOf_iff.2 ⟨hv, rfl⟩
  have hnum : numOf (numText x.n) = some x.n := numOf_iff.2 ⟨hx.n, rfl⟩
  have hto : numOf (numText x.to) = some x.to := numOf_iff.2 ⟨hx.to, rfl⟩
  have hnl := locOf_num
  clear hx h
  obtain ⟨op, d, a, b, n, to⟩ := x
  simp only at *
  rcases op_cases hop with rfl | rfl | rfl | rfl | rfl | rfl | rfl | rfl | rfl | rfl | rfl | rfl | rfl | rfl | rfl | rfl | rfl | rfl
  all_goals simp [badForm, opOk, restOf, letters, fieldL, shapeOf, shapeTbl, zeroAt, noIns] at hbf
  all_goals simp [fieldL, shapeOf, shapeTbl, badPlace, fieldVal, inR] at hpl
  all_goals
    have hd : locOf (locText d) = some d ∨ True := by first | exact .inl (hloc d (by simp [inR]; omega)) | exact .inr trivial
    try (replace hd : locOf (locText d) = some d := hloc d (by simp [inR]; omega))
    try (have ha : locOf (locText a) = some a := hloc a (by simp [inR]; omega))
    try (have hb : locOf (locText b) = some b := hloc b (by simp [inR]; omega))
    clear hloc hpl hop
    simp [guess, gStep, fieldL, shapeOf, shapeTbl, fieldT, fieldVal, noIns, *]
end Go.Proofs.YtoiceinjademgaaDoor
/-
  Plain laws: a function's text is read as it, and what was read has just that text.
-/
namespace Go.Proofs.YtoiceinjademgaaDoor
open Go.RowKit
set_option linter.unusedVariables false
set_option linter.unusedSimpArgs false

theorem numText_no10 (n : Int) : ∀ c ∈ numText n, c ≠ 10 := fun c hc => by
  rcases numText_char n c hc with rfl | h
  · decide
  · rintro rfl
    revert h
    decide
theorem locText_no10 (l : Int) : ∀ c ∈ locText l, c ≠ 10 := fun c hc => by
  unfold locText at hc
  split at hc
  · rcases List.mem_cons.1 hc with rfl | h
    · decide
    · exact numText_no10 _ c h
  · rcases List.mem_cons.1 hc with rfl | h
    · decide
    · exact numText_no10 _ c h
theorem words_no10 : ∀ p ∈ shapeTbl, ∀ c ∈ p.1.data.toList, c ≠ 10 := by decide
theorem wordL_no10 (op : Int) : ∀ c ∈ wordL op, c ≠ 10 := by
  unfold wordL shapeOf
  rw [List.getD_eq_getElem?_getD]
  cases h : shapeTbl[(op - 1).toNat]? with
  | none => simp
  | some p => exact words_no10 p (List.mem_of_getElem? h)
theorem insText_no10 (x : Ins) : ∀ c ∈ insText x, c ≠ 10 := fun c hc => by
  unfold insText fieldsT at hc
  rcases List.mem_append.1 hc with h | h
  · exact wordL_no10 _ c h
  · obtain ⟨d, _, hd⟩ := List.mem_flatMap.1 h
    rcases List.mem_cons.1 hd with rfl | hd
    · decide
    · unfold fieldT at hd
      split at hd
      · exact numText_no10 _ c hd
      · split at hd
        · exact numText_no10 _ c hd
        · exact locText_no10 _ c hd
theorem scan_chars {fr : Nat} {f : List Ins} {bg : List Nat} : ∀ (l cur r : List UInt8), (∀ c ∈ l, c ≠ 10) → scan fr cur (l ++ r) f bg = scan fr (cur ++ l) r f bg
  | [], cur, r, _ => by simp
  | c :: l, cur, r, h => by
    rw [List.cons_append, scan, if_neg (h c (by simp)), scan_chars l _ r (fun d hd => h d (by simp [hd]))]
    simp
def beginsOf : Nat → List Ins → List Nat
  | _, [] => []
  | fr, x :: f => fr :: beginsOf (fr + (lineT x).length) f
theorem scan_text : ∀ (f : List Ins) (fr : Nat) (r : List UInt8) (acc : List Ins) (bg : List Nat), (∀ x ∈ f, chk x 200 = 0 ∧ Ok64 x) → scan fr [] (fnText f ++ r) acc bg = scan (fr + (fnText f).length) [] r (acc ++ f) (bg ++ beginsOf fr f)
  | [], fr, r, acc, bg, _ => by simp [fnText, beginsOf]
  | x :: f, fr, r, acc, bg, h => by
    obtain ⟨h1, h2⟩ := h x (by simp)
    have e : fnText (x :: f) ++ r = insText x ++ (10 :: (fnText f ++ r)) := by simp [fnText, lineT]
    rw [e, scan_chars _ _ _ (insText_no10 x), List.nil_append, scan, if_pos rfl, parse_print h2 h1]
    simp only
    rw [scan_text f _ r _ _ (fun y hy => h y (by simp [hy]))]
    have e2 : (fnText (x :: f)).length = (insText x).length + 1 + (fnText f).length := by simp [fnText, lineT]; omega
    have e3 : (lineT x).length = (insText x).length + 1 := by simp [lineT]
    rw [e2]
    simp [beginsOf, e3, Nat.add_assoc]
theorem scan_back : ∀ (r cur : List UInt8) (fr : Nat) (acc : List Ins) (bg : List Nat) (f : List Ins) (b : List Nat), scan fr cur r acc bg = .ok (f, b) → ∃ g, f = acc ++ g ∧ b = bg ++ beginsOf fr g ∧ cur ++ r = fnText g ∧ ∀ x ∈ g, chk x 200 = 0 ∧ Ok64 x
  | [], cur, fr, acc, bg, f, b, h => by
    rw [scan] at h
    split at h
    · rename_i hc
      cases h
      exact ⟨[], by simp, by simp [beginsOf], by simp [fnText, List.length_eq_zero_iff.1 hc], by simp⟩
    · cases h
  | c :: r, cur, fr, acc, bg, f, b, h => by
    rw [scan] at h
    split at h
    · rename_i hc
      subst hc
      cases hp : parseIns cur with
      | none => rw [hp] at h; cases h
      | some x =>
        rw [hp] at h
        simp only at h
        obtain ⟨h1, h2, h3⟩ := print_parse hp
        obtain ⟨g, g1, g2, g3, g4⟩ := scan_back r [] _ _ _ f b h
        have e3 : (lineT x).length = cur.length + 1 := by simp [lineT, h3]
        refine ⟨x :: g, by rw [g1]; simp, by rw [g2]; simp [beginsOf, e3, Nat.add_assoc], ?_, ?_⟩
        · rw [List.nil_append] at g3
          rw [g3]
          simp [fnText, lineT, h3]
        · intro y hy
          rcases List.mem_cons.1 hy with rfl | hy
          · exact ⟨h1, h2⟩
          · exact g4 y hy
    · obtain ⟨g, g1, g2, g3, g4⟩ := scan_back r (cur ++ [c]) _ _ _ f b h
      exact ⟨g, g1, g2, by rw [← g3]; simp, g4⟩
end Go.Proofs.YtoiceinjademgaaDoor
