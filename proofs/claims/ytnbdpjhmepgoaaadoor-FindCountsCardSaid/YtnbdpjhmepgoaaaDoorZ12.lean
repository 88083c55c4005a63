/-
  Texts of this claim, put together.
-/
import Derived.Test.YtnbdpjhmepgoaaaDoorZ11
namespace Go.Proofs.YtnbdpjhmepgoaaaDoor
open Go.RowKit
set_option linter.unusedVariables false
set_option linter.unusedSimpArgs false
structure Ins where
  op : Int
  d : Int
  a : Int
  b : Int
  n : Int
  to : Int
deriving DecidableEq
def encIns (x : Ins) : List AV := [.int .i64 x.op, .int .i64 x.d, .int .i64 x.a, .int .i64 x.b, .int .i64 x.n, .int .i64 x.to]
def insA (x : Ins) : AV := .agg (encIns x)
theorem insA_eq (x : Ins) : insA x = .agg [.int .i64 x.op, .int .i64 x.d, .int .i64 x.a, .int .i64 x.b, .int .i64 x.n, .int .i64 x.to] := rfl
def inR (k : Int) (l : Int) : Bool := decide (0 ≤ l ∧ l < k)
theorem loc_Right_ok (l : Int) : Pure Tryd.prog 58 [.int .i64 l] (.bool (inR 24 l)) := by
  intro H
  refine ACalls.go loc_Right.low (by simp) fun hcl => ?_
  repeat' (first | simp only [seval, evo, beq_self_eq_true, sb, insA, encIns, *] | simp (disch := omega) only [if_pos, if_neg] | refine zG ?_ | refine zH ?_ | refine zI rfl ?_ | refine zJ rfl ?_ | refine zL ?_ | refine zM ?_ | refine zN ?_ | refine zO ?_ | ((first | refine zP hcl ?_ | refine zQ hcl ?_); simp only [seval, evw, fm, sb, insA, encIns, *]) | ((first | refine zA ?_ ?_ | refine zC ?_ ?_ | refine zE ?_ ?_) <;> (intro hc; try simp only [seval, nf] at hc)) | refine zR ?_ | refine zS rfl ?_)
  all_goals simp [inR, *]
theorem loc_Reg_ok (l : Int) : Pure Tryd.prog 59 [.int .i64 l] (.bool (inR 8 l)) := by
  intro H
  refine ACalls.go loc_Reg.low (by simp) fun hcl => ?_
  repeat' (first | simp only [seval, evo, beq_self_eq_true, sb, insA, encIns, *] | simp (disch := omega) only [if_pos, if_neg] | refine zG ?_ | refine zH ?_ | refine zI rfl ?_ | refine zJ rfl ?_ | refine zL ?_ | refine zM ?_ | refine zN ?_ | refine zO ?_ | ((first | refine zP hcl ?_ | refine zQ hcl ?_); simp only [seval, evw, fm, sb, insA, encIns, *]) | ((first | refine zA ?_ ?_ | refine zC ?_ ?_ | refine zE ?_ ?_) <;> (intro hc; try simp only [seval, nf] at hc)) | refine zR ?_ | refine zS rfl ?_)
  all_goals simp [inR, *]
theorem joineryref03_place_ok (l : Int) : Pure Tryd.prog 51 [.int .i64 l] (.bool (inR 24 l)) := by
  intro H
  refine ACalls.go joineryref03_place.low (by simp) fun hcl => ?_
  repeat' (first | simp only [seval, evo, beq_self_eq_true, sb, insA, encIns, *] | simp (disch := omega) only [if_pos, if_neg] | refine zG ?_ | refine zH ?_ | refine zI rfl ?_ | refine zJ rfl ?_ | refine zL ?_ | refine zM ?_ | refine zN ?_ | refine zO ?_ | ((first | refine zP hcl ?_ | refine zQ hcl ?_); simp only [seval, evw, fm, sb, insA, encIns, *]) | ((first | refine zA ?_ ?_ | refine zC ?_ ?_ | refine zE ?_ ?_) <;> (intro hc; try simp only [seval, nf] at hc)) | refine zR ?_ | refine zS rfl ?_)
  all_goals simp [inR, *]
theorem joineryref03_reg_ok (l : Int) : Pure Tryd.prog 52 [.int .i64 l] (.bool (inR 8 l)) := by
  intro H
  refine ACalls.go joineryref03_reg.low (by simp) fun hcl => ?_
  repeat' (first | simp only [seval, evo, beq_self_eq_true, sb, insA, encIns, *] | simp (disch := omega) only [if_pos, if_neg] | refine zG ?_ | refine zH ?_ | refine zI rfl ?_ | refine zJ rfl ?_ | refine zL ?_ | refine zM ?_ | refine zN ?_ | refine zO ?_ | ((first | refine zP hcl ?_ | refine zQ hcl ?_); simp only [seval, evw, fm, sb, insA, encIns, *]) | ((first | refine zA ?_ ?_ | refine zC ?_ ?_ | refine zE ?_ ?_) <;> (intro hc; try simp only [seval, nf] at hc)) | refine zR ?_ | refine zS rfl ?_)
  all_goals simp [inR, *]
instance pc_loc_Right (l : Int) : PureC Tryd.prog 58 [.int .i64 l] (.bool (inR 24 l)) := ⟨loc_Right_ok l⟩
instance pc_loc_Reg (l : Int) : PureC Tryd.prog 59 [.int .i64 l] (.bool (inR 8 l)) := ⟨loc_Reg_ok l⟩
instance pc_ref03_place (l : Int) : PureC Tryd.prog 51 [.int .i64 l] (.bool (inR 24 l)) := ⟨joineryref03_place_ok l⟩
instance pc_ref03_reg (l : Int) : PureC Tryd.prog 52 [.int .i64 l] (.bool (inR 8 l)) := ⟨joineryref03_reg_ok l⟩
def shapeOf (op : Int) : ByteArray × ByteArray := shapeTbl.getD (op - 1).toNat (⟨#[]⟩, ⟨#[]⟩)
def opOk (op : Int) : Bool := decide (1 ≤ op ∧ op ≤ 18)
def wordL (op : Int) : List UInt8 := (shapeOf op).1.data.toList
def fieldL (op : Int) : List UInt8 := (shapeOf op).2.data.toList
theorem words_short : ∀ p ∈ shapeTbl, p.1.data.toList.length ≤ 5 ∧ p.2.data.toList.length ≤ 3 ∧ ∀ c ∈ p.2.data.toList, c.toNat < 128 := by decide
theorem shape_short (op : Int) : (wordL op).length ≤ 5 ∧ (fieldL op).length ≤ 3 ∧ ∀ c ∈ fieldL op, c.toNat < 128 := by
  unfold wordL fieldL shapeOf
  rw [List.getD_eq_getElem?_getD]
  cases h : shapeTbl[(op - 1).toNat]? with
  | none => simp
  | some p => exact words_short p (List.mem_of_getElem? h)
theorem shape_row (i : Nat) (h : i < 18) : ((shapeTbl.flatMap fun p => [AV.str p.1, AV.str p.2]).drop (i * 2)).take 2 = [.str (bs (wordL ((i + 1 : Nat) : Int))), .str (bs (fieldL ((i + 1 : Nat) : Int)))] := by
  match i, h with
  | 0, _ => rfl
  | 1, _ => rfl
  | 2, _ => rfl
  | 3, _ => rfl
  | 4, _ => rfl
  | 5, _ => rfl
  | 6, _ => rfl
  | 7, _ => rfl
  | 8, _ => rfl
  | 9, _ => rfl
  | 10, _ => rfl
  | 11, _ => rfl
  | 12, _ => rfl
  | 13, _ => rfl
  | 14, _ => rfl
  | 15, _ => rfl
  | 16, _ => rfl
  | 17, _ => rfl
  | n + 18, h => exact absurd h (by omega)
theorem shape_tbl : ∃ row : List AV, (shapeTbl.flatMap fun p => [AV.str p.1, AV.str p.2]) = row ∧ row.length = 36 ∧ row.take 36 = row ∧ (∀ m, cleanAll m row = true) ∧ ∀ i : Nat, i < 18 → (row.drop (i * 2)).take 2 = [.str (bs (wordL ((i + 1 : Nat) : Int))), .str (bs (fieldL ((i + 1 : Nat) : Int)))] :=
  ⟨_, rfl, rfl, rfl, fun m => rfl, shape_row⟩
theorem ins_of_ok (op : Int) : Pure Tryd.prog 56 [.int .i64 op] (.tup [.agg (if opOk op then [.str (bs (wordL op)), .str (bs (fieldL op))] else [.str (bs []), .str (bs [])]), .bool (opOk op)]) := by
  intro H
  refine ACalls.go ins_of.low (by simp) fun hcl => ?_
  by_cases hop : opOk op = true
  · have h1 := hop
    simp [opOk] at h1
    have e1 : ¬ op < 1 := by omega
    have e2 : ¬ 18 < op := by omega
    obtain ⟨i, rfl⟩ : ∃ i : Nat, op = ((i + 1 : Nat) : Int) := ⟨(op - 1).toNat, by omega⟩
    have e3 : IntKind.i64.wrap (((i + 1 : Nat) : Int) - 1) = (i : Int) := by rw [IntKind.wrap_i64]; omega
    obtain ⟨row, hr, hl, -, -, hd⟩ := shape_tbl
    replace hd := hd i (by omega)
    have e4 : i * 2 + 2 ≤ 36 := by omega
    have e5 : (i : Int) < ((18 : Nat) : Int) := by omega
    replace h1 := Hold.mk h1
    repeat' (first | simp only [seval, evo, beq_self_eq_true, sb, insA, encIns, *] | simp (disch := omega) only [if_pos, if_neg] | refine zG ?_ | refine zH ?_ | refine zI rfl ?_ | refine zJ rfl ?_ | refine zL ?_ | refine zM ?_ | refine zN ?_ | refine zO ?_ | ((first | refine zP hcl ?_ | refine zQ hcl ?_); simp only [seval, evw, fm, sb, insA, encIns, *]) | ((first | refine zA ?_ ?_ | refine zC ?_ ?_ | refine zE ?_ ?_) <;> (intro hc; try simp only [seval, nf] at hc)) | refine zR ?_ | refine zS rfl ?_)
  · have h1 : opOk op = false := by simpa using hop
    have h2 : op < 1 ∨ 18 < op := by simp [opOk] at h1; omega
    clear hop
    replace h2 := Hold.mk h2
    repeat' (first | simp only [seval, evo, beq_self_eq_true, sb, insA, encIns, *] | simp (disch := omega) only [if_pos, if_neg] | refine zG ?_ | refine zH ?_ | refine zI rfl ?_ | refine zJ rfl ?_ | refine zL ?_ | refine zM ?_ | refine zN ?_ | refine zO ?_ | ((first | refine zP hcl ?_ | refine zQ hcl ?_); simp only [seval, evw, fm, sb, insA, encIns, *]) | ((first | refine zA ?_ ?_ | refine zC ?_ ?_ | refine zE ?_ ?_) <;> (intro hc; try simp only [seval, nf] at hc)) | refine zR ?_ | refine zS rfl ?_)
    exfalso; have := h2.of; omega
def offOf (c : Int) : Nat := if c = 68 ∨ c = 100 then 1 else if c = 65 ∨ c = 97 then 2 else 3
theorem ins_field_ok {H : List AObj} {k : Nat} (c : Int) (hk : k < H.length) : ACalls Tryd.prog 55 [.ptr k 1 0 0, .int .i32 c] H fun r H' => r = .ptr k 1 0 (offOf c) ∧ H' = H := by
  refine ACalls.go ins_field.low (by simp) fun hcl => ?_
  repeat' (first | simp only [seval, evo, beq_self_eq_true, sb, insA, encIns, *] | simp (disch := omega) only [if_pos, if_neg] | refine zG ?_ | refine zH ?_ | refine zI rfl ?_ | refine zJ rfl ?_ | refine zL ?_ | refine zM ?_ | refine zN ?_ | refine zO ?_ | ((first | refine zP hcl ?_ | refine zQ hcl ?_); simp only [seval, evw, fm, sb, insA, encIns, *]) | ((first | refine zA ?_ ?_ | refine zC ?_ ?_ | refine zE ?_ ?_) <;> (intro hc; try simp only [seval, nf] at hc)) | refine zR ?_ | refine zS rfl ?_)
  all_goals simp [offOf, *]
end Go.Proofs.YtnbdpjhmepgoaaaDoor
namespace Go.Proofs.YtnbdpjhmepgoaaaDoor
open Go.RowKit
set_option linter.unusedVariables false
set_option linter.unusedSimpArgs false
def zeroAt (x : Ins) (c : Int) : Ins := if c = 78 then { x with n := 0 } else if c = 84 then { x with to := 0 } else if c = 68 ∨ c = 100 then { x with d := 0 } else if c = 65 ∨ c = 97 then { x with a := 0 } else { x with b := 0 }
def letters (F : List UInt8) : List Int := F.map fun c => (c.toNat : Int)
def restOf (x : Ins) (F : List UInt8) : Ins := (letters F).foldl zeroAt { x with op := 0 }
def fieldVal (x : Ins) (c : Int) : Int := if c = 68 ∨ c = 100 then x.d else if c = 65 ∨ c = 97 then x.a else x.b
def badPlace (x : Ins) (c : Int) : Bool := c != 78 && c != 84 && !(if 97 ≤ c then inR 24 (fieldVal x c) else inR 8 (fieldVal x c))
def noIns : Ins := ⟨0, 0, 0, 0, 0, 0⟩
def badForm (x : Ins) : Bool := !opOk x.op || restOf x (fieldL x.op) != noIns || (x.op == 15 && (decide (x.n < 0) || decide (99 < x.n)))
def farOff (x : Ins) (n : Int) : Bool := decide (x.to < 0) || decide (n ≤ x.to)
def chk (x : Ins) (n : Int) : Int := if badForm x then 1 else if (letters (fieldL x.op)).any (badPlace x) then 6 else if (letters (fieldL x.op)).contains 84 && farOff x n then 4 else 0
theorem ins_dec (x y : Ins) : (decide (x.op = y.op) && (decide (x.d = y.d) && (decide (x.a = y.a) && (decide (x.b = y.b) && (decide (x.n = y.n) && decide (x.to = y.to)))))) = decide (x = y) := by
  cases x; cases y
  rw [Bool.eq_iff_iff]
  simp
theorem ins_dec0 (x : Ins) : (decide (x.op = 0) && (decide (x.d = 0) && (decide (x.a = 0) && (decide (x.b = 0) && (decide (x.n = 0) && decide (x.to = 0)))))) = decide (x = noIns) := ins_dec x noIns
theorem ins_eta (x : Ins) : (⟨x.op, x.d, x.a, x.b, x.n, x.to⟩ : Ins) = x := rfl
theorem field_at (x : Ins) (c : Int) : (encIns x)[offOf c]? = some (.int .i64 (fieldVal x c)) := by
  unfold offOf fieldVal
  by_cases h1 : c = 68 ∨ c = 100
  · simp [h1, encIns]
  · by_cases h2 : c = 65 ∨ c = 97
    · simp [h1, h2, encIns]
    · simp [h1, h2, encIns]
theorem zero_at (x : Ins) (c : Int) (h1 : ¬ c = 78) (h2 : ¬ c = 84) : (encIns x).take (offOf c) ++ [.int .i64 0] ++ (encIns x).drop (offOf c + 1) = encIns (zeroAt x c) := by
  unfold zeroAt
  rw [if_neg h1, if_neg h2]
  unfold offOf
  split
  · simp [encIns]
  · split <;> simp [encIns]
set_option linter.defProp false in
def dq1 := And.intro @sb (@ins_eta)
set_option maxHeartbeats 1000000 in
theorem ins_rest_ok (x : Ins) (w : ByteArray) (F : List UInt8) (hF : ∀ c ∈ F, c.toNat < 128) : Pure Tryd.prog 57 [insA x, .agg [.str w, .str (bs F)]] (insA (restOf x F)) := by
  intro H
  refine ACalls.go ins_rest.low (by simp) fun hcl => ?_
  rw [insA_eq]
  replace hF := Hold.mk hF
  repeat' (first | simp only [seval, evo, beq_self_eq_true, insA, encIns, dq1, *] | simp (disch := omega) only [if_pos, if_neg] | refine zG ?_ | refine zH ?_ | refine zI rfl ?_ | refine zJ rfl ?_ | refine zL ?_ | refine zM ?_ | refine zN ?_ | refine zO ?_ | ((first | refine zP hcl ?_ | refine zQ hcl ?_); simp only [seval, evw, fm, insA, encIns, dq1, *]) | ((first | refine zA ?_ ?_ | refine zC ?_ ?_ | refine zE ?_ ?_) <;> (intro hc; try simp only [seval, nf] at hc)) | refine zR ?_ | refine zS rfl ?_)
  refine R.loop (S := Nat × Ins) ⟨fun s => [(2, .ptr H.length 1 0 0), (4, .ptr (H.length + 2) 1 0 0), (10, .iter (H.length + 3))], fun s => H ++ [.vec 6 [encIns s.2], .vec 2 [[.str w, .str (bs F)]], .vec 6 [[.int .i64 0, .int .i64 0, .int .i64 0, .int .i64 0, .int .i64 0, .int .i64 0]], .iter (bs F) s.1],
    fun s => s.1 ≤ F.length ∧ (letters (F.drop s.1)).foldl zeroAt s.2 = restOf x F, fun s => F.length - s.1⟩ (0, { x with op := 0 }) ⟨Nat.zero_le _, rfl⟩ (Weak.at hcl ?_) ?_
  · simp only [seval, evw, fm, insA, encIns, dq1, *]
  rintro ⟨p, y⟩ ⟨hp, hq⟩
  simp only at hp hq ⊢
  replace hq := Hold.mk hq
  by_cases hlt : p < F.length
  · have hd : Utf8.decode (bs F) p = ((F.getD p 0).toNat, 1) := dec_near (hF.of _ (by simp [List.getD, hlt]))
    have hnext : (letters (F.drop (p + 1))).foldl zeroAt (zeroAt y ((F.getD p 0).toNat : Int)) = restOf x F := by
      rw [← hq.of]
      have : F.drop p = F.getD p 0 :: F.drop (p + 1) := by
        rw [List.drop_eq_getElem_cons hlt]
        simp [List.getD, hlt]
      rw [this]
      rfl
    generalize ((F.getD p 0).toNat) = c at *
    replace hnext := Hold.mk hnext
    by_cases h1 : (c : Int) = 78
    · repeat' (first | simp only [seval, evo, beq_self_eq_true, insA, encIns, dq1, *] | simp (disch := omega) only [if_pos, if_neg] | refine zG ?_ | refine zH ?_ | refine zI rfl ?_ | refine zJ rfl ?_ | refine zL ?_ | refine zM ?_ | refine zN ?_ | refine zO ?_ | ((first | refine zP hcl ?_ | refine zQ hcl ?_); simp only [seval, evw, fm, insA, encIns, dq1, *]) | ((first | refine zA ?_ ?_ | refine zC ?_ ?_ | refine zE ?_ ?_) <;> (intro hc; try simp only [seval, nf] at hc)) | refine zR ?_ | refine zS rfl ?_)
      refine ⟨(p + 1, zeroAt y c), ⟨hlt, hnext.of⟩, by simp only; omega, Weak.at hcl ?_⟩
      have : zeroAt y 78 = { y with n := 0 } := rfl
      simp only [seval, evw, fm, insA, encIns, dq1, *]
    by_cases h2 : (c : Int) = 84
    · repeat' (first | simp only [seval, evo, beq_self_eq_true, insA, encIns, dq1, *] | simp (disch := omega) only [if_pos, if_neg] | refine zG ?_ | refine zH ?_ | refine zI rfl ?_ | refine zJ rfl ?_ | refine zL ?_ | refine zM ?_ | refine zN ?_ | refine zO ?_ | ((first | refine zP hcl ?_ | refine zQ hcl ?_); simp only [seval, evw, fm, insA, encIns, dq1, *]) | ((first | refine zA ?_ ?_ | refine zC ?_ ?_ | refine zE ?_ ?_) <;> (intro hc; try simp only [seval, nf] at hc)) | refine zR ?_ | refine zS rfl ?_)
      refine ⟨(p + 1, zeroAt y c), ⟨hlt, hnext.of⟩, by simp only; omega, Weak.at hcl ?_⟩
      have : zeroAt y 84 = { y with to := 0 } := rfl
      simp only [seval, evw, fm, insA, encIns, dq1, *]
    have hz := zero_at y c h1 h2
    have hof : offOf (c : Int) + 1 ≤ 6 := by unfold offOf; split; omega; split <;> omega
    simp only [encIns, List.drop_succ_cons] at hz
    have hcl0 : Hold (∀ m, cleanAll m (encIns (zeroAt y (c : Int))) = true) := ⟨fun m => by simp [encIns, cleanAll, AV.clean]⟩
    repeat' (first | simp only [seval, evo, beq_self_eq_true, insA, encIns, dq1, *] | simp (disch := omega) only [if_pos, if_neg] | refine zG ?_ | refine zH ?_ | refine zI rfl ?_ | refine zJ rfl ?_ | refine zL ?_ | refine zM ?_ | refine zN ?_ | refine zO ?_ | ((first | refine zP hcl ?_ | refine zQ hcl ?_); simp only [seval, evw, fm, insA, encIns, dq1, *]) | ((first | refine zA ?_ ?_ | refine zC ?_ ?_ | refine zE ?_ ?_) <;> (intro hc; try simp only [seval, nf] at hc)) | refine zR ?_ | refine zS rfl ?_)
    refine (ins_field_ok (c : Int) (by simp)).mono ?_
    rintro r' H' ⟨rfl, rfl⟩
    repeat' (first | simp only [seval, evo, beq_self_eq_true, insA, encIns, dq1, *] | simp (disch := omega) only [if_pos, if_neg] | refine zG ?_ | refine zH ?_ | refine zI rfl ?_ | refine zJ rfl ?_ | refine zL ?_ | refine zM ?_ | refine zN ?_ | refine zO ?_ | ((first | refine zP hcl ?_ | refine zQ hcl ?_); simp only [seval, evw, fm, insA, encIns, dq1, *]) | ((first | refine zA ?_ ?_ | refine zC ?_ ?_ | refine zE ?_ ?_) <;> (intro hc; try simp only [seval, nf] at hc)) | refine zR ?_ | refine zS rfl ?_)
    refine ⟨(p + 1, zeroAt y c), ⟨hlt, hnext.of⟩, by simp only; omega, Weak.at hcl ?_⟩
    simp only [seval, evw, fm, insA, encIns, dq1, *]
  · have hp' : p = F.length := by omega
    subst hp'
    have hy : y = restOf x F := by
      have := hq.of
      simpa [letters] using this
    rw [← hy]
    repeat' (first | simp only [seval, evo, beq_self_eq_true, insA, encIns, dq1, *] | simp (disch := omega) only [if_pos, if_neg] | refine zG ?_ | refine zH ?_ | refine zI rfl ?_ | refine zJ rfl ?_ | refine zL ?_ | refine zM ?_ | refine zN ?_ | refine zO ?_ | ((first | refine zP hcl ?_ | refine zQ hcl ?_); simp only [seval, evw, fm, insA, encIns, dq1, *]) | ((first | refine zA ?_ ?_ | refine zC ?_ ?_ | refine zE ?_ ?_) <;> (intro hc; try simp only [seval, nf] at hc)) | refine zR ?_ | refine zS rfl ?_)
set_option linter.defProp false in
def dq2 := And.intro @sb (And.intro @ins_eta (And.intro @ins_dec0 (@ins_dec)))
set_option maxHeartbeats 1000000 in
theorem ins_Check_ok (x : Ins) (n : Int) : Pure Tryd.prog 42 [insA x, .int .i64 n] (.int .i64 (chk x n)) := by
  intro H
  refine ACalls.go ins_Check.low (by simp) fun hcl => ?_
  have hof := ins_of_ok x.op
  rw [insA_eq]
  obtain ⟨hs1, hs2, hs3⟩ := shape_short x.op
  have hre := ins_rest_ok x (bs (wordL x.op)) (fieldL x.op) hs3
  rw [insA_eq] at hre
  replace hs3 := Hold.mk hs3
  replace hof := Hold.mk hof
  replace hre := Hold.mk hre
  repeat' (first | simp only [seval, evo, beq_self_eq_true, insA, encIns, dq2, *] | simp (disch := omega) only [if_pos, if_neg] | refine zG ?_ | refine zH ?_ | refine zI rfl ?_ | refine zJ rfl ?_ | refine zL ?_ | refine zM ?_ | refine zN ?_ | refine zO ?_ | ((first | refine zP hcl ?_ | refine zQ hcl ?_); simp only [seval, evw, fm, insA, encIns, dq2, *]) | ((first | refine zA ?_ ?_ | refine zC ?_ ?_ | refine zE ?_ ?_) <;> (intro hc; try simp only [seval, nf] at hc)) | refine zR ?_ | refine zS rfl ?_)
  refine ACalls.pure hof.of ?_
  have hbf : Hold (badForm x = (!opOk x.op || restOf x (fieldL x.op) != noIns || (x.op == 15 && (decide (x.n < 0) || decide (99 < x.n))))) := ⟨rfl⟩
  have hch : Hold (chk x n = if badForm x then 1 else if (letters (fieldL x.op)).any (badPlace x) then 6 else if (letters (fieldL x.op)).contains 84 && farOff x n then 4 else 0) := ⟨rfl⟩
  cases hop : opOk x.op
  · have hc1 : chk x n = 1 := by rw [hch.of, hbf.of, hop]; rfl
    clear hof
    repeat' (first | simp only [seval, evo, beq_self_eq_true, insA, encIns, dq2, *] | simp (disch := omega) only [if_pos, if_neg] | refine zG ?_ | refine zH ?_ | refine zI rfl ?_ | refine zJ rfl ?_ | refine zL ?_ | refine zM ?_ | refine zN ?_ | refine zO ?_ | ((first | refine zP hcl ?_ | refine zQ hcl ?_); simp only [seval, evw, fm, insA, encIns, dq2, *]) | ((first | refine zA ?_ ?_ | refine zC ?_ ?_ | refine zE ?_ ?_) <;> (intro hc; try simp only [seval, nf] at hc)) | refine zR ?_ | refine zS rfl ?_)
  rw [if_pos rfl]
  clear hof
  generalize wordL x.op = W at *
  generalize fieldL x.op = F at *
  repeat' (first | simp only [seval, evo, beq_self_eq_true, insA, encIns, dq2, *] | simp (disch := omega) only [if_pos, if_neg])
  by_cases hb : badForm x = true
  · have hc1 : chk x n = 1 := by rw [hch.of, hb]; rfl
    by_cases hne : restOf x F = noIns
    · have h := hbf.of
      rw [hb, hop, hne] at h
      have h2 : x.op = 15 ∧ (x.n < 0 ∨ 99 < x.n) := by simpa using h.symm
      clear hb h
      obtain ⟨h3, h4⟩ := h2
      replace h3 := decide_eq_true h3
      have e0 : decide (noIns = noIns) = true := by simp
      replace h4 := Hold.mk h4
      repeat' (first | simp only [seval, evo, beq_self_eq_true, insA, encIns, dq2, *] | simp (disch := omega) only [if_pos, if_neg] | refine zG ?_ | refine zH ?_ | refine zI rfl ?_ | refine zJ rfl ?_ | refine zL ?_ | refine zM ?_ | refine zN ?_ | refine zO ?_ | ((first | refine zP hcl ?_ | refine zQ hcl ?_); simp only [seval, evw, fm, insA, encIns, dq2, *]) | ((first | refine zA ?_ ?_ | refine zC ?_ ?_ | refine zE ?_ ?_) <;> (intro hc; try simp only [seval, nf] at hc)) | refine zR ?_ | refine zS rfl ?_)
      refine ACalls.pure hre.of ?_
      rw [hne]
      repeat' (first | simp only [seval, evo, beq_self_eq_true, insA, encIns, dq2, *] | simp (disch := omega) only [if_pos, if_neg] | refine zG ?_ | refine zH ?_ | refine zI rfl ?_ | refine zJ rfl ?_ | refine zL ?_ | refine zM ?_ | refine zN ?_ | refine zO ?_ | ((first | refine zP hcl ?_ | refine zQ hcl ?_); simp only [seval, evw, fm, insA, encIns, dq2, *]) | ((first | refine zA ?_ ?_ | refine zC ?_ ?_ | refine zE ?_ ?_) <;> (intro hc; try simp only [seval, nf] at hc)) | refine zR ?_ | refine zS rfl ?_)
      all_goals (exfalso; have := h4.of; omega)
    · clear hb
      repeat' (first | simp only [seval, evo, beq_self_eq_true, insA, encIns, dq2, *] | simp (disch := omega) only [if_pos, if_neg] | refine zG ?_ | refine zH ?_ | refine zI rfl ?_ | refine zJ rfl ?_ | refine zL ?_ | refine zM ?_ | refine zN ?_ | refine zO ?_ | ((first | refine zP hcl ?_ | refine zQ hcl ?_); simp only [seval, evw, fm, insA, encIns, dq2, *]) | ((first | refine zA ?_ ?_ | refine zC ?_ ?_ | refine zE ?_ ?_) <;> (intro hc; try simp only [seval, nf] at hc)) | refine zR ?_ | refine zS rfl ?_)
      refine ACalls.pure hre.of ?_
      repeat' (first | simp only [seval, evo, beq_self_eq_true, insA, encIns, dq2, *] | simp (disch := omega) only [if_pos, if_neg] | refine zG ?_ | refine zH ?_ | refine zI rfl ?_ | refine zJ rfl ?_ | refine zL ?_ | refine zM ?_ | refine zN ?_ | refine zO ?_ | ((first | refine zP hcl ?_ | refine zQ hcl ?_); simp only [seval, evw, fm, insA, encIns, dq2, *]) | ((first | refine zA ?_ ?_ | refine zC ?_ ?_ | refine zE ?_ ?_) <;> (intro hc; try simp only [seval, nf] at hc)) | refine zR ?_ | refine zS rfl ?_)
  replace hb : badForm x = false := by simpa using hb
  refine R.cut [(1, .int .i64 n), (2, .ptr H.length 1 0 0), (5, .ptr (H.length + 1) 1 0 0)] (H ++ [.vec 6 [encIns x], .vec 2 [[.str (bs W), .str (bs F)]]]) ?_ ?_
  · have h := hbf.of
    rw [hb, hop] at h
    replace h := h.symm
    simp only [Bool.not_true, Bool.false_or, Bool.or_eq_false_iff, bne_eq_false_iff_eq, Bool.and_eq_false_iff, decide_eq_false_iff_not, beq_eq_false_iff_ne] at h
    obtain ⟨h1, h2⟩ := h
    replace h2 := Hold.mk h2
    clear hb
    repeat' (first | simp only [seval, evo, beq_self_eq_true, insA, encIns, dq2, *] | simp (disch := omega) only [if_pos, if_neg] | refine zG ?_ | refine zH ?_ | refine zI rfl ?_ | refine zJ rfl ?_ | refine zL ?_ | refine zM ?_ | refine zN ?_ | refine zO ?_ | ((first | refine zP hcl ?_ | refine zQ hcl ?_); simp only [seval, evw, fm, insA, encIns, dq2, *]) | ((first | refine zA ?_ ?_ | refine zC ?_ ?_ | refine zE ?_ ?_) <;> (intro hc; try simp only [seval, nf] at hc)) | refine zR ?_ | refine zS rfl ?_)
    refine ACalls.pure hre.of ?_
    rw [h1]
    repeat' (first | simp only [seval, evo, beq_self_eq_true, insA, encIns, dq2, *] | simp (disch := omega) only [if_pos, if_neg] | refine zG ?_ | refine zH ?_ | refine zI rfl ?_ | refine zJ rfl ?_ | refine zL ?_ | refine zM ?_ | refine zN ?_ | refine zO ?_ | ((first | refine zP hcl ?_ | refine zQ hcl ?_); simp only [seval, evw, fm, insA, encIns, dq2, *]) | ((first | refine zA ?_ ?_ | refine zC ?_ ?_ | refine zE ?_ ?_) <;> (intro hc; try simp only [seval, nf] at hc)) | refine zR ?_ | refine zS rfl ?_)
    all_goals (exfalso; have := h2.of; omega)
  have hch := hch.of
  rw [hb] at hch
  simp only [Bool.false_eq_true, if_false] at hch
  clear hb hbf hre hs1
  replace hch := Hold.mk hch
  (refine zG ?_; refine zH ?_; repeat' (first | simp only [seval, evo, beq_self_eq_true, insA, encIns, dq2, *] | simp (disch := omega) only [if_pos, if_neg]))
  refine R.seq ?_
  (refine zG ?_; refine zH ?_; repeat' (first | simp only [seval, evo, beq_self_eq_true, insA, encIns, dq2, *] | simp (disch := omega) only [if_pos, if_neg]))
  refine R.block (R.loop (S := Nat × Bool) ⟨fun s => [(1, .int .i64 n), (2, .ptr H.length 1 0 0), (7, .bool s.2), (42, .iter (H.length + 2))], fun s => H ++ [.vec 6 [encIns x], .vec 2 [[.str (bs W), .str (bs F)]], .iter (bs F) s.1],
    fun s => s.1 ≤ F.length ∧ (s.2 = true → farOff x n = true) ∧ chk x n = (if (letters (F.drop s.1)).any (badPlace x) = true then 6 else if (s.2 || ((letters (F.drop s.1)).contains 84 && farOff x n)) = true then 4 else 0), fun s => F.length - s.1⟩ (0, false) ⟨Nat.zero_le _, by simp, by rw [hch.of]; simp⟩ (Weak.at hcl ?_) ?_)
  · simp only [seval, evw, fm, insA, encIns, dq2, *]
  rintro ⟨p, far⟩ ⟨hp, hfo, hq⟩
  simp only at hp hfo hq ⊢
  replace hfo := Hold.mk hfo
  replace hq := Hold.mk hq
  by_cases hlt : p < F.length
  · have hd : Utf8.decode (bs F) p = ((F.getD p 0).toNat, 1) := dec_near (hs3.of _ (by simp [List.getD, hlt]))
    have hdr : letters (F.drop p) = ((F.getD p 0).toNat : Int) :: letters (F.drop (p + 1)) := by
      unfold letters
      rw [List.drop_eq_getElem_cons hlt, List.map_cons]
      simp [List.getD, hlt]
    have hq2 := hq.of
    rw [hdr] at hq2
    clear hq hdr
    generalize ((F.getD p 0).toNat) = c at *
    have hfa := field_at x (c : Int)
    simp only [encIns] at hfa
    by_cases h1 : (c : Int) = 78
    · have hb : badPlace x (c : Int) = false := by simp [badPlace, h1]
      have h5 : ((84 : Int) == (c : Int)) = false := by rw [h1]; rfl
      rw [List.any_cons, List.contains_cons, hb, h5] at hq2
      simp only [Bool.false_or] at hq2
      replace hq2 := Hold.mk hq2
      clear hb h5
      repeat' (first | simp only [seval, evo, beq_self_eq_true, insA, encIns, dq2, *] | simp (disch := omega) only [if_pos, if_neg] | refine zG ?_ | refine zH ?_ | refine zI rfl ?_ | refine zJ rfl ?_ | refine zL ?_ | refine zM ?_ | refine zN ?_ | refine zO ?_ | ((first | refine zP hcl ?_ | refine zQ hcl ?_); simp only [seval, evw, fm, insA, encIns, dq2, *]) | ((first | refine zA ?_ ?_ | refine zC ?_ ?_ | refine zE ?_ ?_) <;> (intro hc; try simp only [seval, nf] at hc)) | refine zR ?_ | refine zS rfl ?_)
      refine ⟨(p + 1, far), ⟨hlt, hfo.of, hq2.of⟩, by simp only; omega, Weak.at hcl ?_⟩
      simp only [seval, evw, fm, insA, encIns, dq2, *]
    by_cases h2 : (c : Int) = 84
    · have hb : badPlace x (c : Int) = false := by simp [badPlace, h2]
      have h5 : ((84 : Int) == (c : Int)) = true := by rw [h2]; rfl
      rw [List.any_cons, List.contains_cons, hb, h5] at hq2
      simp only [Bool.false_or, Bool.true_or, Bool.true_and] at hq2
      have hq3 : chk x n = if (letters (F.drop (p + 1))).any (badPlace x) = true then 6 else if (farOff x n || (letters (F.drop (p + 1))).contains 84 && farOff x n) = true then 4 else 0 := by
        rw [hq2]
        cases hfx : farOff x n
        · have := hfo.of
          rw [hfx] at this
          cases far <;> simp at this ⊢
        · simp
      replace hq3 := Hold.mk hq3
      have hfd : Hold (farOff x n = (decide (x.to < 0) || decide (n ≤ x.to))) := ⟨rfl⟩
      clear hb h5 hq2
      repeat' (first | simp only [seval, evo, beq_self_eq_true, insA, encIns, dq2, *] | simp (disch := omega) only [if_pos, if_neg] | refine zG ?_ | refine zH ?_ | refine zI rfl ?_ | refine zJ rfl ?_ | refine zL ?_ | refine zM ?_ | refine zN ?_ | refine zO ?_ | ((first | refine zP hcl ?_ | refine zQ hcl ?_); simp only [seval, evw, fm, insA, encIns, dq2, *]) | ((first | refine zA ?_ ?_ | refine zC ?_ ?_ | refine zE ?_ ?_) <;> (intro hc; try simp only [seval, nf] at hc)) | refine zR ?_ | refine zS rfl ?_)
      · refine ⟨(p + 1, farOff x n), ⟨hlt, fun h => h, hq3.of⟩, by simp only; omega, Weak.at hcl ?_⟩
        have : farOff x n = true := by rw [hfd.of]; simp [*]
        simp only [seval, evw, fm, insA, encIns, dq2, *]
      · refine ⟨(p + 1, farOff x n), ⟨hlt, fun h => h, hq3.of⟩, by simp only; omega, Weak.at hcl ?_⟩
        have : farOff x n = decide (n ≤ x.to) := by rw [hfd.of]; simp [*]
        simp only [seval, evw, fm, insA, encIns, dq2, *]
    have h5 : ((84 : Int) == (c : Int)) = false := by simp; omega
    have hb : badPlace x (c : Int) = !(if 97 ≤ (c : Int) then inR 24 (fieldVal x (c : Int)) else inR 8 (fieldVal x (c : Int))) := by
      unfold badPlace
      have e1 : ((c : Int) != 78) = true := by simp; omega
      have e2 : ((c : Int) != 84) = true := by simp; omega
      rw [e1, e2]; simp
    rw [List.any_cons, List.contains_cons, h5] at hq2
    simp only [Bool.false_or] at hq2
    clear h5
    have h6 : badPlace x (c : Int) = true → chk x n = 6 := fun h => by rw [hq2, h]; rfl
    have h7 (h : badPlace x (c : Int) = false) : chk x n = if (letters (F.drop (p + 1))).any (badPlace x) = true then 6 else if (far || (letters (F.drop (p + 1))).contains 84 && farOff x n) = true then 4 else 0 := by rw [hq2, h]; rfl
    clear hq2
    generalize fieldVal x (c : Int) = v at *
    replace h6 := Hold.mk h6
    replace h7 := Hold.mk h7
    by_cases h97 : (97 : Int) ≤ (c : Int)
    · rw [if_pos h97] at hb
      replace hb := Hold.mk hb
      have h98 : ¬ (c : Int) < 97 := by omega
      cases hv : inR 24 v
      · have hx := h6.of (by rw [hb.of, hv]; rfl)
        clear h7
        repeat' (first | simp only [seval, evo, beq_self_eq_true, insA, encIns, dq2, *] | simp (disch := omega) only [if_pos, if_neg] | refine zG ?_ | refine zH ?_ | refine zI rfl ?_ | refine zJ rfl ?_ | refine zL ?_ | refine zM ?_ | refine zN ?_ | refine zO ?_ | ((first | refine zP hcl ?_ | refine zQ hcl ?_); simp only [seval, evw, fm, insA, encIns, dq2, *]) | ((first | refine zA ?_ ?_ | refine zC ?_ ?_ | refine zE ?_ ?_) <;> (intro hc; try simp only [seval, nf] at hc)) | refine zR ?_ | refine zS rfl ?_)
        refine (ins_field_ok (c : Int) (by simp)).mono ?_
        rintro r' H' ⟨rfl, rfl⟩
        repeat' (first | simp only [seval, evo, beq_self_eq_true, insA, encIns, dq2, *] | simp (disch := omega) only [if_pos, if_neg] | refine zG ?_ | refine zH ?_ | refine zI rfl ?_ | refine zJ rfl ?_ | refine zL ?_ | refine zM ?_ | refine zN ?_ | refine zO ?_ | ((first | refine zP hcl ?_ | refine zQ hcl ?_); simp only [seval, evw, fm, insA, encIns, dq2, *]) | ((first | refine zA ?_ ?_ | refine zC ?_ ?_ | refine zE ?_ ?_) <;> (intro hc; try simp only [seval, nf] at hc)) | refine zR ?_ | refine zS rfl ?_)
      · have hx := Hold.mk (h7.of (by rw [hb.of, hv]; rfl))
        clear h6 h7
        repeat' (first | simp only [seval, evo, beq_self_eq_true, insA, encIns, dq2, *] | simp (disch := omega) only [if_pos, if_neg] | refine zG ?_ | refine zH ?_ | refine zI rfl ?_ | refine zJ rfl ?_ | refine zL ?_ | refine zM ?_ | refine zN ?_ | refine zO ?_ | ((first | refine zP hcl ?_ | refine zQ hcl ?_); simp only [seval, evw, fm, insA, encIns, dq2, *]) | ((first | refine zA ?_ ?_ | refine zC ?_ ?_ | refine zE ?_ ?_) <;> (intro hc; try simp only [seval, nf] at hc)) | refine zR ?_ | refine zS rfl ?_)
        refine (ins_field_ok (c : Int) (by simp)).mono ?_
        rintro r' H' ⟨rfl, rfl⟩
        repeat' (first | simp only [seval, evo, beq_self_eq_true, insA, encIns, dq2, *] | simp (disch := omega) only [if_pos, if_neg] | refine zG ?_ | refine zH ?_ | refine zI rfl ?_ | refine zJ rfl ?_ | refine zL ?_ | refine zM ?_ | refine zN ?_ | refine zO ?_ | ((first | refine zP hcl ?_ | refine zQ hcl ?_); simp only [seval, evw, fm, insA, encIns, dq2, *]) | ((first | refine zA ?_ ?_ | refine zC ?_ ?_ | refine zE ?_ ?_) <;> (intro hc; try simp only [seval, nf] at hc)) | refine zR ?_ | refine zS rfl ?_)
        refine ⟨(p + 1, far), ⟨hlt, hfo.of, hx.of⟩, by simp only; omega, Weak.at hcl ?_⟩
        simp only [seval, evw, fm, insA, encIns, dq2, *]
    · rw [if_neg h97] at hb
      replace hb := Hold.mk hb
      have h98 : (c : Int) < 97 := by omega
      cases hv : inR 8 v
      · have hx := h6.of (by rw [hb.of, hv]; rfl)
        clear h7
        repeat' (first | simp only [seval, evo, beq_self_eq_true, insA, encIns, dq2, *] | simp (disch := omega) only [if_pos, if_neg] | refine zG ?_ | refine zH ?_ | refine zI rfl ?_ | refine zJ rfl ?_ | refine zL ?_ | refine zM ?_ | refine zN ?_ | refine zO ?_ | ((first | refine zP hcl ?_ | refine zQ hcl ?_); simp only [seval, evw, fm, insA, encIns, dq2, *]) | ((first | refine zA ?_ ?_ | refine zC ?_ ?_ | refine zE ?_ ?_) <;> (intro hc; try simp only [seval, nf] at hc)) | refine zR ?_ | refine zS rfl ?_)
        refine (ins_field_ok (c : Int) (by simp)).mono ?_
        rintro r' H' ⟨rfl, rfl⟩
        repeat' (first | simp only [seval, evo, beq_self_eq_true, insA, encIns, dq2, *] | simp (disch := omega) only [if_pos, if_neg] | refine zG ?_ | refine zH ?_ | refine zI rfl ?_ | refine zJ rfl ?_ | refine zL ?_ | refine zM ?_ | refine zN ?_ | refine zO ?_ | ((first | refine zP hcl ?_ | refine zQ hcl ?_); simp only [seval, evw, fm, insA, encIns, dq2, *]) | ((first | refine zA ?_ ?_ | refine zC ?_ ?_ | refine zE ?_ ?_) <;> (intro hc; try simp only [seval, nf] at hc)) | refine zR ?_ | refine zS rfl ?_)
      · have hx := Hold.mk (h7.of (by rw [hb.of, hv]; rfl))
        clear h6 h7
        repeat' (first | simp only [seval, evo, beq_self_eq_true, insA, encIns, dq2, *] | simp (disch := omega) only [if_pos, if_neg] | refine zG ?_ | refine zH ?_ | refine zI rfl ?_ | refine zJ rfl ?_ | refine zL ?_ | refine zM ?_ | refine zN ?_ | refine zO ?_ | ((first | refine zP hcl ?_ | refine zQ hcl ?_); simp only [seval, evw, fm, insA, encIns, dq2, *]) | ((first | refine zA ?_ ?_ | refine zC ?_ ?_ | refine zE ?_ ?_) <;> (intro hc; try simp only [seval, nf] at hc)) | refine zR ?_ | refine zS rfl ?_)
        refine (ins_field_ok (c : Int) (by simp)).mono ?_
        rintro r' H' ⟨rfl, rfl⟩
        repeat' (first | simp only [seval, evo, beq_self_eq_true, insA, encIns, dq2, *] | simp (disch := omega) only [if_pos, if_neg] | refine zG ?_ | refine zH ?_ | refine zI rfl ?_ | refine zJ rfl ?_ | refine zL ?_ | refine zM ?_ | refine zN ?_ | refine zO ?_ | ((first | refine zP hcl ?_ | refine zQ hcl ?_); simp only [seval, evw, fm, insA, encIns, dq2, *]) | ((first | refine zA ?_ ?_ | refine zC ?_ ?_ | refine zE ?_ ?_) <;> (intro hc; try simp only [seval, nf] at hc)) | refine zR ?_ | refine zS rfl ?_)
        refine ⟨(p + 1, far), ⟨hlt, hfo.of, hx.of⟩, by simp only; omega, Weak.at hcl ?_⟩
        simp only [seval, evw, fm, insA, encIns, dq2, *]
  · have hp' : p = F.length := by omega
    subst hp'
    have hq2 := hq.of
    simp [letters] at hq2
    replace hq2 := Hold.mk hq2
    cases far
    · have hx : chk x n = 0 := hq2.of
      repeat' (first | simp only [seval, evo, beq_self_eq_true, insA, encIns, dq2, *] | simp (disch := omega) only [if_pos, if_neg] | refine zG ?_ | refine zH ?_ | refine zI rfl ?_ | refine zJ rfl ?_ | refine zL ?_ | refine zM ?_ | refine zN ?_ | refine zO ?_ | ((first | refine zP hcl ?_ | refine zQ hcl ?_); simp only [seval, evw, fm, insA, encIns, dq2, *]) | ((first | refine zA ?_ ?_ | refine zC ?_ ?_ | refine zE ?_ ?_) <;> (intro hc; try simp only [seval, nf] at hc)) | refine zR ?_ | refine zS rfl ?_)
    · have hx : chk x n = 4 := hq2.of
      repeat' (first | simp only [seval, evo, beq_self_eq_true, insA, encIns, dq2, *] | simp (disch := omega) only [if_pos, if_neg] | refine zG ?_ | refine zH ?_ | refine zI rfl ?_ | refine zJ rfl ?_ | refine zL ?_ | refine zM ?_ | refine zN ?_ | refine zO ?_ | ((first | refine zP hcl ?_ | refine zQ hcl ?_); simp only [seval, evw, fm, insA, encIns, dq2, *]) | ((first | refine zA ?_ ?_ | refine zC ?_ ?_ | refine zE ?_ ?_) <;> (intro hc; try simp only [seval, nf] at hc)) | refine zR ?_ | refine zS rfl ?_)
def movesB (op : Int) : Bool := decide (op = 1 ∨ op = 2 ∨ op = 3 ∨ op = 16)
def encI (n : Int) : List AV := [.int .i64 n]
theorem encI_def (n : Int) : encI n = [.int .i64 n] := rfl
def encInts (l : List Int) : AV := .list (l.map encI)
def isUse (c : Int) : Bool := c == 65 || c == 66
def usesL (x : Ins) : List Int := if opOk x.op && !movesB x.op then ((letters (fieldL x.op)).filter isUse).map (fieldVal x) else []
set_option linter.defProp false in
def dq3 := And.intro @sb (And.intro @ins_eta (And.intro @ins_dec0 (And.intro @ins_dec (@encI_def))))
theorem ins_Moves_ok (x : Ins) : Pure Tryd.prog 45 [insA x] (.bool (movesB x.op)) := by
  intro H
  refine ACalls.go ins_Moves.low (by simp) fun hcl => ?_
  rw [insA_eq]
  generalize hm : movesB x.op = m
  replace hm := Hold.mk hm
  repeat' (first | simp only [seval, evo, beq_self_eq_true, insA, encIns, dq3, *] | simp (disch := omega) only [if_pos, if_neg] | refine zG ?_ | refine zH ?_ | refine zI rfl ?_ | refine zJ rfl ?_ | refine zL ?_ | refine zM ?_ | refine zN ?_ | refine zO ?_ | ((first | refine zP hcl ?_ | refine zQ hcl ?_); simp only [seval, evw, fm, insA, encIns, dq3, *]) | ((first | refine zA ?_ ?_ | refine zC ?_ ?_ | refine zE ?_ ?_) <;> (intro hc; try simp only [seval, nf] at hc)) | refine zR ?_ | refine zS rfl ?_)
  all_goals rw [← hm.of]
  all_goals first | exact (decide_eq_true (by omega)).symm | exact (decide_eq_false (by omega)).symm | exact decide_eq_decide.2 (by omega)
instance pc_ins_Moves (op d a b n to : Int) : PureC Tryd.prog 45 [.agg [.int .i64 op, .int .i64 d, .int .i64 a, .int .i64 b, .int .i64 n, .int .i64 to]] (.bool (movesB op)) := ⟨ins_Moves_ok ⟨op, d, a, b, n, to⟩⟩
set_option maxHeartbeats 1000000 in
theorem ins_Uses_ok (x : Ins) : Pure Tryd.prog 63 [insA x] (encInts (usesL x)) := by
  intro H
  refine ACalls.go ins_Uses.low (by simp) fun hcl => ?_
  have hof := ins_of_ok x.op
  rw [insA_eq]
  obtain ⟨hs1, hs2, hs3⟩ := shape_short x.op
  replace hs3 := Hold.mk hs3
  replace hof := Hold.mk hof
  have hU : Hold (usesL x = if opOk x.op && !movesB x.op then ((letters (fieldL x.op)).filter isUse).map (fieldVal x) else []) := ⟨rfl⟩
  repeat' (first | simp only [seval, evo, beq_self_eq_true, insA, encIns, dq3, *] | simp (disch := omega) only [if_pos, if_neg] | refine zG ?_ | refine zH ?_ | refine zI rfl ?_ | refine zJ rfl ?_ | refine zL ?_ | refine zM ?_ | refine zN ?_ | refine zO ?_ | ((first | refine zP hcl ?_ | refine zQ hcl ?_); simp only [seval, evw, fm, insA, encIns, dq3, *]) | ((first | refine zA ?_ ?_ | refine zC ?_ ?_ | refine zE ?_ ?_) <;> (intro hc; try simp only [seval, nf] at hc)) | refine zR ?_ | refine zS rfl ?_)
  refine ACalls.pure hof.of ?_
  clear hof
  cases hop : opOk x.op
  · have hc1 : encInts (usesL x) = .list [] := by rw [hU.of, hop]; rfl
    repeat' (first | simp only [seval, evo, beq_self_eq_true, insA, encIns, dq3, *] | simp (disch := omega) only [if_pos, if_neg] | refine zG ?_ | refine zH ?_ | refine zI rfl ?_ | refine zJ rfl ?_ | refine zL ?_ | refine zM ?_ | refine zN ?_ | refine zO ?_ | ((first | refine zP hcl ?_ | refine zQ hcl ?_); simp only [seval, evw, fm, insA, encIns, dq3, *]) | ((first | refine zA ?_ ?_ | refine zC ?_ ?_ | refine zE ?_ ?_) <;> (intro hc; try simp only [seval, nf] at hc)) | refine zR ?_ | refine zS rfl ?_)
  rw [if_pos rfl]
  generalize wordL x.op = W at *
  generalize fieldL x.op = F at *
  by_cases hmv : movesB x.op = true
  · have hc1 : encInts (usesL x) = .list [] := by rw [hU.of, hop, hmv]; rfl
    repeat' (first | simp only [seval, evo, beq_self_eq_true, insA, encIns, dq3, *] | simp (disch := omega) only [if_pos, if_neg] | refine zG ?_ | refine zH ?_ | refine zI rfl ?_ | refine zJ rfl ?_ | refine zL ?_ | refine zM ?_ | refine zN ?_ | refine zO ?_ | ((first | refine zP hcl ?_ | refine zQ hcl ?_); simp only [seval, evw, fm, insA, encIns, dq3, *]) | ((first | refine zA ?_ ?_ | refine zC ?_ ?_ | refine zE ?_ ?_) <;> (intro hc; try simp only [seval, nf] at hc)) | refine zR ?_ | refine zS rfl ?_)
  replace hmv : movesB x.op = false := by simpa using hmv
  have hU2 : Hold (usesL x = ((letters F).filter isUse).map (fieldVal x)) := ⟨by rw [hU.of, hop, hmv]; rfl⟩
  clear hU
  repeat' (first | simp only [seval, evo, beq_self_eq_true, insA, encIns, dq3, *] | simp (disch := omega) only [if_pos, if_neg] | refine zG ?_ | refine zH ?_ | refine zI rfl ?_ | refine zJ rfl ?_ | refine zL ?_ | refine zM ?_ | refine zN ?_ | refine zO ?_ | ((first | refine zP hcl ?_ | refine zQ hcl ?_); simp only [seval, evw, fm, insA, encIns, dq3, *]) | ((first | refine zA ?_ ?_ | refine zC ?_ ?_ | refine zE ?_ ?_) <;> (intro hc; try simp only [seval, nf] at hc)) | refine zR ?_ | refine zS rfl ?_)
  refine R.loop (S := Nat × List Int) ⟨fun s => [(1, .ptr H.length 1 0 0), (5, .sl 1 (H.length + 3) s.2.length 0 s.2.length), (22, .iter (H.length + 2))], fun s => H ++ [.vec 6 [encIns x], .vec 2 [[.str (bs W), .str (bs F)]], .iter (bs F) s.1, .vec 1 (s.2.map encI)],
    fun s => s.1 ≤ F.length ∧ s.2.length ≤ s.1 ∧ s.2 ++ ((letters (F.drop s.1)).filter isUse).map (fieldVal x) = usesL x, fun s => F.length - s.1⟩ (0, []) ⟨Nat.zero_le _, Nat.zero_le _, by rw [hU2.of]; rfl⟩ ((Weak.growAt 5 1 (by omega) (by simp only [seval, evo, beq_self_eq_true, insA, encIns, dq3, *])).trans (Weak.at hcl ?_)) ?_
  · simp only [seval, evw, fm, insA, encIns, dq3, *]
  rintro ⟨p, l⟩ ⟨hp, hl, hq⟩
  simp only at hp hl hq ⊢
  replace hq := Hold.mk hq
  by_cases hlt : p < F.length
  · have hd : Utf8.decode (bs F) p = ((F.getD p 0).toNat, 1) := dec_near (hs3.of _ (by simp [List.getD, hlt]))
    have hdr : letters (F.drop p) = ((F.getD p 0).toNat : Int) :: letters (F.drop (p + 1)) := by
      unfold letters
      rw [List.drop_eq_getElem_cons hlt, List.map_cons]
      simp [List.getD, hlt]
    have hq2 := hq.of
    rw [hdr, List.filter_cons] at hq2
    clear hdr
    generalize ((F.getD p 0).toNat) = c at *
    by_cases hu : isUse (c : Int) = true
    · rw [if_pos hu, List.map_cons] at hq2
      have hcc : c = 65 ∨ c = 66 := by
        unfold isUse at hu
        simp only [Bool.or_eq_true, beq_iff_eq] at hu
        omega
      have hq2 := Hold.mk hq2
      clear hu
      rcases hcc with rfl | rfl
      · have e1 : ((65 : Nat) : Int) = 65 := rfl
        have e2 : fieldVal x 65 = x.a := rfl
        have e3 : offOf 65 = 2 := rfl
        repeat' (first | simp only [seval, evo, beq_self_eq_true, insA, encIns, dq3, *] | simp (disch := omega) only [if_pos, if_neg] | refine zG ?_ | refine zH ?_ | refine zI rfl ?_ | refine zJ rfl ?_ | refine zL ?_ | refine zM ?_ | refine zN ?_ | refine zO ?_ | ((first | refine zP hcl ?_ | refine zQ hcl ?_); simp only [seval, evw, fm, insA, encIns, dq3, *]) | ((first | refine zA ?_ ?_ | refine zC ?_ ?_ | refine zE ?_ ?_) <;> (intro hc; try simp only [seval, nf] at hc)) | refine zR ?_ | refine zS rfl ?_)
        refine (ins_field_ok _ (by simp)).mono ?_
        rintro r' H' ⟨rfl, rfl⟩
        repeat' (first | simp only [seval, evo, beq_self_eq_true, insA, encIns, dq3, *] | simp (disch := omega) only [if_pos, if_neg] | refine zG ?_ | refine zH ?_ | refine zI rfl ?_ | refine zJ rfl ?_ | refine zL ?_ | refine zM ?_ | refine zN ?_ | refine zO ?_ | ((first | refine zP hcl ?_ | refine zQ hcl ?_); simp only [seval, evw, fm, insA, encIns, dq3, *]) | ((first | refine zA ?_ ?_ | refine zC ?_ ?_ | refine zE ?_ ?_) <;> (intro hc; try simp only [seval, nf] at hc)) | refine zR ?_ | refine zS rfl ?_)
        refine ⟨(p + 1, l ++ [x.a]), ⟨hlt, by simp only [List.length_append, List.length_cons, List.length_nil]; omega, ?_⟩, by simp only; omega, Weak.at hcl ?_⟩
        · rw [← hq2.of, e1, e2]; simp
        · simp only [seval, evw, fm, insA, encIns, dq3, *]
      · have e1 : ((66 : Nat) : Int) = 66 := rfl
        have e2 : fieldVal x 66 = x.b := rfl
        have e3 : offOf 66 = 3 := rfl
        repeat' (first | simp only [seval, evo, beq_self_eq_true, insA, encIns, dq3, *] | simp (disch := omega) only [if_pos, if_neg] | refine zG ?_ | refine zH ?_ | refine zI rfl ?_ | refine zJ rfl ?_ | refine zL ?_ | refine zM ?_ | refine zN ?_ | refine zO ?_ | ((first | refine zP hcl ?_ | refine zQ hcl ?_); simp only [seval, evw, fm, insA, encIns, dq3, *]) | ((first | refine zA ?_ ?_ | refine zC ?_ ?_ | refine zE ?_ ?_) <;> (intro hc; try simp only [seval, nf] at hc)) | refine zR ?_ | refine zS rfl ?_)
        refine (ins_field_ok _ (by simp)).mono ?_
        rintro r' H' ⟨rfl, rfl⟩
        repeat' (first | simp only [seval, evo, beq_self_eq_true, insA, encIns, dq3, *] | simp (disch := omega) only [if_pos, if_neg] | refine zG ?_ | refine zH ?_ | refine zI rfl ?_ | refine zJ rfl ?_ | refine zL ?_ | refine zM ?_ | refine zN ?_ | refine zO ?_ | ((first | refine zP hcl ?_ | refine zQ hcl ?_); simp only [seval, evw, fm, insA, encIns, dq3, *]) | ((first | refine zA ?_ ?_ | refine zC ?_ ?_ | refine zE ?_ ?_) <;> (intro hc; try simp only [seval, nf] at hc)) | refine zR ?_ | refine zS rfl ?_)
        refine ⟨(p + 1, l ++ [x.b]), ⟨hlt, by simp only [List.length_append, List.length_cons, List.length_nil]; omega, ?_⟩, by simp only; omega, Weak.at hcl ?_⟩
        · rw [← hq2.of, e1, e2]; simp
        · simp only [seval, evw, fm, insA, encIns, dq3, *]
    · rw [if_neg hu] at hq2
      have hcc : ¬ (c : Int) = 65 ∧ ¬ (c : Int) = 66 := by
        unfold isUse at hu
        simp only [Bool.or_eq_true, beq_iff_eq] at hu
        omega
      obtain ⟨h65, h66⟩ := hcc
      replace hq2 := Hold.mk hq2
      clear hu
      repeat' (first | simp only [seval, evo, beq_self_eq_true, insA, encIns, dq3, *] | simp (disch := omega) only [if_pos, if_neg] | refine zG ?_ | refine zH ?_ | refine zI rfl ?_ | refine zJ rfl ?_ | refine zL ?_ | refine zM ?_ | refine zN ?_ | refine zO ?_ | ((first | refine zP hcl ?_ | refine zQ hcl ?_); simp only [seval, evw, fm, insA, encIns, dq3, *]) | ((first | refine zA ?_ ?_ | refine zC ?_ ?_ | refine zE ?_ ?_) <;> (intro hc; try simp only [seval, nf] at hc)) | refine zR ?_ | refine zS rfl ?_)
      refine ⟨(p + 1, l), ⟨hlt, by simp only; omega, hq2.of⟩, by simp only; omega, Weak.at hcl ?_⟩
      simp only [seval, evw, fm, insA, encIns, dq3, *]
  · have hp' : p = F.length := by omega
    subst hp'
    have hx : l = usesL x := by
      have := hq.of
      simpa [letters] using this
    rw [← hx]
    unfold encInts
    repeat' (first | simp only [seval, evo, beq_self_eq_true, insA, encIns, dq3, *] | simp (disch := omega) only [if_pos, if_neg] | refine zG ?_ | refine zH ?_ | refine zI rfl ?_ | refine zJ rfl ?_ | refine zL ?_ | refine zM ?_ | refine zN ?_ | refine zO ?_ | ((first | refine zP hcl ?_ | refine zQ hcl ?_); simp only [seval, evw, fm, insA, encIns, dq3, *]) | ((first | refine zA ?_ ?_ | refine zC ?_ ?_ | refine zE ?_ ?_) <;> (intro hc; try simp only [seval, nf] at hc)) | refine zR ?_ | refine zS rfl ?_)
def usesR (x : Ins) : List Int := if (4 ≤ x.op ∧ x.op ≤ 12) ∨ x.op = 14 then [x.a, x.b] else if x.op = 13 ∨ x.op = 15 ∨ x.op = 17 ∨ x.op = 18 then [x.a] else []
def ints (l : List Int) : AV := .list (l.map encI)
theorem getD_encI {l : List Int} {j : Nat} (h : j < l.length) : (l.map encI).getD j [] = [.int .i64 (l.getD j 0)] := by
  simp [List.getD, h, encI]
theorem map_set_encI {l : List Int} {j : Nat} {v : Int} : (l.map encI).set j [.int .i64 v] = (l.set j v).map encI := by
  rw [List.map_set]; rfl
def hIn (h : List Int) (a : Int) : Bool := decide (h.length ≤ 16) && (decide (0 ≤ a) && decide (a < (h.length : Int)))
def hLoad (h : List Int) (a : Int) : Int × Int := if hIn h a then (h.getD a.toNat 0, 0) else (0, 4)
def hStore (h : List Int) (a v : Int) : List Int × Int := if hIn h a then (h.set a.toNat v, 0) else ([], 4)
def hLoadA (h : List Int) (a : Int) : AV := .tup [.int .i64 (hLoad h a).1, .int .i64 (hLoad h a).2]
def hStoreA (h : List Int) (a v : Int) : AV := .tup [ints (hStore h a v).1, .int .i64 (hStore h a v).2]
set_option linter.defProp false in
def dq4 := And.intro @sb (@encI_def)
theorem heap_Right_ok (h : List Int) : Pure Tryd.prog 60 [ints h] (.bool (decide (h.length ≤ 16))) := by
  intro H
  refine ACalls.go heap_Right.low (by simp) fun hcl => ?_
  unfold ints
  have e : decide ((h.length : Int) ≤ 16) = decide (h.length ≤ 16) := decide_eq_decide.2 (by omega)
  repeat' (first | simp only [seval, evo, beq_self_eq_true, dq4, *] | simp (disch := omega) only [if_pos, if_neg] | refine zG ?_ | refine zH ?_ | refine zI rfl ?_ | refine zJ rfl ?_ | refine zL ?_ | refine zM ?_ | refine zN ?_ | refine zO ?_ | ((first | refine zP hcl ?_ | refine zQ hcl ?_); simp only [seval, evw, fm, dq4, *]) | ((first | refine zA ?_ ?_ | refine zC ?_ ?_ | refine zE ?_ ?_) <;> (intro hc; try simp only [seval, nf] at hc)) | refine zR ?_ | refine zS rfl ?_)
instance pc_heap_Right (h : List Int) : PureC Tryd.prog 60 [.list (h.map encI)] (.bool (decide (h.length ≤ 16))) := ⟨heap_Right_ok h⟩
theorem heap_in_ok (h : List Int) (a : Int) : Pure Tryd.prog 74 [ints h, .int .i64 a] (.bool (hIn h a)) := by
  intro H
  refine ACalls.go heap_in.low (by simp) fun hcl => ?_
  unfold ints
  have hi : hIn h a = (decide (h.length ≤ 16) && (decide (0 ≤ a) && decide (a < (h.length : Int)))) := rfl
  by_cases c1 : h.length ≤ 16
  · by_cases c2 : 0 ≤ a
    · by_cases c3 : a < (h.length : Int)
      · rw [hi]
        repeat' (first | simp only [seval, evo, beq_self_eq_true, dq4, *] | simp (disch := omega) only [if_pos, if_neg] | refine zG ?_ | refine zH ?_ | refine zI rfl ?_ | refine zJ rfl ?_ | refine zL ?_ | refine zM ?_ | refine zN ?_ | refine zO ?_ | ((first | refine zP hcl ?_ | refine zQ hcl ?_); simp only [seval, evw, fm, dq4, *]) | ((first | refine zA ?_ ?_ | refine zC ?_ ?_ | refine zE ?_ ?_) <;> (intro hc; try simp only [seval, nf] at hc)) | refine zR ?_ | refine zS rfl ?_)
      · rw [hi]
        repeat' (first | simp only [seval, evo, beq_self_eq_true, dq4, *] | simp (disch := omega) only [if_pos, if_neg] | refine zG ?_ | refine zH ?_ | refine zI rfl ?_ | refine zJ rfl ?_ | refine zL ?_ | refine zM ?_ | refine zN ?_ | refine zO ?_ | ((first | refine zP hcl ?_ | refine zQ hcl ?_); simp only [seval, evw, fm, dq4, *]) | ((first | refine zA ?_ ?_ | refine zC ?_ ?_ | refine zE ?_ ?_) <;> (intro hc; try simp only [seval, nf] at hc)) | refine zR ?_ | refine zS rfl ?_)
    · rw [hi]
      repeat' (first | simp only [seval, evo, beq_self_eq_true, dq4, *] | simp (disch := omega) only [if_pos, if_neg] | refine zG ?_ | refine zH ?_ | refine zI rfl ?_ | refine zJ rfl ?_ | refine zL ?_ | refine zM ?_ | refine zN ?_ | refine zO ?_ | ((first | refine zP hcl ?_ | refine zQ hcl ?_); simp only [seval, evw, fm, dq4, *]) | ((first | refine zA ?_ ?_ | refine zC ?_ ?_ | refine zE ?_ ?_) <;> (intro hc; try simp only [seval, nf] at hc)) | refine zR ?_ | refine zS rfl ?_)
  · rw [hi]
    repeat' (first | simp only [seval, evo, beq_self_eq_true, dq4, *] | simp (disch := omega) only [if_pos, if_neg] | refine zG ?_ | refine zH ?_ | refine zI rfl ?_ | refine zJ rfl ?_ | refine zL ?_ | refine zM ?_ | refine zN ?_ | refine zO ?_ | ((first | refine zP hcl ?_ | refine zQ hcl ?_); simp only [seval, evw, fm, dq4, *]) | ((first | refine zA ?_ ?_ | refine zC ?_ ?_ | refine zE ?_ ?_) <;> (intro hc; try simp only [seval, nf] at hc)) | refine zR ?_ | refine zS rfl ?_)
theorem heap_Load_ok (h : List Int) (a : Int) : Pure Tryd.prog 68 [ints h, .int .i64 a] (hLoadA h a) := by
  intro H
  refine ACalls.go heap_Load.low (by simp) fun hcl => ?_
  have h1 := heap_in_ok h a
  unfold hLoadA hLoad ints at *
  by_cases c : hIn h a = true
  · rw [c] at h1
    rw [if_pos c]
    replace h1 := Hold.mk h1
    have c2 : 0 ≤ a ∧ a < (h.length : Int) := by simp [hIn] at c; exact ⟨c.2.1, c.2.2⟩
    obtain ⟨n, rfl⟩ := Int.eq_ofNat_of_zero_le c2.1
    have c3 : (n : Int) < (h.length : Int) := c2.2
    have hg := getD_encI (l := h) (j := n) (by omega)
    clear c2
    replace c := Hold.mk c
    repeat' (first | simp only [seval, evo, beq_self_eq_true, dq4, *] | simp (disch := omega) only [if_pos, if_neg] | refine zG ?_ | refine zH ?_ | refine zI rfl ?_ | refine zJ rfl ?_ | refine zL ?_ | refine zM ?_ | refine zN ?_ | refine zO ?_ | ((first | refine zP hcl ?_ | refine zQ hcl ?_); simp only [seval, evw, fm, dq4, *]) | ((first | refine zA ?_ ?_ | refine zC ?_ ?_ | refine zE ?_ ?_) <;> (intro hc; try simp only [seval, nf] at hc)) | refine zR ?_ | refine zS rfl ?_)
    first | refine zT (h1.of) ?_ | refine zV (h1.of) rfl ?_ | refine zU (h1.of) ?_
    repeat' (first | simp only [seval, evo, beq_self_eq_true, dq4, *] | simp (disch := omega) only [if_pos, if_neg] | refine zG ?_ | refine zH ?_ | refine zI rfl ?_ | refine zJ rfl ?_ | refine zL ?_ | refine zM ?_ | refine zN ?_ | refine zO ?_ | ((first | refine zP hcl ?_ | refine zQ hcl ?_); simp only [seval, evw, fm, dq4, *]) | ((first | refine zA ?_ ?_ | refine zC ?_ ?_ | refine zE ?_ ?_) <;> (intro hc; try simp only [seval, nf] at hc)) | refine zR ?_ | refine zS rfl ?_)
  · have c2 : hIn h a = false := by simpa using c
    rw [c2] at h1
    rw [if_neg c]
    replace h1 := Hold.mk h1
    repeat' (first | simp only [seval, evo, beq_self_eq_true, dq4, *] | simp (disch := omega) only [if_pos, if_neg] | refine zG ?_ | refine zH ?_ | refine zI rfl ?_ | refine zJ rfl ?_ | refine zL ?_ | refine zM ?_ | refine zN ?_ | refine zO ?_ | ((first | refine zP hcl ?_ | refine zQ hcl ?_); simp only [seval, evw, fm, dq4, *]) | ((first | refine zA ?_ ?_ | refine zC ?_ ?_ | refine zE ?_ ?_) <;> (intro hc; try simp only [seval, nf] at hc)) | refine zR ?_ | refine zS rfl ?_)
    first | refine zT (h1.of) ?_ | refine zV (h1.of) rfl ?_ | refine zU (h1.of) ?_
    repeat' (first | simp only [seval, evo, beq_self_eq_true, dq4, *] | simp (disch := omega) only [if_pos, if_neg] | refine zG ?_ | refine zH ?_ | refine zI rfl ?_ | refine zJ rfl ?_ | refine zL ?_ | refine zM ?_ | refine zN ?_ | refine zO ?_ | ((first | refine zP hcl ?_ | refine zQ hcl ?_); simp only [seval, evw, fm, dq4, *]) | ((first | refine zA ?_ ?_ | refine zC ?_ ?_ | refine zE ?_ ?_) <;> (intro hc; try simp only [seval, nf] at hc)) | refine zR ?_ | refine zS rfl ?_)
theorem heap_Store_ok (h : List Int) (a v : Int) : Pure Tryd.prog 69 [ints h, .int .i64 a, .int .i64 v] (hStoreA h a v) := by
  intro H
  refine ACalls.go heap_Store.low (by simp) fun hcl => ?_
  have h1 := heap_in_ok h a
  unfold hStoreA hStore ints at *
  by_cases c : hIn h a = true
  · rw [c] at h1
    rw [if_pos c]
    replace h1 := Hold.mk h1
    have c2 : h.length ≤ 16 ∧ 0 ≤ a ∧ a < (h.length : Int) := by simp [hIn] at c; exact c
    obtain ⟨n, rfl⟩ := Int.eq_ofNat_of_zero_le c2.2.1
    have c3 : (n : Int) < (h.length : Int) := c2.2.2
    have c4 : n < h.length := by omega
    have c5 : (8 : Int) * (h.length : Int) ≤ 140737488355328 := by omega
    have c6 : (h.length : Int) ≤ 9223372036854775807 := by omega
    have rk : rowsOk 1 (h.map encI) = true := rk_map fun x _ => ⟨rfl, rfl⟩
    have ms := map_set_encI (l := h) (j := n) (v := v)
    have hcp : List.take (min h.length h.length) (h.map encI) ++ List.drop (min h.length h.length) (List.replicate h.length [AV.int .i64 0]) = h.map encI := by simp [List.take_of_length_le]
    have hrep : (List.replicate h.length [AV.int .i64 0]).length = h.length := by simp
    have hsl : (h.set n v).length = h.length := by simp
    have tkk : List.take h.length (List.map encI (h.set n v)) = List.map encI (h.set n v) := List.take_of_length_le (by simp)
    have l1 : (List.take (min h.length h.length) (h.map encI)).length = h.length := by simp
    have l2 : (List.drop (min h.length h.length) (List.replicate h.length [AV.int .i64 0])).length = 0 := by simp
    have hgn : (h.map encI)[n]? = some [AV.int .i64 (h.getD n 0)] := by simp [encI, c4]
    clear c2
    replace c := Hold.mk c
    repeat' (first | simp only [seval, evo, beq_self_eq_true, dq4, *] | simp (disch := omega) only [if_pos, if_neg] | refine zG ?_ | refine zH ?_ | refine zI rfl ?_ | refine zJ rfl ?_ | refine zL ?_ | refine zM ?_ | refine zN ?_ | refine zO ?_ | ((first | refine zP hcl ?_ | refine zQ hcl ?_); simp only [seval, evw, fm, dq4, *]) | ((first | refine zA ?_ ?_ | refine zC ?_ ?_ | refine zE ?_ ?_) <;> (intro hc; try simp only [seval, nf] at hc)) | refine zR ?_ | refine zS rfl ?_)
    first | refine zT (h1.of) ?_ | refine zV (h1.of) rfl ?_ | refine zU (h1.of) ?_
    repeat' (first | simp only [seval, evo, beq_self_eq_true, dq4, *] | simp (disch := omega) only [if_pos, if_neg] | refine zG ?_ | refine zH ?_ | refine zI rfl ?_ | refine zJ rfl ?_ | refine zL ?_ | refine zM ?_ | refine zN ?_ | refine zO ?_ | ((first | refine zP hcl ?_ | refine zQ hcl ?_); simp only [seval, evw, fm, dq4, *]) | ((first | refine zA ?_ ?_ | refine zC ?_ ?_ | refine zE ?_ ?_) <;> (intro hc; try simp only [seval, nf] at hc)) | refine zR ?_ | refine zS rfl ?_)
  · have c2 : hIn h a = false := by simpa using c
    rw [c2] at h1
    rw [if_neg c]
    replace h1 := Hold.mk h1
    repeat' (first | simp only [seval, evo, beq_self_eq_true, dq4, *] | simp (disch := omega) only [if_pos, if_neg] | refine zG ?_ | refine zH ?_ | refine zI rfl ?_ | refine zJ rfl ?_ | refine zL ?_ | refine zM ?_ | refine zN ?_ | refine zO ?_ | ((first | refine zP hcl ?_ | refine zQ hcl ?_); simp only [seval, evw, fm, dq4, *]) | ((first | refine zA ?_ ?_ | refine zC ?_ ?_ | refine zE ?_ ?_) <;> (intro hc; try simp only [seval, nf] at hc)) | refine zR ?_ | refine zS rfl ?_)
    first | refine zT (h1.of) ?_ | refine zV (h1.of) rfl ?_ | refine zU (h1.of) ?_
    repeat' (first | simp only [seval, evo, beq_self_eq_true, dq4, *] | simp (disch := omega) only [if_pos, if_neg] | refine zG ?_ | refine zH ?_ | refine zI rfl ?_ | refine zJ rfl ?_ | refine zL ?_ | refine zM ?_ | refine zN ?_ | refine zO ?_ | ((first | refine zP hcl ?_ | refine zQ hcl ?_); simp only [seval, evw, fm, dq4, *]) | ((first | refine zA ?_ ?_ | refine zC ?_ ?_ | refine zE ?_ ?_) <;> (intro hc; try simp only [seval, nf] at hc)) | refine zR ?_ | refine zS rfl ?_)
theorem ref06_Same_ok (a b : List Int) (hl : a.length ≤ 9223372036854775806) : Pure Tryd.prog 26 [ints a, ints b] (.bool (decide (a = b))) := by
  intro H
  refine ACalls.go joineryref06_Same.low (by simp) fun hcl => ?_
  unfold ints
  generalize hB : decide (a = b) = B
  replace hB := Hold.mk hB
  repeat' (first | simp only [seval, evo, beq_self_eq_true, dq4, *] | simp (disch := omega) only [if_pos, if_neg] | refine zG ?_ | refine zH ?_ | refine zI rfl ?_ | refine zJ rfl ?_ | refine zL ?_ | refine zM ?_ | refine zN ?_ | refine zO ?_ | ((first | refine zP hcl ?_ | refine zQ hcl ?_); simp only [seval, evw, fm, dq4, *]) | ((first | refine zA ?_ ?_ | refine zC ?_ ?_ | refine zE ?_ ?_) <;> (intro hc; try simp only [seval, nf] at hc)) | refine zR ?_ | refine zS rfl ?_)
  refine R.loop (S := Nat) ⟨fun i => [(0, .list (a.map encI)), (1, .list (b.map encI)), (5, .int .i64 (i : Int))], fun i => H ++ [], fun i => i ≤ a.length ∧ i ≤ b.length ∧ decide (a.drop i = b.drop i) = B, fun i => a.length - i⟩ 0 ⟨Nat.zero_le _, Nat.zero_le _, hB.of⟩ (Weak.at hcl ?_) ?_
  · simp only [seval, evw, fm, dq4, *]
  rintro i ⟨hi, hi2, hq⟩
  simp only at hi hi2 hq ⊢
  by_cases hlt : i < a.length
  · have e1 : (i : Int) < (a.length : Int) := by omega
    by_cases hlt2 : i < b.length
    · have hg := getD_encI hlt
      have hg2 := getD_encI hlt2
      have e2 : (i : Int) < (b.length : Int) := by omega
      have e4 : IntKind.i64.wrap ((i : Int) + 1) = ((i + 1 : Nat) : Int) := by rw [IntKind.wrap_i64]; omega
      have d1 : a.drop i = a.getD i 0 :: a.drop (i + 1) := by
        rw [List.drop_eq_getElem_cons hlt]
        simp [List.getD, hlt]
      have d2 : b.drop i = b.getD i 0 :: b.drop (i + 1) := by
        rw [List.drop_eq_getElem_cons hlt2]
        simp [List.getD, hlt2]
      rw [d1, d2] at hq
      clear d1 d2
      generalize a.getD i 0 = x at *
      generalize b.getD i 0 = y at *
      by_cases hxy : x = y
      · subst hxy
        have hq2 : decide (a.drop (i + 1) = b.drop (i + 1)) = B := by simpa using hq
        clear hq
        replace hq2 := Hold.mk hq2
        repeat' (first | simp only [seval, evo, beq_self_eq_true, dq4, *] | simp (disch := omega) only [if_pos, if_neg] | refine zG ?_ | refine zH ?_ | refine zI rfl ?_ | refine zJ rfl ?_ | refine zL ?_ | refine zM ?_ | refine zN ?_ | refine zO ?_ | ((first | refine zP hcl ?_ | refine zQ hcl ?_); simp only [seval, evw, fm, dq4, *]) | ((first | refine zA ?_ ?_ | refine zC ?_ ?_ | refine zE ?_ ?_) <;> (intro hc; try simp only [seval, nf] at hc)) | refine zR ?_ | refine zS rfl ?_)
        refine ⟨i + 1, ⟨hlt, hlt2, hq2.of⟩, by simp only; omega, Weak.at hcl ?_⟩
        simp only [seval, evw, fm, dq4, *]
      · have hBf : B = false := by rw [← hq]; simp [hxy]
        subst hBf
        replace hq := Hold.mk hq
        repeat' (first | simp only [seval, evo, beq_self_eq_true, dq4, *] | simp (disch := omega) only [if_pos, if_neg] | refine zG ?_ | refine zH ?_ | refine zI rfl ?_ | refine zJ rfl ?_ | refine zL ?_ | refine zM ?_ | refine zN ?_ | refine zO ?_ | ((first | refine zP hcl ?_ | refine zQ hcl ?_); simp only [seval, evw, fm, dq4, *]) | ((first | refine zA ?_ ?_ | refine zC ?_ ?_ | refine zE ?_ ?_) <;> (intro hc; try simp only [seval, nf] at hc)) | refine zR ?_ | refine zS rfl ?_)
    · have e2 : ¬ (i : Int) < (b.length : Int) := by omega
      have e3 : ¬ (a.length : Int) = (b.length : Int) := by omega
      have hBf : B = false := by
        rw [← hB.of, decide_eq_false_iff_not]
        rintro rfl
        exact e3 rfl
      subst hBf
      replace hq := Hold.mk hq
      repeat' (first | simp only [seval, evo, beq_self_eq_true, dq4, *] | simp (disch := omega) only [if_pos, if_neg] | refine zG ?_ | refine zH ?_ | refine zI rfl ?_ | refine zJ rfl ?_ | refine zL ?_ | refine zM ?_ | refine zN ?_ | refine zO ?_ | ((first | refine zP hcl ?_ | refine zQ hcl ?_); simp only [seval, evw, fm, dq4, *]) | ((first | refine zA ?_ ?_ | refine zC ?_ ?_ | refine zE ?_ ?_) <;> (intro hc; try simp only [seval, nf] at hc)) | refine zR ?_ | refine zS rfl ?_)
  · have e1 : ¬ (i : Int) < (a.length : Int) := by omega
    have hBe : decide ((a.length : Int) = (b.length : Int)) = B := by
      have hia : i = a.length := by omega
      rw [← hq, hia, List.drop_length]
      rw [Bool.eq_iff_iff]
      simp
      constructor
      · intro h; omega
      · intro h; omega
    replace hq := Hold.mk hq
    repeat' (first | simp only [seval, evo, beq_self_eq_true, dq4, *] | simp (disch := omega) only [if_pos, if_neg] | refine zG ?_ | refine zH ?_ | refine zI rfl ?_ | refine zJ rfl ?_ | refine zL ?_ | refine zM ?_ | refine zN ?_ | refine zO ?_ | ((first | refine zP hcl ?_ | refine zQ hcl ?_); simp only [seval, evw, fm, dq4, *]) | ((first | refine zA ?_ ?_ | refine zC ?_ ?_ | refine zE ?_ ?_) <;> (intro hc; try simp only [seval, nf] at hc)) | refine zR ?_ | refine zS rfl ?_)
theorem op_cases {op : Int} (h : opOk op = true) : op = 1 ∨ op = 2 ∨ op = 3 ∨ op = 4 ∨ op = 5 ∨ op = 6 ∨ op = 7 ∨ op = 8 ∨ op = 9 ∨ op = 10 ∨ op = 11 ∨ op = 12 ∨ op = 13 ∨ op = 14 ∨ op = 15 ∨ op = 16 ∨ op = 17 ∨ op = 18 := by
  simp [opOk] at h; omega
def sel (b : Bool) (v : Int) : Int := if b then v else 0
def keepN (op : Int) : Bool := decide (op = 1 ∨ op = 15)
def keepTo (op : Int) : Bool := decide (op = 16 ∨ op = 17)
def keepD (op : Int) : Bool := decide (op ≤ 13 ∨ op = 15)
def keepA (op : Int) : Bool := decide (op ≠ 1 ∧ op ≠ 16)
def keepB (op : Int) : Bool := decide ((4 ≤ op ∧ op ≤ 12) ∨ op = 14)
def onlyR (x : Ins) : Ins := ⟨x.op, sel (keepD x.op) x.d, sel (keepA x.op) x.a, sel (keepB x.op) x.b, sel (keepN x.op) x.n, sel (keepTo x.op) x.to⟩
theorem ref03_only_ok (x : Ins) : Pure Tryd.prog 50 [insA x] (insA (onlyR x)) := by
  intro H
  refine ACalls.go joineryref03_only.low (by simp) fun hcl => ?_
  rw [insA_eq]
  have ho : onlyR x = ⟨x.op, sel (keepD x.op) x.d, sel (keepA x.op) x.a, sel (keepB x.op) x.b, sel (keepN x.op) x.n, sel (keepTo x.op) x.to⟩ := rfl
  rw [ho]
  clear ho
  (refine zG ?_; refine zH ?_; repeat' (first | simp only [seval, evo, beq_self_eq_true, insA, encIns, dq2, *] | simp (disch := omega) only [if_pos, if_neg]))
  (refine zG ?_; refine zH ?_; repeat' (first | simp only [seval, evo, beq_self_eq_true, insA, encIns, dq2, *] | simp (disch := omega) only [if_pos, if_neg]))
  refine R.cut [(1, .ptr H.length 1 0 0), (3, .ptr (H.length + 2) 1 0 0), (2, .ptr (H.length + 1) 1 0 0)] (H ++ [.vec 6 [encIns x], .vec 6 [encIns ⟨0, 0, 0, 0, 0, 0⟩], .vec 6 [encIns ⟨x.op, 0, 0, 0, sel (keepN x.op) x.n, 0⟩]]) ?_ ?_
  · repeat' (first | simp only [seval, evo, beq_self_eq_true, insA, encIns, dq2, *] | simp (disch := omega) only [if_pos, if_neg] | refine zG ?_ | refine zH ?_ | refine zI rfl ?_ | refine zJ rfl ?_ | refine zL ?_ | refine zM ?_ | refine zN ?_ | refine zO ?_ | ((first | refine zP hcl ?_ | refine zQ hcl ?_); simp only [seval, evw, fm, insA, encIns, dq2, *]) | ((first | refine zA ?_ ?_ | refine zC ?_ ?_ | refine zE ?_ ?_) <;> (intro hc; try simp only [seval, nf] at hc)) | refine zR ?_ | refine zS rfl ?_)
    all_goals (simp [sel, keepN, keepTo, keepD, keepA, keepB, *] <;> omega)
  refine R.cut [(1, .ptr H.length 1 0 0), (3, .ptr (H.length + 2) 1 0 0), (2, .ptr (H.length + 1) 1 0 0)] (H ++ [.vec 6 [encIns x], .vec 6 [encIns ⟨0, 0, 0, 0, 0, 0⟩], .vec 6 [encIns ⟨x.op, 0, 0, 0, sel (keepN x.op) x.n, sel (keepTo x.op) x.to⟩]]) ?_ ?_
  · repeat' (first | simp only [seval, evo, beq_self_eq_true, insA, encIns, dq2, *] | simp (disch := omega) only [if_pos, if_neg] | refine zG ?_ | refine zH ?_ | refine zI rfl ?_ | refine zJ rfl ?_ | refine zL ?_ | refine zM ?_ | refine zN ?_ | refine zO ?_ | ((first | refine zP hcl ?_ | refine zQ hcl ?_); simp only [seval, evw, fm, insA, encIns, dq2, *]) | ((first | refine zA ?_ ?_ | refine zC ?_ ?_ | refine zE ?_ ?_) <;> (intro hc; try simp only [seval, nf] at hc)) | refine zR ?_ | refine zS rfl ?_)
    all_goals (simp [sel, keepN, keepTo, keepD, keepA, keepB, *] <;> omega)
  refine R.cut [(1, .ptr H.length 1 0 0), (3, .ptr (H.length + 2) 1 0 0), (2, .ptr (H.length + 1) 1 0 0)] (H ++ [.vec 6 [encIns x], .vec 6 [encIns ⟨0, 0, 0, 0, 0, 0⟩], .vec 6 [encIns ⟨x.op, sel (keepD x.op) x.d, 0, 0, sel (keepN x.op) x.n, sel (keepTo x.op) x.to⟩]]) ?_ ?_
  · repeat' (first | simp only [seval, evo, beq_self_eq_true, insA, encIns, dq2, *] | simp (disch := omega) only [if_pos, if_neg] | refine zG ?_ | refine zH ?_ | refine zI rfl ?_ | refine zJ rfl ?_ | refine zL ?_ | refine zM ?_ | refine zN ?_ | refine zO ?_ | ((first | refine zP hcl ?_ | refine zQ hcl ?_); simp only [seval, evw, fm, insA, encIns, dq2, *]) | ((first | refine zA ?_ ?_ | refine zC ?_ ?_ | refine zE ?_ ?_) <;> (intro hc; try simp only [seval, nf] at hc)) | refine zR ?_ | refine zS rfl ?_)
    all_goals (simp [sel, keepN, keepTo, keepD, keepA, keepB, *] <;> omega)
  refine R.cut [(1, .ptr H.length 1 0 0), (3, .ptr (H.length + 2) 1 0 0), (2, .ptr (H.length + 1) 1 0 0)] (H ++ [.vec 6 [encIns x], .vec 6 [encIns ⟨0, 0, 0, 0, 0, 0⟩], .vec 6 [encIns ⟨x.op, sel (keepD x.op) x.d, sel (keepA x.op) x.a, 0, sel (keepN x.op) x.n, sel (keepTo x.op) x.to⟩]]) ?_ ?_
  · repeat' (first | simp only [seval, evo, beq_self_eq_true, insA, encIns, dq2, *] | simp (disch := omega) only [if_pos, if_neg] | refine zG ?_ | refine zH ?_ | refine zI rfl ?_ | refine zJ rfl ?_ | refine zL ?_ | refine zM ?_ | refine zN ?_ | refine zO ?_ | ((first | refine zP hcl ?_ | refine zQ hcl ?_); simp only [seval, evw, fm, insA, encIns, dq2, *]) | ((first | refine zA ?_ ?_ | refine zC ?_ ?_ | refine zE ?_ ?_) <;> (intro hc; try simp only [seval, nf] at hc)) | refine zR ?_ | refine zS rfl ?_)
    all_goals (simp [sel, keepN, keepTo, keepD, keepA, keepB, *] <;> omega)
  refine R.cut [(1, .ptr H.length 1 0 0), (3, .ptr (H.length + 2) 1 0 0), (2, .ptr (H.length + 1) 1 0 0)] (H ++ [.vec 6 [encIns x], .vec 6 [encIns ⟨0, 0, 0, 0, 0, 0⟩], .vec 6 [encIns ⟨x.op, sel (keepD x.op) x.d, sel (keepA x.op) x.a, sel (keepB x.op) x.b, sel (keepN x.op) x.n, sel (keepTo x.op) x.to⟩]]) ?_ ?_
  · repeat' (first | simp only [seval, evo, beq_self_eq_true, insA, encIns, dq2, *] | simp (disch := omega) only [if_pos, if_neg] | refine zG ?_ | refine zH ?_ | refine zI rfl ?_ | refine zJ rfl ?_ | refine zL ?_ | refine zM ?_ | refine zN ?_ | refine zO ?_ | ((first | refine zP hcl ?_ | refine zQ hcl ?_); simp only [seval, evw, fm, insA, encIns, dq2, *]) | ((first | refine zA ?_ ?_ | refine zC ?_ ?_ | refine zE ?_ ?_) <;> (intro hc; try simp only [seval, nf] at hc)) | refine zR ?_ | refine zS rfl ?_)
    all_goals (simp [sel, keepN, keepTo, keepD, keepA, keepB, *] <;> omega)
  repeat' (first | simp only [seval, evo, beq_self_eq_true, insA, encIns, dq2, *] | simp (disch := omega) only [if_pos, if_neg] | refine zG ?_ | refine zH ?_ | refine zI rfl ?_ | refine zJ rfl ?_ | refine zL ?_ | refine zM ?_ | refine zN ?_ | refine zO ?_ | ((first | refine zP hcl ?_ | refine zQ hcl ?_); simp only [seval, evw, fm, insA, encIns, dq2, *]) | ((first | refine zA ?_ ?_ | refine zC ?_ ?_ | refine zE ?_ ?_) <;> (intro hc; try simp only [seval, nf] at hc)) | refine zR ?_ | refine zS rfl ?_)
instance pc_ref03_only (op d a b n to : Int) : PureC Tryd.prog 50 [.agg [.int .i64 op, .int .i64 d, .int .i64 a, .int .i64 b, .int .i64 n, .int .i64 to]] (insA (onlyR ⟨op, d, a, b, n, to⟩)) := ⟨ref03_only_ok ⟨op, d, a, b, n, to⟩⟩
def badFormR (x : Ins) : Bool := (decide (x.op < 1) || decide (18 < x.op)) || (onlyR x != x || (x.op == 15 && (decide (x.n < 0) || decide (99 < x.n))))
def badPlaceR (x : Ins) : Bool := if x.op ≤ 3 then !(inR 24 x.d && inR 24 x.a) else !(inR 8 x.d && (inR 8 x.a && inR 8 x.b))
def chkR (x : Ins) (n : Int) : Int := if badFormR x then 1 else if badPlaceR x then 6 else if (x.op == 16 || x.op == 17) && farOff x n then 4 else 0
theorem form_same (x : Ins) : badForm x = badFormR x := by
  obtain ⟨op, d, a, b, n, to⟩ := x
  cases hok : opOk op
  · have h : ¬ (1 ≤ op ∧ op ≤ 18) := by simpa [opOk] using hok
    unfold badForm badFormR
    simp only [hok, Bool.not_false, Bool.true_or]
    symm
    rw [Bool.or_eq_true]
    left
    simp
    omega
  · rw [Bool.eq_iff_iff]
    rcases op_cases hok with rfl | rfl | rfl | rfl | rfl | rfl | rfl | rfl | rfl | rfl | rfl | rfl | rfl | rfl | rfl | rfl | rfl | rfl
    all_goals simp [badForm, badFormR, opOk, restOf, letters, fieldL, shapeOf, shapeTbl, zeroAt, noIns, onlyR, sel, keepN, keepTo, keepD, keepA, keepB]
    all_goals omega
theorem place_same (x : Ins) (h : badForm x = false) : (letters (fieldL x.op)).any (badPlace x) = badPlaceR x := by
  have hok : opOk x.op = true := by
    unfold badForm at h
    simp only [Bool.or_eq_false_iff] at h
    simpa using h.1.1
  obtain ⟨op, d, a, b, n, to⟩ := x
  simp only at hok ⊢
  rw [Bool.eq_iff_iff]
  rcases op_cases hok with rfl | rfl | rfl | rfl | rfl | rfl | rfl | rfl | rfl | rfl | rfl | rfl | rfl | rfl | rfl | rfl | rfl | rfl
  all_goals simp [badForm, opOk, restOf, letters, fieldL, shapeOf, shapeTbl, zeroAt, noIns] at h
  all_goals simp [letters, fieldL, shapeOf, shapeTbl, badPlace, badPlaceR, inR, fieldVal]
  all_goals omega
theorem to_same (op : Int) (hok : opOk op = true) : (letters (fieldL op)).contains 84 = (op == 16 || op == 17) := by
  rcases op_cases hok with rfl | rfl | rfl | rfl | rfl | rfl | rfl | rfl | rfl | rfl | rfl | rfl | rfl | rfl | rfl | rfl | rfl | rfl <;> rfl
theorem chk_same (x : Ins) (n : Int) : chk x n = chkR x n := by
  unfold chk chkR
  rw [← form_same]
  cases hb : badForm x
  · have hok : opOk x.op = true := by
      unfold badForm at hb
      simp only [Bool.or_eq_false_iff] at hb
      simpa using hb.1.1
    rw [place_same x hb, to_same _ hok]
  · rfl
theorem ref03_Check_ok (x : Ins) (n : Int) : Pure Tryd.prog 38 [insA x, .int .i64 n] (.int .i64 (chk x n)) := by
  rw [chk_same]
  intro H
  refine ACalls.go joineryref03_Check.low (by simp) fun hcl => ?_
  rw [insA_eq]
  (refine zG ?_; refine zH ?_; repeat' (first | simp only [seval, evo, beq_self_eq_true, insA, encIns, dq2, *] | simp (disch := omega) only [if_pos, if_neg]))
  refine R.seq (R.cut [(1, .int .i64 n), (2, .ptr H.length 1 0 0), (33, .bool (badFormR x))] (H ++ [.vec 6 [encIns x]]) ?_ ?_)
  · repeat' (first | simp only [seval, evo, beq_self_eq_true, insA, encIns, dq2, *] | simp (disch := omega) only [if_pos, if_neg] | refine zG ?_ | refine zH ?_ | refine zI rfl ?_ | refine zJ rfl ?_ | refine zL ?_ | refine zM ?_ | refine zN ?_ | refine zO ?_ | ((first | refine zP hcl ?_ | refine zQ hcl ?_); simp only [seval, evw, fm, insA, encIns, dq2, *]) | ((first | refine zA ?_ ?_ | refine zC ?_ ?_ | refine zE ?_ ?_) <;> (intro hc; try simp only [seval, nf] at hc)) | refine zR ?_ | refine zS rfl ?_)
    all_goals (simp [badFormR, *] <;> omega)
  repeat' (first | simp only [seval, evo, beq_self_eq_true, insA, encIns, dq2, *] | simp (disch := omega) only [if_pos, if_neg] | refine zG ?_ | refine zH ?_ | refine zI rfl ?_ | refine zJ rfl ?_ | refine zL ?_ | refine zM ?_ | refine zN ?_ | refine zO ?_ | ((first | refine zP hcl ?_ | refine zQ hcl ?_); simp only [seval, evw, fm, insA, encIns, dq2, *]) | ((first | refine zA ?_ ?_ | refine zC ?_ ?_ | refine zE ?_ ?_) <;> (intro hc; try simp only [seval, nf] at hc)) | refine zR ?_ | refine zS rfl ?_)
  all_goals (simp [chkR, badPlaceR, farOff, *] <;> omega)
def dig (n : Nat) : UInt8 := UInt8.ofNat (48 + n % 10)
def decF : Nat → Nat → List UInt8
  | 0, _ => []
  | k + 1, n => if n < 10 then [dig n] else decF k (n / 10) ++ [dig n]
def decB (n : Nat) : List UInt8 := decF 20 n
def numText (n : Int) : List UInt8 := if n < 0 then 45 :: decB n.natAbs else decB n.natAbs
theorem decF_more : ∀ (k n : Nat), n < 10 ^ (k + 1) → decF (k + 2) n = decF (k + 1) n
  | 0, n, h => by simp at h; simp [decF, h]
  | k + 1, n, h => by
    show (if n < 10 then [dig n] else decF (k + 2) (n / 10) ++ [dig n]) = (if n < 10 then [dig n] else decF (k + 1) (n / 10) ++ [dig n])
    rw [decF_more k (n / 10) (by rw [Nat.pow_succ] at h; omega)]
theorem decB_step {n : Nat} (h : n < 10 ^ 20) : decB n = if n < 10 then [dig n] else decB (n / 10) ++ [dig n] := by
  show decF 20 n = _
  rw [decF]
  split
  · rfl
  · show decF 19 (n / 10) ++ _ = decF 20 (n / 10) ++ _
    rw [decF_more 18 (n / 10) (by omega)]
theorem decF_len : ∀ (k n : Nat), (decF k n).length ≤ k
  | 0, n => by simp [decF]
  | k + 1, n => by
    rw [decF]
    split
    · simp
    · have := decF_len k (n / 10)
      simp; omega
theorem decB_pos {n : Nat} (h : n < 10 ^ 20) : 1 ≤ (decB n).length := by
  rw [decB_step h]
  split <;> simp
theorem dig_toNat (n : Nat) : (dig n).toNat = 48 + n % 10 := by
  unfold dig
  rw [UInt8.toNat_ofNat']
  omega
def locText (l : Int) : List UInt8 := if l < 8 then 114 :: numText l else 115 :: numText (l - 8)
theorem decB_small {n : Nat} (h : n < 100) : decB n = if n < 10 then [dig n] else [dig (n / 10), dig n] := by
  rw [decB_step (by omega)]
  split
  · rfl
  · rw [decB_step (by omega), if_pos (by omega)]
    rfl
end Go.Proofs.YtnbdpjhmepgoaaaDoor
namespace Go.Proofs.YtnbdpjhmepgoaaaDoor
set_option linter.unusedVariables false
set_option linter.unusedSimpArgs false
def isDig (c : UInt8) : Bool := decide (48 ≤ c.toNat) && decide (c.toNat ≤ 57)
def dv (c : UInt8) : Nat := c.toNat - 48
def valA : List UInt8 → Nat → Nat
  | [], a => a
  | c :: r, a => valA r (a * 10 + dv c)
def valD (l : List UInt8) : Nat := valA l 0
theorem valA_app : ∀ (l m : List UInt8) (a : Nat), valA (l ++ m) a = valA m (valA l a)
  | [], m, a => rfl
  | c :: r, m, a => valA_app r m _
theorem valD_snoc (l : List UInt8) (c : UInt8) : valD (l ++ [c]) = valD l * 10 + dv c := valA_app l [c] 0
theorem valD_lt : ∀ (n : Nat) (l : List UInt8), l.length = n → l.all isDig = true → valD l < 10 ^ n
  | 0, l, h, _ => by have := List.eq_nil_of_length_eq_zero h; subst this; simp [valD, valA]
  | n + 1, l, h, hd => by
    rcases List.eq_nil_or_concat l with rfl | ⟨l', c, rfl⟩
    · simp at h
    · rw [List.concat_eq_append] at *
      simp only [List.length_append, List.length_cons, List.length_nil, Nat.zero_add, Nat.add_right_cancel_iff] at h
      simp only [List.all_append, List.all_cons, List.all_nil, Bool.and_true, Bool.and_eq_true] at hd
      have := valD_lt n l' h hd.1
      rw [valD_snoc, Nat.pow_succ]
      have : dv c ≤ 9 := by have := hd.2; simp [isDig] at this; unfold dv; omega
      omega
theorem dig_isDig (n : Nat) : isDig (dig n) = true := by simp [isDig, dig_toNat]; omega
theorem dv_dig (n : Nat) : dv (dig n) = n % 10 := by unfold dv; rw [dig_toNat]; omega
theorem dig_dv {c : UInt8} (h : isDig c = true) (n : Nat) : dig (n * 10 + dv c) = c := by
  apply UInt8.toNat_inj.1
  rw [dig_toNat]
  simp [isDig] at h
  unfold dv
  omega
theorem decB_all : ∀ (k n : Nat), (decF k n).all isDig = true
  | 0, n => rfl
  | k + 1, n => by
    rw [decF]
    split
    · simp [dig_isDig]
    · simp [decB_all k, dig_isDig]
theorem valD_decB : ∀ (n : Nat), n < 10 ^ 20 → valD (decB n) = n := by
  intro n
  induction n using Nat.strongRecOn with
  | ind n ih =>
  intro h
  rw [decB_step h]
  split
  · rename_i h'
    simp only [valD, valA, dv_dig]; omega
  · rw [valD_snoc, ih (n / 10) (by omega) (by omega), dv_dig]; omega
def lead (l : List UInt8) : Bool := match l with
  | [] => false
  | [c] => true
  | c :: _ => c != 48
theorem decB_lead : ∀ (n : Nat), n < 10 ^ 20 → lead (decB n) = true ∧ (1 ≤ n → (decB n).headD 0 ≠ 48) := by
  intro n
  induction n using Nat.strongRecOn with
  | ind n ih =>
  intro h
  rw [decB_step h]
  split
  · rename_i h'
    refine ⟨rfl, fun h1 e => ?_⟩
    simp only [List.headD_cons] at e
    have := congrArg UInt8.toNat e
    rw [dig_toNat] at this
    have e48 : (48 : UInt8).toNat = 48 := rfl
    rw [e48] at this
    omega
  · rename_i h'
    obtain ⟨h1, h2⟩ := ih (n / 10) (by omega) (by omega)
    have h2 := h2 (by omega)
    have hp := decB_pos (n := n / 10) (by omega)
    cases hd : decB (n / 10) with
    | nil => rw [hd] at hp; simp at hp
    | cons c r =>
      rw [hd] at h2
      simp only [List.headD_cons] at h2
      cases r with
      | nil => simp [lead, h2]
      | cons d r => simp [lead, h2]
theorem decB_val : ∀ (n : Nat) (l : List UInt8), l.length = n → n ≤ 20 → l.all isDig = true → lead l = true → decB (valD l) = l
  | 0, l, h, _, _, hl => by have := List.eq_nil_of_length_eq_zero h; subst this; simp [lead] at hl
  | n + 1, l, h, hn, hd, hl => by
    have hlt := valD_lt (n + 1) l h hd
    have hlt20 : valD l < 10 ^ 20 := Nat.lt_of_lt_of_le hlt (Nat.pow_le_pow_right (by omega) hn)
    rcases List.eq_nil_or_concat l with rfl | ⟨l', c, rfl⟩
    · simp at h
    · rw [List.concat_eq_append] at *
      simp only [List.length_append, List.length_cons, List.length_nil, Nat.zero_add, Nat.add_right_cancel_iff] at h
      simp only [List.all_append, List.all_cons, List.all_nil, Bool.and_true, Bool.and_eq_true] at hd
      have hc : dv c ≤ 9 := by have := hd.2; simp [isDig] at this; unfold dv; omega
      rw [decB_step hlt20, valD_snoc]
      cases l' with
      | nil =>
        have : valD [] = 0 := rfl
        rw [this, if_pos (by omega), dig_dv hd.2]
        rfl
      | cons d r =>
        have hl2 : d ≠ 48 := by
          simpa [lead] using hl
        have hl' : lead (d :: r) = true := by
          cases r with
          | nil => rfl
          | cons e r => simpa [lead] using hl2
        have ih := decB_val n (d :: r) h (by omega) hd.1 hl'
        have hv : 1 ≤ valD (d :: r) := by
          rcases Nat.eq_zero_or_pos (valD (d :: r)) with e | e
          · rw [e] at ih
            have : decB 0 = [48] := rfl
            rw [this] at ih
            simp at ih
            exact absurd ih.1.symm hl2
          · exact e
        rw [if_neg (by omega), dig_dv hd.2]
        have : (valD (d :: r) * 10 + dv c) / 10 = valD (d :: r) := by omega
        rw [this, ih]
def numOf (s : List UInt8) : Option Int :=
  if s.head? = some 45 then
    if s.tail.all isDig && decide (decB (valD s.tail) = s.tail) && decide (1 ≤ valD s.tail) && decide (valD s.tail ≤ 9223372036854775808) then some (-(valD s.tail : Int)) else none
  else if s.all isDig && decide (decB (valD s) = s) && decide (valD s ≤ 9223372036854775807) then some (valD s : Int) else none
theorem numOf_iff {s : List UInt8} {n : Int} : numOf s = some n ↔ in64 n ∧ numText n = s := by
  constructor
  · intro h
    unfold numOf at h
    split at h
    · rename_i h45
      split at h
      · rename_i hc
        simp only [Bool.and_eq_true, decide_eq_true_eq] at hc
        simp only [Option.some.injEq] at h
        cases s with
        | nil => simp at h45
        | cons c r =>
          simp at h45
          subst h45
          simp only [List.tail_cons] at *
          subst h
          refine ⟨⟨by omega, by omega⟩, ?_⟩
          unfold numText
          rw [if_pos (by omega)]
          have : (-(valD r : Int)).natAbs = valD r := by omega
          rw [this, hc.1.1.2]
      · simp at h
    · split at h
      · rename_i hc
        simp only [Bool.and_eq_true, decide_eq_true_eq] at hc
        simp only [Option.some.injEq] at h
        subst h
        refine ⟨⟨by omega, by omega⟩, ?_⟩
        unfold numText
        rw [if_neg (by omega)]
        have : ((valD s : Nat) : Int).natAbs = valD s := by omega
        rw [this, hc.1.2]
      · simp at h
  · rintro ⟨⟨h1, h2⟩, rfl⟩
    have hv := valD_decB n.natAbs (by omega)
    have ha : (decB n.natAbs).all isDig = true := decB_all 20 n.natAbs
    by_cases hn : n < 0
    · have e : numText n = 45 :: decB n.natAbs := by unfold numText; rw [if_pos hn]
      rw [e]
      unfold numOf
      simp only [List.head?_cons, if_true, List.tail_cons, hv, ha]
      rw [if_pos (by simp; omega)]
      congr 1
      omega
    · have e : numText n = decB n.natAbs := by unfold numText; rw [if_neg hn]
      rw [e]
      unfold numOf
      have hne : ¬ (decB n.natAbs).head? = some 45 := fun h => by
        cases hd : decB n.natAbs with
        | nil => rw [hd] at h; simp at h
        | cons c r =>
          rw [hd] at h ha
          simp at h
          subst h
          simp [isDig] at ha
      rw [if_neg hne]
      simp only [hv, ha]
      rw [if_pos (by simp; omega)]
      congr 1
      omega
theorem numOf_low {r : List UInt8} : numOf (45 :: r) = if r.length = 0 ∨ 19 < r.length ∨ r.head? = some 48 then none else if r.all isDig = true ∧ valD r ≤ 9223372036854775808 then some (-(valD r : Int)) else none := by
  cases h : numOf (45 :: r) with
  | some n =>
    obtain ⟨⟨h1, h2⟩, h3⟩ := numOf_iff.1 h
    unfold numText at h3
    have hl := decB_lead n.natAbs (by omega)
    split at h3
    · rename_i hn
      simp only [List.cons.injEq, true_and] at h3
      have hv := valD_decB n.natAbs (by omega)
      have ha := decB_all 20 n.natAbs
      change (decB n.natAbs).all isDig = true at ha
      have hp := decB_pos (n := n.natAbs) (by omega)
      have hle : (decB n.natAbs).length ≤ 19 := by
        rcases Nat.lt_or_ge 19 (decB n.natAbs).length with hx | hx
        · exfalso
          have h19 : decF 19 n.natAbs = decF 20 n.natAbs := (decF_more 18 n.natAbs (by omega)).symm
          have := decF_len 19 n.natAbs
          rw [h19] at this
          change (decB n.natAbs).length ≤ 19 at this
          omega
        · exact hx
      have hh := hl.2 (by omega)
      rw [h3] at hv ha hp hle hh
      rw [if_neg, if_pos ⟨ha, by omega⟩]
      · congr 1; omega
      · rintro (e | e | e)
        · omega
        · omega
        · cases r with
          | nil => simp at hp
          | cons c r => simp at e hh; exact hh e
    · exfalso
      rename_i hn
      have ha := decB_all 20 n.natAbs
      change (decB n.natAbs).all isDig = true at ha
      rw [h3] at ha
      simp [isDig] at ha
  | none =>
    split
    · rfl
    · rename_i hc
      split
      · rename_i hd
        exfalso
        have hlead : lead r = true := by
          cases r with
          | nil => simp at hc
          | cons c r =>
            cases r with
            | nil => rfl
            | cons d r => simp [lead]; intro e; subst e; exact hc (.inr (.inr rfl))
        have hb := decB_val r.length r rfl (by omega) hd.1 hlead
        have hpos : 1 ≤ valD r := by
          rcases Nat.eq_zero_or_pos (valD r) with e | e
          · rw [e] at hb
            have : decB 0 = [48] := rfl
            rw [this] at hb
            exact absurd (.inr (.inr (by rw [← hb]; rfl))) hc
          · exact e
        have : numOf (45 :: r) = some (-(valD r : Int)) := numOf_iff.2 ⟨⟨by omega, by omega⟩, by
          unfold numText
          rw [if_pos (by omega)]
          have : (-(valD r : Int)).natAbs = valD r := by omega
          rw [this, hb]⟩
        rw [h] at this
        simp at this
      · rfl
theorem numOf_high {r : List UInt8} (h45 : r.head? ≠ some 45) : numOf r = if r.length = 0 ∨ 19 < r.length ∨ (r.head? = some 48 ∧ 1 < r.length) then none else if r.all isDig = true ∧ valD r ≤ 9223372036854775807 then some (valD r : Int) else none := by
  cases h : numOf r with
  | some n =>
    obtain ⟨⟨h1, h2⟩, h3⟩ := numOf_iff.1 h
    unfold numText at h3
    have hl := decB_lead n.natAbs (by omega)
    split at h3
    · exfalso; subst h3; simp at h45
    · rename_i hn
      have hv := valD_decB n.natAbs (by omega)
      have ha := decB_all 20 n.natAbs
      change (decB n.natAbs).all isDig = true at ha
      have hp := decB_pos (n := n.natAbs) (by omega)
      have hle : (decB n.natAbs).length ≤ 19 := by
        have h19 : decF 19 n.natAbs = decF 20 n.natAbs := (decF_more 18 n.natAbs (by omega)).symm
        have := decF_len 19 n.natAbs
        rw [h19] at this
        exact this
      rw [h3] at hv ha hp hle hl
      rw [if_neg, if_pos ⟨ha, by omega⟩]
      · congr 1; omega
      · rintro (e | e | ⟨e, e2⟩)
        · omega
        · omega
        · cases r with
          | nil => simp at hp
          | cons c r =>
            cases r with
            | nil => simp at e2
            | cons d r => simp at e; subst e; simp [lead] at hl
  | none =>
    split
    · rfl
    · rename_i hc
      split
      · rename_i hd
        exfalso
        have hlead : lead r = true := by
          cases r with
          | nil => simp at hc
          | cons c r =>
            cases r with
            | nil => rfl
            | cons d r => simp [lead]; intro e; subst e; exact hc (.inr (.inr ⟨rfl, by simp⟩))
        have hb := decB_val r.length r rfl (by omega) hd.1 hlead
        have : numOf r = some (valD r : Int) := numOf_iff.2 ⟨⟨by omega, by omega⟩, by
          unfold numText
          rw [if_neg (by omega)]
          have : ((valD r : Nat) : Int).natAbs = valD r := by omega
          rw [this, hb]⟩
        rw [h] at this
        simp at this
      · rfl
theorem isDig_no {c : UInt8} (h : ¬ (48 ≤ c.toNat ∧ c.toNat ≤ 57)) : isDig c = false := by
  cases hc : isDig c with
  | false => rfl
  | true => exact absurd (by simpa [isDig] using hc) h
theorem take_all {d : List UInt8} {j : Nat} (hj : j < d.length) : (d.take (j + 1)) = d.take j ++ [d.getD j 0] := by
  rw [List.take_succ_eq_append_getElem hj]
  simp [List.getD, hj]
theorem not_all {d : List UInt8} {j : Nat} (hj : j < d.length) (h : isDig (d.getD j 0) = false) : d.all isDig = false := by
  rw [List.all_eq_false]
  refine ⟨d.getD j 0, ?_, by rw [h]; simp⟩
  simp [List.getD, hj]
def numP (l : List UInt8) : AV := .tup [.int .i64 ((numOf l).getD 0), .int .i64 (if (numOf l).isSome then 0 else 2)]
theorem numOf_way {l d : List UInt8} {b : Bool} (hb : b = decide (l.head? = some 45)) (hd : d = if l.head? = some 45 then l.tail else l) :
    numOf l = if d.length = 0 ∨ 19 < d.length ∨ (d.head? = some 48 ∧ (b = true ∨ 1 < d.length)) then none else if d.all isDig = true ∧ (valD d : Int) ≤ (if b then 9223372036854775808 else 9223372036854775807) then some (if b then -(valD d : Int) else (valD d : Int)) else none := by
  by_cases h : l.head? = some 45
  · cases l with
    | nil => simp at h
    | cons c r =>
      simp at h
      subst h
      simp at hb hd
      subst hb
      rw [numOf_low, ← hd]
      clear hd
      generalize d = r
      simp only [true_or, and_true, if_true]
      congr 1
      by_cases h2 : r.all isDig = true ∧ valD r ≤ 9223372036854775808
      · rw [if_pos h2, if_pos ⟨h2.1, by omega⟩]
      · rw [if_neg h2, if_neg (fun h3 => h2 ⟨h3.1, by omega⟩)]
  · rw [if_neg h] at hd
    rw [decide_eq_false h] at hb
    subst hd hb
    rw [numOf_high h]
    simp only [Bool.false_eq_true, false_or, if_false]
    congr 1
    by_cases h2 : d.all isDig = true ∧ valD d ≤ 9223372036854775807
    · rw [if_pos h2, if_pos ⟨h2.1, by omega⟩]
    · rw [if_neg h2, if_neg (fun h3 => h2 ⟨h3.1, by omega⟩)]
set_option linter.defProp false in
def dq5 := And.intro @encB_def (@sb)
set_option maxHeartbeats 2000000 in
theorem num_Parse_ok (l : List UInt8) (hl63 : l.length ≤ 9223372036854775807) : Pure Tryd.prog 53 [.str (bs l)] (numP l) := by
  intro H
  refine ACalls.go num_Parse.low (by simp) fun hcl => ?_
  have hneg : Hold (l.head? = some 45 ↔ (0 : Int) < (l.length : Int) ∧ ((l.getD 0 0).toNat : Int) = 45) := by
    refine ⟨?_⟩
    cases l with
    | nil => simp
    | cons c r =>
      simp only [List.head?_cons, Option.some.injEq, List.length_cons, List.getD_cons_zero]
      constructor
      · rintro rfl; exact ⟨by omega, rfl⟩
      · rintro ⟨_, h⟩; exact UInt8.toNat_inj.1 (by have : (45 : UInt8).toNat = 45 := rfl; omega)
  (refine zG ?_; refine zH ?_; repeat' (first | simp only [seval, evo, beq_self_eq_true, dq5, *] | simp (disch := omega) only [if_pos, if_neg]))
  (refine zG ?_; refine zH ?_; repeat' (first | simp only [seval, evo, beq_self_eq_true, dq5, *] | simp (disch := omega) only [if_pos, if_neg]))
  obtain ⟨d, hd⟩ : ∃ d, Hold (d = if l.head? = some 45 then l.tail else l) := ⟨_, ⟨rfl⟩⟩
  obtain ⟨b, hb⟩ : ∃ b : Bool, Hold (b = decide (l.head? = some 45)) := ⟨_, ⟨rfl⟩⟩
  have hw := Hold.mk (numOf_way hb.of hd.of)
  refine R.cut [(4, .str (bs d)), (5, .bool b)] (H ++ []) ?_ ?_
  · by_cases h45 : l.head? = some 45
    · have h1 := (hneg.of.1 h45).1
      have h2 := (hneg.of.1 h45).2
      have h3 := hd.of
      rw [if_pos h45] at h3
      have h4 := hb.of
      rw [decide_eq_true h45] at h4
      have h5 : l.drop 1 = l.tail := by simp
      subst h3 h4
      replace h45 := Hold.mk h45
      repeat' (first | simp only [seval, evo, beq_self_eq_true, dq5, *] | simp (disch := omega) only [if_pos, if_neg] | refine zG ?_ | refine zH ?_ | refine zI rfl ?_ | refine zJ rfl ?_ | refine zL ?_ | refine zM ?_ | refine zN ?_ | refine zO ?_ | ((first | refine zP hcl ?_ | refine zQ hcl ?_); simp only [seval, evw, fm, dq5, *]) | ((first | refine zA ?_ ?_ | refine zC ?_ ?_ | refine zE ?_ ?_) <;> (intro hc; try simp only [seval, nf] at hc)) | refine zR ?_ | refine zS rfl ?_)
    · have h3 := hd.of
      rw [if_neg h45] at h3
      have h4 := hb.of
      rw [decide_eq_false h45] at h4
      subst h3 h4
      replace h45 := Hold.mk h45
      repeat' (first | simp only [seval, evo, beq_self_eq_true, dq5, *] | simp (disch := omega) only [if_pos, if_neg] | refine zG ?_ | refine zH ?_ | refine zI rfl ?_ | refine zJ rfl ?_ | refine zL ?_ | refine zM ?_ | refine zN ?_ | refine zO ?_ | ((first | refine zP hcl ?_ | refine zQ hcl ?_); simp only [seval, evw, fm, dq5, *]) | ((first | refine zA ?_ ?_ | refine zC ?_ ?_ | refine zE ?_ ?_) <;> (intro hc; try simp only [seval, nf] at hc)) | refine zR ?_ | refine zS rfl ?_)
      exact h45.of (hneg.of.2 ⟨by assumption, by assumption⟩)
  have hdl : d.length ≤ l.length := by
    rw [hd.of]; split <;> simp
  have h48 : Hold (d.head? = some 48 ↔ d.length ≠ 0 ∧ ((d.getD 0 0).toNat : Int) = 48) := by
    refine ⟨?_⟩
    clear hw hd hdl
    cases d with
    | nil => simp
    | cons c r =>
      simp only [List.head?_cons, Option.some.injEq, List.length_cons, List.getD_cons_zero]
      constructor
      · rintro rfl; exact ⟨by omega, rfl⟩
      · rintro ⟨_, h⟩; exact UInt8.toNat_inj.1 (by have : (48 : UInt8).toNat = 48 := rfl; omega)
  clear hneg hd hb
  by_cases hbad : d.length = 0 ∨ 19 < d.length ∨ (d.head? = some 48 ∧ (b = true ∨ 1 < d.length))
  · have hn := hw.of
    rw [if_pos hbad] at hn
    have hz : numP l = .tup [.int .i64 0, .int .i64 2] := by unfold numP; rw [hn]; rfl
    clear hw hn
    replace hbad := Hold.mk hbad
    repeat' (first | simp only [seval, evo, beq_self_eq_true, dq5, *] | simp (disch := omega) only [if_pos, if_neg] | refine zG ?_ | refine zH ?_ | refine zI rfl ?_ | refine zJ rfl ?_ | refine zL ?_ | refine zM ?_ | refine zN ?_ | refine zO ?_ | ((first | refine zP hcl ?_ | refine zQ hcl ?_); simp only [seval, evw, fm, dq5, *]) | ((first | refine zA ?_ ?_ | refine zC ?_ ?_ | refine zE ?_ ?_) <;> (intro hc; try simp only [seval, nf] at hc)) | refine zR ?_ | refine zS rfl ?_)
    all_goals (exfalso; rcases hbad.of with h | h | ⟨h, h'⟩ <;> first | omega | (have h2 := h48.of.1 h; first | omega | (rcases h' with h' | h' <;> first | omega | simp_all)))
  have hn := hw.of
  rw [if_neg hbad] at hn
  replace hw := Hold.mk hn
  clear hn
  replace hbad := Hold.mk hbad
  refine R.cut [(4, .str (bs d)), (5, .bool b)] (H ++ []) ?_ ?_
  · repeat' (first | simp only [seval, evo, beq_self_eq_true, dq5, *] | simp (disch := omega) only [if_pos, if_neg] | refine zG ?_ | refine zH ?_ | refine zI rfl ?_ | refine zJ rfl ?_ | refine zL ?_ | refine zM ?_ | refine zN ?_ | refine zO ?_ | ((first | refine zP hcl ?_ | refine zQ hcl ?_); simp only [seval, evw, fm, dq5, *]) | ((first | refine zA ?_ ?_ | refine zC ?_ ?_ | refine zE ?_ ?_) <;> (intro hc; try simp only [seval, nf] at hc)) | refine zR ?_ | refine zS rfl ?_)
    all_goals (exfalso; apply hbad.of; first | (left; omega) | (right; left; omega) | (right; right; exact ⟨h48.of.2 ⟨by omega, by assumption⟩, by first | (left; assumption) | (right; omega)⟩))
  have hd19 : d.length ≤ 19 := by
    rcases Nat.lt_or_ge 19 d.length with h | h
    · exact absurd (.inr (.inl h)) hbad.of
    · exact h
  have hv0 : Hold (d.all isDig = true → b = true → 1 ≤ valD d) := by
    refine ⟨fun ha hb => ?_⟩
    subst hb
    have hl : lead d = true := by
      have hb := hbad.of
      clear h48 hdl hw hbad
      cases d with
      | nil => simp at hb
      | cons c r =>
        cases r with
        | nil => rfl
        | cons e r => simp [lead]; intro h; subst h; simp at hb
    have hb := decB_val d.length d rfl (by omega) ha hl
    rcases Nat.eq_zero_or_pos (valD d) with e | e
    · rw [e] at hb
      have : decB 0 = [48] := rfl
      rw [this] at hb
      exact absurd (.inr (.inr ⟨by rw [← hb]; rfl, .inl rfl⟩)) hbad.of
    · exact e
  clear hbad h48 hdl
  (refine zG ?_; refine zH ?_; repeat' (first | simp only [seval, evo, beq_self_eq_true, dq5, *] | simp (disch := omega) only [if_pos, if_neg]))
  refine R.join (S := Unit) ⟨fun _ => [(5, .bool b), (6, .int .u64 (valD d : Int))], fun _ => H ++ [], fun _ => d.all isDig = true, fun _ => 0⟩ ?_ ?_
  · (refine zG ?_; refine zH ?_; repeat' (first | simp only [seval, evo, beq_self_eq_true, dq5, *] | simp (disch := omega) only [if_pos, if_neg]))
    refine R.block (R.loop (S := Nat) ⟨fun p => [(5, .bool b), (6, .int .u64 (valD (d.take p) : Int)), (43, .iter H.length)], fun p => H ++ [.iter (bs d) p], fun p => p ≤ d.length ∧ (d.take p).all isDig = true, fun p => d.length - p⟩ 0 ⟨Nat.zero_le _, rfl⟩ (Weak.at hcl ?_) ?_)
    · simp only [seval, evw, fm, dq5, *]
      rfl
    rintro p ⟨hp, ha⟩
    simp only at hp ha ⊢
    by_cases hlt : p < d.length
    · have ht := Hold.mk (take_all hlt)
      have hna := Hold.mk (not_all hlt)
      have hv := valD_lt p (d.take p) (by simp; omega) ha
      have hv2 : 10 ^ p ≤ 10 ^ 18 := Nat.pow_le_pow_right (by omega) (by omega)
      by_cases hf : 128 ≤ (d.getD p 0).toNat
      · obtain ⟨f1, f2, f3, f4⟩ := dec_far hlt hf
        have hb := Hold.mk (hna.of (isDig_no (by omega)))
        have q1 : ¬ (((Utf8.decode (bs d) p).1 : Nat) : Int) < 48 := by omega
        have q2 : (57 : Int) < (((Utf8.decode (bs d) p).1 : Nat) : Int) := by omega
        have hz : numP l = .tup [.int .i64 0, .int .i64 2] := by unfold numP; rw [hw.of, if_neg (fun h => by rw [hb.of] at h; simp at h)]; rfl
        clear f4 f2 f3
        repeat' (first | simp only [seval, evo, beq_self_eq_true, dq5, *] | simp (disch := omega) only [if_pos, if_neg] | refine zG ?_ | refine zH ?_ | refine zI rfl ?_ | refine zJ rfl ?_ | refine zL ?_ | refine zM ?_ | refine zN ?_ | refine zO ?_ | ((first | refine zP hcl ?_ | refine zQ hcl ?_); simp only [seval, evw, fm, dq5, *]) | ((first | refine zA ?_ ?_ | refine zC ?_ ?_ | refine zE ?_ ?_) <;> (intro hc; try simp only [seval, nf] at hc)) | refine zR ?_ | refine zS rfl ?_)
      · have hd := dec_near (l := d) (p := p) (by omega)
        generalize d.getD p 0 = c at *
        by_cases hdc : isDig c = true
        · simp [isDig] at hdc
          have q1 : ¬ ((c.toNat : Nat) : Int) < 48 := by omega
          have q2 : ¬ (57 : Int) < ((c.toNat : Nat) : Int) := by omega
          have q3 : IntKind.u64.wrap (IntKind.u64.wrap ((valD (d.take p) : Int) * 10) + IntKind.u64.wrap (IntKind.i32.wrap ((c.toNat : Int) - 48))) = ((valD (d.take p) * 10 + dv c : Nat) : Int) := by
            unfold dv
            rw [IntKind.wrap_u64, IntKind.wrap_u64, IntKind.wrap_u64, IntKind.wrap_i32]; omega
          repeat' (first | simp only [seval, evo, beq_self_eq_true, dq5, *] | simp (disch := omega) only [if_pos, if_neg] | refine zG ?_ | refine zH ?_ | refine zI rfl ?_ | refine zJ rfl ?_ | refine zL ?_ | refine zM ?_ | refine zN ?_ | refine zO ?_ | ((first | refine zP hcl ?_ | refine zQ hcl ?_); simp only [seval, evw, fm, dq5, *]) | ((first | refine zA ?_ ?_ | refine zC ?_ ?_ | refine zE ?_ ?_) <;> (intro hc; try simp only [seval, nf] at hc)) | refine zR ?_ | refine zS rfl ?_)
          refine ⟨p + 1, ⟨hlt, by rw [ht.of, List.all_append, ha]; simp [isDig]; omega⟩, by simp only; omega, Weak.at hcl ?_⟩
          have hw : valD (d.take (p + 1)) = valD (d.take p) * 10 + dv c := by rw [ht.of, valD_snoc]
          simp only [seval, evw, fm, dq5, *]
        · have hb := Hold.mk (hna.of (by simpa using hdc))
          have hdd : ¬ (48 ≤ c.toNat ∧ c.toNat ≤ 57) := by simpa [isDig] using hdc
          have hz : numP l = .tup [.int .i64 0, .int .i64 2] := by unfold numP; rw [hw.of, if_neg (fun h => by rw [hb.of] at h; simp at h)]; rfl
          repeat' (first | simp only [seval, evo, beq_self_eq_true, dq5, *] | simp (disch := omega) only [if_pos, if_neg] | refine zG ?_ | refine zH ?_ | refine zI rfl ?_ | refine zJ rfl ?_ | refine zL ?_ | refine zM ?_ | refine zN ?_ | refine zO ?_ | ((first | refine zP hcl ?_ | refine zQ hcl ?_); simp only [seval, evw, fm, dq5, *]) | ((first | refine zA ?_ ?_ | refine zC ?_ ?_ | refine zE ?_ ?_) <;> (intro hc; try simp only [seval, nf] at hc)) | refine zR ?_ | refine zS rfl ?_)
          exfalso; omega
    · have hp' : p = d.length := by omega
      subst hp'
      rw [List.take_length] at ha
      replace ha := Hold.mk ha
      repeat' (first | simp only [seval, evo, beq_self_eq_true, dq5, *] | simp (disch := omega) only [if_pos, if_neg] | refine zG ?_ | refine zH ?_ | refine zI rfl ?_ | refine zJ rfl ?_ | refine zL ?_ | refine zM ?_ | refine zN ?_ | refine zO ?_ | ((first | refine zP hcl ?_ | refine zQ hcl ?_); simp only [seval, evw, fm, dq5, *]) | ((first | refine zA ?_ ?_ | refine zC ?_ ?_ | refine zE ?_ ?_) <;> (intro hc; try simp only [seval, nf] at hc)) | refine zR ?_ | refine zS rfl ?_)
      refine ⟨(), ha.of, Weak.at hcl ?_⟩
      simp only [seval, evw, fm, dq5, *]
  rintro ⟨⟩ ha
  simp only at ha ⊢
  have hv := valD_lt _ d rfl ha
  have hv2 : 10 ^ d.length ≤ 10 ^ 19 := Nat.pow_le_pow_right (by omega) hd19
  have hv1 := hv0.of ha
  clear hv0
  generalize valD d = v at *
  replace ha := Hold.mk ha
  replace hv1 := Hold.mk hv1
  have hn := hw.of
  clear hw
  have pos : ∀ n : Int, numOf l = some n → numP l = .tup [.int .i64 n, .int .i64 0] := fun n h => by unfold numP; rw [h]; rfl
  have neg : numOf l = none → numP l = .tup [.int .i64 0, .int .i64 2] := fun h => by unfold numP; rw [h]; rfl
  replace pos := Hold.mk pos
  replace neg := Hold.mk neg
  cases b
  · simp only [ha.of, true_and, Bool.false_eq_true, if_false] at hn
    replace hn := Hold.mk hn
    repeat' (first | simp only [seval, evo, beq_self_eq_true, dq5, *] | simp (disch := omega) only [if_pos, if_neg] | refine zG ?_ | refine zH ?_ | refine zI rfl ?_ | refine zJ rfl ?_ | refine zL ?_ | refine zM ?_ | refine zN ?_ | refine zO ?_ | ((first | refine zP hcl ?_ | refine zQ hcl ?_); simp only [seval, evw, fm, dq5, *]) | ((first | refine zA ?_ ?_ | refine zC ?_ ?_ | refine zE ?_ ?_) <;> (intro hc; try simp only [seval, nf] at hc)) | refine zR ?_ | refine zS rfl ?_)
    · have hz := neg.of (by rw [hn.of, if_neg (by omega)])
      simp only [seval, evw, fm, dq5, *]
    · have hz := pos.of v (by rw [hn.of, if_pos (by omega)])
      have hq : IntKind.i64.wrap (v : Int) = (v : Int) := by rw [IntKind.wrap_i64]; omega
      simp only [seval, evw, fm, dq5, *]
  · have hv1 := hv1.of rfl
    simp only [ha.of, true_and, if_true] at hn
    replace hn := Hold.mk hn
    repeat' (first | simp only [seval, evo, beq_self_eq_true, dq5, *] | simp (disch := omega) only [if_pos, if_neg] | refine zG ?_ | refine zH ?_ | refine zI rfl ?_ | refine zJ rfl ?_ | refine zL ?_ | refine zM ?_ | refine zN ?_ | refine zO ?_ | ((first | refine zP hcl ?_ | refine zQ hcl ?_); simp only [seval, evw, fm, dq5, *]) | ((first | refine zA ?_ ?_ | refine zC ?_ ?_ | refine zE ?_ ?_) <;> (intro hc; try simp only [seval, nf] at hc)) | refine zR ?_ | refine zS rfl ?_)
    · rw [IntKind.wrap_u64, IntKind.wrap_u64, IntKind.wrap_u64] at hc
      have hz := neg.of (by rw [hn.of, if_neg (by omega)])
      simp only [seval, evw, fm, dq5, *]
    · rw [IntKind.wrap_u64, IntKind.wrap_u64, IntKind.wrap_u64] at hc
      have hz := pos.of (-(v : Int)) (by rw [hn.of, if_pos (by omega)])
      have hq : IntKind.i64.wrap (IntKind.u64.wrap (0 - (v : Int))) = -(v : Int) := by rw [IntKind.wrap_u64, IntKind.wrap_i64]; omega
      simp only [seval, evw, fm, dq5, *]
def locOf (s : List UInt8) : Option Int := Option.map (fun i : Nat => (i : Int)) ((List.range 24).find? fun i : Nat => decide (locText (i : Int) = s))
theorem locText_inj : ∀ i : Fin 24, ∀ j : Fin 24, locText ((i.val : Nat) : Int) = locText ((j.val : Nat) : Int) → i = j := by decide +kernel
theorem locOf_iff {s : List UInt8} {l : Int} : locOf s = some l ↔ inR 24 l = true ∧ locText l = s := by
  unfold locOf
  constructor
  · intro h
    simp only [Option.map_eq_some_iff] at h
    obtain ⟨i, h1, rfl⟩ := h
    have h2 := List.mem_of_find?_eq_some h1
    have h3 := List.find?_some h1
    simp at h2 h3
    refine ⟨?_, h3⟩
    simp [inR]; omega
  · rintro ⟨h1, h2⟩
    simp [inR] at h1
    obtain ⟨i, rfl⟩ : ∃ i : Nat, l = (i : Int) := Int.eq_ofNat_of_zero_le h1.1
    have hi : i < 24 := by omega
    cases hf : (List.range 24).find? fun i : Nat => decide (locText (i : Int) = s) with
    | none =>
      exfalso
      have := List.find?_eq_none.1 hf i (by simp; exact hi)
      simp at this
      exact this h2
    | some j =>
      have hj := List.mem_of_find?_eq_some hf
      have hj2 := List.find?_some hf
      simp at hj hj2
      have := locText_inj ⟨j, hj⟩ ⟨i, hi⟩ (by simp only; rw [hj2, h2])
      simp at this
      subst this
      rfl
def locP (s : List UInt8) : AV := .tup [.int .i64 ((locOf s).getD 0), .int .i64 (if (locOf s).isSome then 0 else 2)]
theorem locP_some {s : List UInt8} {l : Int} (h : locOf s = some l) : locP s = .tup [.int .i64 l, .int .i64 0] := by unfold locP; rw [h]; rfl
theorem locP_none {s : List UInt8} (h : locOf s = none) : locP s = .tup [.int .i64 0, .int .i64 2] := by unfold locP; rw [h]; rfl
theorem locOf_none {s : List UInt8} (h : ∀ i : Fin 24, locText ((i.val : Nat) : Int) ≠ s) : locOf s = none := by
  cases hl : locOf s with
  | none => rfl
  | some l =>
    exfalso
    obtain ⟨h1, h2⟩ := locOf_iff.1 hl
    simp [inR] at h1
    exact h ⟨l.toNat, by omega⟩ (by simp only; rw [show ((l.toNat : Nat) : Int) = l by omega]; exact h2)
theorem numText_small {n : Nat} (h : n < 100) : numText (n : Int) = if n < 10 then [dig n] else [dig (n / 10), dig n] := by
  unfold numText
  rw [if_neg (by omega)]
  have : ((n : Nat) : Int).natAbs = n := by omega
  rw [this, decB_small h]
theorem loc_ok0 : ∀ i : Fin 24, 2 ≤ (locText ((i.val : Nat) : Int)).length ∧ (locText ((i.val : Nat) : Int)).length ≤ 3 := by decide +kernel
theorem loc_ok1 : ∀ i : Fin 24, ((locText ((i.val : Nat) : Int)).getD 0 0).toNat = 114 ∧ valD (locText ((i.val : Nat) : Int)).tail < 8 ∨ ((locText ((i.val : Nat) : Int)).getD 0 0).toNat = 115 ∧ valD (locText ((i.val : Nat) : Int)).tail < 16 := by decide +kernel
theorem loc_ok2 : ∀ i : Fin 24, isDig ((locText ((i.val : Nat) : Int)).getD 1 0) = true := by decide +kernel
theorem loc_ok3 : ∀ i : Fin 24, 2 < (locText ((i.val : Nat) : Int)).length → isDig ((locText ((i.val : Nat) : Int)).getD 2 0) = true ∧ dv ((locText ((i.val : Nat) : Int)).getD 1 0) ≠ 0 := by decide +kernel
theorem loc_bad {s : List UInt8} (h : s.length < 2 ∨ 3 < s.length ∨ ((s.getD 0 0).toNat ≠ 114 ∧ (s.getD 0 0).toNat ≠ 115) ∨ isDig (s.getD 1 0) = false ∨ (2 < s.length ∧ (isDig (s.getD 2 0) = false ∨ dv (s.getD 1 0) = 0)) ∨ ((s.getD 0 0).toNat = 114 ∧ 8 ≤ valD s.tail) ∨ 16 ≤ valD s.tail) : locP s = .tup [.int .i64 0, .int .i64 2] := by
  refine locP_none (locOf_none fun i e => ?_)
  subst e
  have h0 := loc_ok0 i
  have h1 := loc_ok1 i
  have h2 := loc_ok2 i
  have h3 := loc_ok3 i
  rcases h with h | h | h | h | ⟨h, h'⟩ | h | h
  · omega
  · omega
  · omega
  · rw [h2] at h; simp at h
  · obtain ⟨h4, h5⟩ := h3 h
    rcases h' with h' | h'
    · rw [h4] at h'; simp at h'
    · exact h5 h'
  · omega
  · omega
theorem loc_good {s : List UInt8} (f m n : Nat) (h : ((s.getD 0 0).toNat = 114 ∧ f = 0 ∧ m = 8) ∨ ((s.getD 0 0).toNat = 115 ∧ f = 8 ∧ m = 16)) (hn : n < m)
    (h2 : (s.length = 2 ∧ isDig (s.getD 1 0) = true ∧ n = dv (s.getD 1 0)) ∨ (s.length = 3 ∧ isDig (s.getD 1 0) = true ∧ isDig (s.getD 2 0) = true ∧ dv (s.getD 1 0) ≠ 0 ∧ n = dv (s.getD 1 0) * 10 + dv (s.getD 2 0))) : locP s = .tup [.int .i64 ((f + n : Nat) : Int), .int .i64 0] := by
  refine locP_some (locOf_iff.2 ⟨by simp [inR]; omega, ?_⟩)
  have hs : s = s.getD 0 0 :: numText (n : Int) := by
    rw [numText_small (by omega)]
    match s, h2 with
    | [a, b], h2 =>
      simp at h2
      have hb : dv b ≤ 9 := by have := h2.1; simp [isDig] at this; unfold dv; omega
      rw [if_pos (by omega), h2.2]
      have := dig_dv h2.1 0
      simp at this
      simp [this]
    | [a, b, c], h2 =>
      simp at h2
      obtain ⟨h3, h4, h5, h6⟩ := h2
      have hb : dv b ≤ 9 := by have := h3; simp [isDig] at this; unfold dv; omega
      have hc : dv c ≤ 9 := by have := h4; simp [isDig] at this; unfold dv; omega
      rw [if_neg (by omega), h6]
      have e1 := dig_dv h4 (dv b)
      have e2 : dig ((dv b * 10 + dv c) / 10) = b := by
        have := dig_dv h3 0
        simp at this
        have h7 : (dv b * 10 + dv c) / 10 = dv b := by omega
        rw [h7, this]
      simp [e1, e2]
    | [], h2 => simp at h2
    | [a], h2 => simp at h2
    | a :: b :: c :: d :: r, h2 => simp at h2
  unfold locText
  rcases h with ⟨h3, rfl, rfl⟩ | ⟨h3, rfl, rfl⟩
  · rw [if_pos (by omega)]
    have : s.getD 0 0 = 114 := UInt8.toNat_inj.1 h3
    rw [this] at hs
    simpa using hs.symm
  · rw [if_neg (by omega)]
    have : s.getD 0 0 = 115 := UInt8.toNat_inj.1 h3
    rw [this] at hs
    have e : (((8 + n : Nat) : Int) - 8) = (n : Int) := by omega
    rw [e]
    exact hs.symm
def LocAt (s : List UInt8) (p f n m : Nat) : Prop :=
  (p = 0 ∧ f = 0 ∧ n = 0 ∧ m = 0) ∨
  (((s.getD 0 0).toNat = 114 ∧ f = 0 ∧ m = 8 ∨ (s.getD 0 0).toNat = 115 ∧ f = 8 ∧ m = 16) ∧ (p = 1 ∧ n = 0 ∨ p = 2 ∧ isDig (s.getD 1 0) = true ∧ n = dv (s.getD 1 0) ∨
    p = 3 ∧ isDig (s.getD 1 0) = true ∧ isDig (s.getD 2 0) = true ∧ dv (s.getD 1 0) ≠ 0 ∧ n = dv (s.getD 1 0) * 10 + dv (s.getD 2 0)))
set_option maxHeartbeats 1000000 in
theorem loc_Parse_ok (s : List UInt8) (hs63 : s.length ≤ 9223372036854775807) : Pure Tryd.prog 54 [.str (bs s)] (locP s) := by
  intro H
  refine ACalls.go loc_Parse.low (by simp) fun hcl => ?_
  (refine zG ?_; refine zH ?_; repeat' (first | simp only [seval, evo, beq_self_eq_true, dq5, *] | simp (disch := omega) only [if_pos, if_neg]))
  (refine zG ?_; refine zH ?_; repeat' (first | simp only [seval, evo, beq_self_eq_true, dq5, *] | simp (disch := omega) only [if_pos, if_neg]))
  refine R.seq ?_
  (refine zG ?_; refine zH ?_; repeat' (first | simp only [seval, evo, beq_self_eq_true, dq5, *] | simp (disch := omega) only [if_pos, if_neg]))
  refine R.block (R.loop (S := Nat × Nat × Nat × Nat) ⟨fun x => [(0, .str (bs s)), (4, .int .i64 (x.2.1 : Int)), (5, .int .i64 (x.2.2.1 : Int)), (6, .int .i64 (x.2.2.2 : Int)), (10, .iter H.length)], fun x => H ++ [.iter (bs s) x.1],
    fun x => x.1 ≤ s.length ∧ LocAt s x.1 x.2.1 x.2.2.1 x.2.2.2, fun x => s.length - x.1⟩ (0, 0, 0, 0) ⟨Nat.zero_le _, .inl ⟨rfl, rfl, rfl, rfl⟩⟩ (Weak.at hcl ?_) ?_)
  · simp only [seval, evw, fm, dq5, *]
  rintro ⟨p, f, n, m⟩ ⟨hp, hq⟩
  simp only at hp hq ⊢
  replace hq := Hold.mk hq
  have hn : n < 100 := by
    rcases hq.of with h | ⟨_, h | h | h⟩
    · omega
    · omega
    · have := h.2.1; simp [isDig] at this; have := h.2.2; unfold dv at this; simp only [List.getD] at *; omega
    · have h1 := h.2.1; have h2 := h.2.2.1; simp [isDig] at h1 h2; have := h.2.2.2.2; unfold dv at this; simp only [List.getD] at *; omega
  by_cases hlt : p < s.length
  · by_cases hf : 128 ≤ (s.getD p 0).toNat
    · obtain ⟨f1, f2, f3, f4⟩ := dec_far hlt hf
      have hbad : locP s = .tup [.int .i64 0, .int .i64 2] := by
        apply loc_bad
        have hx := hq.of
        unfold LocAt at hx
        have hpc : p = 0 ∨ p = 1 ∨ p = 2 ∨ p = 3 := by omega
        rcases hpc with rfl | rfl | rfl | rfl
        · omega
        · have := isDig_no (c := s.getD 1 0) (by omega)
          exact .inr (.inr (.inr (.inl this)))
        · have := isDig_no (c := s.getD 2 0) (by omega)
          exact .inr (.inr (.inr (.inr (.inl ⟨hlt, .inl this⟩))))
        · exact .inr (.inl hlt)
      have q0 : ¬ (((Utf8.decode (bs s) p).1 : Nat) : Int) = 114 := by omega
      have q3 : ¬ (((Utf8.decode (bs s) p).1 : Nat) : Int) = 115 := by omega
      have q1 : ¬ (((Utf8.decode (bs s) p).1 : Nat) : Int) < 48 := by omega
      have q2 : (57 : Int) < (((Utf8.decode (bs s) p).1 : Nat) : Int) := by omega
      clear f4 f2 f3
      repeat' (first | simp only [seval, evo, beq_self_eq_true, dq5, *] | simp (disch := omega) only [if_pos, if_neg] | refine zG ?_ | refine zH ?_ | refine zI rfl ?_ | refine zJ rfl ?_ | refine zL ?_ | refine zM ?_ | refine zN ?_ | refine zO ?_ | ((first | refine zP hcl ?_ | refine zQ hcl ?_); simp only [seval, evw, fm, dq5, *]) | ((first | refine zA ?_ ?_ | refine zC ?_ ?_ | refine zE ?_ ?_) <;> (intro hc; try simp only [seval, nf] at hc)) | refine zR ?_ | refine zS rfl ?_)
    · have hd := dec_near (l := s) (p := p) (by omega)
      replace hf := Hold.mk hf
      have hx := hq.of
      unfold LocAt at hx
      have hpc : p = 0 ∨ p = 1 ∨ p = 2 ∨ p = 3 := by omega
      have qn (h1 : 48 ≤ (s.getD p 0).toNat) (h2 : (s.getD p 0).toNat ≤ 57) : IntKind.i64.wrap (IntKind.i64.wrap ((n : Int) * 10) + IntKind.i64.wrap (IntKind.i32.wrap (((s.getD p 0).toNat : Int) - 48))) = ((n * 10 + dv (s.getD p 0) : Nat) : Int) := by
        unfold dv
        rw [IntKind.wrap_i64, IntKind.wrap_i64, IntKind.wrap_i64, IntKind.wrap_i32]; omega
      have isd (h1 : 48 ≤ (s.getD p 0).toNat) (h2 : (s.getD p 0).toNat ≤ 57) : isDig (s.getD p 0) = true := by unfold isDig; rw [decide_eq_true h1, decide_eq_true h2]; rfl
      replace isd := Hold.mk isd
      replace qn := Hold.mk qn
      clear hx
      rcases hpc with rfl | rfl | rfl | rfl
      · have hx := hq.of
        have hfn : f = 0 ∧ n = 0 ∧ m = 0 := by unfold LocAt at hx; omega
        obtain ⟨rfl, rfl, rfl⟩ := hfn
        clear hx
        repeat' (first | simp only [seval, evo, beq_self_eq_true, dq5, *] | simp (disch := omega) only [if_pos, if_neg] | refine zG ?_ | refine zH ?_ | refine zI rfl ?_ | refine zJ rfl ?_ | refine zL ?_ | refine zM ?_ | refine zN ?_ | refine zO ?_ | ((first | refine zP hcl ?_ | refine zQ hcl ?_); simp only [seval, evw, fm, dq5, *]) | ((first | refine zA ?_ ?_ | refine zC ?_ ?_ | refine zE ?_ ?_) <;> (intro hc; try simp only [seval, nf] at hc)) | refine zR ?_ | refine zS rfl ?_)
        · refine ⟨(1, 0, 0, 8), ⟨hlt, .inr ⟨.inl ⟨by omega, rfl, rfl⟩, .inl ⟨rfl, rfl⟩⟩⟩, by simp only; omega, Weak.at hcl ?_⟩
          simp only [seval, evw, fm, dq5, *]
        · refine ⟨(1, 8, 0, 16), ⟨hlt, .inr ⟨.inr ⟨by omega, rfl, rfl⟩, .inl ⟨rfl, rfl⟩⟩⟩, by simp only; omega, Weak.at hcl ?_⟩
          simp only [seval, evw, fm, dq5, *]
        · have := loc_bad (s := s) (.inr (.inr (.inl ⟨by omega, by omega⟩)))
          simp only [seval, evw, fm, dq5, *]
      · have hx := hq.of
        unfold LocAt at hx
        have hfn : n = 0 ∧ ((s.getD 0 0).toNat = 114 ∧ f = 0 ∧ m = 8 ∨ (s.getD 0 0).toNat = 115 ∧ f = 8 ∧ m = 16) := by
          rcases hx with h | ⟨h, h2⟩
          · omega
          · exact ⟨by omega, h⟩
        obtain ⟨rfl, hfm⟩ := hfn
        replace hfm := Hold.mk hfm
        clear hx
        repeat' (first | simp only [seval, evo, beq_self_eq_true, dq5, *] | simp (disch := omega) only [if_pos, if_neg] | refine zG ?_ | refine zH ?_ | refine zI rfl ?_ | refine zJ rfl ?_ | refine zL ?_ | refine zM ?_ | refine zN ?_ | refine zO ?_ | ((first | refine zP hcl ?_ | refine zQ hcl ?_); simp only [seval, evw, fm, dq5, *]) | ((first | refine zA ?_ ?_ | refine zC ?_ ?_ | refine zE ?_ ?_) <;> (intro hc; try simp only [seval, nf] at hc)) | refine zR ?_ | refine zS rfl ?_)
        · have := loc_bad (s := s) (.inr (.inr (.inr (.inl (isDig_no (by omega))))))
          simp only [seval, evw, fm, dq5, *]
        · have := loc_bad (s := s) (.inr (.inr (.inr (.inl (isDig_no (by omega))))))
          simp only [seval, evw, fm, dq5, *]
        · have qn := qn.of (by omega) (by omega)
          refine ⟨(2, f, dv (s.getD 1 0), m), ⟨hlt, .inr ⟨hfm.of, .inr (.inl ⟨rfl, isd.of (by omega) (by omega), rfl⟩)⟩⟩, by simp only; omega, Weak.at hcl ?_⟩
          clear qn
          simp only [seval, evw, fm, dq5, *]
          unfold dv
          rw [IntKind.wrap_i64, IntKind.wrap_i64, IntKind.wrap_i64, IntKind.wrap_i32]; omega
      · have hx := hq.of
        unfold LocAt at hx
        have hfn : isDig (s.getD 1 0) = true ∧ n = dv (s.getD 1 0) ∧ ((s.getD 0 0).toNat = 114 ∧ f = 0 ∧ m = 8 ∨ (s.getD 0 0).toNat = 115 ∧ f = 8 ∧ m = 16) := by
          rcases hx with h | ⟨h, h2 | h2 | h2⟩
          · omega
          · omega
          · exact ⟨h2.2.1, h2.2.2, h⟩
          · omega
        obtain ⟨hd1, hdn, hfm⟩ := hfn
        replace hfm := Hold.mk hfm
        replace hd1 := Hold.mk hd1
        replace hdn := Hold.mk hdn
        clear hx
        repeat' (first | simp only [seval, evo, beq_self_eq_true, dq5, *] | simp (disch := omega) only [if_pos, if_neg] | refine zG ?_ | refine zH ?_ | refine zI rfl ?_ | refine zJ rfl ?_ | refine zL ?_ | refine zM ?_ | refine zN ?_ | refine zO ?_ | ((first | refine zP hcl ?_ | refine zQ hcl ?_); simp only [seval, evw, fm, dq5, *]) | ((first | refine zA ?_ ?_ | refine zC ?_ ?_ | refine zE ?_ ?_) <;> (intro hc; try simp only [seval, nf] at hc)) | refine zR ?_ | refine zS rfl ?_)
        · have := loc_bad (s := s) (.inr (.inr (.inr (.inr (.inl ⟨hlt, .inl (isDig_no (by omega))⟩)))))
          simp only [seval, evw, fm, dq5, *]
        · have := loc_bad (s := s) (.inr (.inr (.inr (.inr (.inl ⟨hlt, .inl (isDig_no (by omega))⟩)))))
          simp only [seval, evw, fm, dq5, *]
        · have := loc_bad (s := s) (.inr (.inr (.inr (.inr (.inl ⟨hlt, .inr (by rw [← hdn.of]; omega)⟩)))))
          simp only [seval, evw, fm, dq5, *]
        · have qn := qn.of (by omega) (by omega)
          refine ⟨(3, f, n * 10 + dv (s.getD 2 0), m), ⟨hlt, .inr ⟨hfm.of, .inr (.inr ⟨rfl, hd1.of, isd.of (by omega) (by omega), by rw [← hdn.of]; omega, by rw [← hdn.of]⟩)⟩⟩, by simp only; omega, Weak.at hcl ?_⟩
          simp only [seval, evw, fm, dq5, *]
      · have := loc_bad (s := s) (.inr (.inl hlt))
        repeat' (first | simp only [seval, evo, beq_self_eq_true, dq5, *] | simp (disch := omega) only [if_pos, if_neg] | refine zG ?_ | refine zH ?_ | refine zI rfl ?_ | refine zJ rfl ?_ | refine zL ?_ | refine zM ?_ | refine zN ?_ | refine zO ?_ | ((first | refine zP hcl ?_ | refine zQ hcl ?_); simp only [seval, evw, fm, dq5, *]) | ((first | refine zA ?_ ?_ | refine zC ?_ ?_ | refine zE ?_ ?_) <;> (intro hc; try simp only [seval, nf] at hc)) | refine zR ?_ | refine zS rfl ?_)
  · have hp' : p = s.length := by omega
    subst hp'
    by_cases hl2 : s.length < 2
    · have := loc_bad (s := s) (.inl hl2)
      repeat' (first | simp only [seval, evo, beq_self_eq_true, dq5, *] | simp (disch := omega) only [if_pos, if_neg] | refine zG ?_ | refine zH ?_ | refine zI rfl ?_ | refine zJ rfl ?_ | refine zL ?_ | refine zM ?_ | refine zN ?_ | refine zO ?_ | ((first | refine zP hcl ?_ | refine zQ hcl ?_); simp only [seval, evw, fm, dq5, *]) | ((first | refine zA ?_ ?_ | refine zC ?_ ?_ | refine zE ?_ ?_) <;> (intro hc; try simp only [seval, nf] at hc)) | refine zR ?_ | refine zS rfl ?_)
      all_goals omega
    have hx := hq.of
    unfold LocAt at hx
    have hx := hx.resolve_left (by omega)
    by_cases hnm : n < m
    · have := loc_good (s := s) f m n hx.1 hnm (by
        rcases hx.2 with h | h | h
        · omega
        · exact .inl h
        · exact .inr h)
      have qf : IntKind.i64.wrap ((f : Int) + (n : Int)) = ((f + n : Nat) : Int) := by rw [IntKind.wrap_i64]; omega
      replace hx := Hold.mk hx
      repeat' (first | simp only [seval, evo, beq_self_eq_true, dq5, *] | simp (disch := omega) only [if_pos, if_neg] | refine zG ?_ | refine zH ?_ | refine zI rfl ?_ | refine zJ rfl ?_ | refine zL ?_ | refine zM ?_ | refine zN ?_ | refine zO ?_ | ((first | refine zP hcl ?_ | refine zQ hcl ?_); simp only [seval, evw, fm, dq5, *]) | ((first | refine zA ?_ ?_ | refine zC ?_ ?_ | refine zE ?_ ?_) <;> (intro hc; try simp only [seval, nf] at hc)) | refine zR ?_ | refine zS rfl ?_)
      all_goals omega
    · have hv : valD s.tail = n := by
        rcases hx.2 with h | h | h
        · omega
        · match s, h with
          | [a, b], h => simp [valD, valA] at h ⊢; exact h.2.symm
          | [], h => simp at h
          | [a], h => simp at h
          | a :: b :: c :: r, h => simp at h
        · match s, h with
          | [a, b, c], h => simp [valD, valA] at h ⊢; exact h.2.2.2.symm
          | [], h => simp at h
          | [a], h => simp at h
          | [a, b], h => simp at h
          | a :: b :: c :: d :: r, h => simp at h
      have := loc_bad (s := s) (by
        rcases hx.1 with h | h
        · exact .inr (.inr (.inr (.inr (.inr (.inl ⟨h.1, by omega⟩)))))
        · exact .inr (.inr (.inr (.inr (.inr (.inr (by omega)))))))
      clear hv
      replace hx := Hold.mk hx
      repeat' (first | simp only [seval, evo, beq_self_eq_true, dq5, *] | simp (disch := omega) only [if_pos, if_neg] | refine zG ?_ | refine zH ?_ | refine zI rfl ?_ | refine zJ rfl ?_ | refine zL ?_ | refine zM ?_ | refine zN ?_ | refine zO ?_ | ((first | refine zP hcl ?_ | refine zQ hcl ?_); simp only [seval, evw, fm, dq5, *]) | ((first | refine zA ?_ ?_ | refine zC ?_ ?_ | refine zE ?_ ?_) <;> (intro hc; try simp only [seval, nf] at hc)) | refine zR ?_ | refine zS rfl ?_)
      all_goals omega
def glueL (w : List UInt8) : List (List UInt8) → List (List UInt8)
  | [] => [w]
  | v :: vs => (w ++ v) :: vs
def splitSp : List UInt8 → List (List UInt8)
  | [] => [[]]
  | c :: r => if c = 32 then [] :: splitSp r else glueL [c] (splitSp r)
theorem splitSp_ne : ∀ (l : List UInt8), splitSp l ≠ []
  | [] => by simp [splitSp]
  | c :: r => by
    rw [splitSp]
    split
    · simp
    · cases splitSp r <;> simp [glueL]
theorem glueL_nil {l : List UInt8} : glueL [] (splitSp l) = splitSp l := by
  cases h : splitSp l with
  | nil => exact absurd h (splitSp_ne l)
  | cons v vs => rfl
theorem glueL_glueL (w v : List UInt8) (X : List (List UInt8)) : glueL w (glueL v X) = glueL (w ++ v) X := by
  cases X <;> simp [glueL]
theorem splitSp_len : ∀ (l : List UInt8), (splitSp l).length ≤ l.length + 1
  | [] => by simp [splitSp]
  | c :: r => by
    have := splitSp_len r
    rw [splitSp]
    split
    · simp; omega
    · cases h : splitSp r with
      | nil => simp [glueL]
      | cons v vs => rw [h] at this; simp [glueL] at this ⊢; omega
theorem drop_at {s : List UInt8} {p : Nat} (h : p < s.length) : s.drop p = s.getD p 0 :: s.drop (p + 1) := by
  rw [List.drop_eq_getElem_cons h]
  simp [List.getD, h]
theorem split_sp {s w : List UInt8} {p : Nat} (h : p < s.length) (h32 : s.getD p 0 = 32) : glueL w (splitSp (s.drop p)) = w :: splitSp (s.drop (p + 1)) := by
  rw [drop_at h, splitSp, if_pos h32]
  simp [glueL]
theorem split_no {s w : List UInt8} {p : Nat} (h : p < s.length) (h32 : s.getD p 0 ≠ 32) : glueL w (splitSp (s.drop p)) = glueL (w ++ [s.getD p 0]) (splitSp (s.drop (p + 1))) := by
  rw [drop_at h, splitSp, if_neg h32, glueL_glueL]
theorem split_nos {s : List UInt8} {a : Nat} : ∀ (w p : Nat), a ≤ p → p + w ≤ s.length → (∀ q, p ≤ q → q < p + w → s.getD q 0 ≠ 32) → glueL ((s.take p).drop a) (splitSp (s.drop p)) = glueL ((s.take (p + w)).drop a) (splitSp (s.drop (p + w)))
  | 0, p, _, _, _ => rfl
  | w + 1, p, ha, hp, hq => by
    rw [split_no (by omega) (hq p (Nat.le_refl _) (by omega))]
    have e : (s.take p).drop a ++ [s.getD p 0] = (s.take (p + 1)).drop a := by
      rw [take_all (by omega), List.drop_append_of_le_length (by simp; omega)]
    rw [e, split_nos w (p + 1) (by omega) (by omega) (fun q h1 h2 => hq q (by omega) (by omega)), Nat.add_right_comm, Nat.add_assoc]
def encS (w : List UInt8) : List AV := [.str (bs w)]
theorem encS_def {w : List UInt8} : encS w = [.str (bs w)] := rfl
theorem dec_step {s : List UInt8} {p : Nat} (h : p < s.length) : ∃ r w, Utf8.decode (bs s) p = (r, w) ∧ 1 ≤ w ∧ p + w ≤ s.length ∧ ((r = (s.getD p 0).toNat ∧ w = 1 ∧ r < 128) ∨ (128 ≤ r ∧ ∀ q, p ≤ q → q < p + w → 128 ≤ (s.getD q 0).toNat)) := by
  by_cases hf : 128 ≤ (s.getD p 0).toNat
  · obtain ⟨f1, f2, f3, f4⟩ := dec_far h hf
    exact ⟨_, _, rfl, f2, f3, .inr ⟨f1, f4⟩⟩
  · exact ⟨_, _, dec_near (by omega), Nat.le_refl _, h, .inl ⟨rfl, rfl, by omega⟩⟩
set_option linter.defProp false in
def dq6 := And.intro @encB_def (And.intro @encS_def (@sb))
theorem ins_words_ok (s : List UInt8) (hs : s.length ≤ 1000000) : Pure Tryd.prog 40 [.str (bs s)] (.list ((splitSp s).map encS)) := by
  intro H
  refine ACalls.go ins_words.low (by simp) fun hcl => ?_
  have hl := Hold.mk (splitSp_len s)
  (refine zG ?_; refine zH ?_; repeat' (first | simp only [seval, evo, beq_self_eq_true, dq6, *] | simp (disch := omega) only [if_pos, if_neg]))
  (refine zG ?_; refine zH ?_; repeat' (first | simp only [seval, evo, beq_self_eq_true, dq6, *] | simp (disch := omega) only [if_pos, if_neg]))
  (refine zG ?_; refine zH ?_; repeat' (first | simp only [seval, evo, beq_self_eq_true, dq6, *] | simp (disch := omega) only [if_pos, if_neg]))
  refine R.seq ?_
  (refine zG ?_; refine zH ?_; repeat' (first | simp only [seval, evo, beq_self_eq_true, dq6, *] | simp (disch := omega) only [if_pos, if_neg]))
  refine R.block (R.loop (S := Nat × List (List UInt8) × Nat) ⟨fun x => [(0, .str (bs s)), (3, .sl 1 (H.length + 1) x.2.1.length 0 x.2.1.length), (4, .int .i64 (x.2.2 : Int)), (8, .iter H.length)], fun x => H ++ [.iter (bs s) x.1, .vec 1 (x.2.1.map encS)],
    fun x => x.1 ≤ s.length ∧ x.2.2 ≤ x.1 ∧ x.2.1 ++ glueL ((s.take x.1).drop x.2.2) (splitSp (s.drop x.1)) = splitSp s, fun x => s.length - x.1⟩ (0, [], 0) ⟨Nat.zero_le _, Nat.zero_le _, by simp [glueL_nil]⟩ ((Weak.growAt 3 1 (by omega) (by simp only [seval, evo, beq_self_eq_true, dq6, *])).trans (Weak.at hcl (by simp only [seval, evw, fm, dq6, *]))) ?_)
  rintro ⟨p, out, a⟩ ⟨hp, hwl, hq⟩
  simp only at hp hwl hq ⊢
  have hol : out.length + 1 ≤ s.length + 1 := by
    have := congrArg List.length hq
    have h2 : 1 ≤ (glueL ((s.take p).drop a) (splitSp (s.drop p))).length := by cases splitSp (s.drop p) <;> simp [glueL]
    have h3 := hl.of
    rw [List.length_append] at this
    omega
  replace hq := Hold.mk hq
  by_cases hlt : p < s.length
  · obtain ⟨r, w, hd, h1, h2, h3⟩ := dec_step hlt
    have e2 : IntKind.i64.wrap ((p : Int) + 1) = ((p + 1 : Nat) : Int) := by rw [IntKind.wrap_i64]; omega
    replace h3 := Hold.mk h3
    by_cases h32 : r = 32
    · subst h32
      have h3 := (h3.of.resolve_right (by omega))
      obtain ⟨h4, rfl, _⟩ := h3
      have hc32 : s.getD p 0 = 32 := UInt8.toNat_inj.1 (by rw [← h4]; rfl)
      have hx := Hold.mk (split_sp (w := (s.take p).drop a) hlt hc32)
      have e3 : (((32 : Nat) : Int)) = 32 := rfl
      replace h4 := Hold.mk h4
      repeat' (first | simp only [seval, evo, beq_self_eq_true, dq6, *] | simp (disch := omega) only [if_pos, if_neg] | refine zG ?_ | refine zH ?_ | refine zI rfl ?_ | refine zJ rfl ?_ | refine zL ?_ | refine zM ?_ | refine zN ?_ | refine zO ?_ | ((first | refine zP hcl ?_ | refine zQ hcl ?_); simp only [seval, evw, fm, dq6, *]) | ((first | refine zA ?_ ?_ | refine zC ?_ ?_ | refine zE ?_ ?_) <;> (intro hc; try simp only [seval, nf] at hc)) | refine zR ?_ | refine zS rfl ?_)
      refine ⟨(p + 1, out ++ [(s.take p).drop a], p + 1), ⟨hlt, Nat.le_refl _, ?_⟩, by simp only; omega, Weak.at hcl ?_⟩
      · simp only
        rw [← hq.of, hx.of]
        simp [glueL_nil]
      · simp only [seval, evw, fm, dq6, *]
    · have e3 : ¬ (r : Int) = 32 := by omega
      replace h32 := Hold.mk h32
      have hx := Hold.mk (split_nos (s := s) (a := a) w p hwl h2 (fun q g1 g2 g3 => by
        rcases h3.of with ⟨h4, h5, _⟩ | ⟨h4, h5⟩
        · have : q = p := by omega
          subst this
          rw [g3] at h4
          exact h32.of h4
        · have := h5 q g1 g2
          rw [g3] at this
          exact absurd this (by decide)))
      repeat' (first | simp only [seval, evo, beq_self_eq_true, dq6, *] | simp (disch := omega) only [if_pos, if_neg] | refine zG ?_ | refine zH ?_ | refine zI rfl ?_ | refine zJ rfl ?_ | refine zL ?_ | refine zM ?_ | refine zN ?_ | refine zO ?_ | ((first | refine zP hcl ?_ | refine zQ hcl ?_); simp only [seval, evw, fm, dq6, *]) | ((first | refine zA ?_ ?_ | refine zC ?_ ?_ | refine zE ?_ ?_) <;> (intro hc; try simp only [seval, nf] at hc)) | refine zR ?_ | refine zS rfl ?_)
      refine ⟨(p + w, out, a), ⟨h2, by simp only; omega, ?_⟩, by simp only; omega, Weak.at hcl ?_⟩
      · simp only
        rw [← hq.of, hx.of]
      · simp only [seval, evw, fm, dq6, *]
  · have hp' : p = s.length := by omega
    subst hp'
    have hx : out ++ [s.drop a] = splitSp s := by
      rw [← hq.of]; simp [splitSp, glueL]
    rw [← hx]
    replace hx := Hold.mk hx
    repeat' (first | simp only [seval, evo, beq_self_eq_true, dq6, *] | simp (disch := omega) only [if_pos, if_neg] | refine zG ?_ | refine zH ?_ | refine zI rfl ?_ | refine zJ rfl ?_ | refine zL ?_ | refine zM ?_ | refine zN ?_ | refine zO ?_ | ((first | refine zP hcl ?_ | refine zQ hcl ?_); simp only [seval, evw, fm, dq6, *]) | ((first | refine zA ?_ ?_ | refine zC ?_ ?_ | refine zE ?_ ?_) <;> (intro hc; try simp only [seval, nf] at hc)) | refine zR ?_ | refine zS rfl ?_)
structure Ok64 (x : Ins) : Prop where
  op : in64 x.op
  d : in64 x.d
  a : in64 x.a
  b : in64 x.b
  n : in64 x.n
  to : in64 x.to
def encFn (f : List Ins) : AV := .list (f.map encIns)
theorem getD_encIns {l : List Ins} {j : Nat} (h : j < l.length) : (l.map encIns).getD j [] = encIns (l.getD j noIns) := by
  simp [List.getD, h]
theorem drop_ins {l : List Ins} {j : Nat} (h : j < l.length) : l.drop j = l.getD j noIns :: l.drop (j + 1) := by
  rw [List.drop_eq_getElem_cons h]
  simp [List.getD, h]
def badAt (n : Int) : Nat → List Ins → Option (Nat × Int)
  | _, [] => none
  | i, x :: r => if chk x n = 0 then badAt n (i + 1) r else some (i, chk x n)
def lastOp (f : List Ins) : Int := (f.getD (f.length - 1) noIns).op
def fnChk (f : List Ins) : Int × Int := if 200 < f.length then (0, 3) else if f.length = 0 then (0, 5) else match badAt (f.length : Int) 0 f with
  | some (i, e) => ((i : Int), e)
  | none => if lastOp f = 16 ∨ lastOp f = 18 then (0, 0) else (((f.length - 1 : Nat) : Int), 5)
def fnChkA (f : List Ins) : AV := .tup [.int .i64 (fnChk f).1, .int .i64 (fnChk f).2]
theorem fnChkA_eq {f : List Ins} {a b : Int} (h : fnChk f = (a, b)) : fnChkA f = .tup [.int .i64 a, .int .i64 b] := by
  unfold fnChkA
  rw [h]
theorem fnChk_full {f : List Ins} (h : 200 < f.length) : fnChk f = (0, 3) := by unfold fnChk; rw [if_pos h]
theorem fnChk_nil {f : List Ins} (h : f.length = 0) : fnChk f = (0, 5) := by unfold fnChk; rw [if_neg (by omega), if_pos h]
theorem fnChk_bad {f : List Ins} {i : Nat} {e : Int} (h1 : ¬ 200 < f.length) (h2 : ¬ f.length = 0) (h : badAt (f.length : Int) 0 f = some (i, e)) : fnChk f = ((i : Int), e) := by
  unfold fnChk; rw [if_neg h1, if_neg h2, h]
theorem fnChk_good {f : List Ins} (h1 : ¬ 200 < f.length) (h2 : ¬ f.length = 0) (h : badAt (f.length : Int) 0 f = none) : fnChk f = if lastOp f = 16 ∨ lastOp f = 18 then (0, 0) else (((f.length - 1 : Nat) : Int), 5) := by
  unfold fnChk; rw [if_neg h1, if_neg h2, h]
set_option linter.defProp false in
def dq7 := And.intro @encB_def (And.intro @sb (And.intro @ins_dec (And.intro @ins_eta (@List.length_append.{0}))))
theorem asm_Check_ok (f : List Ins) : Pure Tryd.prog 34 [encFn f] (fnChkA f) := by
  intro H
  refine ACalls.go asm_Check.low (by simp) fun hcl => ?_
  unfold encFn
  by_cases hl : 200 < f.length
  · have e1 : (200 : Int) < (f.length : Int) := by omega
    have hr := fnChkA_eq (fnChk_full hl)
    repeat' (first | simp only [seval, evo, beq_self_eq_true, insA, encIns, dq7, *] | simp (disch := omega) only [if_pos, if_neg] | refine zG ?_ | refine zH ?_ | refine zI rfl ?_ | refine zJ rfl ?_ | refine zL ?_ | refine zM ?_ | refine zN ?_ | refine zO ?_ | ((first | refine zP hcl ?_ | refine zQ hcl ?_); simp only [seval, evw, fm, insA, encIns, dq7, *]) | ((first | refine zA ?_ ?_ | refine zC ?_ ?_ | refine zE ?_ ?_) <;> (intro hc; try simp only [seval, nf] at hc)) | refine zR ?_ | refine zS rfl ?_)
  have e1 : ¬ (200 : Int) < (f.length : Int) := by omega
  by_cases h0 : f.length = 0
  · have e2 : (f.length : Int) = 0 := by omega
    have hr := fnChkA_eq (fnChk_nil h0)
    clear e1 hl
    repeat' (first | simp only [seval, evo, beq_self_eq_true, insA, encIns, dq7, *] | simp (disch := omega) only [if_pos, if_neg] | refine zG ?_ | refine zH ?_ | refine zI rfl ?_ | refine zJ rfl ?_ | refine zL ?_ | refine zM ?_ | refine zN ?_ | refine zO ?_ | ((first | refine zP hcl ?_ | refine zQ hcl ?_); simp only [seval, evw, fm, insA, encIns, dq7, *]) | ((first | refine zA ?_ ?_ | refine zC ?_ ?_ | refine zE ?_ ?_) <;> (intro hc; try simp only [seval, nf] at hc)) | refine zR ?_ | refine zS rfl ?_)
  have e2 : ¬ (f.length : Int) = 0 := by omega
  have hbad := fun i e => fnChk_bad (i := i) (e := e) hl h0
  have hgood := fnChk_good hl h0
  replace hbad := Hold.mk hbad
  replace hgood := Hold.mk hgood
  repeat' (first | simp only [seval, evo, beq_self_eq_true, insA, encIns, dq7, *] | simp (disch := omega) only [if_pos, if_neg] | refine zG ?_ | refine zH ?_ | refine zI rfl ?_ | refine zJ rfl ?_ | refine zL ?_ | refine zM ?_ | refine zN ?_ | refine zO ?_ | ((first | refine zP hcl ?_ | refine zQ hcl ?_); simp only [seval, evw, fm, insA, encIns, dq7, *]) | ((first | refine zA ?_ ?_ | refine zC ?_ ?_ | refine zE ?_ ?_) <;> (intro hc; try simp only [seval, nf] at hc)) | refine zR ?_ | refine zS rfl ?_)
  refine R.loop (S := Nat) ⟨fun i => [(0, .list (f.map encIns)), (16, .list (f.map encIns)), (17, .int .i64 (f.length : Int)), (18, .int .i64 (i : Int))], fun i => H ++ [], fun i => i ≤ f.length ∧ badAt (f.length : Int) i (f.drop i) = badAt (f.length : Int) 0 f, fun i => f.length - i⟩ 0 ⟨Nat.zero_le _, rfl⟩ (Weak.at hcl ?_) ?_
  · simp only [seval, evw, fm, insA, encIns, dq7, *]
  rintro i ⟨hi, hq⟩
  simp only at hi hq ⊢
  by_cases hlt : i < f.length
  · have hg := getD_encIns hlt
    rw [drop_ins hlt, badAt] at hq
    have e3 : (i : Int) < (f.length : Int) := by omega
    have e4 : IntKind.i64.wrap ((i : Int) + 1) = ((i + 1 : Nat) : Int) := by rw [IntKind.wrap_i64]; omega
    have hc1 := ins_Check_ok (f.getD i noIns) (f.length : Int)
    generalize f.getD i noIns = x at *
    rw [insA_eq] at hc1
    replace hc1 := Hold.mk hc1
    by_cases hk : chk x (f.length : Int) = 0
    · rw [if_pos hk] at hq
      replace hq := Hold.mk hq
      repeat' (first | simp only [seval, evo, beq_self_eq_true, insA, encIns, dq7, *] | simp (disch := omega) only [if_pos, if_neg] | refine zG ?_ | refine zH ?_ | refine zI rfl ?_ | refine zJ rfl ?_ | refine zL ?_ | refine zM ?_ | refine zN ?_ | refine zO ?_ | ((first | refine zP hcl ?_ | refine zQ hcl ?_); simp only [seval, evw, fm, insA, encIns, dq7, *]) | ((first | refine zA ?_ ?_ | refine zC ?_ ?_ | refine zE ?_ ?_) <;> (intro hc; try simp only [seval, nf] at hc)) | refine zR ?_ | refine zS rfl ?_)
      first | refine zT (hc1.of) ?_ | refine zV (hc1.of) rfl ?_ | refine zU (hc1.of) ?_
      repeat' (first | simp only [seval, evo, beq_self_eq_true, insA, encIns, dq7, *] | simp (disch := omega) only [if_pos, if_neg] | refine zG ?_ | refine zH ?_ | refine zI rfl ?_ | refine zJ rfl ?_ | refine zL ?_ | refine zM ?_ | refine zN ?_ | refine zO ?_ | ((first | refine zP hcl ?_ | refine zQ hcl ?_); simp only [seval, evw, fm, insA, encIns, dq7, *]) | ((first | refine zA ?_ ?_ | refine zC ?_ ?_ | refine zE ?_ ?_) <;> (intro hc; try simp only [seval, nf] at hc)) | refine zR ?_ | refine zS rfl ?_)
      refine ⟨i + 1, ⟨hlt, hq.of⟩, by simp only; omega, Weak.at hcl ?_⟩
      simp only [seval, evw, fm, insA, encIns, dq7, *]
    · rw [if_neg hk] at hq
      have hr := fnChkA_eq (hbad.of _ _ hq.symm)
      replace hq := Hold.mk hq
      repeat' (first | simp only [seval, evo, beq_self_eq_true, insA, encIns, dq7, *] | simp (disch := omega) only [if_pos, if_neg] | refine zG ?_ | refine zH ?_ | refine zI rfl ?_ | refine zJ rfl ?_ | refine zL ?_ | refine zM ?_ | refine zN ?_ | refine zO ?_ | ((first | refine zP hcl ?_ | refine zQ hcl ?_); simp only [seval, evw, fm, insA, encIns, dq7, *]) | ((first | refine zA ?_ ?_ | refine zC ?_ ?_ | refine zE ?_ ?_) <;> (intro hc; try simp only [seval, nf] at hc)) | refine zR ?_ | refine zS rfl ?_)
      first | refine zT (hc1.of) ?_ | refine zV (hc1.of) rfl ?_ | refine zU (hc1.of) ?_
      repeat' (first | simp only [seval, evo, beq_self_eq_true, insA, encIns, dq7, *] | simp (disch := omega) only [if_pos, if_neg] | refine zG ?_ | refine zH ?_ | refine zI rfl ?_ | refine zJ rfl ?_ | refine zL ?_ | refine zM ?_ | refine zN ?_ | refine zO ?_ | ((first | refine zP hcl ?_ | refine zQ hcl ?_); simp only [seval, evw, fm, insA, encIns, dq7, *]) | ((first | refine zA ?_ ?_ | refine zC ?_ ?_ | refine zE ?_ ?_) <;> (intro hc; try simp only [seval, nf] at hc)) | refine zR ?_ | refine zS rfl ?_)
  · have hie : i = f.length := by omega
    subst hie
    rw [List.drop_length, badAt] at hq
    have hlast := hgood.of hq.symm
    clear hq
    have e3 : ¬ (f.length : Int) < (f.length : Int) := by omega
    have e5 : IntKind.i64.wrap ((f.length : Int) - 1) = ((f.length - 1 : Nat) : Int) := by rw [IntKind.wrap_i64]; omega
    have hg := getD_encIns (l := f) (j := f.length - 1) (by omega)
    have e6 : ((f.length - 1 : Nat) : Int) < (f.length : Int) := by omega
    have e7 : f.length - 1 < f.length := by omega
    unfold lastOp at hlast
    generalize f.getD (f.length - 1) noIns = x at *
    by_cases o1 : x.op = 16
    · rw [if_pos (.inl o1)] at hlast
      have hr := fnChkA_eq hlast
      replace hlast := Hold.mk hlast
      repeat' (first | simp only [seval, evo, beq_self_eq_true, insA, encIns, dq7, *] | simp (disch := omega) only [if_pos, if_neg] | refine zG ?_ | refine zH ?_ | refine zI rfl ?_ | refine zJ rfl ?_ | refine zL ?_ | refine zM ?_ | refine zN ?_ | refine zO ?_ | ((first | refine zP hcl ?_ | refine zQ hcl ?_); simp only [seval, evw, fm, insA, encIns, dq7, *]) | ((first | refine zA ?_ ?_ | refine zC ?_ ?_ | refine zE ?_ ?_) <;> (intro hc; try simp only [seval, nf] at hc)) | refine zR ?_ | refine zS rfl ?_)
    · by_cases o2 : x.op = 18
      · rw [if_pos (.inr o2)] at hlast
        have hr := fnChkA_eq hlast
        replace hlast := Hold.mk hlast
        repeat' (first | simp only [seval, evo, beq_self_eq_true, insA, encIns, dq7, *] | simp (disch := omega) only [if_pos, if_neg] | refine zG ?_ | refine zH ?_ | refine zI rfl ?_ | refine zJ rfl ?_ | refine zL ?_ | refine zM ?_ | refine zN ?_ | refine zO ?_ | ((first | refine zP hcl ?_ | refine zQ hcl ?_); simp only [seval, evw, fm, insA, encIns, dq7, *]) | ((first | refine zA ?_ ?_ | refine zC ?_ ?_ | refine zE ?_ ?_) <;> (intro hc; try simp only [seval, nf] at hc)) | refine zR ?_ | refine zS rfl ?_)
      · rw [if_neg (by simp [o1, o2])] at hlast
        have hr := fnChkA_eq hlast
        replace hlast := Hold.mk hlast
        repeat' (first | simp only [seval, evo, beq_self_eq_true, insA, encIns, dq7, *] | simp (disch := omega) only [if_pos, if_neg] | refine zG ?_ | refine zH ?_ | refine zI rfl ?_ | refine zJ rfl ?_ | refine zL ?_ | refine zM ?_ | refine zN ?_ | refine zO ?_ | ((first | refine zP hcl ?_ | refine zQ hcl ?_); simp only [seval, evw, fm, insA, encIns, dq7, *]) | ((first | refine zA ?_ ?_ | refine zC ?_ ?_ | refine zE ?_ ?_) <;> (intro hc; try simp only [seval, nf] at hc)) | refine zR ?_ | refine zS rfl ?_)
theorem ref04_Check_ok (f : List Ins) : Pure Tryd.prog 27 [encFn f] (fnChkA f) := by
  intro H
  refine ACalls.go joineryref04_Check.low (by simp) fun hcl => ?_
  unfold encFn
  by_cases hl : 200 < f.length
  · have e1 : (200 : Int) < (f.length : Int) := by omega
    have hr := fnChkA_eq (fnChk_full hl)
    repeat' (first | simp only [seval, evo, beq_self_eq_true, insA, encIns, dq7, *] | simp (disch := omega) only [if_pos, if_neg] | refine zG ?_ | refine zH ?_ | refine zI rfl ?_ | refine zJ rfl ?_ | refine zL ?_ | refine zM ?_ | refine zN ?_ | refine zO ?_ | ((first | refine zP hcl ?_ | refine zQ hcl ?_); simp only [seval, evw, fm, insA, encIns, dq7, *]) | ((first | refine zA ?_ ?_ | refine zC ?_ ?_ | refine zE ?_ ?_) <;> (intro hc; try simp only [seval, nf] at hc)) | refine zR ?_ | refine zS rfl ?_)
  have e1 : ¬ (200 : Int) < (f.length : Int) := by omega
  by_cases h0 : f.length = 0
  · have e2 : (f.length : Int) = 0 := by omega
    have hr := fnChkA_eq (fnChk_nil h0)
    clear e1 hl
    repeat' (first | simp only [seval, evo, beq_self_eq_true, insA, encIns, dq7, *] | simp (disch := omega) only [if_pos, if_neg] | refine zG ?_ | refine zH ?_ | refine zI rfl ?_ | refine zJ rfl ?_ | refine zL ?_ | refine zM ?_ | refine zN ?_ | refine zO ?_ | ((first | refine zP hcl ?_ | refine zQ hcl ?_); simp only [seval, evw, fm, insA, encIns, dq7, *]) | ((first | refine zA ?_ ?_ | refine zC ?_ ?_ | refine zE ?_ ?_) <;> (intro hc; try simp only [seval, nf] at hc)) | refine zR ?_ | refine zS rfl ?_)
  have e2 : ¬ (f.length : Int) = 0 := by omega
  have hbad := fun i e => fnChk_bad (i := i) (e := e) hl h0
  have hgood := fnChk_good hl h0
  replace hbad := Hold.mk hbad
  replace hgood := Hold.mk hgood
  repeat' (first | simp only [seval, evo, beq_self_eq_true, insA, encIns, dq7, *] | simp (disch := omega) only [if_pos, if_neg] | refine zG ?_ | refine zH ?_ | refine zI rfl ?_ | refine zJ rfl ?_ | refine zL ?_ | refine zM ?_ | refine zN ?_ | refine zO ?_ | ((first | refine zP hcl ?_ | refine zQ hcl ?_); simp only [seval, evw, fm, insA, encIns, dq7, *]) | ((first | refine zA ?_ ?_ | refine zC ?_ ?_ | refine zE ?_ ?_) <;> (intro hc; try simp only [seval, nf] at hc)) | refine zR ?_ | refine zS rfl ?_)
  refine R.loop (S := Nat) ⟨fun i => [(0, .list (f.map encIns)), (4, .int .i64 (i : Int))], fun i => H ++ [], fun i => i ≤ f.length ∧ badAt (f.length : Int) i (f.drop i) = badAt (f.length : Int) 0 f, fun i => f.length - i⟩ 0 ⟨Nat.zero_le _, rfl⟩ (Weak.at hcl ?_) ?_
  · simp only [seval, evw, fm, insA, encIns, dq7, *]
  rintro i ⟨hi, hq⟩
  simp only at hi hq ⊢
  by_cases hlt : i < f.length
  · have hg := getD_encIns hlt
    rw [drop_ins hlt, badAt] at hq
    have e3 : (i : Int) < (f.length : Int) := by omega
    have e4 : IntKind.i64.wrap ((i : Int) + 1) = ((i + 1 : Nat) : Int) := by rw [IntKind.wrap_i64]; omega
    have hc1 := ref03_Check_ok (f.getD i noIns) (f.length : Int)
    generalize f.getD i noIns = x at *
    rw [insA_eq] at hc1
    replace hc1 := Hold.mk hc1
    by_cases hk : chk x (f.length : Int) = 0
    · rw [if_pos hk] at hq
      replace hq := Hold.mk hq
      repeat' (first | simp only [seval, evo, beq_self_eq_true, insA, encIns, dq7, *] | simp (disch := omega) only [if_pos, if_neg] | refine zG ?_ | refine zH ?_ | refine zI rfl ?_ | refine zJ rfl ?_ | refine zL ?_ | refine zM ?_ | refine zN ?_ | refine zO ?_ | ((first | refine zP hcl ?_ | refine zQ hcl ?_); simp only [seval, evw, fm, insA, encIns, dq7, *]) | ((first | refine zA ?_ ?_ | refine zC ?_ ?_ | refine zE ?_ ?_) <;> (intro hc; try simp only [seval, nf] at hc)) | refine zR ?_ | refine zS rfl ?_)
      first | refine zT (hc1.of) ?_ | refine zV (hc1.of) rfl ?_ | refine zU (hc1.of) ?_
      repeat' (first | simp only [seval, evo, beq_self_eq_true, insA, encIns, dq7, *] | simp (disch := omega) only [if_pos, if_neg] | refine zG ?_ | refine zH ?_ | refine zI rfl ?_ | refine zJ rfl ?_ | refine zL ?_ | refine zM ?_ | refine zN ?_ | refine zO ?_ | ((first | refine zP hcl ?_ | refine zQ hcl ?_); simp only [seval, evw, fm, insA, encIns, dq7, *]) | ((first | refine zA ?_ ?_ | refine zC ?_ ?_ | refine zE ?_ ?_) <;> (intro hc; try simp only [seval, nf] at hc)) | refine zR ?_ | refine zS rfl ?_)
      refine ⟨i + 1, ⟨hlt, hq.of⟩, by simp only; omega, Weak.at hcl ?_⟩
      simp only [seval, evw, fm, insA, encIns, dq7, *]
    · rw [if_neg hk] at hq
      have hr := fnChkA_eq (hbad.of _ _ hq.symm)
      replace hq := Hold.mk hq
      repeat' (first | simp only [seval, evo, beq_self_eq_true, insA, encIns, dq7, *] | simp (disch := omega) only [if_pos, if_neg] | refine zG ?_ | refine zH ?_ | refine zI rfl ?_ | refine zJ rfl ?_ | refine zL ?_ | refine zM ?_ | refine zN ?_ | refine zO ?_ | ((first | refine zP hcl ?_ | refine zQ hcl ?_); simp only [seval, evw, fm, insA, encIns, dq7, *]) | ((first | refine zA ?_ ?_ | refine zC ?_ ?_ | refine zE ?_ ?_) <;> (intro hc; try simp only [seval, nf] at hc)) | refine zR ?_ | refine zS rfl ?_)
      first | refine zT (hc1.of) ?_ | refine zV (hc1.of) rfl ?_ | refine zU (hc1.of) ?_
      repeat' (first | simp only [seval, evo, beq_self_eq_true, insA, encIns, dq7, *] | simp (disch := omega) only [if_pos, if_neg] | refine zG ?_ | refine zH ?_ | refine zI rfl ?_ | refine zJ rfl ?_ | refine zL ?_ | refine zM ?_ | refine zN ?_ | refine zO ?_ | ((first | refine zP hcl ?_ | refine zQ hcl ?_); simp only [seval, evw, fm, insA, encIns, dq7, *]) | ((first | refine zA ?_ ?_ | refine zC ?_ ?_ | refine zE ?_ ?_) <;> (intro hc; try simp only [seval, nf] at hc)) | refine zR ?_ | refine zS rfl ?_)
  · have hie : i = f.length := by omega
    subst hie
    rw [List.drop_length, badAt] at hq
    have hlast := hgood.of hq.symm
    clear hq
    have e3 : ¬ (f.length : Int) < (f.length : Int) := by omega
    have e5 : IntKind.i64.wrap ((f.length : Int) - 1) = ((f.length - 1 : Nat) : Int) := by rw [IntKind.wrap_i64]; omega
    have hg := getD_encIns (l := f) (j := f.length - 1) (by omega)
    have e6 : ((f.length - 1 : Nat) : Int) < (f.length : Int) := by omega
    have e7 : f.length - 1 < f.length := by omega
    unfold lastOp at hlast
    generalize f.getD (f.length - 1) noIns = x at *
    by_cases o1 : x.op = 16
    · rw [if_pos (.inl o1)] at hlast
      have hr := fnChkA_eq hlast
      replace hlast := Hold.mk hlast
      repeat' (first | simp only [seval, evo, beq_self_eq_true, insA, encIns, dq7, *] | simp (disch := omega) only [if_pos, if_neg] | refine zG ?_ | refine zH ?_ | refine zI rfl ?_ | refine zJ rfl ?_ | refine zL ?_ | refine zM ?_ | refine zN ?_ | refine zO ?_ | ((first | refine zP hcl ?_ | refine zQ hcl ?_); simp only [seval, evw, fm, insA, encIns, dq7, *]) | ((first | refine zA ?_ ?_ | refine zC ?_ ?_ | refine zE ?_ ?_) <;> (intro hc; try simp only [seval, nf] at hc)) | refine zR ?_ | refine zS rfl ?_)
    · by_cases o2 : x.op = 18
      · rw [if_pos (.inr o2)] at hlast
        have hr := fnChkA_eq hlast
        replace hlast := Hold.mk hlast
        repeat' (first | simp only [seval, evo, beq_self_eq_true, insA, encIns, dq7, *] | simp (disch := omega) only [if_pos, if_neg] | refine zG ?_ | refine zH ?_ | refine zI rfl ?_ | refine zJ rfl ?_ | refine zL ?_ | refine zM ?_ | refine zN ?_ | refine zO ?_ | ((first | refine zP hcl ?_ | refine zQ hcl ?_); simp only [seval, evw, fm, insA, encIns, dq7, *]) | ((first | refine zA ?_ ?_ | refine zC ?_ ?_ | refine zE ?_ ?_) <;> (intro hc; try simp only [seval, nf] at hc)) | refine zR ?_ | refine zS rfl ?_)
      · rw [if_neg (by simp [o1, o2])] at hlast
        have hr := fnChkA_eq hlast
        replace hlast := Hold.mk hlast
        repeat' (first | simp only [seval, evo, beq_self_eq_true, insA, encIns, dq7, *] | simp (disch := omega) only [if_pos, if_neg] | refine zG ?_ | refine zH ?_ | refine zI rfl ?_ | refine zJ rfl ?_ | refine zL ?_ | refine zM ?_ | refine zN ?_ | refine zO ?_ | ((first | refine zP hcl ?_ | refine zQ hcl ?_); simp only [seval, evw, fm, insA, encIns, dq7, *]) | ((first | refine zA ?_ ?_ | refine zC ?_ ?_ | refine zE ?_ ?_) <;> (intro hc; try simp only [seval, nf] at hc)) | refine zR ?_ | refine zS rfl ?_)
def fnOk (f : List Ins) : Bool := decide ((fnChk f).2 = 0)
theorem asm_Right_ok (f : List Ins) : Pure Tryd.prog 16 [encFn f] (.bool (fnOk f)) := by
  intro H
  refine ACalls.go asm_Right.low (by simp) fun hcl => ?_
  have h1 := asm_Check_ok f
  unfold encFn fnChkA at *
  unfold fnOk
  replace h1 := Hold.mk h1
  repeat' (first | simp only [seval, evo, beq_self_eq_true, insA, encIns, dq7, *] | simp (disch := omega) only [if_pos, if_neg] | refine zG ?_ | refine zH ?_ | refine zI rfl ?_ | refine zJ rfl ?_ | refine zL ?_ | refine zM ?_ | refine zN ?_ | refine zO ?_ | ((first | refine zP hcl ?_ | refine zQ hcl ?_); simp only [seval, evw, fm, insA, encIns, dq7, *]) | ((first | refine zA ?_ ?_ | refine zC ?_ ?_ | refine zE ?_ ?_) <;> (intro hc; try simp only [seval, nf] at hc)) | refine zR ?_ | refine zS rfl ?_)
  first | refine zT (h1.of) ?_ | refine zV (h1.of) rfl ?_ | refine zU (h1.of) ?_
  repeat' (first | simp only [seval, evo, beq_self_eq_true, insA, encIns, dq7, *] | simp (disch := omega) only [if_pos, if_neg] | refine zG ?_ | refine zH ?_ | refine zI rfl ?_ | refine zJ rfl ?_ | refine zL ?_ | refine zM ?_ | refine zN ?_ | refine zO ?_ | ((first | refine zP hcl ?_ | refine zQ hcl ?_); simp only [seval, evw, fm, insA, encIns, dq7, *]) | ((first | refine zA ?_ ?_ | refine zC ?_ ?_ | refine zE ?_ ?_) <;> (intro hc; try simp only [seval, nf] at hc)) | refine zR ?_ | refine zS rfl ?_)
theorem ref04_Right_ok (f : List Ins) : Pure Tryd.prog 12 [encFn f] (.bool (fnOk f)) := by
  intro H
  refine ACalls.go joineryref04_Right.low (by simp) fun hcl => ?_
  have h1 := ref04_Check_ok f
  unfold encFn fnChkA at *
  unfold fnOk
  replace h1 := Hold.mk h1
  repeat' (first | simp only [seval, evo, beq_self_eq_true, insA, encIns, dq7, *] | simp (disch := omega) only [if_pos, if_neg] | refine zG ?_ | refine zH ?_ | refine zI rfl ?_ | refine zJ rfl ?_ | refine zL ?_ | refine zM ?_ | refine zN ?_ | refine zO ?_ | ((first | refine zP hcl ?_ | refine zQ hcl ?_); simp only [seval, evw, fm, insA, encIns, dq7, *]) | ((first | refine zA ?_ ?_ | refine zC ?_ ?_ | refine zE ?_ ?_) <;> (intro hc; try simp only [seval, nf] at hc)) | refine zR ?_ | refine zS rfl ?_)
  first | refine zT (h1.of) ?_ | refine zV (h1.of) rfl ?_ | refine zU (h1.of) ?_
  repeat' (first | simp only [seval, evo, beq_self_eq_true, insA, encIns, dq7, *] | simp (disch := omega) only [if_pos, if_neg] | refine zG ?_ | refine zH ?_ | refine zI rfl ?_ | refine zJ rfl ?_ | refine zL ?_ | refine zM ?_ | refine zN ?_ | refine zO ?_ | ((first | refine zP hcl ?_ | refine zQ hcl ?_); simp only [seval, evw, fm, insA, encIns, dq7, *]) | ((first | refine zA ?_ ?_ | refine zC ?_ ?_ | refine zE ?_ ?_) <;> (intro hc; try simp only [seval, nf] at hc)) | refine zR ?_ | refine zS rfl ?_)
theorem badAt_none {n : Int} : ∀ (f : List Ins) (i : Nat), badAt n i f = none → ∀ x ∈ f, chk x n = 0
  | [], _, _ => by simp
  | y :: r, i, h => by
    intro x hx
    rw [badAt] at h
    by_cases hk : chk y n = 0
    · rw [if_pos hk] at h
      rcases List.mem_cons.1 hx with rfl | hx
      · exact hk
      · exact badAt_none r (i + 1) h x hx
    · rw [if_neg hk] at h
      simp at h
theorem badAt_some {n : Int} : ∀ (f : List Ins) (i j : Nat) (e : Int), badAt n i f = some (j, e) → e ≠ 0 ∧ i ≤ j ∧ j < i + f.length
  | [], _, _, _, h => by simp [badAt] at h
  | y :: r, i, j, e, h => by
    rw [badAt] at h
    by_cases hk : chk y n = 0
    · rw [if_pos hk] at h
      obtain ⟨h1, h2, h3⟩ := badAt_some r (i + 1) j e h
      exact ⟨h1, by omega, by simp; omega⟩
    · rw [if_neg hk] at h
      simp only [Option.some.injEq, Prod.mk.injEq] at h
      obtain ⟨rfl, rfl⟩ := h
      exact ⟨hk, Nat.le_refl _, by simp⟩
theorem fnOk_iff {f : List Ins} : fnOk f = true ↔ f.length ≤ 200 ∧ 0 < f.length ∧ (∀ x ∈ f, chk x (f.length : Int) = 0) ∧ (lastOp f = 16 ∨ lastOp f = 18) := by
  unfold fnOk
  rw [decide_eq_true_eq]
  by_cases h1 : 200 < f.length
  · rw [fnChk_full h1]
    simp
    omega
  · by_cases h2 : f.length = 0
    · rw [fnChk_nil h2]
      simp
      omega
    · cases hb : badAt (f.length : Int) 0 f with
      | some q =>
        obtain ⟨i, e⟩ := q
        rw [fnChk_bad h1 h2 hb]
        have he := (badAt_some _ _ _ _ hb).1
        constructor
        · intro h; exact absurd h he
        · rintro ⟨_, _, h, _⟩
          exfalso
          have : ∀ (g : List Ins) (i : Nat), (∀ x ∈ g, chk x (f.length : Int) = 0) → badAt (f.length : Int) i g = none := by
            intro g
            induction g with
            | nil => intro i _; rfl
            | cons y r ih => intro i hh; rw [badAt, if_pos (hh y (by simp))]; exact ih _ fun x hx => hh x (by simp [hx])
          rw [this f 0 h] at hb
          simp at hb
      | none =>
        rw [fnChk_good h1 h2 hb]
        have := badAt_none _ _ hb
        by_cases hl : lastOp f = 16 ∨ lastOp f = 18
        · rw [if_pos hl]
          simp only [true_iff]
          exact ⟨by omega, by omega, this, hl⟩
        · rw [if_neg hl]
          constructor
          · intro h; simp at h
          · rintro ⟨_, _, _, h⟩; exact absurd h hl
structure W where
  is : Bool
  v : Int
deriving DecidableEq
def noW : W := ⟨false, 0⟩
def encW (w : W) : List AV := [.bool w.is, .int .i64 w.v]
theorem encW_def {w : W} : encW w = [.bool w.is, .int .i64 w.v] := rfl
def wc (L : List W) : List AV := L.flatMap encW
theorem wc_cons {w : W} {L : List W} : wc (w :: L) = .bool w.is :: .int .i64 w.v :: wc L := rfl
theorem wc_len : ∀ (L : List W), (wc L).length = 2 * L.length
  | [] => rfl
  | w :: L => by rw [wc_cons]; simp [wc_len L]; omega
theorem wc_pair : ∀ (L : List W) (i : Nat), i < L.length → ((wc L).drop (i * 2)).take 2 = encW (L.getD i noW)
  | [], i, h => by simp at h
  | w :: L, 0, h => rfl
  | w :: L, i + 1, h => by
    have e : (i + 1) * 2 = i * 2 + 1 + 1 := by omega
    rw [wc_cons, e, List.drop_succ_cons, List.drop_succ_cons, wc_pair L i (by simpa using h)]
    rfl
theorem wc_is : ∀ (L : List W) (i : Nat), i < L.length → (wc L)[i * 2]? = some (.bool (L.getD i noW).is)
  | [], i, h => by simp at h
  | w :: L, 0, h => rfl
  | w :: L, i + 1, h => by
    have e : (i + 1) * 2 = i * 2 + 1 + 1 := by omega
    rw [wc_cons, e, List.getElem?_cons_succ, List.getElem?_cons_succ, wc_is L i (by simpa using h)]
    rfl
theorem wc_v : ∀ (L : List W) (i : Nat), i < L.length → (wc L)[i * 2 + 1]? = some (.int .i64 (L.getD i noW).v)
  | [], i, h => by simp at h
  | w :: L, 0, h => rfl
  | w :: L, i + 1, h => by
    have e : (i + 1) * 2 + 1 = (i * 2 + 1) + 1 + 1 := by omega
    rw [wc_cons, e, List.getElem?_cons_succ, List.getElem?_cons_succ, wc_v L i (by simpa using h)]
    rfl
theorem wc_put : ∀ (L : List W) (i : Nat) (w : W), i < L.length → (wc L).take (i * 2) ++ .bool w.is :: .int .i64 w.v :: (wc L).drop (i * 2 + 2) = wc (L.set i w)
  | [], i, _, h => by simp at h
  | u :: L, 0, w, h => rfl
  | u :: L, i + 1, w, h => by
    have e : (i + 1) * 2 = i * 2 + 1 + 1 := by omega
    have e2 : (i + 1) * 2 + 2 = (i * 2 + 2) + 1 + 1 := by omega
    rw [wc_cons, e2, e, List.take_succ_cons, List.take_succ_cons, List.drop_succ_cons, List.drop_succ_cons, List.set_cons_succ, wc_cons, ← wc_put L i w (by simpa using h)]
    rfl
section
variable {L : List W} {r : List AV} {i : Nat}
theorem wr_pair (h : i < L.length) : ((wc L ++ r).drop (i * 2)).take 2 = encW (L.getD i noW) := by
  have hl := wc_len L
  rw [List.drop_append_of_le_length (by omega), List.take_append_of_le_length (by rw [List.length_drop]; omega), wc_pair L i h]
theorem wr_is (h : i < L.length) : (wc L ++ r)[i * 2]? = some (.bool (L.getD i noW).is) := by
  have hl := wc_len L
  rw [List.getElem?_append_left (by omega), wc_is L i h]
theorem wr_v (h : i < L.length) : (wc L ++ r)[i * 2 + 1]? = some (.int .i64 (L.getD i noW).v) := by
  have hl := wc_len L
  rw [List.getElem?_append_left (by omega), wc_v L i h]
theorem wr_put (w : W) (h : i < L.length) : (wc L ++ r).take (i * 2) ++ .bool w.is :: .int .i64 w.v :: (wc L ++ r).drop (i * 2 + 2) = wc (L.set i w) ++ r := by
  have hl := wc_len L
  rw [List.take_append_of_le_length (by omega), List.drop_append_of_le_length (by omega), ← wc_put L i w h]
  simp
theorem wr_put2 (w : W) (h : i < L.length) : (wc L ++ r).take (i * 2) ++ [.bool w.is, .int .i64 w.v] ++ (wc L ++ r).drop (i * 2 + 2) = wc (L.set i w) ++ r := by
  rw [← wr_put w h]; simp
end
theorem wc_clean (m : Nat) : ∀ L : List W, cleanAll m (wc L) = true
  | [] => rfl
  | w :: L => by rw [wc_cons, cleanAll, cleanAll, wc_clean m L]; rfl
theorem cleanAll_app {m : Nat} : ∀ {a b : List AV}, cleanAll m (a ++ b) = (cleanAll m a && cleanAll m b)
  | [], b => by simp [cleanAll]
  | x :: a, b => by rw [List.cons_append, cleanAll, cleanAll, cleanAll_app, Bool.and_assoc]
theorem cl_wc {m : Nat} {L : List W} {r : List AV} : cleanAll m (wc L ++ r) = cleanAll m r := by rw [cleanAll_app, wc_clean, Bool.true_and]
theorem cl_wc0 {m : Nat} {L : List W} : cleanAll m (wc L) = true := wc_clean m L
theorem ac_wc : ∀ L : List W, allCells (wc L) = true
  | [] => rfl
  | w :: L => by
    have := ac_wc L
    rw [wc_cons]
    unfold allCells at *
    rw [List.all_cons, List.all_cons, this]
    rfl
theorem ac_app {a b : List AV} : allCells (a ++ b) = (allCells a && allCells b) := by unfold allCells; rw [List.all_append]
theorem ac_wcr {L : List W} {r : List AV} : allCells (wc L ++ r) = allCells r := by rw [ac_app, ac_wc, Bool.true_and]
theorem ac_wc0 {L : List W} : allCells (wc L) = true := ac_wc L
theorem Views.pre {H : List AObj} {m : Nat} {x y : List AV} : ∀ {a : List AV}, cleanAll m a = true → Views H m x y → Views H m (a ++ x) (a ++ y)
  | [], _, h => h
  | b :: a, hc, h => by
    simp only [cleanAll, Bool.and_eq_true] at hc
    exact .cons b b _ _ (.same b hc.1) (Views.pre hc.2 h)
theorem Views.post {H : List AObj} {m : Nat} {x y : List AV} : ∀ {a : List AV}, Views H m (a ++ x) (a ++ y) → Views H m x y
  | [], h => h
  | b :: a, h => by
    cases h with
    | cons _ _ _ _ h1 h2 => exact Views.post h2
theorem vws_wc {H : List AObj} {m : Nat} {L : List W} {x y : List AV} : Views H m (wc L ++ x) (wc L ++ y) = Views H m x y := propext ⟨Views.post, Views.pre (wc_clean m L)⟩
theorem vws_wc0 {H : List AObj} {m : Nat} {L : List W} : Views H m (wc L) (wc L) = True := vws_same (wc_clean m L)
theorem Loses.pre {H G : List AObj} {x y : List AV} : ∀ {a : List AV}, Loses H G x y → Loses H G (a ++ x) (a ++ y)
  | [], h => h
  | b :: a, h => .cons b b _ _ (.same b) (Loses.pre h)
theorem Loses.post {H G : List AObj} {x y : List AV} : ∀ {a : List AV}, Loses H G (a ++ x) (a ++ y) → Loses H G x y
  | [], h => h
  | b :: a, h => by
    cases h with
    | cons _ _ _ _ h1 h2 => exact Loses.post h2
theorem lss_wc {H G : List AObj} {L : List W} {x y : List AV} : Loses H G (wc L ++ x) (wc L ++ y) = Loses H G x y := propext ⟨Loses.post, Loses.pre⟩
theorem tk_hi {L : List W} {b : List AV} {n : Nat} (h : (wc L).length ≤ n) : (wc L ++ b).take n = wc L ++ b.take (n - (wc L).length) := by rw [List.take_append, List.take_of_length_le h]
theorem dr_hi {L : List W} {b : List AV} {n : Nat} (h : (wc L).length ≤ n) : (wc L ++ b).drop n = b.drop (n - (wc L).length) := by rw [List.drop_append, List.drop_of_length_le h, List.nil_append]
theorem gt_hi {L : List W} {b : List AV} {n : Nat} (h : (wc L).length ≤ n) : (wc L ++ b)[n]? = b[n - (wc L).length]? := List.getElem?_append_right h
theorem ln_app {L : List W} {b : List AV} : (wc L ++ b).length = (wc L).length + b.length := List.length_append
theorem wc_nil {L : List W} : wc L ++ [] = wc L := List.append_nil _
theorem wc_app {L : List W} {a b : List AV} : (wc L ++ a) ++ b = wc L ++ (a ++ b) := List.append_assoc _ _ _
set_option linter.defProp false in
def ew := And.intro @wc_nil (And.intro @wc_app (And.intro @cl_wc (And.intro @cl_wc0 (And.intro @ac_wcr (And.intro @ac_wc0 (And.intro @vws_wc (And.intro @vws_wc0 (And.intro @lss_wc (And.intro @tk_hi (And.intro @dr_hi (And.intro @gt_hi (And.intro @ln_app (And.intro @encW_def (@encI_def))))))))))))))
structure St where
  L : List W
  heap : List Int
  pc : Int
  asked : Int
deriving DecidableEq
def stCells (s : St) : List AV := wc s.L ++ [ints s.heap, .int .i64 s.pc, .int .i64 s.asked]
def stA (s : St) : AV := .agg (stCells s)
theorem stA_eq (s : St) : stA s = .agg (wc s.L ++ [.list (s.heap.map encI), .int .i64 s.pc, .int .i64 s.asked]) := rfl
structure Ev where
  n : Int
  arg : Int
  ans : Int
deriving DecidableEq
def encEv (e : Ev) : List AV := [.int .i64 e.n, .int .i64 e.arg, .int .i64 e.ans]
theorem encEv_def {e : Ev} : encEv e = [.int .i64 e.n, .int .i64 e.arg, .int .i64 e.ans] := rfl
def evs (l : List Ev) : AV := .list (l.map encEv)
theorem evs_eq (l : List Ev) : evs l = .list (l.map encEv) := rfl
structure Out where
  how : Int
  value : Int
  heap : List Int
deriving DecidableEq
def outA (o : Out) : AV := .agg [.int .i64 o.how, .int .i64 o.value, ints o.heap]
theorem outA_eq (o : Out) : outA o = .agg [.int .i64 o.how, .int .i64 o.value, .list (o.heap.map encI)] := rfl
def okW (w : W) : Bool := w.is || decide (w.v = 0)
def stRight (f : List Ins) (s : St) : Bool := fnOk f && (decide (0 ≤ s.pc) && (decide (s.pc < (f.length : Int)) && (decide (s.heap.length ≤ 16) && (decide (0 ≤ s.asked) && s.L.all okW))))
theorem drop_W {l : List W} {j : Nat} (h : j < l.length) : l.drop j = l.getD j noW :: l.drop (j + 1) := by
  rw [List.drop_eq_getElem_cons h]
  simp [List.getD, h]
set_option linter.defProp false in
def dq8 := And.intro @sb (And.intro @ew (And.intro @ins_dec (@ins_eta)))
set_option maxHeartbeats 2000000 in
theorem step_Right_ok (f : List Ins) (s : St) (hL : s.L.length = 24) : Pure Tryd.prog 61 [encFn f, stA s] (.bool (stRight f s)) := by
  intro H
  refine ACalls.go step_Right.low (by simp) fun hcl => ?_
  have hwl : (wc s.L).length = 48 := by rw [wc_len, hL]
  rw [stA_eq]
  have h1 := Hold.mk (asm_Right_ok f)
  have hr : stRight f s = (fnOk f && (decide (0 ≤ s.pc) && (decide (s.pc < (f.length : Int)) && (decide (s.heap.length ≤ 16) && (decide (0 ≤ s.asked) && s.L.all okW))))) := rfl
  rw [hr]
  clear hr
  generalize fnOk f = b1 at *
  unfold encFn at *
  cases b1
  · repeat' (first | simp only [seval, evx, beq_self_eq_true, insA, encIns, dq8, *] | simp (disch := omega) only [if_pos, if_neg] | refine zG ?_ | refine zH ?_ | refine zI rfl ?_ | refine zK ?_ | refine zL ?_ | refine zM ?_ | refine zN ?_ | refine zO ?_ | ((first | refine zP hcl ?_ | refine zQ hcl ?_); simp only [seval, evw, fm, insA, encIns, dq8, *]) | ((first | refine zB ?_ ?_ | refine zD ?_ ?_ | refine zF ?_ ?_) <;> (intro hc; try simp only [seval, nf] at hc)) | refine zR ?_ | refine CallX.inst ?_ | (with_reducible refine And.intro ?_ ?_) | exact True.intro)
    first | refine zT (h1.of) ?_ | refine zV (h1.of) rfl ?_ | refine zU (h1.of) ?_
    repeat' (first | simp only [seval, evx, beq_self_eq_true, insA, encIns, dq8, *] | simp (disch := omega) only [if_pos, if_neg] | refine zG ?_ | refine zH ?_ | refine zI rfl ?_ | refine zK ?_ | refine zL ?_ | refine zM ?_ | refine zN ?_ | refine zO ?_ | ((first | refine zP hcl ?_ | refine zQ hcl ?_); simp only [seval, evw, fm, insA, encIns, dq8, *]) | ((first | refine zB ?_ ?_ | refine zD ?_ ?_ | refine zF ?_ ?_) <;> (intro hc; try simp only [seval, nf] at hc)) | refine zR ?_ | refine CallX.inst ?_ | (with_reducible refine And.intro ?_ ?_) | exact True.intro)
  by_cases k2 : s.pc < 0
  · have e2 : decide (0 ≤ s.pc) = false := decide_eq_false (by omega)
    repeat' (first | simp only [seval, evx, beq_self_eq_true, insA, encIns, dq8, *] | simp (disch := omega) only [if_pos, if_neg] | refine zG ?_ | refine zH ?_ | refine zI rfl ?_ | refine zK ?_ | refine zL ?_ | refine zM ?_ | refine zN ?_ | refine zO ?_ | ((first | refine zP hcl ?_ | refine zQ hcl ?_); simp only [seval, evw, fm, insA, encIns, dq8, *]) | ((first | refine zB ?_ ?_ | refine zD ?_ ?_ | refine zF ?_ ?_) <;> (intro hc; try simp only [seval, nf] at hc)) | refine zR ?_ | refine CallX.inst ?_ | (with_reducible refine And.intro ?_ ?_) | exact True.intro)
    first | refine zT (h1.of) ?_ | refine zV (h1.of) rfl ?_ | refine zU (h1.of) ?_
    repeat' (first | simp only [seval, evx, beq_self_eq_true, insA, encIns, dq8, *] | simp (disch := omega) only [if_pos, if_neg] | refine zG ?_ | refine zH ?_ | refine zI rfl ?_ | refine zK ?_ | refine zL ?_ | refine zM ?_ | refine zN ?_ | refine zO ?_ | ((first | refine zP hcl ?_ | refine zQ hcl ?_); simp only [seval, evw, fm, insA, encIns, dq8, *]) | ((first | refine zB ?_ ?_ | refine zD ?_ ?_ | refine zF ?_ ?_) <;> (intro hc; try simp only [seval, nf] at hc)) | refine zR ?_ | refine CallX.inst ?_ | (with_reducible refine And.intro ?_ ?_) | exact True.intro)
  have e2 : decide (0 ≤ s.pc) = true := decide_eq_true (by omega)
  by_cases k3 : s.pc < (f.length : Int)
  case neg =>
    have e6 : (f.length : Int) ≤ s.pc := by omega
    repeat' (first | simp only [seval, evx, beq_self_eq_true, insA, encIns, dq8, *] | simp (disch := omega) only [if_pos, if_neg] | refine zG ?_ | refine zH ?_ | refine zI rfl ?_ | refine zK ?_ | refine zL ?_ | refine zM ?_ | refine zN ?_ | refine zO ?_ | ((first | refine zP hcl ?_ | refine zQ hcl ?_); simp only [seval, evw, fm, insA, encIns, dq8, *]) | ((first | refine zB ?_ ?_ | refine zD ?_ ?_ | refine zF ?_ ?_) <;> (intro hc; try simp only [seval, nf] at hc)) | refine zR ?_ | refine CallX.inst ?_ | (with_reducible refine And.intro ?_ ?_) | exact True.intro)
    first | refine zT (h1.of) ?_ | refine zV (h1.of) rfl ?_ | refine zU (h1.of) ?_
    repeat' (first | simp only [seval, evx, beq_self_eq_true, insA, encIns, dq8, *] | simp (disch := omega) only [if_pos, if_neg] | refine zG ?_ | refine zH ?_ | refine zI rfl ?_ | refine zK ?_ | refine zL ?_ | refine zM ?_ | refine zN ?_ | refine zO ?_ | ((first | refine zP hcl ?_ | refine zQ hcl ?_); simp only [seval, evw, fm, insA, encIns, dq8, *]) | ((first | refine zB ?_ ?_ | refine zD ?_ ?_ | refine zF ?_ ?_) <;> (intro hc; try simp only [seval, nf] at hc)) | refine zR ?_ | refine CallX.inst ?_ | (with_reducible refine And.intro ?_ ?_) | exact True.intro)
  by_cases k4 : s.heap.length ≤ 16
  case neg =>
    repeat' (first | simp only [seval, evx, beq_self_eq_true, insA, encIns, dq8, *] | simp (disch := omega) only [if_pos, if_neg] | refine zG ?_ | refine zH ?_ | refine zI rfl ?_ | refine zK ?_ | refine zL ?_ | refine zM ?_ | refine zN ?_ | refine zO ?_ | ((first | refine zP hcl ?_ | refine zQ hcl ?_); simp only [seval, evw, fm, insA, encIns, dq8, *]) | ((first | refine zB ?_ ?_ | refine zD ?_ ?_ | refine zF ?_ ?_) <;> (intro hc; try simp only [seval, nf] at hc)) | refine zR ?_ | refine CallX.inst ?_ | (with_reducible refine And.intro ?_ ?_) | exact True.intro)
    first | refine zT (h1.of) ?_ | refine zV (h1.of) rfl ?_ | refine zU (h1.of) ?_
    repeat' (first | simp only [seval, evx, beq_self_eq_true, insA, encIns, dq8, *] | simp (disch := omega) only [if_pos, if_neg] | refine zG ?_ | refine zH ?_ | refine zI rfl ?_ | refine zK ?_ | refine zL ?_ | refine zM ?_ | refine zN ?_ | refine zO ?_ | ((first | refine zP hcl ?_ | refine zQ hcl ?_); simp only [seval, evw, fm, insA, encIns, dq8, *]) | ((first | refine zB ?_ ?_ | refine zD ?_ ?_ | refine zF ?_ ?_) <;> (intro hc; try simp only [seval, nf] at hc)) | refine zR ?_ | refine CallX.inst ?_ | (with_reducible refine And.intro ?_ ?_) | exact True.intro)
  by_cases k5 : s.asked < 0
  · have e5 : decide (0 ≤ s.asked) = false := decide_eq_false (by omega)
    repeat' (first | simp only [seval, evx, beq_self_eq_true, insA, encIns, dq8, *] | simp (disch := omega) only [if_pos, if_neg] | refine zG ?_ | refine zH ?_ | refine zI rfl ?_ | refine zK ?_ | refine zL ?_ | refine zM ?_ | refine zN ?_ | refine zO ?_ | ((first | refine zP hcl ?_ | refine zQ hcl ?_); simp only [seval, evw, fm, insA, encIns, dq8, *]) | ((first | refine zB ?_ ?_ | refine zD ?_ ?_ | refine zF ?_ ?_) <;> (intro hc; try simp only [seval, nf] at hc)) | refine zR ?_ | refine CallX.inst ?_ | (with_reducible refine And.intro ?_ ?_) | exact True.intro)
    first | refine zT (h1.of) ?_ | refine zV (h1.of) rfl ?_ | refine zU (h1.of) ?_
    repeat' (first | simp only [seval, evx, beq_self_eq_true, insA, encIns, dq8, *] | simp (disch := omega) only [if_pos, if_neg] | refine zG ?_ | refine zH ?_ | refine zI rfl ?_ | refine zK ?_ | refine zL ?_ | refine zM ?_ | refine zN ?_ | refine zO ?_ | ((first | refine zP hcl ?_ | refine zQ hcl ?_); simp only [seval, evw, fm, insA, encIns, dq8, *]) | ((first | refine zB ?_ ?_ | refine zD ?_ ?_ | refine zF ?_ ?_) <;> (intro hc; try simp only [seval, nf] at hc)) | refine zR ?_ | refine CallX.inst ?_ | (with_reducible refine And.intro ?_ ?_) | exact True.intro)
  have e5 : decide (0 ≤ s.asked) = true := decide_eq_true (by omega)
  have e6 : ¬ (f.length : Int) ≤ s.pc := by omega
  generalize hB : s.L.all okW = B
  replace hB := Hold.mk hB
  replace hL := Hold.mk hL
  repeat' (first | simp only [seval, evx, beq_self_eq_true, insA, encIns, dq8, *] | simp (disch := omega) only [if_pos, if_neg] | refine zG ?_ | refine zH ?_ | refine zI rfl ?_ | refine zK ?_ | refine zL ?_ | refine zM ?_ | refine zN ?_ | refine zO ?_ | ((first | refine zP hcl ?_ | refine zQ hcl ?_); simp only [seval, evw, fm, insA, encIns, dq8, *]) | ((first | refine zB ?_ ?_ | refine zD ?_ ?_ | refine zF ?_ ?_) <;> (intro hc; try simp only [seval, nf] at hc)) | refine zR ?_ | refine CallX.inst ?_ | (with_reducible refine And.intro ?_ ?_) | exact True.intro)
  first | refine zT (h1.of) ?_ | refine zV (h1.of) rfl ?_ | refine zU (h1.of) ?_
  repeat' (first | simp only [seval, evx, beq_self_eq_true, insA, encIns, dq8, *] | simp (disch := omega) only [if_pos, if_neg] | refine zG ?_ | refine zH ?_ | refine zI rfl ?_ | refine zK ?_ | refine zL ?_ | refine zM ?_ | refine zN ?_ | refine zO ?_ | ((first | refine zP hcl ?_ | refine zQ hcl ?_); simp only [seval, evw, fm, insA, encIns, dq8, *]) | ((first | refine zB ?_ ?_ | refine zD ?_ ?_ | refine zF ?_ ?_) <;> (intro hc; try simp only [seval, nf] at hc)) | refine zR ?_ | refine CallX.inst ?_ | (with_reducible refine And.intro ?_ ?_) | exact True.intro)
  refine R.loop (S := Nat) ⟨fun i => [(34, .agg (wc s.L)), (35, .int .i64 (i : Int))], fun i => H ++ [], fun i => i ≤ 24 ∧ (s.L.drop i).all okW = B, fun i => 24 - i⟩ 0 ⟨Nat.zero_le _, hB.of⟩ (Weak.at hcl ?_) ?_
  · simp only [seval, evw, fm, insA, encIns, dq8, *]
  rintro i ⟨hi, hq⟩
  simp only at hi hq ⊢
  by_cases hlt : i < 24
  · have hll := hL.of
    have d1 : (i : Int) < 24 := by omega
    have d2 : IntKind.i64.wrap ((i : Int) + 1) = ((i + 1 : Nat) : Int) := by rw [IntKind.wrap_i64]; omega
    have hg := wc_pair s.L i (by omega)
    rw [drop_W (by omega), List.all_cons] at hq
    have d3 : i * 2 + 2 ≤ 48 := by omega
    generalize s.L.getD i noW = w at *
    obtain ⟨wi, wv⟩ := w
    simp only [encW_def] at hg
    clear hll
    cases wi
    · by_cases hv : wv = 0
      · subst hv
        have hq2 : (s.L.drop (i + 1)).all okW = B := by simpa [okW] using hq
        replace hq2 := Hold.mk hq2
        replace hq := Hold.mk hq
        repeat' (first | simp only [seval, evx, beq_self_eq_true, insA, encIns, dq8, *] | simp (disch := omega) only [if_pos, if_neg] | refine zG ?_ | refine zH ?_ | refine zI rfl ?_ | refine zK ?_ | refine zL ?_ | refine zM ?_ | refine zN ?_ | refine zO ?_ | ((first | refine zP hcl ?_ | refine zQ hcl ?_); simp only [seval, evw, fm, insA, encIns, dq8, *]) | ((first | refine zB ?_ ?_ | refine zD ?_ ?_ | refine zF ?_ ?_) <;> (intro hc; try simp only [seval, nf] at hc)) | refine zR ?_ | refine CallX.inst ?_ | (with_reducible refine And.intro ?_ ?_) | exact True.intro)
        refine ⟨i + 1, ⟨hlt, hq2.of⟩, by simp only; omega, Weak.at hcl ?_⟩
        simp only [seval, evw, fm, insA, encIns, dq8, *]
      · have hBf : B = false := by rw [← hq]; simp [okW, hv]
        subst hBf
        replace hq := Hold.mk hq
        repeat' (first | simp only [seval, evx, beq_self_eq_true, insA, encIns, dq8, *] | simp (disch := omega) only [if_pos, if_neg] | refine zG ?_ | refine zH ?_ | refine zI rfl ?_ | refine zK ?_ | refine zL ?_ | refine zM ?_ | refine zN ?_ | refine zO ?_ | ((first | refine zP hcl ?_ | refine zQ hcl ?_); simp only [seval, evw, fm, insA, encIns, dq8, *]) | ((first | refine zB ?_ ?_ | refine zD ?_ ?_ | refine zF ?_ ?_) <;> (intro hc; try simp only [seval, nf] at hc)) | refine zR ?_ | refine CallX.inst ?_ | (with_reducible refine And.intro ?_ ?_) | exact True.intro)
    · have hq2 : (s.L.drop (i + 1)).all okW = B := by simpa [okW] using hq
      replace hq2 := Hold.mk hq2
      replace hq := Hold.mk hq
      repeat' (first | simp only [seval, evx, beq_self_eq_true, insA, encIns, dq8, *] | simp (disch := omega) only [if_pos, if_neg] | refine zG ?_ | refine zH ?_ | refine zI rfl ?_ | refine zK ?_ | refine zL ?_ | refine zM ?_ | refine zN ?_ | refine zO ?_ | ((first | refine zP hcl ?_ | refine zQ hcl ?_); simp only [seval, evw, fm, insA, encIns, dq8, *]) | ((first | refine zB ?_ ?_ | refine zD ?_ ?_ | refine zF ?_ ?_) <;> (intro hc; try simp only [seval, nf] at hc)) | refine zR ?_ | refine CallX.inst ?_ | (with_reducible refine And.intro ?_ ?_) | exact True.intro)
      refine ⟨i + 1, ⟨hlt, hq2.of⟩, by simp only; omega, Weak.at hcl ?_⟩
      simp only [seval, evw, fm, insA, encIns, dq8, *]
  · have hie : i = 24 := by omega
    subst hie
    have hBt : B = true := by rw [← hq, List.drop_of_length_le (by rw [hL.of]; omega)]; rfl
    subst hBt
    replace hq := Hold.mk hq
    repeat' (first | simp only [seval, evx, beq_self_eq_true, insA, encIns, dq8, *] | simp (disch := omega) only [if_pos, if_neg] | refine zG ?_ | refine zH ?_ | refine zI rfl ?_ | refine zK ?_ | refine zL ?_ | refine zM ?_ | refine zN ?_ | refine zO ?_ | ((first | refine zP hcl ?_ | refine zQ hcl ?_); simp only [seval, evw, fm, insA, encIns, dq8, *]) | ((first | refine zB ?_ ?_ | refine zD ?_ ?_ | refine zF ?_ ?_) <;> (intro hc; try simp only [seval, nf] at hc)) | refine zR ?_ | refine CallX.inst ?_ | (with_reducible refine And.intro ?_ ?_) | exact True.intro)
theorem w_dec (x y : W) : ((x.is == y.is) && decide (x.v = y.v)) = decide (x = y) := by
  cases x; cases y
  rw [Bool.eq_iff_iff]
  simp
theorem ev_dec (x y : Ev) : (decide (x.n = y.n) && (decide (x.arg = y.arg) && decide (x.ans = y.ans))) = decide (x = y) := by
  cases x; cases y
  rw [Bool.eq_iff_iff]
  simp
theorem step_own_ok (s : St) (hL : s.L.length = 24) (hh : s.heap.length ≤ 1000) : Pure Tryd.prog 62 [stA s] (stA s) := by
  intro H
  refine ACalls.go step_own.low (by simp) fun hcl => ?_
  have hwl : (wc s.L).length = 48 := by rw [wc_len, hL]
  rw [stA_eq]
  have rk : rowsOk 1 (s.heap.map encI) = true := rk_map fun x _ => ⟨rfl, rfl⟩
  have b1 : s.heap.length * 8 ≤ 140737488355328 := by omega
  have b2 : s.heap.length ≤ 9223372036854775807 := by omega
  replace hL := Hold.mk hL
  repeat' (first | simp only [seval, evx, beq_self_eq_true, sb, ew, insA, encIns, ins_dec, ins_eta, w_dec, ev_dec, *] | simp (disch := omega) only [if_pos, if_neg] | refine zG ?_ | refine zH ?_ | refine zI rfl ?_ | refine zK ?_ | refine zL ?_ | refine zM ?_ | refine zN ?_ | refine zO ?_ | ((first | refine zP hcl ?_ | refine zQ hcl ?_); simp only [seval, evw, fm, sb, ew, insA, encIns, ins_dec, ins_eta, w_dec, ev_dec, *]) | ((first | refine zB ?_ ?_ | refine zD ?_ ?_ | refine zF ?_ ?_) <;> (intro hc; try simp only [seval, nf] at hc)) | refine zR ?_ | refine CallX.inst ?_ | (with_reducible refine And.intro ?_ ?_) | exact True.intro)
end Go.Proofs.YtnbdpjhmepgoaaaDoor
