/-
  Texts of this claim, put together.
-/
import Derived.Laws.BitsLemmas
import Derived.Test.YtbkbehkjndmabaaDoorZ6
/-
  step: words, states, events, outcomes; whether a state is right.
-/
namespace Go.Proofs.YtbkbehkjndmabaaDoor
open Go.RowKit
set_option linter.unusedVariables false
set_option linter.unusedSimpArgs false
structure W where
  is : Bool
  v : Int
deriving DecidableEq
def noW : W := ⟨false, 0⟩
def encW (w : W) : List AV := [.bool w.is, .int .i64 w.v]
theorem encW_def {w : W} : encW w = [.bool w.is, .int .i64 w.v] := rfl
def wc (L : List W) : List AV := L.flatMap encW
theorem wc_cons {w : W} {L : List W} : wc (w :: L) = .bool w.is :: .int .i64 w.v :: wc L := rfl
theorem wc_len : ∀ (L : List W), (wc L).length = 2 * L.length
  | [] => rfl
  | w :: L => by rw [wc_cons]; simp [wc_len L]; omega
theorem wc_pair : ∀ (L : List W) (i : Nat), i < L.length → ((wc L).drop (i * 2)).take 2 = encW (L.getD i noW)
  | [], i, h => by simp at h
  | w :: L, 0, h => rfl
  | w :: L, i + 1, h => by
    have e : (i + 1) * 2 = i * 2 + 1 + 1 := by omega
    rw [wc_cons, e, List.drop_succ_cons, List.drop_succ_cons, wc_pair L i (by simpa using h)]
    rfl
theorem wc_is : ∀ (L : List W) (i : Nat), i < L.length → (wc L)[i * 2]? = some (.bool (L.getD i noW).is)
  | [], i, h => by simp at h
  | w :: L, 0, h => rfl
  | w :: L, i + 1, h => by
    have e : (i + 1) * 2 = i * 2 + 1 + 1 := by omega
    rw [wc_cons, e, List.getElem?_cons_succ, List.getElem?_cons_succ, wc_is L i (by simpa using h)]
    rfl
theorem wc_v : ∀ (L : List W) (i : Nat), i < L.length → (wc L)[i * 2 + 1]? = some (.int .i64 (L.getD i noW).v)
  | [], i, h => by simp at h
  | w :: L, 0, h => rfl
  | w :: L, i + 1, h => by
    have e : (i + 1) * 2 + 1 = (i * 2 + 1) + 1 + 1 := by omega
    rw [wc_cons, e, List.getElem?_cons_succ, List.getElem?_cons_succ, wc_v L i (by simpa using h)]
    rfl
theorem wc_put : ∀ (L : List W) (i : Nat) (w : W), i < L.length → (wc L).take (i * 2) ++ .bool w.is :: .int .i64 w.v :: (wc L).drop (i * 2 + 2) = wc (L.set i w)
  | [], i, _, h => by simp at h
  | u :: L, 0, w, h => rfl
  | u :: L, i + 1, w, h => by
    have e : (i + 1) * 2 = i * 2 + 1 + 1 := by omega
    have e2 : (i + 1) * 2 + 2 = (i * 2 + 2) + 1 + 1 := by omega
    rw [wc_cons, e2, e, List.take_succ_cons, List.take_succ_cons, List.drop_succ_cons, List.drop_succ_cons, List.set_cons_succ, wc_cons, ← wc_put L i w (by simpa using h)]
    rfl
section
variable {L : List W} {r : List AV} {i : Nat}
theorem wr_pair (h : i < L.length) : ((wc L ++ r).drop (i * 2)).take 2 = encW (L.getD i noW) := by
  have hl := wc_len L
  rw [List.drop_append_of_le_length (by omega), List.take_append_of_le_length (by rw [List.length_drop]; omega), wc_pair L i h]
theorem wr_is (h : i < L.length) : (wc L ++ r)[i * 2]? = some (.bool (L.getD i noW).is) := by
  have hl := wc_len L
  rw [List.getElem?_append_left (by omega), wc_is L i h]
theorem wr_v (h : i < L.length) : (wc L ++ r)[i * 2 + 1]? = some (.int .i64 (L.getD i noW).v) := by
  have hl := wc_len L
  rw [List.getElem?_append_left (by omega), wc_v L i h]
theorem wr_put (w : W) (h : i < L.length) : (wc L ++ r).take (i * 2) ++ .bool w.is :: .int .i64 w.v :: (wc L ++ r).drop (i * 2 + 2) = wc (L.set i w) ++ r := by
  have hl := wc_len L
  rw [List.take_append_of_le_length (by omega), List.drop_append_of_le_length (by omega), ← wc_put L i w h]
  simp
theorem wr_put2 (w : W) (h : i < L.length) : (wc L ++ r).take (i * 2) ++ [.bool w.is, .int .i64 w.v] ++ (wc L ++ r).drop (i * 2 + 2) = wc (L.set i w) ++ r := by
  rw [← wr_put w h]; simp
end
theorem wc_clean (m : Nat) : ∀ L : List W, cleanAll m (wc L) = true
  | [] => rfl
  | w :: L => by rw [wc_cons, cleanAll, cleanAll, wc_clean m L]; rfl
theorem cleanAll_app {m : Nat} : ∀ {a b : List AV}, cleanAll m (a ++ b) = (cleanAll m a && cleanAll m b)
  | [], b => by simp [cleanAll]
  | x :: a, b => by rw [List.cons_append, cleanAll, cleanAll, cleanAll_app, Bool.and_assoc]
theorem cl_wc {m : Nat} {L : List W} {r : List AV} : cleanAll m (wc L ++ r) = cleanAll m r := by rw [cleanAll_app, wc_clean, Bool.true_and]
theorem cl_wc0 {m : Nat} {L : List W} : cleanAll m (wc L) = true := wc_clean m L
theorem ac_wc : ∀ L : List W, allCells (wc L) = true
  | [] => rfl
  | w :: L => by
    have := ac_wc L
    rw [wc_cons]
    unfold allCells at *
    rw [List.all_cons, List.all_cons, this]
    rfl
theorem ac_app {a b : List AV} : allCells (a ++ b) = (allCells a && allCells b) := by unfold allCells; rw [List.all_append]
theorem ac_wcr {L : List W} {r : List AV} : allCells (wc L ++ r) = allCells r := by rw [ac_app, ac_wc, Bool.true_and]
theorem ac_wc0 {L : List W} : allCells (wc L) = true := ac_wc L
theorem Views.pre {H : List AObj} {m : Nat} {x y : List AV} : ∀ {a : List AV}, cleanAll m a = true → Views H m x y → Views H m (a ++ x) (a ++ y)
  | [], _, h => h
  | b :: a, hc, h => by
    simp only [cleanAll, Bool.and_eq_true] at hc
    exact .cons b b _ _ (.same b hc.1) (Views.pre hc.2 h)
theorem Views.post {H : List AObj} {m : Nat} {x y : List AV} : ∀ {a : List AV}, Views H m (a ++ x) (a ++ y) → Views H m x y
  | [], h => h
  | b :: a, h => by
    cases h with
    | cons _ _ _ _ h1 h2 => exact Views.post h2
theorem vws_wc {H : List AObj} {m : Nat} {L : List W} {x y : List AV} : Views H m (wc L ++ x) (wc L ++ y) = Views H m x y := propext ⟨Views.post, Views.pre (wc_clean m L)⟩
theorem vws_wc0 {H : List AObj} {m : Nat} {L : List W} : Views H m (wc L) (wc L) = True := vws_same (wc_clean m L)
theorem Loses.pre {H G : List AObj} {x y : List AV} : ∀ {a : List AV}, Loses H G x y → Loses H G (a ++ x) (a ++ y)
  | [], h => h
  | b :: a, h => .cons b b _ _ (.same b) (Loses.pre h)
theorem Loses.post {H G : List AObj} {x y : List AV} : ∀ {a : List AV}, Loses H G (a ++ x) (a ++ y) → Loses H G x y
  | [], h => h
  | b :: a, h => by
    cases h with
    | cons _ _ _ _ h1 h2 => exact Loses.post h2
theorem lss_wc {H G : List AObj} {L : List W} {x y : List AV} : Loses H G (wc L ++ x) (wc L ++ y) = Loses H G x y := propext ⟨Loses.post, Loses.pre⟩
theorem tk_hi {L : List W} {b : List AV} {n : Nat} (h : (wc L).length ≤ n) : (wc L ++ b).take n = wc L ++ b.take (n - (wc L).length) := by rw [List.take_append, List.take_of_length_le h]
theorem dr_hi {L : List W} {b : List AV} {n : Nat} (h : (wc L).length ≤ n) : (wc L ++ b).drop n = b.drop (n - (wc L).length) := by rw [List.drop_append, List.drop_of_length_le h, List.nil_append]
theorem gt_hi {L : List W} {b : List AV} {n : Nat} (h : (wc L).length ≤ n) : (wc L ++ b)[n]? = b[n - (wc L).length]? := List.getElem?_append_right h
theorem ln_app {L : List W} {b : List AV} : (wc L ++ b).length = (wc L).length + b.length := List.length_append
theorem wc_nil {L : List W} : wc L ++ [] = wc L := List.append_nil _
theorem wc_app {L : List W} {a b : List AV} : (wc L ++ a) ++ b = wc L ++ (a ++ b) := List.append_assoc _ _ _
theorem ew : type_of% (And.intro @wc_nil (And.intro @wc_app (And.intro @cl_wc (And.intro @cl_wc0 (And.intro @ac_wcr (And.intro @ac_wc0 (And.intro @vws_wc (And.intro @vws_wc0 (And.intro @lss_wc (And.intro @tk_hi (And.intro @dr_hi (And.intro @gt_hi (And.intro @ln_app (And.intro @encW_def (@encI_def))))))))))))))) :=
  And.intro @wc_nil (And.intro @wc_app (And.intro @cl_wc (And.intro @cl_wc0 (And.intro @ac_wcr (And.intro @ac_wc0 (And.intro @vws_wc (And.intro @vws_wc0 (And.intro @lss_wc (And.intro @tk_hi (And.intro @dr_hi (And.intro @gt_hi (And.intro @ln_app (And.intro @encW_def (@encI_def))))))))))))))

/-- A state. -/
structure St where
  L : List W
  heap : List Int
  pc : Int
  asked : Int
deriving DecidableEq
def stCells (s : St) : List AV := wc s.L ++ [ints s.heap, .int .i64 s.pc, .int .i64 s.asked]
def stA (s : St) : AV := .agg (stCells s)
theorem stA_eq (s : St) : stA s = .agg (wc s.L ++ [.list (s.heap.map encI), .int .i64 s.pc, .int .i64 s.asked]) := rfl
/-- The document's. -/
def rsA (s : St) : AV := .agg [.list (s.L.map encW), ints s.heap, .int .i64 s.pc, .int .i64 s.asked]
theorem rsA_eq (s : St) : rsA s = .agg [.list (s.L.map encW), .list (s.heap.map encI), .int .i64 s.pc, .int .i64 s.asked] := rfl
structure Ev where
  n : Int
  arg : Int
  ans : Int
deriving DecidableEq
def encEv (e : Ev) : List AV := [.int .i64 e.n, .int .i64 e.arg, .int .i64 e.ans]
theorem encEv_def {e : Ev} : encEv e = [.int .i64 e.n, .int .i64 e.arg, .int .i64 e.ans] := rfl
def evs (l : List Ev) : AV := .list (l.map encEv)
theorem evs_eq (l : List Ev) : evs l = .list (l.map encEv) := rfl
structure Out where
  how : Int
  value : Int
  heap : List Int
deriving DecidableEq
def outA (o : Out) : AV := .agg [.int .i64 o.how, .int .i64 o.value, ints o.heap]
theorem outA_eq (o : Out) : outA o = .agg [.int .i64 o.how, .int .i64 o.value, .list (o.heap.map encI)] := rfl
def okW (w : W) : Bool := w.is || decide (w.v = 0)
def stRight (f : List Ins) (s : St) : Bool := fnOk f && (decide (0 ≤ s.pc) && (decide (s.pc < (f.length : Int)) && (decide (s.heap.length ≤ 16) && (decide (0 ≤ s.asked) && s.L.all okW))))
theorem getD_encW {l : List W} {j : Nat} (h : j < l.length) : (l.map encW).getD j [] = [.bool (l.getD j noW).is, .int .i64 (l.getD j noW).v] := by
  simp [List.getD, h, encW]
theorem drop_W {l : List W} {j : Nat} (h : j < l.length) : l.drop j = l.getD j noW :: l.drop (j + 1) := by
  rw [List.drop_eq_getElem_cons h]
  simp [List.getD, h]
set_option maxHeartbeats 2000000 in
theorem step_Right_ok (f : List Ins) (s : St) (hL : s.L.length = 24) : Pure Tryd.prog 20 [encFn f, stA s] (.bool (stRight f s)) := by
  intro H
  refine ACalls.go step_Right.low (by simp) fun hcl => ?_
  have hwl : (wc s.L).length = 48 := by rw [wc_len, hL]
  rw [stA_eq]
  have h1 := Hold.mk (asm_Right_ok f)
  have hr : stRight f s = (fnOk f && (decide (0 ≤ s.pc) && (decide (s.pc < (f.length : Int)) && (decide (s.heap.length ≤ 16) && (decide (0 ≤ s.asked) && s.L.all okW))))) := rfl
  rw [hr]
  clear hr
  generalize fnOk f = b1 at *
  unfold encFn at *
  cases b1
  · repeat' (first | simp only [seval, evx, beq_self_eq_true, sb, ew, insA, encIns, ins_dec, ins_eta, *] | simp (disch := omega) only [if_pos, if_neg] | refine R.seq ?_ | refine LCB.text ?_ | refine LCB.quiet rfl ?_ | refine R.anyX ?_ | refine R.block ?_ | refine LCB.skip ?_ | refine LCB.exit ?_ | refine LCB.ret ?_ | ((first | refine RetOk.val hcl ?_ | refine Weak.at hcl ?_); simp only [seval, evw, List.forall_mem_cons, List.forall_mem_map, List.forall_mem_append, List.not_mem_nil, sb, ew, insA, encIns, ins_dec, ins_eta, *]) | ((first | refine LCB.cond (by simp only [seval, evx] <;> rfl) ?_ ?_ | refine wpG_split (by simp only [seval, evx] <;> rfl) ?_ ?_ | refine wxG_split (by simp only [seval, evx] <;> rfl) ?_ ?_) <;> (intro hc; try simp only [seval, nf] at hc)) | refine ACalls.inst ?_ | refine CallX.inst ?_ | (with_reducible refine And.intro ?_ ?_) | exact True.intro)
    first | refine ACalls.pure (h1.of) ?_ | refine CallP.pure (h1.of) rfl ?_ | refine CallX.pure (h1.of) ?_
    repeat' (first | simp only [seval, evx, beq_self_eq_true, sb, ew, insA, encIns, ins_dec, ins_eta, *] | simp (disch := omega) only [if_pos, if_neg] | refine R.seq ?_ | refine LCB.text ?_ | refine LCB.quiet rfl ?_ | refine R.anyX ?_ | refine R.block ?_ | refine LCB.skip ?_ | refine LCB.exit ?_ | refine LCB.ret ?_ | ((first | refine RetOk.val hcl ?_ | refine Weak.at hcl ?_); simp only [seval, evw, List.forall_mem_cons, List.forall_mem_map, List.forall_mem_append, List.not_mem_nil, sb, ew, insA, encIns, ins_dec, ins_eta, *]) | ((first | refine LCB.cond (by simp only [seval, evx] <;> rfl) ?_ ?_ | refine wpG_split (by simp only [seval, evx] <;> rfl) ?_ ?_ | refine wxG_split (by simp only [seval, evx] <;> rfl) ?_ ?_) <;> (intro hc; try simp only [seval, nf] at hc)) | refine ACalls.inst ?_ | refine CallX.inst ?_ | (with_reducible refine And.intro ?_ ?_) | exact True.intro)
  by_cases k2 : s.pc < 0
  · have e2 : decide (0 ≤ s.pc) = false := decide_eq_false (by omega)
    repeat' (first | simp only [seval, evx, beq_self_eq_true, sb, ew, insA, encIns, ins_dec, ins_eta, *] | simp (disch := omega) only [if_pos, if_neg] | refine R.seq ?_ | refine LCB.text ?_ | refine LCB.quiet rfl ?_ | refine R.anyX ?_ | refine R.block ?_ | refine LCB.skip ?_ | refine LCB.exit ?_ | refine LCB.ret ?_ | ((first | refine RetOk.val hcl ?_ | refine Weak.at hcl ?_); simp only [seval, evw, List.forall_mem_cons, List.forall_mem_map, List.forall_mem_append, List.not_mem_nil, sb, ew, insA, encIns, ins_dec, ins_eta, *]) | ((first | refine LCB.cond (by simp only [seval, evx] <;> rfl) ?_ ?_ | refine wpG_split (by simp only [seval, evx] <;> rfl) ?_ ?_ | refine wxG_split (by simp only [seval, evx] <;> rfl) ?_ ?_) <;> (intro hc; try simp only [seval, nf] at hc)) | refine ACalls.inst ?_ | refine CallX.inst ?_ | (with_reducible refine And.intro ?_ ?_) | exact True.intro)
    first | refine ACalls.pure (h1.of) ?_ | refine CallP.pure (h1.of) rfl ?_ | refine CallX.pure (h1.of) ?_
    repeat' (first | simp only [seval, evx, beq_self_eq_true, sb, ew, insA, encIns, ins_dec, ins_eta, *] | simp (disch := omega) only [if_pos, if_neg] | refine R.seq ?_ | refine LCB.text ?_ | refine LCB.quiet rfl ?_ | refine R.anyX ?_ | refine R.block ?_ | refine LCB.skip ?_ | refine LCB.exit ?_ | refine LCB.ret ?_ | ((first | refine RetOk.val hcl ?_ | refine Weak.at hcl ?_); simp only [seval, evw, List.forall_mem_cons, List.forall_mem_map, List.forall_mem_append, List.not_mem_nil, sb, ew, insA, encIns, ins_dec, ins_eta, *]) | ((first | refine LCB.cond (by simp only [seval, evx] <;> rfl) ?_ ?_ | refine wpG_split (by simp only [seval, evx] <;> rfl) ?_ ?_ | refine wxG_split (by simp only [seval, evx] <;> rfl) ?_ ?_) <;> (intro hc; try simp only [seval, nf] at hc)) | refine ACalls.inst ?_ | refine CallX.inst ?_ | (with_reducible refine And.intro ?_ ?_) | exact True.intro)
  have e2 : decide (0 ≤ s.pc) = true := decide_eq_true (by omega)
  by_cases k3 : s.pc < (f.length : Int)
  case neg =>
    have e6 : (f.length : Int) ≤ s.pc := by omega
    repeat' (first | simp only [seval, evx, beq_self_eq_true, sb, ew, insA, encIns, ins_dec, ins_eta, *] | simp (disch := omega) only [if_pos, if_neg] | refine R.seq ?_ | refine LCB.text ?_ | refine LCB.quiet rfl ?_ | refine R.anyX ?_ | refine R.block ?_ | refine LCB.skip ?_ | refine LCB.exit ?_ | refine LCB.ret ?_ | ((first | refine RetOk.val hcl ?_ | refine Weak.at hcl ?_); simp only [seval, evw, List.forall_mem_cons, List.forall_mem_map, List.forall_mem_append, List.not_mem_nil, sb, ew, insA, encIns, ins_dec, ins_eta, *]) | ((first | refine LCB.cond (by simp only [seval, evx] <;> rfl) ?_ ?_ | refine wpG_split (by simp only [seval, evx] <;> rfl) ?_ ?_ | refine wxG_split (by simp only [seval, evx] <;> rfl) ?_ ?_) <;> (intro hc; try simp only [seval, nf] at hc)) | refine ACalls.inst ?_ | refine CallX.inst ?_ | (with_reducible refine And.intro ?_ ?_) | exact True.intro)
    first | refine ACalls.pure (h1.of) ?_ | refine CallP.pure (h1.of) rfl ?_ | refine CallX.pure (h1.of) ?_
    repeat' (first | simp only [seval, evx, beq_self_eq_true, sb, ew, insA, encIns, ins_dec, ins_eta, *] | simp (disch := omega) only [if_pos, if_neg] | refine R.seq ?_ | refine LCB.text ?_ | refine LCB.quiet rfl ?_ | refine R.anyX ?_ | refine R.block ?_ | refine LCB.skip ?_ | refine LCB.exit ?_ | refine LCB.ret ?_ | ((first | refine RetOk.val hcl ?_ | refine Weak.at hcl ?_); simp only [seval, evw, List.forall_mem_cons, List.forall_mem_map, List.forall_mem_append, List.not_mem_nil, sb, ew, insA, encIns, ins_dec, ins_eta, *]) | ((first | refine LCB.cond (by simp only [seval, evx] <;> rfl) ?_ ?_ | refine wpG_split (by simp only [seval, evx] <;> rfl) ?_ ?_ | refine wxG_split (by simp only [seval, evx] <;> rfl) ?_ ?_) <;> (intro hc; try simp only [seval, nf] at hc)) | refine ACalls.inst ?_ | refine CallX.inst ?_ | (with_reducible refine And.intro ?_ ?_) | exact True.intro)
  by_cases k4 : s.heap.length ≤ 16
  case neg =>
    repeat' (first | simp only [seval, evx, beq_self_eq_true, sb, ew, insA, encIns, ins_dec, ins_eta, *] | simp (disch := omega) only [if_pos, if_neg] | refine R.seq ?_ | refine LCB.text ?_ | refine LCB.quiet rfl ?_ | refine R.anyX ?_ | refine R.block ?_ | refine LCB.skip ?_ | refine LCB.exit ?_ | refine LCB.ret ?_ | ((first | refine RetOk.val hcl ?_ | refine Weak.at hcl ?_); simp only [seval, evw, List.forall_mem_cons, List.forall_mem_map, List.forall_mem_append, List.not_mem_nil, sb, ew, insA, encIns, ins_dec, ins_eta, *]) | ((first | refine LCB.cond (by simp only [seval, evx] <;> rfl) ?_ ?_ | refine wpG_split (by simp only [seval, evx] <;> rfl) ?_ ?_ | refine wxG_split (by simp only [seval, evx] <;> rfl) ?_ ?_) <;> (intro hc; try simp only [seval, nf] at hc)) | refine ACalls.inst ?_ | refine CallX.inst ?_ | (with_reducible refine And.intro ?_ ?_) | exact True.intro)
    first | refine ACalls.pure (h1.of) ?_ | refine CallP.pure (h1.of) rfl ?_ | refine CallX.pure (h1.of) ?_
    repeat' (first | simp only [seval, evx, beq_self_eq_true, sb, ew, insA, encIns, ins_dec, ins_eta, *] | simp (disch := omega) only [if_pos, if_neg] | refine R.seq ?_ | refine LCB.text ?_ | refine LCB.quiet rfl ?_ | refine R.anyX ?_ | refine R.block ?_ | refine LCB.skip ?_ | refine LCB.exit ?_ | refine LCB.ret ?_ | ((first | refine RetOk.val hcl ?_ | refine Weak.at hcl ?_); simp only [seval, evw, List.forall_mem_cons, List.forall_mem_map, List.forall_mem_append, List.not_mem_nil, sb, ew, insA, encIns, ins_dec, ins_eta, *]) | ((first | refine LCB.cond (by simp only [seval, evx] <;> rfl) ?_ ?_ | refine wpG_split (by simp only [seval, evx] <;> rfl) ?_ ?_ | refine wxG_split (by simp only [seval, evx] <;> rfl) ?_ ?_) <;> (intro hc; try simp only [seval, nf] at hc)) | refine ACalls.inst ?_ | refine CallX.inst ?_ | (with_reducible refine And.intro ?_ ?_) | exact True.intro)
  by_cases k5 : s.asked < 0
  · have e5 : decide (0 ≤ s.asked) = false := decide_eq_false (by omega)
    repeat' (first | simp only [seval, evx, beq_self_eq_true, sb, ew, insA, encIns, ins_dec, ins_eta, *] | simp (disch := omega) only [if_pos, if_neg] | refine R.seq ?_ | refine LCB.text ?_ | refine LCB.quiet rfl ?_ | refine R.anyX ?_ | refine R.block ?_ | refine LCB.skip ?_ | refine LCB.exit ?_ | refine LCB.ret ?_ | ((first | refine RetOk.val hcl ?_ | refine Weak.at hcl ?_); simp only [seval, evw, List.forall_mem_cons, List.forall_mem_map, List.forall_mem_append, List.not_mem_nil, sb, ew, insA, encIns, ins_dec, ins_eta, *]) | ((first | refine LCB.cond (by simp only [seval, evx] <;> rfl) ?_ ?_ | refine wpG_split (by simp only [seval, evx] <;> rfl) ?_ ?_ | refine wxG_split (by simp only [seval, evx] <;> rfl) ?_ ?_) <;> (intro hc; try simp only [seval, nf] at hc)) | refine ACalls.inst ?_ | refine CallX.inst ?_ | (with_reducible refine And.intro ?_ ?_) | exact True.intro)
    first | refine ACalls.pure (h1.of) ?_ | refine CallP.pure (h1.of) rfl ?_ | refine CallX.pure (h1.of) ?_
    repeat' (first | simp only [seval, evx, beq_self_eq_true, sb, ew, insA, encIns, ins_dec, ins_eta, *] | simp (disch := omega) only [if_pos, if_neg] | refine R.seq ?_ | refine LCB.text ?_ | refine LCB.quiet rfl ?_ | refine R.anyX ?_ | refine R.block ?_ | refine LCB.skip ?_ | refine LCB.exit ?_ | refine LCB.ret ?_ | ((first | refine RetOk.val hcl ?_ | refine Weak.at hcl ?_); simp only [seval, evw, List.forall_mem_cons, List.forall_mem_map, List.forall_mem_append, List.not_mem_nil, sb, ew, insA, encIns, ins_dec, ins_eta, *]) | ((first | refine LCB.cond (by simp only [seval, evx] <;> rfl) ?_ ?_ | refine wpG_split (by simp only [seval, evx] <;> rfl) ?_ ?_ | refine wxG_split (by simp only [seval, evx] <;> rfl) ?_ ?_) <;> (intro hc; try simp only [seval, nf] at hc)) | refine ACalls.inst ?_ | refine CallX.inst ?_ | (with_reducible refine And.intro ?_ ?_) | exact True.intro)
  have e5 : decide (0 ≤ s.asked) = true := decide_eq_true (by omega)
  have e6 : ¬ (f.length : Int) ≤ s.pc := by omega
  generalize hB : s.L.all okW = B
  replace hB := Hold.mk hB
  replace hL := Hold.mk hL
  repeat' (first | simp only [seval, evx, beq_self_eq_true, sb, ew, insA, encIns, ins_dec, ins_eta, *] | simp (disch := omega) only [if_pos, if_neg] | refine R.seq ?_ | refine LCB.text ?_ | refine LCB.quiet rfl ?_ | refine R.anyX ?_ | refine R.block ?_ | refine LCB.skip ?_ | refine LCB.exit ?_ | refine LCB.ret ?_ | ((first | refine RetOk.val hcl ?_ | refine Weak.at hcl ?_); simp only [seval, evw, List.forall_mem_cons, List.forall_mem_map, List.forall_mem_append, List.not_mem_nil, sb, ew, insA, encIns, ins_dec, ins_eta, *]) | ((first | refine LCB.cond (by simp only [seval, evx] <;> rfl) ?_ ?_ | refine wpG_split (by simp only [seval, evx] <;> rfl) ?_ ?_ | refine wxG_split (by simp only [seval, evx] <;> rfl) ?_ ?_) <;> (intro hc; try simp only [seval, nf] at hc)) | refine ACalls.inst ?_ | refine CallX.inst ?_ | (with_reducible refine And.intro ?_ ?_) | exact True.intro)
  first | refine ACalls.pure (h1.of) ?_ | refine CallP.pure (h1.of) rfl ?_ | refine CallX.pure (h1.of) ?_
  repeat' (first | simp only [seval, evx, beq_self_eq_true, sb, ew, insA, encIns, ins_dec, ins_eta, *] | simp (disch := omega) only [if_pos, if_neg] | refine R.seq ?_ | refine LCB.text ?_ | refine LCB.quiet rfl ?_ | refine R.anyX ?_ | refine R.block ?_ | refine LCB.skip ?_ | refine LCB.exit ?_ | refine LCB.ret ?_ | ((first | refine RetOk.val hcl ?_ | refine Weak.at hcl ?_); simp only [seval, evw, List.forall_mem_cons, List.forall_mem_map, List.forall_mem_append, List.not_mem_nil, sb, ew, insA, encIns, ins_dec, ins_eta, *]) | ((first | refine LCB.cond (by simp only [seval, evx] <;> rfl) ?_ ?_ | refine wpG_split (by simp only [seval, evx] <;> rfl) ?_ ?_ | refine wxG_split (by simp only [seval, evx] <;> rfl) ?_ ?_) <;> (intro hc; try simp only [seval, nf] at hc)) | refine ACalls.inst ?_ | refine CallX.inst ?_ | (with_reducible refine And.intro ?_ ?_) | exact True.intro)
  refine R.loop (S := Nat) ⟨fun i => [(34, .agg (wc s.L)), (35, .int .i64 (i : Int))], fun i => H ++ [], fun i => i ≤ 24 ∧ (s.L.drop i).all okW = B, fun i => 24 - i⟩ 0 ⟨Nat.zero_le _, hB.of⟩ (Weak.at hcl ?_) ?_
  · simp only [seval, evw, List.forall_mem_cons, List.forall_mem_map, List.forall_mem_append, List.not_mem_nil, sb, ew, insA, encIns, ins_dec, ins_eta, *]
  rintro i ⟨hi, hq⟩
  simp only at hi hq ⊢
  by_cases hlt : i < 24
  · have hll := hL.of
    have d1 : (i : Int) < 24 := by omega
    have d2 : IntKind.i64.wrap ((i : Int) + 1) = ((i + 1 : Nat) : Int) := by rw [IntKind.wrap_i64]; omega
    have hg := wc_pair s.L i (by omega)
    rw [drop_W (by omega), List.all_cons] at hq
    have d3 : i * 2 + 2 ≤ 48 := by omega
    generalize s.L.getD i noW = w at *
    obtain ⟨wi, wv⟩ := w
    simp only [encW_def] at hg
    clear hll
    cases wi
    · by_cases hv : wv = 0
      · subst hv
        have hq2 : (s.L.drop (i + 1)).all okW = B := by simpa [okW] using hq
        replace hq2 := Hold.mk hq2
        replace hq := Hold.mk hq
        repeat' (first | simp only [seval, evx, beq_self_eq_true, sb, ew, insA, encIns, ins_dec, ins_eta, *] | simp (disch := omega) only [if_pos, if_neg] | refine R.seq ?_ | refine LCB.text ?_ | refine LCB.quiet rfl ?_ | refine R.anyX ?_ | refine R.block ?_ | refine LCB.skip ?_ | refine LCB.exit ?_ | refine LCB.ret ?_ | ((first | refine RetOk.val hcl ?_ | refine Weak.at hcl ?_); simp only [seval, evw, List.forall_mem_cons, List.forall_mem_map, List.forall_mem_append, List.not_mem_nil, sb, ew, insA, encIns, ins_dec, ins_eta, *]) | ((first | refine LCB.cond (by simp only [seval, evx] <;> rfl) ?_ ?_ | refine wpG_split (by simp only [seval, evx] <;> rfl) ?_ ?_ | refine wxG_split (by simp only [seval, evx] <;> rfl) ?_ ?_) <;> (intro hc; try simp only [seval, nf] at hc)) | refine ACalls.inst ?_ | refine CallX.inst ?_ | (with_reducible refine And.intro ?_ ?_) | exact True.intro)
        refine ⟨i + 1, ⟨hlt, hq2.of⟩, by simp only; omega, Weak.at hcl ?_⟩
        simp only [seval, evw, List.forall_mem_cons, List.forall_mem_map, List.forall_mem_append, List.not_mem_nil, sb, ew, insA, encIns, ins_dec, ins_eta, *]
      · have hBf : B = false := by rw [← hq]; simp [okW, hv]
        subst hBf
        replace hq := Hold.mk hq
        repeat' (first | simp only [seval, evx, beq_self_eq_true, sb, ew, insA, encIns, ins_dec, ins_eta, *] | simp (disch := omega) only [if_pos, if_neg] | refine R.seq ?_ | refine LCB.text ?_ | refine LCB.quiet rfl ?_ | refine R.anyX ?_ | refine R.block ?_ | refine LCB.skip ?_ | refine LCB.exit ?_ | refine LCB.ret ?_ | ((first | refine RetOk.val hcl ?_ | refine Weak.at hcl ?_); simp only [seval, evw, List.forall_mem_cons, List.forall_mem_map, List.forall_mem_append, List.not_mem_nil, sb, ew, insA, encIns, ins_dec, ins_eta, *]) | ((first | refine LCB.cond (by simp only [seval, evx] <;> rfl) ?_ ?_ | refine wpG_split (by simp only [seval, evx] <;> rfl) ?_ ?_ | refine wxG_split (by simp only [seval, evx] <;> rfl) ?_ ?_) <;> (intro hc; try simp only [seval, nf] at hc)) | refine ACalls.inst ?_ | refine CallX.inst ?_ | (with_reducible refine And.intro ?_ ?_) | exact True.intro)
    · have hq2 : (s.L.drop (i + 1)).all okW = B := by simpa [okW] using hq
      replace hq2 := Hold.mk hq2
      replace hq := Hold.mk hq
      repeat' (first | simp only [seval, evx, beq_self_eq_true, sb, ew, insA, encIns, ins_dec, ins_eta, *] | simp (disch := omega) only [if_pos, if_neg] | refine R.seq ?_ | refine LCB.text ?_ | refine LCB.quiet rfl ?_ | refine R.anyX ?_ | refine R.block ?_ | refine LCB.skip ?_ | refine LCB.exit ?_ | refine LCB.ret ?_ | ((first | refine RetOk.val hcl ?_ | refine Weak.at hcl ?_); simp only [seval, evw, List.forall_mem_cons, List.forall_mem_map, List.forall_mem_append, List.not_mem_nil, sb, ew, insA, encIns, ins_dec, ins_eta, *]) | ((first | refine LCB.cond (by simp only [seval, evx] <;> rfl) ?_ ?_ | refine wpG_split (by simp only [seval, evx] <;> rfl) ?_ ?_ | refine wxG_split (by simp only [seval, evx] <;> rfl) ?_ ?_) <;> (intro hc; try simp only [seval, nf] at hc)) | refine ACalls.inst ?_ | refine CallX.inst ?_ | (with_reducible refine And.intro ?_ ?_) | exact True.intro)
      refine ⟨i + 1, ⟨hlt, hq2.of⟩, by simp only; omega, Weak.at hcl ?_⟩
      simp only [seval, evw, List.forall_mem_cons, List.forall_mem_map, List.forall_mem_append, List.not_mem_nil, sb, ew, insA, encIns, ins_dec, ins_eta, *]
  · have hie : i = 24 := by omega
    subst hie
    have hBt : B = true := by rw [← hq, List.drop_of_length_le (by rw [hL.of]; omega)]; rfl
    subst hBt
    replace hq := Hold.mk hq
    repeat' (first | simp only [seval, evx, beq_self_eq_true, sb, ew, insA, encIns, ins_dec, ins_eta, *] | simp (disch := omega) only [if_pos, if_neg] | refine R.seq ?_ | refine LCB.text ?_ | refine LCB.quiet rfl ?_ | refine R.anyX ?_ | refine R.block ?_ | refine LCB.skip ?_ | refine LCB.exit ?_ | refine LCB.ret ?_ | ((first | refine RetOk.val hcl ?_ | refine Weak.at hcl ?_); simp only [seval, evw, List.forall_mem_cons, List.forall_mem_map, List.forall_mem_append, List.not_mem_nil, sb, ew, insA, encIns, ins_dec, ins_eta, *]) | ((first | refine LCB.cond (by simp only [seval, evx] <;> rfl) ?_ ?_ | refine wpG_split (by simp only [seval, evx] <;> rfl) ?_ ?_ | refine wxG_split (by simp only [seval, evx] <;> rfl) ?_ ?_) <;> (intro hc; try simp only [seval, nf] at hc)) | refine ACalls.inst ?_ | refine CallX.inst ?_ | (with_reducible refine And.intro ?_ ?_) | exact True.intro)
end Go.Proofs.YtbkbehkjndmabaaDoor

/-
  step: the document's states; whether two are alike; a state of its own.
-/
namespace Go.Proofs.YtbkbehkjndmabaaDoor
open Go.RowKit
set_option linter.unusedVariables false
set_option linter.unusedSimpArgs false
theorem w_dec (x y : W) : ((x.is == y.is) && decide (x.v = y.v)) = decide (x = y) := by
  cases x; cases y
  rw [Bool.eq_iff_iff]
  simp
theorem ev_dec (x y : Ev) : (decide (x.n = y.n) && (decide (x.arg = y.arg) && decide (x.ans = y.ans))) = decide (x = y) := by
  cases x; cases y
  rw [Bool.eq_iff_iff]
  simp
theorem getD_encEv {l : List Ev} {j : Nat} (h : j < l.length) : (l.map encEv).getD j [] = [.int .i64 (l.getD j ⟨0, 0, 0⟩).n, .int .i64 (l.getD j ⟨0, 0, 0⟩).arg, .int .i64 (l.getD j ⟨0, 0, 0⟩).ans] := by
  simp [List.getD, h, encEv]
theorem drop_Ev {l : List Ev} {j : Nat} (h : j < l.length) : l.drop j = l.getD j ⟨0, 0, 0⟩ :: l.drop (j + 1) := by
  rw [List.drop_eq_getElem_cons h]
  simp [List.getD, h]
theorem ref07_With_ok (L : List W) (i : Nat) (w : W) (hi : i < L.length) (hL : L.length ≤ 1000) : Pure Tryd.prog 46 [.list (L.map encW), .int .i64 (i : Int), .agg [.bool w.is, .int .i64 w.v]] (.list ((L.set i w).map encW)) := by
  intro H
  refine ACalls.go joineryref07_With.low (by simp) fun hcl => ?_
  have e1 : (i : Int) < (L.length : Int) := by omega
  have rk : rowsOk 2 (L.map encW) = true := rk_map fun x _ => ⟨rfl, rfl⟩
  have b1 : L.length * 16 ≤ 140737488355328 := by omega
  have b2 : L.length ≤ 9223372036854775807 := by omega
  have hgn : (L.map encW)[i]? = some [.bool (L.getD i noW).is, .int .i64 (L.getD i noW).v] := by simp [encW, hi]
  have ms : (L.map encW).set i [.bool w.is, .int .i64 w.v] = (L.set i w).map encW := by rw [List.map_set]; rfl
  have hsl : (L.set i w).length = L.length := by simp
  have tkk : List.take L.length ((L.set i w).map encW) = (L.set i w).map encW := List.take_of_length_le (by simp)
  generalize L.getD i noW = u at *
  repeat' (first | simp only [seval, evx, beq_self_eq_true, sb, ew, insA, encIns, ins_dec, ins_eta, w_dec, ev_dec, *] | simp (disch := omega) only [if_pos, if_neg] | refine R.seq ?_ | refine LCB.text ?_ | refine LCB.quiet rfl ?_ | refine R.anyX ?_ | refine R.block ?_ | refine LCB.skip ?_ | refine LCB.exit ?_ | refine LCB.ret ?_ | ((first | refine RetOk.val hcl ?_ | refine Weak.at hcl ?_); simp only [seval, evw, List.forall_mem_cons, List.forall_mem_map, List.forall_mem_append, List.not_mem_nil, sb, ew, insA, encIns, ins_dec, ins_eta, w_dec, ev_dec, *]) | ((first | refine LCB.cond (by simp only [seval, evx] <;> rfl) ?_ ?_ | refine wpG_split (by simp only [seval, evx] <;> rfl) ?_ ?_ | refine wxG_split (by simp only [seval, evx] <;> rfl) ?_ ?_) <;> (intro hc; try simp only [seval, nf] at hc)) | refine ACalls.inst ?_ | refine CallX.inst ?_ | (with_reducible refine And.intro ?_ ?_) | exact True.intro)
theorem ref07_SameEvents_ok (a b : List Ev) (hl : a.length ≤ 9223372036854775806) : Pure Tryd.prog 24 [evs a, evs b] (.bool (decide (a = b))) := by
  intro H
  refine ACalls.go joineryref07_SameEvents.low (by simp) fun hcl => ?_
  rw [evs_eq, evs_eq]
  generalize hB : decide (a = b) = B
  replace hB := Hold.mk hB
  by_cases hlen : a.length = b.length
  case neg =>
    have e1 : ¬ (a.length : Int) = (b.length : Int) := by omega
    have hBf : B = false := by
      rw [← hB.of, decide_eq_false_iff_not]
      rintro rfl
      exact hlen rfl
    subst hBf
    repeat' (first | simp only [seval, evx, beq_self_eq_true, sb, ew, insA, encIns, ins_dec, ins_eta, w_dec, ev_dec, *] | simp (disch := omega) only [if_pos, if_neg] | refine R.seq ?_ | refine LCB.text ?_ | refine LCB.quiet rfl ?_ | refine R.anyX ?_ | refine R.block ?_ | refine LCB.skip ?_ | refine LCB.exit ?_ | refine LCB.ret ?_ | ((first | refine RetOk.val hcl ?_ | refine Weak.at hcl ?_); simp only [seval, evw, List.forall_mem_cons, List.forall_mem_map, List.forall_mem_append, List.not_mem_nil, sb, ew, insA, encIns, ins_dec, ins_eta, w_dec, ev_dec, *]) | ((first | refine LCB.cond (by simp only [seval, evx] <;> rfl) ?_ ?_ | refine wpG_split (by simp only [seval, evx] <;> rfl) ?_ ?_ | refine wxG_split (by simp only [seval, evx] <;> rfl) ?_ ?_) <;> (intro hc; try simp only [seval, nf] at hc)) | refine ACalls.inst ?_ | refine CallX.inst ?_ | (with_reducible refine And.intro ?_ ?_) | exact True.intro)
  have e1 : (a.length : Int) = (b.length : Int) := by omega
  replace e1 := Hold.mk e1
  replace hlen := Hold.mk hlen
  have e1' := Hold.mk (decide_eq_true e1.of)
  have e0 : decide ((a.length : Int) = (b.length : Int)) = true := e1'.of
  repeat' (first | simp only [seval, evx, beq_self_eq_true, sb, ew, insA, encIns, ins_dec, ins_eta, w_dec, ev_dec, *] | simp (disch := omega) only [if_pos, if_neg] | refine R.seq ?_ | refine LCB.text ?_ | refine LCB.quiet rfl ?_ | refine R.anyX ?_ | refine R.block ?_ | refine LCB.skip ?_ | refine LCB.exit ?_ | refine LCB.ret ?_ | ((first | refine RetOk.val hcl ?_ | refine Weak.at hcl ?_); simp only [seval, evw, List.forall_mem_cons, List.forall_mem_map, List.forall_mem_append, List.not_mem_nil, sb, ew, insA, encIns, ins_dec, ins_eta, w_dec, ev_dec, *]) | ((first | refine LCB.cond (by simp only [seval, evx] <;> rfl) ?_ ?_ | refine wpG_split (by simp only [seval, evx] <;> rfl) ?_ ?_ | refine wxG_split (by simp only [seval, evx] <;> rfl) ?_ ?_) <;> (intro hc; try simp only [seval, nf] at hc)) | refine ACalls.inst ?_ | refine CallX.inst ?_ | (with_reducible refine And.intro ?_ ?_) | exact True.intro)
  refine R.loop (S := Nat) ⟨fun i => [(0, .list (a.map encEv)), (1, .list (b.map encEv)), (5, .int .i64 (i : Int))], fun i => H ++ [], fun i => i ≤ a.length ∧ decide (a.drop i = b.drop i) = B, fun i => a.length - i⟩ 0 ⟨Nat.zero_le _, hB.of⟩ (Weak.at hcl ?_) ?_
  · simp only [seval, evw, List.forall_mem_cons, List.forall_mem_map, List.forall_mem_append, List.not_mem_nil, sb, ew, insA, encIns, ins_dec, ins_eta, w_dec, ev_dec, *]
  clear e0
  rintro i ⟨hi, hq⟩
  simp only at hi hq ⊢
  by_cases hlt : i < a.length
  · have e2 : (i : Int) < (a.length : Int) := by omega
    have hlt2 : i < b.length := by have := hlen.of; omega
    have e3 : (i : Int) < (b.length : Int) := by omega
    have hg := getD_encEv hlt
    have hg2 := getD_encEv hlt2
    have e4 : IntKind.i64.wrap ((i : Int) + 1) = ((i + 1 : Nat) : Int) := by rw [IntKind.wrap_i64]; omega
    rw [drop_Ev hlt, drop_Ev hlt2] at hq
    generalize a.getD i ⟨0, 0, 0⟩ = x at *
    generalize b.getD i ⟨0, 0, 0⟩ = y at *
    by_cases hxy : x = y
    · subst hxy
      have hq2 : decide (a.drop (i + 1) = b.drop (i + 1)) = B := by simpa using hq
      clear hq
      replace hq2 := Hold.mk hq2
      repeat' (first | simp only [seval, evx, beq_self_eq_true, sb, ew, insA, encIns, ins_dec, ins_eta, w_dec, ev_dec, *] | simp (disch := omega) only [if_pos, if_neg] | refine R.seq ?_ | refine LCB.text ?_ | refine LCB.quiet rfl ?_ | refine R.anyX ?_ | refine R.block ?_ | refine LCB.skip ?_ | refine LCB.exit ?_ | refine LCB.ret ?_ | ((first | refine RetOk.val hcl ?_ | refine Weak.at hcl ?_); simp only [seval, evw, List.forall_mem_cons, List.forall_mem_map, List.forall_mem_append, List.not_mem_nil, sb, ew, insA, encIns, ins_dec, ins_eta, w_dec, ev_dec, *]) | ((first | refine LCB.cond (by simp only [seval, evx] <;> rfl) ?_ ?_ | refine wpG_split (by simp only [seval, evx] <;> rfl) ?_ ?_ | refine wxG_split (by simp only [seval, evx] <;> rfl) ?_ ?_) <;> (intro hc; try simp only [seval, nf] at hc)) | refine ACalls.inst ?_ | refine CallX.inst ?_ | (with_reducible refine And.intro ?_ ?_) | exact True.intro)
      refine ⟨i + 1, ⟨hlt, hq2.of⟩, by simp only; omega, Weak.at hcl ?_⟩
      simp only [seval, evw, List.forall_mem_cons, List.forall_mem_map, List.forall_mem_append, List.not_mem_nil, sb, ew, insA, encIns, ins_dec, ins_eta, w_dec, ev_dec, *]
    · have hBf : B = false := by rw [← hq]; simp [hxy]
      subst hBf
      replace hq := Hold.mk hq
      repeat' (first | simp only [seval, evx, beq_self_eq_true, sb, ew, insA, encIns, ins_dec, ins_eta, w_dec, ev_dec, *] | simp (disch := omega) only [if_pos, if_neg] | refine R.seq ?_ | refine LCB.text ?_ | refine LCB.quiet rfl ?_ | refine R.anyX ?_ | refine R.block ?_ | refine LCB.skip ?_ | refine LCB.exit ?_ | refine LCB.ret ?_ | ((first | refine RetOk.val hcl ?_ | refine Weak.at hcl ?_); simp only [seval, evw, List.forall_mem_cons, List.forall_mem_map, List.forall_mem_append, List.not_mem_nil, sb, ew, insA, encIns, ins_dec, ins_eta, w_dec, ev_dec, *]) | ((first | refine LCB.cond (by simp only [seval, evx] <;> rfl) ?_ ?_ | refine wpG_split (by simp only [seval, evx] <;> rfl) ?_ ?_ | refine wxG_split (by simp only [seval, evx] <;> rfl) ?_ ?_) <;> (intro hc; try simp only [seval, nf] at hc)) | refine ACalls.inst ?_ | refine CallX.inst ?_ | (with_reducible refine And.intro ?_ ?_) | exact True.intro)
  · have hie : i = a.length := by omega
    have e2 : ¬ (i : Int) < (a.length : Int) := by omega
    have hBt : B = true := by
      rw [← hq, List.drop_of_length_le (by omega), List.drop_of_length_le (by have := hlen.of; omega)]
      simp
    subst hBt
    clear hie
    replace hq := Hold.mk hq
    repeat' (first | simp only [seval, evx, beq_self_eq_true, sb, ew, insA, encIns, ins_dec, ins_eta, w_dec, ev_dec, *] | simp (disch := omega) only [if_pos, if_neg] | refine R.seq ?_ | refine LCB.text ?_ | refine LCB.quiet rfl ?_ | refine R.anyX ?_ | refine R.block ?_ | refine LCB.skip ?_ | refine LCB.exit ?_ | refine LCB.ret ?_ | ((first | refine RetOk.val hcl ?_ | refine Weak.at hcl ?_); simp only [seval, evw, List.forall_mem_cons, List.forall_mem_map, List.forall_mem_append, List.not_mem_nil, sb, ew, insA, encIns, ins_dec, ins_eta, w_dec, ev_dec, *]) | ((first | refine LCB.cond (by simp only [seval, evx] <;> rfl) ?_ ?_ | refine wpG_split (by simp only [seval, evx] <;> rfl) ?_ ?_ | refine wxG_split (by simp only [seval, evx] <;> rfl) ?_ ?_) <;> (intro hc; try simp only [seval, nf] at hc)) | refine ACalls.inst ?_ | refine CallX.inst ?_ | (with_reducible refine And.intro ?_ ?_) | exact True.intro)
theorem out_dec (a b : Out) : (decide (a.how = b.how) && (decide (a.value = b.value) && decide (a.heap = b.heap))) = decide (a = b) := by
  cases a; cases b
  rw [Bool.eq_iff_iff]
  simp
theorem ref07_SameOutcome_ok (a b : Out) (hl : a.heap.length ≤ 9223372036854775806) : Pure Tryd.prog 22 [outA a, outA b] (.bool (decide (a = b))) := by
  intro H
  refine ACalls.go joineryref07_SameOutcome.low (by simp) fun hcl => ?_
  have h1 := Hold.mk (ref06_Same_ok a.heap b.heap hl)
  rw [← out_dec]
  rw [outA_eq, outA_eq]
  unfold ints at h1
  by_cases k1 : a.how = b.how
  · by_cases k2 : a.value = b.value
    · repeat' (first | simp only [seval, evx, beq_self_eq_true, sb, ew, insA, encIns, ins_dec, ins_eta, w_dec, ev_dec, *] | simp (disch := omega) only [if_pos, if_neg] | refine R.seq ?_ | refine LCB.text ?_ | refine LCB.quiet rfl ?_ | refine R.anyX ?_ | refine R.block ?_ | refine LCB.skip ?_ | refine LCB.exit ?_ | refine LCB.ret ?_ | ((first | refine RetOk.val hcl ?_ | refine Weak.at hcl ?_); simp only [seval, evw, List.forall_mem_cons, List.forall_mem_map, List.forall_mem_append, List.not_mem_nil, sb, ew, insA, encIns, ins_dec, ins_eta, w_dec, ev_dec, *]) | ((first | refine LCB.cond (by simp only [seval, evx] <;> rfl) ?_ ?_ | refine wpG_split (by simp only [seval, evx] <;> rfl) ?_ ?_ | refine wxG_split (by simp only [seval, evx] <;> rfl) ?_ ?_) <;> (intro hc; try simp only [seval, nf] at hc)) | refine ACalls.inst ?_ | refine CallX.inst ?_ | (with_reducible refine And.intro ?_ ?_) | exact True.intro)
      first | refine ACalls.pure (h1.of) ?_ | refine CallP.pure (h1.of) rfl ?_ | refine CallX.pure (h1.of) ?_
      repeat' (first | simp only [seval, evx, beq_self_eq_true, sb, ew, insA, encIns, ins_dec, ins_eta, w_dec, ev_dec, *] | simp (disch := omega) only [if_pos, if_neg] | refine R.seq ?_ | refine LCB.text ?_ | refine LCB.quiet rfl ?_ | refine R.anyX ?_ | refine R.block ?_ | refine LCB.skip ?_ | refine LCB.exit ?_ | refine LCB.ret ?_ | ((first | refine RetOk.val hcl ?_ | refine Weak.at hcl ?_); simp only [seval, evw, List.forall_mem_cons, List.forall_mem_map, List.forall_mem_append, List.not_mem_nil, sb, ew, insA, encIns, ins_dec, ins_eta, w_dec, ev_dec, *]) | ((first | refine LCB.cond (by simp only [seval, evx] <;> rfl) ?_ ?_ | refine wpG_split (by simp only [seval, evx] <;> rfl) ?_ ?_ | refine wxG_split (by simp only [seval, evx] <;> rfl) ?_ ?_) <;> (intro hc; try simp only [seval, nf] at hc)) | refine ACalls.inst ?_ | refine CallX.inst ?_ | (with_reducible refine And.intro ?_ ?_) | exact True.intro)
    · repeat' (first | simp only [seval, evx, beq_self_eq_true, sb, ew, insA, encIns, ins_dec, ins_eta, w_dec, ev_dec, *] | simp (disch := omega) only [if_pos, if_neg] | refine R.seq ?_ | refine LCB.text ?_ | refine LCB.quiet rfl ?_ | refine R.anyX ?_ | refine R.block ?_ | refine LCB.skip ?_ | refine LCB.exit ?_ | refine LCB.ret ?_ | ((first | refine RetOk.val hcl ?_ | refine Weak.at hcl ?_); simp only [seval, evw, List.forall_mem_cons, List.forall_mem_map, List.forall_mem_append, List.not_mem_nil, sb, ew, insA, encIns, ins_dec, ins_eta, w_dec, ev_dec, *]) | ((first | refine LCB.cond (by simp only [seval, evx] <;> rfl) ?_ ?_ | refine wpG_split (by simp only [seval, evx] <;> rfl) ?_ ?_ | refine wxG_split (by simp only [seval, evx] <;> rfl) ?_ ?_) <;> (intro hc; try simp only [seval, nf] at hc)) | refine ACalls.inst ?_ | refine CallX.inst ?_ | (with_reducible refine And.intro ?_ ?_) | exact True.intro)
  · repeat' (first | simp only [seval, evx, beq_self_eq_true, sb, ew, insA, encIns, ins_dec, ins_eta, w_dec, ev_dec, *] | simp (disch := omega) only [if_pos, if_neg] | refine R.seq ?_ | refine LCB.text ?_ | refine LCB.quiet rfl ?_ | refine R.anyX ?_ | refine R.block ?_ | refine LCB.skip ?_ | refine LCB.exit ?_ | refine LCB.ret ?_ | ((first | refine RetOk.val hcl ?_ | refine Weak.at hcl ?_); simp only [seval, evw, List.forall_mem_cons, List.forall_mem_map, List.forall_mem_append, List.not_mem_nil, sb, ew, insA, encIns, ins_dec, ins_eta, w_dec, ev_dec, *]) | ((first | refine LCB.cond (by simp only [seval, evx] <;> rfl) ?_ ?_ | refine wpG_split (by simp only [seval, evx] <;> rfl) ?_ ?_ | refine wxG_split (by simp only [seval, evx] <;> rfl) ?_ ?_) <;> (intro hc; try simp only [seval, nf] at hc)) | refine ACalls.inst ?_ | refine CallX.inst ?_ | (with_reducible refine And.intro ?_ ?_) | exact True.intro)
theorem st_dec (a b : St) : (decide (a.L = b.L) && (decide (a.heap = b.heap) && (decide (a.pc = b.pc) && decide (a.asked = b.asked)))) = decide (a = b) := by
  cases a; cases b
  rw [Bool.eq_iff_iff]
  simp
set_option maxHeartbeats 1000000 in
theorem ref07_Same_ok (a b : St) (ha : a.L.length = 24) (hb : b.L.length = 24) (hl : a.heap.length ≤ 9223372036854775806) : Pure Tryd.prog 21 [rsA a, rsA b] (.bool (decide (a = b))) := by
  intro H
  refine ACalls.go joineryref07_Same.low (by simp) fun hcl => ?_
  have h1 := Hold.mk (ref06_Same_ok a.heap b.heap hl)
  rw [rsA_eq, rsA_eq]
  unfold ints at h1
  have hab : ((a.L.length : Nat) : Int) = 24 := by omega
  have hbb : ((b.L.length : Nat) : Int) = 24 := by omega
  by_cases k2 : a.pc = b.pc
  case neg =>
    have hr : decide (a = b) = false := by rw [← st_dec]; simp [k2]
    rw [hr]
    replace hr := Hold.mk hr
    repeat' (first | simp only [seval, evx, beq_self_eq_true, sb, ew, insA, encIns, ins_dec, ins_eta, w_dec, ev_dec, *] | simp (disch := omega) only [if_pos, if_neg] | refine R.seq ?_ | refine LCB.text ?_ | refine LCB.quiet rfl ?_ | refine R.anyX ?_ | refine R.block ?_ | refine LCB.skip ?_ | refine LCB.exit ?_ | refine LCB.ret ?_ | ((first | refine RetOk.val hcl ?_ | refine Weak.at hcl ?_); simp only [seval, evw, List.forall_mem_cons, List.forall_mem_map, List.forall_mem_append, List.not_mem_nil, sb, ew, insA, encIns, ins_dec, ins_eta, w_dec, ev_dec, *]) | ((first | refine LCB.cond (by simp only [seval, evx] <;> rfl) ?_ ?_ | refine wpG_split (by simp only [seval, evx] <;> rfl) ?_ ?_ | refine wxG_split (by simp only [seval, evx] <;> rfl) ?_ ?_) <;> (intro hc; try simp only [seval, nf] at hc)) | refine ACalls.inst ?_ | refine CallX.inst ?_ | (with_reducible refine And.intro ?_ ?_) | exact True.intro)
  by_cases k3 : a.asked = b.asked
  case neg =>
    have hr : decide (a = b) = false := by rw [← st_dec]; simp [k3]
    rw [hr]
    replace hr := Hold.mk hr
    repeat' (first | simp only [seval, evx, beq_self_eq_true, sb, ew, insA, encIns, ins_dec, ins_eta, w_dec, ev_dec, *] | simp (disch := omega) only [if_pos, if_neg] | refine R.seq ?_ | refine LCB.text ?_ | refine LCB.quiet rfl ?_ | refine R.anyX ?_ | refine R.block ?_ | refine LCB.skip ?_ | refine LCB.exit ?_ | refine LCB.ret ?_ | ((first | refine RetOk.val hcl ?_ | refine Weak.at hcl ?_); simp only [seval, evw, List.forall_mem_cons, List.forall_mem_map, List.forall_mem_append, List.not_mem_nil, sb, ew, insA, encIns, ins_dec, ins_eta, w_dec, ev_dec, *]) | ((first | refine LCB.cond (by simp only [seval, evx] <;> rfl) ?_ ?_ | refine wpG_split (by simp only [seval, evx] <;> rfl) ?_ ?_ | refine wxG_split (by simp only [seval, evx] <;> rfl) ?_ ?_) <;> (intro hc; try simp only [seval, nf] at hc)) | refine ACalls.inst ?_ | refine CallX.inst ?_ | (with_reducible refine And.intro ?_ ?_) | exact True.intro)
  have hR : decide (a = b) = (decide (a.L = b.L) && decide (a.heap = b.heap)) := by rw [← st_dec]; simp [k2, k3]
  rw [hR]
  generalize hB : decide (a.L = b.L) = B
  generalize hC : decide (a.heap = b.heap) = C at *
  replace hR := Hold.mk hR
  replace hB := Hold.mk hB
  replace hC := Hold.mk hC
  replace ha := Hold.mk ha
  replace hb := Hold.mk hb
  repeat' (first | simp only [seval, evx, beq_self_eq_true, sb, ew, insA, encIns, ins_dec, ins_eta, w_dec, ev_dec, *] | simp (disch := omega) only [if_pos, if_neg] | refine R.seq ?_ | refine LCB.text ?_ | refine LCB.quiet rfl ?_ | refine R.anyX ?_ | refine R.block ?_ | refine LCB.skip ?_ | refine LCB.exit ?_ | refine LCB.ret ?_ | ((first | refine RetOk.val hcl ?_ | refine Weak.at hcl ?_); simp only [seval, evw, List.forall_mem_cons, List.forall_mem_map, List.forall_mem_append, List.not_mem_nil, sb, ew, insA, encIns, ins_dec, ins_eta, w_dec, ev_dec, *]) | ((first | refine LCB.cond (by simp only [seval, evx] <;> rfl) ?_ ?_ | refine wpG_split (by simp only [seval, evx] <;> rfl) ?_ ?_ | refine wxG_split (by simp only [seval, evx] <;> rfl) ?_ ?_) <;> (intro hc; try simp only [seval, nf] at hc)) | refine ACalls.inst ?_ | refine CallX.inst ?_ | (with_reducible refine And.intro ?_ ?_) | exact True.intro)
  refine R.loop (S := Nat) ⟨fun i => [(2, .ptr H.length 1 0 0), (3, .ptr (H.length + 1) 1 0 0), (5, .int .i64 (i : Int))], fun i => H ++ [.vec 4 [[.list (a.L.map encW), .list (a.heap.map encI), .int .i64 b.pc, .int .i64 b.asked]], .vec 4 [[.list (b.L.map encW), .list (b.heap.map encI), .int .i64 b.pc, .int .i64 b.asked]]],
    fun i => i ≤ 24 ∧ decide (a.L.drop i = b.L.drop i) = B, fun i => 24 - i⟩ 0 ⟨Nat.zero_le _, hB.of⟩ (Weak.at hcl ?_) ?_
  · clear k2 k3
    simp only [seval, evw, List.forall_mem_cons, List.forall_mem_map, List.forall_mem_append, List.not_mem_nil, sb, ew, insA, encIns, ins_dec, ins_eta, w_dec, ev_dec, *]
  clear k2 k3
  rintro i ⟨hi, hq⟩
  simp only at hi hq ⊢
  have ha2 := ha.of
  have hb2 := hb.of
  by_cases hlt : i < 24
  · have e2 : (i : Int) < 24 := by omega
    have hg := getD_encW (l := a.L) (j := i) (by omega)
    have hg2 := getD_encW (l := b.L) (j := i) (by omega)
    have e4 : IntKind.i64.wrap ((i : Int) + 1) = ((i + 1 : Nat) : Int) := by rw [IntKind.wrap_i64]; omega
    rw [drop_W (l := a.L) (by omega), drop_W (l := b.L) (by omega)] at hq
    generalize a.L.getD i noW = x at *
    generalize b.L.getD i noW = y at *
    clear ha2 hb2
    by_cases hxy : x = y
    · subst hxy
      have hq2 : decide (a.L.drop (i + 1) = b.L.drop (i + 1)) = B := by simpa using hq
      clear hq
      replace hq2 := Hold.mk hq2
      repeat' (first | simp only [seval, evx, beq_self_eq_true, sb, ew, insA, encIns, ins_dec, ins_eta, w_dec, ev_dec, *] | simp (disch := omega) only [if_pos, if_neg] | refine R.seq ?_ | refine LCB.text ?_ | refine LCB.quiet rfl ?_ | refine R.anyX ?_ | refine R.block ?_ | refine LCB.skip ?_ | refine LCB.exit ?_ | refine LCB.ret ?_ | ((first | refine RetOk.val hcl ?_ | refine Weak.at hcl ?_); simp only [seval, evw, List.forall_mem_cons, List.forall_mem_map, List.forall_mem_append, List.not_mem_nil, sb, ew, insA, encIns, ins_dec, ins_eta, w_dec, ev_dec, *]) | ((first | refine LCB.cond (by simp only [seval, evx] <;> rfl) ?_ ?_ | refine wpG_split (by simp only [seval, evx] <;> rfl) ?_ ?_ | refine wxG_split (by simp only [seval, evx] <;> rfl) ?_ ?_) <;> (intro hc; try simp only [seval, nf] at hc)) | refine ACalls.inst ?_ | refine CallX.inst ?_ | (with_reducible refine And.intro ?_ ?_) | exact True.intro)
      refine ⟨i + 1, ⟨hlt, hq2.of⟩, by simp only; omega, Weak.at hcl ?_⟩
      simp only [seval, evw, List.forall_mem_cons, List.forall_mem_map, List.forall_mem_append, List.not_mem_nil, sb, ew, insA, encIns, ins_dec, ins_eta, w_dec, ev_dec, *]
    · have hBf : B = false := by rw [← hq]; simp [hxy]
      subst hBf
      replace hq := Hold.mk hq
      repeat' (first | simp only [seval, evx, beq_self_eq_true, sb, ew, insA, encIns, ins_dec, ins_eta, w_dec, ev_dec, *] | simp (disch := omega) only [if_pos, if_neg] | refine R.seq ?_ | refine LCB.text ?_ | refine LCB.quiet rfl ?_ | refine R.anyX ?_ | refine R.block ?_ | refine LCB.skip ?_ | refine LCB.exit ?_ | refine LCB.ret ?_ | ((first | refine RetOk.val hcl ?_ | refine Weak.at hcl ?_); simp only [seval, evw, List.forall_mem_cons, List.forall_mem_map, List.forall_mem_append, List.not_mem_nil, sb, ew, insA, encIns, ins_dec, ins_eta, w_dec, ev_dec, *]) | ((first | refine LCB.cond (by simp only [seval, evx] <;> rfl) ?_ ?_ | refine wpG_split (by simp only [seval, evx] <;> rfl) ?_ ?_ | refine wxG_split (by simp only [seval, evx] <;> rfl) ?_ ?_) <;> (intro hc; try simp only [seval, nf] at hc)) | refine ACalls.inst ?_ | refine CallX.inst ?_ | (with_reducible refine And.intro ?_ ?_) | exact True.intro)
  · have hie : i = 24 := by omega
    subst hie
    have hBt : B = true := by
      rw [← hq, List.drop_of_length_le (by omega), List.drop_of_length_le (by omega)]
      simp
    subst hBt
    clear ha2 hb2
    replace hq := Hold.mk hq
    repeat' (first | simp only [seval, evx, beq_self_eq_true, sb, ew, insA, encIns, ins_dec, ins_eta, w_dec, ev_dec, *] | simp (disch := omega) only [if_pos, if_neg] | refine R.seq ?_ | refine LCB.text ?_ | refine LCB.quiet rfl ?_ | refine R.anyX ?_ | refine R.block ?_ | refine LCB.skip ?_ | refine LCB.exit ?_ | refine LCB.ret ?_ | ((first | refine RetOk.val hcl ?_ | refine Weak.at hcl ?_); simp only [seval, evw, List.forall_mem_cons, List.forall_mem_map, List.forall_mem_append, List.not_mem_nil, sb, ew, insA, encIns, ins_dec, ins_eta, w_dec, ev_dec, *]) | ((first | refine LCB.cond (by simp only [seval, evx] <;> rfl) ?_ ?_ | refine wpG_split (by simp only [seval, evx] <;> rfl) ?_ ?_ | refine wxG_split (by simp only [seval, evx] <;> rfl) ?_ ?_) <;> (intro hc; try simp only [seval, nf] at hc)) | refine ACalls.inst ?_ | refine CallX.inst ?_ | (with_reducible refine And.intro ?_ ?_) | exact True.intro)
    first | refine ACalls.pure (h1.of) ?_ | refine CallP.pure (h1.of) rfl ?_ | refine CallX.pure (h1.of) ?_
    repeat' (first | simp only [seval, evx, beq_self_eq_true, sb, ew, insA, encIns, ins_dec, ins_eta, w_dec, ev_dec, *] | simp (disch := omega) only [if_pos, if_neg] | refine R.seq ?_ | refine LCB.text ?_ | refine LCB.quiet rfl ?_ | refine R.anyX ?_ | refine R.block ?_ | refine LCB.skip ?_ | refine LCB.exit ?_ | refine LCB.ret ?_ | ((first | refine RetOk.val hcl ?_ | refine Weak.at hcl ?_); simp only [seval, evw, List.forall_mem_cons, List.forall_mem_map, List.forall_mem_append, List.not_mem_nil, sb, ew, insA, encIns, ins_dec, ins_eta, w_dec, ev_dec, *]) | ((first | refine LCB.cond (by simp only [seval, evx] <;> rfl) ?_ ?_ | refine wpG_split (by simp only [seval, evx] <;> rfl) ?_ ?_ | refine wxG_split (by simp only [seval, evx] <;> rfl) ?_ ?_) <;> (intro hc; try simp only [seval, nf] at hc)) | refine ACalls.inst ?_ | refine CallX.inst ?_ | (with_reducible refine And.intro ?_ ?_) | exact True.intro)
theorem step_own_ok (s : St) (hL : s.L.length = 24) (hh : s.heap.length ≤ 1000) : Pure Tryd.prog 41 [stA s] (stA s) := by
  intro H
  refine ACalls.go step_own.low (by simp) fun hcl => ?_
  have hwl : (wc s.L).length = 48 := by rw [wc_len, hL]
  rw [stA_eq]
  have rk : rowsOk 1 (s.heap.map encI) = true := rk_map fun x _ => ⟨rfl, rfl⟩
  have b1 : s.heap.length * 8 ≤ 140737488355328 := by omega
  have b2 : s.heap.length ≤ 9223372036854775807 := by omega
  replace hL := Hold.mk hL
  repeat' (first | simp only [seval, evx, beq_self_eq_true, sb, ew, insA, encIns, ins_dec, ins_eta, w_dec, ev_dec, *] | simp (disch := omega) only [if_pos, if_neg] | refine R.seq ?_ | refine LCB.text ?_ | refine LCB.quiet rfl ?_ | refine R.anyX ?_ | refine R.block ?_ | refine LCB.skip ?_ | refine LCB.exit ?_ | refine LCB.ret ?_ | ((first | refine RetOk.val hcl ?_ | refine Weak.at hcl ?_); simp only [seval, evw, List.forall_mem_cons, List.forall_mem_map, List.forall_mem_append, List.not_mem_nil, sb, ew, insA, encIns, ins_dec, ins_eta, w_dec, ev_dec, *]) | ((first | refine LCB.cond (by simp only [seval, evx] <;> rfl) ?_ ?_ | refine wpG_split (by simp only [seval, evx] <;> rfl) ?_ ?_ | refine wxG_split (by simp only [seval, evx] <;> rfl) ?_ ?_) <;> (intro hc; try simp only [seval, nf] at hc)) | refine ACalls.inst ?_ | refine CallX.inst ?_ | (with_reducible refine And.intro ?_ ?_) | exact True.intro)
set_option maxHeartbeats 1000000 in
theorem law07_As_ok (s : St) (hL : s.L.length = 24) : Pure Tryd.prog 19 [stA s] (rsA s) := by
  intro H
  refine ACalls.go joinerylaw07_As.low (by simp) fun hcl => ?_
  have hwl : (wc s.L).length = 48 := by rw [wc_len, hL]
  rw [stA_eq, rsA_eq]
  replace hL := Hold.mk hL
  repeat' (first | simp only [seval, evx, beq_self_eq_true, sb, ew, insA, encIns, ins_dec, ins_eta, w_dec, ev_dec, *] | simp (disch := omega) only [if_pos, if_neg] | refine R.seq ?_ | refine LCB.text ?_ | refine LCB.quiet rfl ?_ | refine R.anyX ?_ | refine R.block ?_ | refine LCB.skip ?_ | refine LCB.exit ?_ | refine LCB.ret ?_ | ((first | refine RetOk.val hcl ?_ | refine Weak.at hcl ?_); simp only [seval, evw, List.forall_mem_cons, List.forall_mem_map, List.forall_mem_append, List.not_mem_nil, sb, ew, insA, encIns, ins_dec, ins_eta, w_dec, ev_dec, *]) | ((first | refine LCB.cond (by simp only [seval, evx] <;> rfl) ?_ ?_ | refine wpG_split (by simp only [seval, evx] <;> rfl) ?_ ?_ | refine wxG_split (by simp only [seval, evx] <;> rfl) ?_ ?_) <;> (intro hc; try simp only [seval, nf] at hc)) | refine ACalls.inst ?_ | refine CallX.inst ?_ | (with_reducible refine And.intro ?_ ?_) | exact True.intro)
  refine R.loop (S := Nat × List W) ⟨fun y => [(1, .ptr H.length 1 0 0), (2, .ptr (H.length + 1) 1 0 0), (3, .ptr (H.length + 2) 1 0 0), (4, .int .i64 (y.1 : Int))],
    fun y => H ++ [.vec 51 [wc s.L ++ [.list (s.heap.map encI), .int .i64 s.pc, .int .i64 s.asked]], .vec 4 [[.imm (.slice none 0 0), .imm (.slice none 0 0), .int .i64 0, .int .i64 0]], .vec 4 [[.sl 2 (H.length + 3) y.2.length 0 y.2.length, .list (s.heap.map encI), .int .i64 s.pc, .int .i64 s.asked]], .vec 2 (y.2.map encW)],
    fun y => y.1 ≤ 24 ∧ y.2 = s.L.take y.1 ∧ y.2.length = y.1, fun y => 24 - y.1⟩ (0, []) ⟨Nat.zero_le _, rfl, rfl⟩ ((Weak.growRow 2 0 2 (by omega) rfl rfl).trans (Weak.at hcl ?_)) ?_
  · simp only [seval, evw, List.forall_mem_cons, List.forall_mem_map, List.forall_mem_append, List.not_mem_nil, sb, ew, insA, encIns, ins_dec, ins_eta, w_dec, ev_dec, *]
  rintro ⟨i, out⟩ ⟨hi, hout, hol⟩
  simp only at hi hout hol ⊢
  by_cases hlt : i < 24
  · have hll := hL.of
    have d1 : (i : Int) < 24 := by omega
    have d2 : IntKind.i64.wrap ((i : Int) + 1) = ((i + 1 : Nat) : Int) := by rw [IntKind.wrap_i64]; omega
    have hg := wr_pair (L := s.L) (r := [.list (s.heap.map encI), .int .i64 s.pc, .int .i64 s.asked]) (i := i) (by omega)
    have d3 : i * 2 + 2 ≤ 51 := by omega
    have b1 : (out.length + 1) * 16 ≤ 140737488355328 := by omega
    have b2 : out.length ≤ 9223372036854775806 := by omega
    have hnx : out ++ [s.L.getD i noW] = s.L.take (i + 1) := by
      rw [hout, List.take_succ_eq_append_getElem (by omega)]
      simp [List.getD, show i < s.L.length by omega]
    generalize s.L.getD i noW = w at *
    simp only [encW_def] at hg
    clear hll
    replace hout := Hold.mk hout
    replace hol := Hold.mk hol
    replace hnx := Hold.mk hnx
    repeat' (first | simp only [seval, evx, beq_self_eq_true, sb, ew, insA, encIns, ins_dec, ins_eta, w_dec, ev_dec, *] | simp (disch := omega) only [if_pos, if_neg] | refine R.seq ?_ | refine LCB.text ?_ | refine LCB.quiet rfl ?_ | refine R.anyX ?_ | refine R.block ?_ | refine LCB.skip ?_ | refine LCB.exit ?_ | refine LCB.ret ?_ | ((first | refine RetOk.val hcl ?_ | refine Weak.at hcl ?_); simp only [seval, evw, List.forall_mem_cons, List.forall_mem_map, List.forall_mem_append, List.not_mem_nil, sb, ew, insA, encIns, ins_dec, ins_eta, w_dec, ev_dec, *]) | ((first | refine LCB.cond (by simp only [seval, evx] <;> rfl) ?_ ?_ | refine wpG_split (by simp only [seval, evx] <;> rfl) ?_ ?_ | refine wxG_split (by simp only [seval, evx] <;> rfl) ?_ ?_) <;> (intro hc; try simp only [seval, nf] at hc)) | refine ACalls.inst ?_ | refine CallX.inst ?_ | (with_reducible refine And.intro ?_ ?_) | exact True.intro)
    refine ⟨(i + 1, out ++ [w]), ⟨hlt, hnx.of, by simp only [List.length_append, List.length_cons, List.length_nil, hol.of]⟩, by simp only; omega, Weak.at hcl ?_⟩
    simp only [seval, evw, List.forall_mem_cons, List.forall_mem_map, List.forall_mem_append, List.not_mem_nil, sb, ew, insA, encIns, ins_dec, ins_eta, w_dec, ev_dec, *]
  · have hie : i = 24 := by omega
    subst hie
    have hx : out = s.L := by rw [hout, List.take_of_length_le (by rw [hL.of]; omega)]
    subst hx
    replace hout := Hold.mk hout
    replace hol := Hold.mk hol
    repeat' (first | simp only [seval, evx, beq_self_eq_true, sb, ew, insA, encIns, ins_dec, ins_eta, w_dec, ev_dec, *] | simp (disch := omega) only [if_pos, if_neg] | refine R.seq ?_ | refine LCB.text ?_ | refine LCB.quiet rfl ?_ | refine R.anyX ?_ | refine R.block ?_ | refine LCB.skip ?_ | refine LCB.exit ?_ | refine LCB.ret ?_ | ((first | refine RetOk.val hcl ?_ | refine Weak.at hcl ?_); simp only [seval, evw, List.forall_mem_cons, List.forall_mem_map, List.forall_mem_append, List.not_mem_nil, sb, ew, insA, encIns, ins_dec, ins_eta, w_dec, ev_dec, *]) | ((first | refine LCB.cond (by simp only [seval, evx] <;> rfl) ?_ ?_ | refine wpG_split (by simp only [seval, evx] <;> rfl) ?_ ?_ | refine wxG_split (by simp only [seval, evx] <;> rfl) ?_ ?_) <;> (intro hc; try simp only [seval, nf] at hc)) | refine ACalls.inst ?_ | refine CallX.inst ?_ | (with_reducible refine And.intro ?_ ?_) | exact True.intro)
end Go.Proofs.YtbkbehkjndmabaaDoor

/-
  num: what comes of an operation.
-/
namespace Go.Proofs.YtbkbehkjndmabaaDoor
open Go.RowKit
set_option linter.unusedVariables false
set_option linter.unusedSimpArgs false

def flagI (b : Bool) : Int := if b then 1 else 0
/-- What comes of an operation, and how. -/
def numDo (op a b : Int) : Int × Int :=
  if op = 4 then (IntKind.i64.wrap (a + b), 0)
  else if op = 5 then (IntKind.i64.wrap (a - b), 0)
  else if op = 6 then (IntKind.i64.wrap (a * b), 0)
  else if op = 7 then (if b = 0 then (0, 3) else (IntKind.i64.wrap (a.tdiv b), 0))
  else if op = 8 then (bits .and .i64 a b, 0)
  else if op = 9 then (bits .or .i64 a b, 0)
  else if op = 10 then (bits .xor .i64 a b, 0)
  else if op = 11 then (flagI (decide (a < b)), 0)
  else if op = 12 then (flagI (decide (a = b)), 0)
  else (0, 2)
def nopR (q : Int × Int) : AV := .tup [.int .i64 q.1, .int .i64 q.2]

theorem bv_split {n : Nat} (x y : BitVec n) : (x ||| y).toNat = (x ^^^ y).toNat + (x &&& y).toNat := by
  have h0 : (x ^^^ y) &&& (x &&& y) = 0#n := by
    ext i hi
    simp
    cases x[i] <;> cases y[i] <;> simp
  have h1 : (x ^^^ y) ||| (x &&& y) = x ||| y := by
    ext i hi
    simp
    cases x[i] <;> cases y[i] <;> simp
  have h2 := BitVec.add_eq_or_of_and_eq_zero _ _ h0
  rw [h1] at h2
  have h3 := congrArg BitVec.toNat h2
  rw [BitVec.toNat_add] at h3
  have hx : (x ^^^ y).toNat + (x &&& y).toNat < 2 ^ n := by
    have := BitVec.toNat_add_of_and_eq_zero h0
    rw [h2] at this
    rw [← this]
    exact (x ||| y).isLt
  rw [Nat.mod_eq_of_lt hx] at h3
  exact h3.symm
theorem bits_xor (a b : Int) : IntKind.i64.wrap (bits .or .i64 a b - bits .and .i64 a b) = bits .xor .i64 a b := by
  have h := bv_split (BitVec.ofInt IntKind.i64.bits a) (BitVec.ofInt IntKind.i64.bits b)
  show IntKind.i64.wrap (IntKind.i64.wrap _ - IntKind.i64.wrap _) = IntKind.i64.wrap _
  simp only
  generalize ((BitVec.ofInt IntKind.i64.bits a ||| BitVec.ofInt IntKind.i64.bits b).toNat) = u at *
  generalize ((BitVec.ofInt IntKind.i64.bits a &&& BitVec.ofInt IntKind.i64.bits b).toNat) = v at *
  generalize ((BitVec.ofInt IntKind.i64.bits a ^^^ BitVec.ofInt IntKind.i64.bits b).toNat) = w at *
  simp only [IntKind.wrap_i64]
  omega

theorem num_flag_ok (b : Bool) : Pure Tryd.prog 87 [.bool b] (.int .i64 (flagI b)) := by
  intro H
  refine ACalls.go num_flag.low (by simp) fun hcl => ?_
  cases b
  all_goals
    repeat' (first | simp only [seval, evo, beq_self_eq_true, sb, *] | simp (disch := omega) only [if_pos, if_neg] | refine R.seq ?_ | refine LCB.text ?_ | refine LCB.quiet rfl ?_ | refine R.calls rfl ?_ | refine R.block ?_ | refine LCB.skip ?_ | refine LCB.exit ?_ | refine LCB.ret ?_ | ((first | refine RetOk.val hcl ?_ | refine Weak.at hcl ?_); simp only [seval, evw, List.forall_mem_cons, List.forall_mem_map, List.forall_mem_append, List.not_mem_nil, sb, *]) | ((first | refine LCB.cond (by simp only [seval, evo] <;> rfl) ?_ ?_ | refine wpG_split (by simp only [seval, evo] <;> rfl) ?_ ?_ | refine wqG_split (by simp only [seval, evo] <;> rfl) ?_ ?_) <;> (intro hc; try simp only [seval, nf] at hc)) | refine ACalls.inst ?_ | refine CallP.inst rfl ?_)
    rfl
theorem num_deed1_ok (a b : Int) : Pure Tryd.prog 79 [.int .i64 a, .int .i64 b] (.int .i64 (IntKind.i64.wrap (a + b))) := by
  intro H
  refine ACalls.go num_deeds_1.low (by simp) fun hcl => ?_
  repeat' (first | simp only [seval, evo, beq_self_eq_true, sb, *] | simp (disch := omega) only [if_pos, if_neg] | refine R.seq ?_ | refine LCB.text ?_ | refine LCB.quiet rfl ?_ | refine R.calls rfl ?_ | refine R.block ?_ | refine LCB.skip ?_ | refine LCB.exit ?_ | refine LCB.ret ?_ | ((first | refine RetOk.val hcl ?_ | refine Weak.at hcl ?_); simp only [seval, evw, List.forall_mem_cons, List.forall_mem_map, List.forall_mem_append, List.not_mem_nil, sb, *]) | ((first | refine LCB.cond (by simp only [seval, evo] <;> rfl) ?_ ?_ | refine wpG_split (by simp only [seval, evo] <;> rfl) ?_ ?_ | refine wqG_split (by simp only [seval, evo] <;> rfl) ?_ ?_) <;> (intro hc; try simp only [seval, nf] at hc)) | refine ACalls.inst ?_ | refine CallP.inst rfl ?_)
theorem num_deed2_ok (a b : Int) : Pure Tryd.prog 80 [.int .i64 a, .int .i64 b] (.int .i64 (IntKind.i64.wrap (a - b))) := by
  intro H
  refine ACalls.go num_deeds_2.low (by simp) fun hcl => ?_
  repeat' (first | simp only [seval, evo, beq_self_eq_true, sb, *] | simp (disch := omega) only [if_pos, if_neg] | refine R.seq ?_ | refine LCB.text ?_ | refine LCB.quiet rfl ?_ | refine R.calls rfl ?_ | refine R.block ?_ | refine LCB.skip ?_ | refine LCB.exit ?_ | refine LCB.ret ?_ | ((first | refine RetOk.val hcl ?_ | refine Weak.at hcl ?_); simp only [seval, evw, List.forall_mem_cons, List.forall_mem_map, List.forall_mem_append, List.not_mem_nil, sb, *]) | ((first | refine LCB.cond (by simp only [seval, evo] <;> rfl) ?_ ?_ | refine wpG_split (by simp only [seval, evo] <;> rfl) ?_ ?_ | refine wqG_split (by simp only [seval, evo] <;> rfl) ?_ ?_) <;> (intro hc; try simp only [seval, nf] at hc)) | refine ACalls.inst ?_ | refine CallP.inst rfl ?_)
theorem num_deed3_ok (a b : Int) : Pure Tryd.prog 81 [.int .i64 a, .int .i64 b] (.int .i64 (IntKind.i64.wrap (a * b))) := by
  intro H
  refine ACalls.go num_deeds_3.low (by simp) fun hcl => ?_
  repeat' (first | simp only [seval, evo, beq_self_eq_true, sb, *] | simp (disch := omega) only [if_pos, if_neg] | refine R.seq ?_ | refine LCB.text ?_ | refine LCB.quiet rfl ?_ | refine R.calls rfl ?_ | refine R.block ?_ | refine LCB.skip ?_ | refine LCB.exit ?_ | refine LCB.ret ?_ | ((first | refine RetOk.val hcl ?_ | refine Weak.at hcl ?_); simp only [seval, evw, List.forall_mem_cons, List.forall_mem_map, List.forall_mem_append, List.not_mem_nil, sb, *]) | ((first | refine LCB.cond (by simp only [seval, evo] <;> rfl) ?_ ?_ | refine wpG_split (by simp only [seval, evo] <;> rfl) ?_ ?_ | refine wqG_split (by simp only [seval, evo] <;> rfl) ?_ ?_) <;> (intro hc; try simp only [seval, nf] at hc)) | refine ACalls.inst ?_ | refine CallP.inst rfl ?_)
theorem num_deed5_ok (a b : Int) : Pure Tryd.prog 83 [.int .i64 a, .int .i64 b] (.int .i64 (bits .and .i64 a b)) := by
  intro H
  refine ACalls.go num_deeds_5.low (by simp) fun hcl => ?_
  repeat' (first | simp only [seval, evo, beq_self_eq_true, sb, *] | simp (disch := omega) only [if_pos, if_neg] | refine R.seq ?_ | refine LCB.text ?_ | refine LCB.quiet rfl ?_ | refine R.calls rfl ?_ | refine R.block ?_ | refine LCB.skip ?_ | refine LCB.exit ?_ | refine LCB.ret ?_ | ((first | refine RetOk.val hcl ?_ | refine Weak.at hcl ?_); simp only [seval, evw, List.forall_mem_cons, List.forall_mem_map, List.forall_mem_append, List.not_mem_nil, sb, *]) | ((first | refine LCB.cond (by simp only [seval, evo] <;> rfl) ?_ ?_ | refine wpG_split (by simp only [seval, evo] <;> rfl) ?_ ?_ | refine wqG_split (by simp only [seval, evo] <;> rfl) ?_ ?_) <;> (intro hc; try simp only [seval, nf] at hc)) | refine ACalls.inst ?_ | refine CallP.inst rfl ?_)
theorem num_deed6_ok (a b : Int) : Pure Tryd.prog 84 [.int .i64 a, .int .i64 b] (.int .i64 (bits .or .i64 a b)) := by
  intro H
  refine ACalls.go num_deeds_6.low (by simp) fun hcl => ?_
  repeat' (first | simp only [seval, evo, beq_self_eq_true, sb, *] | simp (disch := omega) only [if_pos, if_neg] | refine R.seq ?_ | refine LCB.text ?_ | refine LCB.quiet rfl ?_ | refine R.calls rfl ?_ | refine R.block ?_ | refine LCB.skip ?_ | refine LCB.exit ?_ | refine LCB.ret ?_ | ((first | refine RetOk.val hcl ?_ | refine Weak.at hcl ?_); simp only [seval, evw, List.forall_mem_cons, List.forall_mem_map, List.forall_mem_append, List.not_mem_nil, sb, *]) | ((first | refine LCB.cond (by simp only [seval, evo] <;> rfl) ?_ ?_ | refine wpG_split (by simp only [seval, evo] <;> rfl) ?_ ?_ | refine wqG_split (by simp only [seval, evo] <;> rfl) ?_ ?_) <;> (intro hc; try simp only [seval, nf] at hc)) | refine ACalls.inst ?_ | refine CallP.inst rfl ?_)
theorem num_deed7_ok (a b : Int) : Pure Tryd.prog 85 [.int .i64 a, .int .i64 b] (.int .i64 (bits .xor .i64 a b)) := by
  intro H
  refine ACalls.go num_deeds_7.low (by simp) fun hcl => ?_
  repeat' (first | simp only [seval, evo, beq_self_eq_true, sb, *] | simp (disch := omega) only [if_pos, if_neg] | refine R.seq ?_ | refine LCB.text ?_ | refine LCB.quiet rfl ?_ | refine R.calls rfl ?_ | refine R.block ?_ | refine LCB.skip ?_ | refine LCB.exit ?_ | refine LCB.ret ?_ | ((first | refine RetOk.val hcl ?_ | refine Weak.at hcl ?_); simp only [seval, evw, List.forall_mem_cons, List.forall_mem_map, List.forall_mem_append, List.not_mem_nil, sb, *]) | ((first | refine LCB.cond (by simp only [seval, evo] <;> rfl) ?_ ?_ | refine wpG_split (by simp only [seval, evo] <;> rfl) ?_ ?_ | refine wqG_split (by simp only [seval, evo] <;> rfl) ?_ ?_) <;> (intro hc; try simp only [seval, nf] at hc)) | refine ACalls.inst ?_ | refine CallP.inst rfl ?_)
theorem num_deed8_ok (a b : Int) : Pure Tryd.prog 86 [.int .i64 a, .int .i64 b] (.int .i64 (flagI (decide (a < b)))) := by
  intro H
  refine ACalls.go num_deeds_8.low (by simp) fun hcl => ?_
  have h1 := Hold.mk (num_flag_ok (decide (a < b)))
  repeat' (first | simp only [seval, evo, beq_self_eq_true, sb, *] | simp (disch := omega) only [if_pos, if_neg] | refine R.seq ?_ | refine LCB.text ?_ | refine LCB.quiet rfl ?_ | refine R.calls rfl ?_ | refine R.block ?_ | refine LCB.skip ?_ | refine LCB.exit ?_ | refine LCB.ret ?_ | ((first | refine RetOk.val hcl ?_ | refine Weak.at hcl ?_); simp only [seval, evw, List.forall_mem_cons, List.forall_mem_map, List.forall_mem_append, List.not_mem_nil, sb, *]) | ((first | refine LCB.cond (by simp only [seval, evo] <;> rfl) ?_ ?_ | refine wpG_split (by simp only [seval, evo] <;> rfl) ?_ ?_ | refine wqG_split (by simp only [seval, evo] <;> rfl) ?_ ?_) <;> (intro hc; try simp only [seval, nf] at hc)) | refine ACalls.inst ?_ | refine CallP.inst rfl ?_)
  first | refine ACalls.pure (h1.of) ?_ | refine CallP.pure (h1.of) rfl ?_ | refine CallX.pure (h1.of) ?_
  repeat' (first | simp only [seval, evo, beq_self_eq_true, sb, *] | simp (disch := omega) only [if_pos, if_neg] | refine R.seq ?_ | refine LCB.text ?_ | refine LCB.quiet rfl ?_ | refine R.calls rfl ?_ | refine R.block ?_ | refine LCB.skip ?_ | refine LCB.exit ?_ | refine LCB.ret ?_ | ((first | refine RetOk.val hcl ?_ | refine Weak.at hcl ?_); simp only [seval, evw, List.forall_mem_cons, List.forall_mem_map, List.forall_mem_append, List.not_mem_nil, sb, *]) | ((first | refine LCB.cond (by simp only [seval, evo] <;> rfl) ?_ ?_ | refine wpG_split (by simp only [seval, evo] <;> rfl) ?_ ?_ | refine wqG_split (by simp only [seval, evo] <;> rfl) ?_ ?_) <;> (intro hc; try simp only [seval, nf] at hc)) | refine ACalls.inst ?_ | refine CallP.inst rfl ?_)
theorem num_deed9_ok (a b : Int) : Pure Tryd.prog 88 [.int .i64 a, .int .i64 b] (.int .i64 (flagI (decide (a = b)))) := by
  intro H
  refine ACalls.go num_deeds_9.low (by simp) fun hcl => ?_
  have h1 := Hold.mk (num_flag_ok (decide (a = b)))
  repeat' (first | simp only [seval, evo, beq_self_eq_true, sb, *] | simp (disch := omega) only [if_pos, if_neg] | refine R.seq ?_ | refine LCB.text ?_ | refine LCB.quiet rfl ?_ | refine R.calls rfl ?_ | refine R.block ?_ | refine LCB.skip ?_ | refine LCB.exit ?_ | refine LCB.ret ?_ | ((first | refine RetOk.val hcl ?_ | refine Weak.at hcl ?_); simp only [seval, evw, List.forall_mem_cons, List.forall_mem_map, List.forall_mem_append, List.not_mem_nil, sb, *]) | ((first | refine LCB.cond (by simp only [seval, evo] <;> rfl) ?_ ?_ | refine wpG_split (by simp only [seval, evo] <;> rfl) ?_ ?_ | refine wqG_split (by simp only [seval, evo] <;> rfl) ?_ ?_) <;> (intro hc; try simp only [seval, nf] at hc)) | refine ACalls.inst ?_ | refine CallP.inst rfl ?_)
  first | refine ACalls.pure (h1.of) ?_ | refine CallP.pure (h1.of) rfl ?_ | refine CallX.pure (h1.of) ?_
  repeat' (first | simp only [seval, evo, beq_self_eq_true, sb, *] | simp (disch := omega) only [if_pos, if_neg] | refine R.seq ?_ | refine LCB.text ?_ | refine LCB.quiet rfl ?_ | refine R.calls rfl ?_ | refine R.block ?_ | refine LCB.skip ?_ | refine LCB.exit ?_ | refine LCB.ret ?_ | ((first | refine RetOk.val hcl ?_ | refine Weak.at hcl ?_); simp only [seval, evw, List.forall_mem_cons, List.forall_mem_map, List.forall_mem_append, List.not_mem_nil, sb, *]) | ((first | refine LCB.cond (by simp only [seval, evo] <;> rfl) ?_ ?_ | refine wpG_split (by simp only [seval, evo] <;> rfl) ?_ ?_ | refine wqG_split (by simp only [seval, evo] <;> rfl) ?_ ?_) <;> (intro hc; try simp only [seval, nf] at hc)) | refine ACalls.inst ?_ | refine CallP.inst rfl ?_)
theorem num_deed4_ok (a b : Int) (hb : ¬ b = 0) : Pure Tryd.prog 82 [.int .i64 a, .int .i64 b] (.int .i64 (IntKind.i64.wrap (a.tdiv b))) := by
  intro H
  refine ACalls.go num_deeds_4.low (by simp) fun hcl => ?_
  repeat' (first | simp only [seval, evo, beq_self_eq_true, sb, *] | simp (disch := omega) only [if_pos, if_neg] | refine R.seq ?_ | refine LCB.text ?_ | refine LCB.quiet rfl ?_ | refine R.calls rfl ?_ | refine R.block ?_ | refine LCB.skip ?_ | refine LCB.exit ?_ | refine LCB.ret ?_ | ((first | refine RetOk.val hcl ?_ | refine Weak.at hcl ?_); simp only [seval, evw, List.forall_mem_cons, List.forall_mem_map, List.forall_mem_append, List.not_mem_nil, sb, *]) | ((first | refine LCB.cond (by simp only [seval, evo] <;> rfl) ?_ ?_ | refine wpG_split (by simp only [seval, evo] <;> rfl) ?_ ?_ | refine wqG_split (by simp only [seval, evo] <;> rfl) ?_ ?_) <;> (intro hc; try simp only [seval, nf] at hc)) | refine ACalls.inst ?_ | refine CallP.inst rfl ?_)
def deedE : List (AV × AV) := [(.int .i64 4, .fn (.func 79) [] []), (.int .i64 5, .fn (.func 80) [] []), (.int .i64 6, .fn (.func 81) [] []), (.int .i64 7, .fn (.func 82) [] []), (.int .i64 8, .fn (.func 83) [] []), (.int .i64 9, .fn (.func 84) [] []), (.int .i64 10, .fn (.func 85) [] []), (.int .i64 11, .fn (.func 86) [] []), (.int .i64 12, .fn (.func 88) [] [])]
theorem deedE_eq : deedE = [(.int .i64 4, .fn (.func 79) [] []), (.int .i64 5, .fn (.func 80) [] []), (.int .i64 6, .fn (.func 81) [] []), (.int .i64 7, .fn (.func 82) [] []), (.int .i64 8, .fn (.func 83) [] []), (.int .i64 9, .fn (.func 84) [] []), (.int .i64 10, .fn (.func 85) [] []), (.int .i64 11, .fn (.func 86) [] []), (.int .i64 12, .fn (.func 88) [] [])] := rfl
theorem num_deeds_ok (H : List AObj) : ACalls Tryd.prog 70 [] H fun r H' => r = .map H.length ∧ H' = H ++ [.map deedE] := by
  refine ACalls.go num_deeds.low (by simp) fun hcl => ?_
  repeat' (first | simp only [seval, evo, beq_self_eq_true, sb, *] | simp (disch := omega) only [if_pos, if_neg] | refine R.seq ?_ | refine LCB.text ?_ | refine LCB.quiet rfl ?_ | refine R.calls rfl ?_ | refine R.block ?_ | refine LCB.skip ?_ | refine LCB.exit ?_ | refine LCB.ret ?_ | ((first | refine RetOk.val hcl ?_ | refine Weak.at hcl ?_); simp only [seval, evw, List.forall_mem_cons, List.forall_mem_map, List.forall_mem_append, List.not_mem_nil, sb, *]) | ((first | refine LCB.cond (by simp only [seval, evo] <;> rfl) ?_ ?_ | refine wpG_split (by simp only [seval, evo] <;> rfl) ?_ ?_ | refine wqG_split (by simp only [seval, evo] <;> rfl) ?_ ?_) <;> (intro hc; try simp only [seval, nf] at hc)) | refine ACalls.inst ?_ | refine CallP.inst rfl ?_)
  refine RetOk.fin [.map deedE] (.map H.length) hcl ⟨?_, ?_⟩ ?_ ⟨rfl, rfl⟩
  · rfl
  · rw [deedE_eq]
    simp only [seval, evw, List.forall_mem_cons, List.forall_mem_map, List.forall_mem_append, List.not_mem_nil, sb, *]
  · simp only [seval, evw, List.forall_mem_cons, List.forall_mem_map, List.forall_mem_append, List.not_mem_nil, sb, *]
    all_goals simp
set_option maxHeartbeats 1000000 in
theorem num_Do_ok (op a b : Int) : Pure Tryd.prog 63 [.int .i64 op, .int .i64 a, .int .i64 b] (nopR (numDo op a b)) := by
  intro H
  refine ACalls.go num_Do.low (by simp) fun hcl => ?_
  unfold nopR
  by_cases o4 : op = 4
  · subst o4
    have hr : numDo 4 a b = (IntKind.i64.wrap (a + b), 0) := by simp [numDo]
    rw [hr]
    have h1 := Hold.mk (num_deed1_ok a b)
    repeat' (first | simp only [seval, evo, beq_self_eq_true, sb, *] | simp (disch := omega) only [if_pos, if_neg] | refine R.seq ?_ | refine LCB.text ?_ | refine LCB.quiet rfl ?_ | refine R.calls rfl ?_ | refine R.block ?_ | refine LCB.skip ?_ | refine LCB.exit ?_ | refine LCB.ret ?_ | ((first | refine RetOk.val hcl ?_ | refine Weak.at hcl ?_); simp only [seval, evw, List.forall_mem_cons, List.forall_mem_map, List.forall_mem_append, List.not_mem_nil, sb, *]) | ((first | refine LCB.cond (by simp only [seval, evo] <;> rfl) ?_ ?_ | refine wpG_split (by simp only [seval, evo] <;> rfl) ?_ ?_ | refine wqG_split (by simp only [seval, evo] <;> rfl) ?_ ?_) <;> (intro hc; try simp only [seval, nf] at hc)) | refine ACalls.inst ?_ | refine CallP.inst rfl ?_)
    refine (num_deeds_ok _).mono ?_
    rintro r H' ⟨rfl, rfl⟩
    rw [deedE_eq]
    repeat' (first | simp only [seval, evo, beq_self_eq_true, sb, *] | simp (disch := omega) only [if_pos, if_neg] | refine R.seq ?_ | refine LCB.text ?_ | refine LCB.quiet rfl ?_ | refine R.calls rfl ?_ | refine R.block ?_ | refine LCB.skip ?_ | refine LCB.exit ?_ | refine LCB.ret ?_ | ((first | refine RetOk.val hcl ?_ | refine Weak.at hcl ?_); simp only [seval, evw, List.forall_mem_cons, List.forall_mem_map, List.forall_mem_append, List.not_mem_nil, sb, *]) | ((first | refine LCB.cond (by simp only [seval, evo] <;> rfl) ?_ ?_ | refine wpG_split (by simp only [seval, evo] <;> rfl) ?_ ?_ | refine wqG_split (by simp only [seval, evo] <;> rfl) ?_ ?_) <;> (intro hc; try simp only [seval, nf] at hc)) | refine ACalls.inst ?_ | refine CallP.inst rfl ?_)
    first | refine ACalls.pure (h1.of) ?_ | refine CallP.pure (h1.of) rfl ?_ | refine CallX.pure (h1.of) ?_
    repeat' (first | simp only [seval, evo, beq_self_eq_true, sb, *] | simp (disch := omega) only [if_pos, if_neg] | refine R.seq ?_ | refine LCB.text ?_ | refine LCB.quiet rfl ?_ | refine R.calls rfl ?_ | refine R.block ?_ | refine LCB.skip ?_ | refine LCB.exit ?_ | refine LCB.ret ?_ | ((first | refine RetOk.val hcl ?_ | refine Weak.at hcl ?_); simp only [seval, evw, List.forall_mem_cons, List.forall_mem_map, List.forall_mem_append, List.not_mem_nil, sb, *]) | ((first | refine LCB.cond (by simp only [seval, evo] <;> rfl) ?_ ?_ | refine wpG_split (by simp only [seval, evo] <;> rfl) ?_ ?_ | refine wqG_split (by simp only [seval, evo] <;> rfl) ?_ ?_) <;> (intro hc; try simp only [seval, nf] at hc)) | refine ACalls.inst ?_ | refine CallP.inst rfl ?_)
  by_cases o5 : op = 5
  · subst o5
    have hr : numDo 5 a b = (IntKind.i64.wrap (a - b), 0) := by simp [numDo]
    rw [hr]
    have h1 := Hold.mk (num_deed2_ok a b)
    repeat' (first | simp only [seval, evo, beq_self_eq_true, sb, *] | simp (disch := omega) only [if_pos, if_neg] | refine R.seq ?_ | refine LCB.text ?_ | refine LCB.quiet rfl ?_ | refine R.calls rfl ?_ | refine R.block ?_ | refine LCB.skip ?_ | refine LCB.exit ?_ | refine LCB.ret ?_ | ((first | refine RetOk.val hcl ?_ | refine Weak.at hcl ?_); simp only [seval, evw, List.forall_mem_cons, List.forall_mem_map, List.forall_mem_append, List.not_mem_nil, sb, *]) | ((first | refine LCB.cond (by simp only [seval, evo] <;> rfl) ?_ ?_ | refine wpG_split (by simp only [seval, evo] <;> rfl) ?_ ?_ | refine wqG_split (by simp only [seval, evo] <;> rfl) ?_ ?_) <;> (intro hc; try simp only [seval, nf] at hc)) | refine ACalls.inst ?_ | refine CallP.inst rfl ?_)
    refine (num_deeds_ok _).mono ?_
    rintro r H' ⟨rfl, rfl⟩
    rw [deedE_eq]
    repeat' (first | simp only [seval, evo, beq_self_eq_true, sb, *] | simp (disch := omega) only [if_pos, if_neg] | refine R.seq ?_ | refine LCB.text ?_ | refine LCB.quiet rfl ?_ | refine R.calls rfl ?_ | refine R.block ?_ | refine LCB.skip ?_ | refine LCB.exit ?_ | refine LCB.ret ?_ | ((first | refine RetOk.val hcl ?_ | refine Weak.at hcl ?_); simp only [seval, evw, List.forall_mem_cons, List.forall_mem_map, List.forall_mem_append, List.not_mem_nil, sb, *]) | ((first | refine LCB.cond (by simp only [seval, evo] <;> rfl) ?_ ?_ | refine wpG_split (by simp only [seval, evo] <;> rfl) ?_ ?_ | refine wqG_split (by simp only [seval, evo] <;> rfl) ?_ ?_) <;> (intro hc; try simp only [seval, nf] at hc)) | refine ACalls.inst ?_ | refine CallP.inst rfl ?_)
    first | refine ACalls.pure (h1.of) ?_ | refine CallP.pure (h1.of) rfl ?_ | refine CallX.pure (h1.of) ?_
    repeat' (first | simp only [seval, evo, beq_self_eq_true, sb, *] | simp (disch := omega) only [if_pos, if_neg] | refine R.seq ?_ | refine LCB.text ?_ | refine LCB.quiet rfl ?_ | refine R.calls rfl ?_ | refine R.block ?_ | refine LCB.skip ?_ | refine LCB.exit ?_ | refine LCB.ret ?_ | ((first | refine RetOk.val hcl ?_ | refine Weak.at hcl ?_); simp only [seval, evw, List.forall_mem_cons, List.forall_mem_map, List.forall_mem_append, List.not_mem_nil, sb, *]) | ((first | refine LCB.cond (by simp only [seval, evo] <;> rfl) ?_ ?_ | refine wpG_split (by simp only [seval, evo] <;> rfl) ?_ ?_ | refine wqG_split (by simp only [seval, evo] <;> rfl) ?_ ?_) <;> (intro hc; try simp only [seval, nf] at hc)) | refine ACalls.inst ?_ | refine CallP.inst rfl ?_)
  by_cases o6 : op = 6
  · subst o6
    have hr : numDo 6 a b = (IntKind.i64.wrap (a * b), 0) := by simp [numDo]
    rw [hr]
    have h1 := Hold.mk (num_deed3_ok a b)
    repeat' (first | simp only [seval, evo, beq_self_eq_true, sb, *] | simp (disch := omega) only [if_pos, if_neg] | refine R.seq ?_ | refine LCB.text ?_ | refine LCB.quiet rfl ?_ | refine R.calls rfl ?_ | refine R.block ?_ | refine LCB.skip ?_ | refine LCB.exit ?_ | refine LCB.ret ?_ | ((first | refine RetOk.val hcl ?_ | refine Weak.at hcl ?_); simp only [seval, evw, List.forall_mem_cons, List.forall_mem_map, List.forall_mem_append, List.not_mem_nil, sb, *]) | ((first | refine LCB.cond (by simp only [seval, evo] <;> rfl) ?_ ?_ | refine wpG_split (by simp only [seval, evo] <;> rfl) ?_ ?_ | refine wqG_split (by simp only [seval, evo] <;> rfl) ?_ ?_) <;> (intro hc; try simp only [seval, nf] at hc)) | refine ACalls.inst ?_ | refine CallP.inst rfl ?_)
    refine (num_deeds_ok _).mono ?_
    rintro r H' ⟨rfl, rfl⟩
    rw [deedE_eq]
    repeat' (first | simp only [seval, evo, beq_self_eq_true, sb, *] | simp (disch := omega) only [if_pos, if_neg] | refine R.seq ?_ | refine LCB.text ?_ | refine LCB.quiet rfl ?_ | refine R.calls rfl ?_ | refine R.block ?_ | refine LCB.skip ?_ | refine LCB.exit ?_ | refine LCB.ret ?_ | ((first | refine RetOk.val hcl ?_ | refine Weak.at hcl ?_); simp only [seval, evw, List.forall_mem_cons, List.forall_mem_map, List.forall_mem_append, List.not_mem_nil, sb, *]) | ((first | refine LCB.cond (by simp only [seval, evo] <;> rfl) ?_ ?_ | refine wpG_split (by simp only [seval, evo] <;> rfl) ?_ ?_ | refine wqG_split (by simp only [seval, evo] <;> rfl) ?_ ?_) <;> (intro hc; try simp only [seval, nf] at hc)) | refine ACalls.inst ?_ | refine CallP.inst rfl ?_)
    first | refine ACalls.pure (h1.of) ?_ | refine CallP.pure (h1.of) rfl ?_ | refine CallX.pure (h1.of) ?_
    repeat' (first | simp only [seval, evo, beq_self_eq_true, sb, *] | simp (disch := omega) only [if_pos, if_neg] | refine R.seq ?_ | refine LCB.text ?_ | refine LCB.quiet rfl ?_ | refine R.calls rfl ?_ | refine R.block ?_ | refine LCB.skip ?_ | refine LCB.exit ?_ | refine LCB.ret ?_ | ((first | refine RetOk.val hcl ?_ | refine Weak.at hcl ?_); simp only [seval, evw, List.forall_mem_cons, List.forall_mem_map, List.forall_mem_append, List.not_mem_nil, sb, *]) | ((first | refine LCB.cond (by simp only [seval, evo] <;> rfl) ?_ ?_ | refine wpG_split (by simp only [seval, evo] <;> rfl) ?_ ?_ | refine wqG_split (by simp only [seval, evo] <;> rfl) ?_ ?_) <;> (intro hc; try simp only [seval, nf] at hc)) | refine ACalls.inst ?_ | refine CallP.inst rfl ?_)
  by_cases o7 : op = 7
  · subst o7
    by_cases hb : b = 0
    · have hr : numDo 7 a b = (0, 3) := by simp [numDo, hb]
      rw [hr]
      repeat' (first | simp only [seval, evo, beq_self_eq_true, sb, *] | simp (disch := omega) only [if_pos, if_neg] | refine R.seq ?_ | refine LCB.text ?_ | refine LCB.quiet rfl ?_ | refine R.calls rfl ?_ | refine R.block ?_ | refine LCB.skip ?_ | refine LCB.exit ?_ | refine LCB.ret ?_ | ((first | refine RetOk.val hcl ?_ | refine Weak.at hcl ?_); simp only [seval, evw, List.forall_mem_cons, List.forall_mem_map, List.forall_mem_append, List.not_mem_nil, sb, *]) | ((first | refine LCB.cond (by simp only [seval, evo] <;> rfl) ?_ ?_ | refine wpG_split (by simp only [seval, evo] <;> rfl) ?_ ?_ | refine wqG_split (by simp only [seval, evo] <;> rfl) ?_ ?_) <;> (intro hc; try simp only [seval, nf] at hc)) | refine ACalls.inst ?_ | refine CallP.inst rfl ?_)
      refine (num_deeds_ok _).mono ?_
      rintro r H' ⟨rfl, rfl⟩
      rw [deedE_eq]
      repeat' (first | simp only [seval, evo, beq_self_eq_true, sb, *] | simp (disch := omega) only [if_pos, if_neg] | refine R.seq ?_ | refine LCB.text ?_ | refine LCB.quiet rfl ?_ | refine R.calls rfl ?_ | refine R.block ?_ | refine LCB.skip ?_ | refine LCB.exit ?_ | refine LCB.ret ?_ | ((first | refine RetOk.val hcl ?_ | refine Weak.at hcl ?_); simp only [seval, evw, List.forall_mem_cons, List.forall_mem_map, List.forall_mem_append, List.not_mem_nil, sb, *]) | ((first | refine LCB.cond (by simp only [seval, evo] <;> rfl) ?_ ?_ | refine wpG_split (by simp only [seval, evo] <;> rfl) ?_ ?_ | refine wqG_split (by simp only [seval, evo] <;> rfl) ?_ ?_) <;> (intro hc; try simp only [seval, nf] at hc)) | refine ACalls.inst ?_ | refine CallP.inst rfl ?_)
    · have hr : numDo 7 a b = (IntKind.i64.wrap (a.tdiv b), 0) := by simp [numDo, hb]
      rw [hr]
      have h1 := Hold.mk (num_deed4_ok a b hb)
      repeat' (first | simp only [seval, evo, beq_self_eq_true, sb, *] | simp (disch := omega) only [if_pos, if_neg] | refine R.seq ?_ | refine LCB.text ?_ | refine LCB.quiet rfl ?_ | refine R.calls rfl ?_ | refine R.block ?_ | refine LCB.skip ?_ | refine LCB.exit ?_ | refine LCB.ret ?_ | ((first | refine RetOk.val hcl ?_ | refine Weak.at hcl ?_); simp only [seval, evw, List.forall_mem_cons, List.forall_mem_map, List.forall_mem_append, List.not_mem_nil, sb, *]) | ((first | refine LCB.cond (by simp only [seval, evo] <;> rfl) ?_ ?_ | refine wpG_split (by simp only [seval, evo] <;> rfl) ?_ ?_ | refine wqG_split (by simp only [seval, evo] <;> rfl) ?_ ?_) <;> (intro hc; try simp only [seval, nf] at hc)) | refine ACalls.inst ?_ | refine CallP.inst rfl ?_)
      refine (num_deeds_ok _).mono ?_
      rintro r H' ⟨rfl, rfl⟩
      rw [deedE_eq]
      repeat' (first | simp only [seval, evo, beq_self_eq_true, sb, *] | simp (disch := omega) only [if_pos, if_neg] | refine R.seq ?_ | refine LCB.text ?_ | refine LCB.quiet rfl ?_ | refine R.calls rfl ?_ | refine R.block ?_ | refine LCB.skip ?_ | refine LCB.exit ?_ | refine LCB.ret ?_ | ((first | refine RetOk.val hcl ?_ | refine Weak.at hcl ?_); simp only [seval, evw, List.forall_mem_cons, List.forall_mem_map, List.forall_mem_append, List.not_mem_nil, sb, *]) | ((first | refine LCB.cond (by simp only [seval, evo] <;> rfl) ?_ ?_ | refine wpG_split (by simp only [seval, evo] <;> rfl) ?_ ?_ | refine wqG_split (by simp only [seval, evo] <;> rfl) ?_ ?_) <;> (intro hc; try simp only [seval, nf] at hc)) | refine ACalls.inst ?_ | refine CallP.inst rfl ?_)
      first | refine ACalls.pure (h1.of) ?_ | refine CallP.pure (h1.of) rfl ?_ | refine CallX.pure (h1.of) ?_
      repeat' (first | simp only [seval, evo, beq_self_eq_true, sb, *] | simp (disch := omega) only [if_pos, if_neg] | refine R.seq ?_ | refine LCB.text ?_ | refine LCB.quiet rfl ?_ | refine R.calls rfl ?_ | refine R.block ?_ | refine LCB.skip ?_ | refine LCB.exit ?_ | refine LCB.ret ?_ | ((first | refine RetOk.val hcl ?_ | refine Weak.at hcl ?_); simp only [seval, evw, List.forall_mem_cons, List.forall_mem_map, List.forall_mem_append, List.not_mem_nil, sb, *]) | ((first | refine LCB.cond (by simp only [seval, evo] <;> rfl) ?_ ?_ | refine wpG_split (by simp only [seval, evo] <;> rfl) ?_ ?_ | refine wqG_split (by simp only [seval, evo] <;> rfl) ?_ ?_) <;> (intro hc; try simp only [seval, nf] at hc)) | refine ACalls.inst ?_ | refine CallP.inst rfl ?_)
  by_cases o8 : op = 8
  · subst o8
    have hr : numDo 8 a b = (bits .and .i64 a b, 0) := by simp [numDo]
    rw [hr]
    have h1 := Hold.mk (num_deed5_ok a b)
    repeat' (first | simp only [seval, evo, beq_self_eq_true, sb, *] | simp (disch := omega) only [if_pos, if_neg] | refine R.seq ?_ | refine LCB.text ?_ | refine LCB.quiet rfl ?_ | refine R.calls rfl ?_ | refine R.block ?_ | refine LCB.skip ?_ | refine LCB.exit ?_ | refine LCB.ret ?_ | ((first | refine RetOk.val hcl ?_ | refine Weak.at hcl ?_); simp only [seval, evw, List.forall_mem_cons, List.forall_mem_map, List.forall_mem_append, List.not_mem_nil, sb, *]) | ((first | refine LCB.cond (by simp only [seval, evo] <;> rfl) ?_ ?_ | refine wpG_split (by simp only [seval, evo] <;> rfl) ?_ ?_ | refine wqG_split (by simp only [seval, evo] <;> rfl) ?_ ?_) <;> (intro hc; try simp only [seval, nf] at hc)) | refine ACalls.inst ?_ | refine CallP.inst rfl ?_)
    refine (num_deeds_ok _).mono ?_
    rintro r H' ⟨rfl, rfl⟩
    rw [deedE_eq]
    repeat' (first | simp only [seval, evo, beq_self_eq_true, sb, *] | simp (disch := omega) only [if_pos, if_neg] | refine R.seq ?_ | refine LCB.text ?_ | refine LCB.quiet rfl ?_ | refine R.calls rfl ?_ | refine R.block ?_ | refine LCB.skip ?_ | refine LCB.exit ?_ | refine LCB.ret ?_ | ((first | refine RetOk.val hcl ?_ | refine Weak.at hcl ?_); simp only [seval, evw, List.forall_mem_cons, List.forall_mem_map, List.forall_mem_append, List.not_mem_nil, sb, *]) | ((first | refine LCB.cond (by simp only [seval, evo] <;> rfl) ?_ ?_ | refine wpG_split (by simp only [seval, evo] <;> rfl) ?_ ?_ | refine wqG_split (by simp only [seval, evo] <;> rfl) ?_ ?_) <;> (intro hc; try simp only [seval, nf] at hc)) | refine ACalls.inst ?_ | refine CallP.inst rfl ?_)
    first | refine ACalls.pure (h1.of) ?_ | refine CallP.pure (h1.of) rfl ?_ | refine CallX.pure (h1.of) ?_
    repeat' (first | simp only [seval, evo, beq_self_eq_true, sb, *] | simp (disch := omega) only [if_pos, if_neg] | refine R.seq ?_ | refine LCB.text ?_ | refine LCB.quiet rfl ?_ | refine R.calls rfl ?_ | refine R.block ?_ | refine LCB.skip ?_ | refine LCB.exit ?_ | refine LCB.ret ?_ | ((first | refine RetOk.val hcl ?_ | refine Weak.at hcl ?_); simp only [seval, evw, List.forall_mem_cons, List.forall_mem_map, List.forall_mem_append, List.not_mem_nil, sb, *]) | ((first | refine LCB.cond (by simp only [seval, evo] <;> rfl) ?_ ?_ | refine wpG_split (by simp only [seval, evo] <;> rfl) ?_ ?_ | refine wqG_split (by simp only [seval, evo] <;> rfl) ?_ ?_) <;> (intro hc; try simp only [seval, nf] at hc)) | refine ACalls.inst ?_ | refine CallP.inst rfl ?_)
  by_cases o9 : op = 9
  · subst o9
    have hr : numDo 9 a b = (bits .or .i64 a b, 0) := by simp [numDo]
    rw [hr]
    have h1 := Hold.mk (num_deed6_ok a b)
    repeat' (first | simp only [seval, evo, beq_self_eq_true, sb, *] | simp (disch := omega) only [if_pos, if_neg] | refine R.seq ?_ | refine LCB.text ?_ | refine LCB.quiet rfl ?_ | refine R.calls rfl ?_ | refine R.block ?_ | refine LCB.skip ?_ | refine LCB.exit ?_ | refine LCB.ret ?_ | ((first | refine RetOk.val hcl ?_ | refine Weak.at hcl ?_); simp only [seval, evw, List.forall_mem_cons, List.forall_mem_map, List.forall_mem_append, List.not_mem_nil, sb, *]) | ((first | refine LCB.cond (by simp only [seval, evo] <;> rfl) ?_ ?_ | refine wpG_split (by simp only [seval, evo] <;> rfl) ?_ ?_ | refine wqG_split (by simp only [seval, evo] <;> rfl) ?_ ?_) <;> (intro hc; try simp only [seval, nf] at hc)) | refine ACalls.inst ?_ | refine CallP.inst rfl ?_)
    refine (num_deeds_ok _).mono ?_
    rintro r H' ⟨rfl, rfl⟩
    rw [deedE_eq]
    repeat' (first | simp only [seval, evo, beq_self_eq_true, sb, *] | simp (disch := omega) only [if_pos, if_neg] | refine R.seq ?_ | refine LCB.text ?_ | refine LCB.quiet rfl ?_ | refine R.calls rfl ?_ | refine R.block ?_ | refine LCB.skip ?_ | refine LCB.exit ?_ | refine LCB.ret ?_ | ((first | refine RetOk.val hcl ?_ | refine Weak.at hcl ?_); simp only [seval, evw, List.forall_mem_cons, List.forall_mem_map, List.forall_mem_append, List.not_mem_nil, sb, *]) | ((first | refine LCB.cond (by simp only [seval, evo] <;> rfl) ?_ ?_ | refine wpG_split (by simp only [seval, evo] <;> rfl) ?_ ?_ | refine wqG_split (by simp only [seval, evo] <;> rfl) ?_ ?_) <;> (intro hc; try simp only [seval, nf] at hc)) | refine ACalls.inst ?_ | refine CallP.inst rfl ?_)
    first | refine ACalls.pure (h1.of) ?_ | refine CallP.pure (h1.of) rfl ?_ | refine CallX.pure (h1.of) ?_
    repeat' (first | simp only [seval, evo, beq_self_eq_true, sb, *] | simp (disch := omega) only [if_pos, if_neg] | refine R.seq ?_ | refine LCB.text ?_ | refine LCB.quiet rfl ?_ | refine R.calls rfl ?_ | refine R.block ?_ | refine LCB.skip ?_ | refine LCB.exit ?_ | refine LCB.ret ?_ | ((first | refine RetOk.val hcl ?_ | refine Weak.at hcl ?_); simp only [seval, evw, List.forall_mem_cons, List.forall_mem_map, List.forall_mem_append, List.not_mem_nil, sb, *]) | ((first | refine LCB.cond (by simp only [seval, evo] <;> rfl) ?_ ?_ | refine wpG_split (by simp only [seval, evo] <;> rfl) ?_ ?_ | refine wqG_split (by simp only [seval, evo] <;> rfl) ?_ ?_) <;> (intro hc; try simp only [seval, nf] at hc)) | refine ACalls.inst ?_ | refine CallP.inst rfl ?_)
  by_cases o10 : op = 10
  · subst o10
    have hr : numDo 10 a b = (bits .xor .i64 a b, 0) := by simp [numDo]
    rw [hr]
    have h1 := Hold.mk (num_deed7_ok a b)
    repeat' (first | simp only [seval, evo, beq_self_eq_true, sb, *] | simp (disch := omega) only [if_pos, if_neg] | refine R.seq ?_ | refine LCB.text ?_ | refine LCB.quiet rfl ?_ | refine R.calls rfl ?_ | refine R.block ?_ | refine LCB.skip ?_ | refine LCB.exit ?_ | refine LCB.ret ?_ | ((first | refine RetOk.val hcl ?_ | refine Weak.at hcl ?_); simp only [seval, evw, List.forall_mem_cons, List.forall_mem_map, List.forall_mem_append, List.not_mem_nil, sb, *]) | ((first | refine LCB.cond (by simp only [seval, evo] <;> rfl) ?_ ?_ | refine wpG_split (by simp only [seval, evo] <;> rfl) ?_ ?_ | refine wqG_split (by simp only [seval, evo] <;> rfl) ?_ ?_) <;> (intro hc; try simp only [seval, nf] at hc)) | refine ACalls.inst ?_ | refine CallP.inst rfl ?_)
    refine (num_deeds_ok _).mono ?_
    rintro r H' ⟨rfl, rfl⟩
    rw [deedE_eq]
    repeat' (first | simp only [seval, evo, beq_self_eq_true, sb, *] | simp (disch := omega) only [if_pos, if_neg] | refine R.seq ?_ | refine LCB.text ?_ | refine LCB.quiet rfl ?_ | refine R.calls rfl ?_ | refine R.block ?_ | refine LCB.skip ?_ | refine LCB.exit ?_ | refine LCB.ret ?_ | ((first | refine RetOk.val hcl ?_ | refine Weak.at hcl ?_); simp only [seval, evw, List.forall_mem_cons, List.forall_mem_map, List.forall_mem_append, List.not_mem_nil, sb, *]) | ((first | refine LCB.cond (by simp only [seval, evo] <;> rfl) ?_ ?_ | refine wpG_split (by simp only [seval, evo] <;> rfl) ?_ ?_ | refine wqG_split (by simp only [seval, evo] <;> rfl) ?_ ?_) <;> (intro hc; try simp only [seval, nf] at hc)) | refine ACalls.inst ?_ | refine CallP.inst rfl ?_)
    first | refine ACalls.pure (h1.of) ?_ | refine CallP.pure (h1.of) rfl ?_ | refine CallX.pure (h1.of) ?_
    repeat' (first | simp only [seval, evo, beq_self_eq_true, sb, *] | simp (disch := omega) only [if_pos, if_neg] | refine R.seq ?_ | refine LCB.text ?_ | refine LCB.quiet rfl ?_ | refine R.calls rfl ?_ | refine R.block ?_ | refine LCB.skip ?_ | refine LCB.exit ?_ | refine LCB.ret ?_ | ((first | refine RetOk.val hcl ?_ | refine Weak.at hcl ?_); simp only [seval, evw, List.forall_mem_cons, List.forall_mem_map, List.forall_mem_append, List.not_mem_nil, sb, *]) | ((first | refine LCB.cond (by simp only [seval, evo] <;> rfl) ?_ ?_ | refine wpG_split (by simp only [seval, evo] <;> rfl) ?_ ?_ | refine wqG_split (by simp only [seval, evo] <;> rfl) ?_ ?_) <;> (intro hc; try simp only [seval, nf] at hc)) | refine ACalls.inst ?_ | refine CallP.inst rfl ?_)
  by_cases o11 : op = 11
  · subst o11
    have hr : numDo 11 a b = (flagI (decide (a < b)), 0) := by simp [numDo]
    rw [hr]
    have h1 := Hold.mk (num_deed8_ok a b)
    repeat' (first | simp only [seval, evo, beq_self_eq_true, sb, *] | simp (disch := omega) only [if_pos, if_neg] | refine R.seq ?_ | refine LCB.text ?_ | refine LCB.quiet rfl ?_ | refine R.calls rfl ?_ | refine R.block ?_ | refine LCB.skip ?_ | refine LCB.exit ?_ | refine LCB.ret ?_ | ((first | refine RetOk.val hcl ?_ | refine Weak.at hcl ?_); simp only [seval, evw, List.forall_mem_cons, List.forall_mem_map, List.forall_mem_append, List.not_mem_nil, sb, *]) | ((first | refine LCB.cond (by simp only [seval, evo] <;> rfl) ?_ ?_ | refine wpG_split (by simp only [seval, evo] <;> rfl) ?_ ?_ | refine wqG_split (by simp only [seval, evo] <;> rfl) ?_ ?_) <;> (intro hc; try simp only [seval, nf] at hc)) | refine ACalls.inst ?_ | refine CallP.inst rfl ?_)
    refine (num_deeds_ok _).mono ?_
    rintro r H' ⟨rfl, rfl⟩
    rw [deedE_eq]
    repeat' (first | simp only [seval, evo, beq_self_eq_true, sb, *] | simp (disch := omega) only [if_pos, if_neg] | refine R.seq ?_ | refine LCB.text ?_ | refine LCB.quiet rfl ?_ | refine R.calls rfl ?_ | refine R.block ?_ | refine LCB.skip ?_ | refine LCB.exit ?_ | refine LCB.ret ?_ | ((first | refine RetOk.val hcl ?_ | refine Weak.at hcl ?_); simp only [seval, evw, List.forall_mem_cons, List.forall_mem_map, List.forall_mem_append, List.not_mem_nil, sb, *]) | ((first | refine LCB.cond (by simp only [seval, evo] <;> rfl) ?_ ?_ | refine wpG_split (by simp only [seval, evo] <;> rfl) ?_ ?_ | refine wqG_split (by simp only [seval, evo] <;> rfl) ?_ ?_) <;> (intro hc; try simp only [seval, nf] at hc)) | refine ACalls.inst ?_ | refine CallP.inst rfl ?_)
    first | refine ACalls.pure (h1.of) ?_ | refine CallP.pure (h1.of) rfl ?_ | refine CallX.pure (h1.of) ?_
    repeat' (first | simp only [seval, evo, beq_self_eq_true, sb, *] | simp (disch := omega) only [if_pos, if_neg] | refine R.seq ?_ | refine LCB.text ?_ | refine LCB.quiet rfl ?_ | refine R.calls rfl ?_ | refine R.block ?_ | refine LCB.skip ?_ | refine LCB.exit ?_ | refine LCB.ret ?_ | ((first | refine RetOk.val hcl ?_ | refine Weak.at hcl ?_); simp only [seval, evw, List.forall_mem_cons, List.forall_mem_map, List.forall_mem_append, List.not_mem_nil, sb, *]) | ((first | refine LCB.cond (by simp only [seval, evo] <;> rfl) ?_ ?_ | refine wpG_split (by simp only [seval, evo] <;> rfl) ?_ ?_ | refine wqG_split (by simp only [seval, evo] <;> rfl) ?_ ?_) <;> (intro hc; try simp only [seval, nf] at hc)) | refine ACalls.inst ?_ | refine CallP.inst rfl ?_)
  by_cases o12 : op = 12
  · subst o12
    have hr : numDo 12 a b = (flagI (decide (a = b)), 0) := by simp [numDo]
    rw [hr]
    have h1 := Hold.mk (num_deed9_ok a b)
    repeat' (first | simp only [seval, evo, beq_self_eq_true, sb, *] | simp (disch := omega) only [if_pos, if_neg] | refine R.seq ?_ | refine LCB.text ?_ | refine LCB.quiet rfl ?_ | refine R.calls rfl ?_ | refine R.block ?_ | refine LCB.skip ?_ | refine LCB.exit ?_ | refine LCB.ret ?_ | ((first | refine RetOk.val hcl ?_ | refine Weak.at hcl ?_); simp only [seval, evw, List.forall_mem_cons, List.forall_mem_map, List.forall_mem_append, List.not_mem_nil, sb, *]) | ((first | refine LCB.cond (by simp only [seval, evo] <;> rfl) ?_ ?_ | refine wpG_split (by simp only [seval, evo] <;> rfl) ?_ ?_ | refine wqG_split (by simp only [seval, evo] <;> rfl) ?_ ?_) <;> (intro hc; try simp only [seval, nf] at hc)) | refine ACalls.inst ?_ | refine CallP.inst rfl ?_)
    refine (num_deeds_ok _).mono ?_
    rintro r H' ⟨rfl, rfl⟩
    rw [deedE_eq]
    repeat' (first | simp only [seval, evo, beq_self_eq_true, sb, *] | simp (disch := omega) only [if_pos, if_neg] | refine R.seq ?_ | refine LCB.text ?_ | refine LCB.quiet rfl ?_ | refine R.calls rfl ?_ | refine R.block ?_ | refine LCB.skip ?_ | refine LCB.exit ?_ | refine LCB.ret ?_ | ((first | refine RetOk.val hcl ?_ | refine Weak.at hcl ?_); simp only [seval, evw, List.forall_mem_cons, List.forall_mem_map, List.forall_mem_append, List.not_mem_nil, sb, *]) | ((first | refine LCB.cond (by simp only [seval, evo] <;> rfl) ?_ ?_ | refine wpG_split (by simp only [seval, evo] <;> rfl) ?_ ?_ | refine wqG_split (by simp only [seval, evo] <;> rfl) ?_ ?_) <;> (intro hc; try simp only [seval, nf] at hc)) | refine ACalls.inst ?_ | refine CallP.inst rfl ?_)
    first | refine ACalls.pure (h1.of) ?_ | refine CallP.pure (h1.of) rfl ?_ | refine CallX.pure (h1.of) ?_
    repeat' (first | simp only [seval, evo, beq_self_eq_true, sb, *] | simp (disch := omega) only [if_pos, if_neg] | refine R.seq ?_ | refine LCB.text ?_ | refine LCB.quiet rfl ?_ | refine R.calls rfl ?_ | refine R.block ?_ | refine LCB.skip ?_ | refine LCB.exit ?_ | refine LCB.ret ?_ | ((first | refine RetOk.val hcl ?_ | refine Weak.at hcl ?_); simp only [seval, evw, List.forall_mem_cons, List.forall_mem_map, List.forall_mem_append, List.not_mem_nil, sb, *]) | ((first | refine LCB.cond (by simp only [seval, evo] <;> rfl) ?_ ?_ | refine wpG_split (by simp only [seval, evo] <;> rfl) ?_ ?_ | refine wqG_split (by simp only [seval, evo] <;> rfl) ?_ ?_) <;> (intro hc; try simp only [seval, nf] at hc)) | refine ACalls.inst ?_ | refine CallP.inst rfl ?_)
  have hr : numDo op a b = (0, 2) := by simp [numDo, o4, o5, o6, o7, o8, o9, o10, o11, o12]
  rw [hr]
  repeat' (first | simp only [seval, evo, beq_self_eq_true, sb, *] | simp (disch := omega) only [if_pos, if_neg] | refine R.seq ?_ | refine LCB.text ?_ | refine LCB.quiet rfl ?_ | refine R.calls rfl ?_ | refine R.block ?_ | refine LCB.skip ?_ | refine LCB.exit ?_ | refine LCB.ret ?_ | ((first | refine RetOk.val hcl ?_ | refine Weak.at hcl ?_); simp only [seval, evw, List.forall_mem_cons, List.forall_mem_map, List.forall_mem_append, List.not_mem_nil, sb, *]) | ((first | refine LCB.cond (by simp only [seval, evo] <;> rfl) ?_ ?_ | refine wpG_split (by simp only [seval, evo] <;> rfl) ?_ ?_ | refine wqG_split (by simp only [seval, evo] <;> rfl) ?_ ?_) <;> (intro hc; try simp only [seval, nf] at hc)) | refine ACalls.inst ?_ | refine CallP.inst rfl ?_)
  refine (num_deeds_ok _).mono ?_
  rintro r H' ⟨rfl, rfl⟩
  rw [deedE_eq]
  repeat' (first | simp only [seval, evo, beq_self_eq_true, sb, *] | simp (disch := omega) only [if_pos, if_neg] | refine R.seq ?_ | refine LCB.text ?_ | refine LCB.quiet rfl ?_ | refine R.calls rfl ?_ | refine R.block ?_ | refine LCB.skip ?_ | refine LCB.exit ?_ | refine LCB.ret ?_ | ((first | refine RetOk.val hcl ?_ | refine Weak.at hcl ?_); simp only [seval, evw, List.forall_mem_cons, List.forall_mem_map, List.forall_mem_append, List.not_mem_nil, sb, *]) | ((first | refine LCB.cond (by simp only [seval, evo] <;> rfl) ?_ ?_ | refine wpG_split (by simp only [seval, evo] <;> rfl) ?_ ?_ | refine wqG_split (by simp only [seval, evo] <;> rfl) ?_ ?_) <;> (intro hc; try simp only [seval, nf] at hc)) | refine ACalls.inst ?_ | refine CallP.inst rfl ?_)
theorem ref01_Do_ok (op a b : Int) : Pure Tryd.prog 49 [.int .i64 op, .int .i64 a, .int .i64 b] (nopR (numDo op a b)) := by
  intro H
  refine ACalls.go joineryref01_Do.low (by simp) fun hcl => ?_
  unfold nopR
  have w1 : IntKind.i64.wrap (a + IntKind.i64.wrap (0 - b)) = IntKind.i64.wrap (a - b) := by simp only [IntKind.wrap_i64]; omega
  have w2 := bits_xor a b
  have w3 : a.tdiv (-1) = 0 - a := by simp
  by_cases o4 : op = 4
  · subst o4
    have hr : numDo 4 a b = (IntKind.i64.wrap (a + b), 0) := by simp [numDo]
    rw [hr]
    repeat' (first | simp only [seval, evo, beq_self_eq_true, sb, *] | simp (disch := omega) only [if_pos, if_neg] | refine R.seq ?_ | refine LCB.text ?_ | refine LCB.quiet rfl ?_ | refine R.calls rfl ?_ | refine R.block ?_ | refine LCB.skip ?_ | refine LCB.exit ?_ | refine LCB.ret ?_ | ((first | refine RetOk.val hcl ?_ | refine Weak.at hcl ?_); simp only [seval, evw, List.forall_mem_cons, List.forall_mem_map, List.forall_mem_append, List.not_mem_nil, sb, *]) | ((first | refine LCB.cond (by simp only [seval, evo] <;> rfl) ?_ ?_ | refine wpG_split (by simp only [seval, evo] <;> rfl) ?_ ?_ | refine wqG_split (by simp only [seval, evo] <;> rfl) ?_ ?_) <;> (intro hc; try simp only [seval, nf] at hc)) | refine ACalls.inst ?_ | refine CallP.inst rfl ?_)
  by_cases o5 : op = 5
  · subst o5
    have hr : numDo 5 a b = (IntKind.i64.wrap (a - b), 0) := by simp [numDo]
    rw [hr]
    repeat' (first | simp only [seval, evo, beq_self_eq_true, sb, *] | simp (disch := omega) only [if_pos, if_neg] | refine R.seq ?_ | refine LCB.text ?_ | refine LCB.quiet rfl ?_ | refine R.calls rfl ?_ | refine R.block ?_ | refine LCB.skip ?_ | refine LCB.exit ?_ | refine LCB.ret ?_ | ((first | refine RetOk.val hcl ?_ | refine Weak.at hcl ?_); simp only [seval, evw, List.forall_mem_cons, List.forall_mem_map, List.forall_mem_append, List.not_mem_nil, sb, *]) | ((first | refine LCB.cond (by simp only [seval, evo] <;> rfl) ?_ ?_ | refine wpG_split (by simp only [seval, evo] <;> rfl) ?_ ?_ | refine wqG_split (by simp only [seval, evo] <;> rfl) ?_ ?_) <;> (intro hc; try simp only [seval, nf] at hc)) | refine ACalls.inst ?_ | refine CallP.inst rfl ?_)
  by_cases o6 : op = 6
  · subst o6
    have hr : numDo 6 a b = (IntKind.i64.wrap (a * b), 0) := by simp [numDo]
    rw [hr]
    repeat' (first | simp only [seval, evo, beq_self_eq_true, sb, *] | simp (disch := omega) only [if_pos, if_neg] | refine R.seq ?_ | refine LCB.text ?_ | refine LCB.quiet rfl ?_ | refine R.calls rfl ?_ | refine R.block ?_ | refine LCB.skip ?_ | refine LCB.exit ?_ | refine LCB.ret ?_ | ((first | refine RetOk.val hcl ?_ | refine Weak.at hcl ?_); simp only [seval, evw, List.forall_mem_cons, List.forall_mem_map, List.forall_mem_append, List.not_mem_nil, sb, *]) | ((first | refine LCB.cond (by simp only [seval, evo] <;> rfl) ?_ ?_ | refine wpG_split (by simp only [seval, evo] <;> rfl) ?_ ?_ | refine wqG_split (by simp only [seval, evo] <;> rfl) ?_ ?_) <;> (intro hc; try simp only [seval, nf] at hc)) | refine ACalls.inst ?_ | refine CallP.inst rfl ?_)
  by_cases o7 : op = 7
  · subst o7
    by_cases h0 : b = 0
    · have hr : numDo 7 a b = (0, 3) := by simp [numDo, h0]
      rw [hr]
      repeat' (first | simp only [seval, evo, beq_self_eq_true, sb, *] | simp (disch := omega) only [if_pos, if_neg] | refine R.seq ?_ | refine LCB.text ?_ | refine LCB.quiet rfl ?_ | refine R.calls rfl ?_ | refine R.block ?_ | refine LCB.skip ?_ | refine LCB.exit ?_ | refine LCB.ret ?_ | ((first | refine RetOk.val hcl ?_ | refine Weak.at hcl ?_); simp only [seval, evw, List.forall_mem_cons, List.forall_mem_map, List.forall_mem_append, List.not_mem_nil, sb, *]) | ((first | refine LCB.cond (by simp only [seval, evo] <;> rfl) ?_ ?_ | refine wpG_split (by simp only [seval, evo] <;> rfl) ?_ ?_ | refine wqG_split (by simp only [seval, evo] <;> rfl) ?_ ?_) <;> (intro hc; try simp only [seval, nf] at hc)) | refine ACalls.inst ?_ | refine CallP.inst rfl ?_)
    · by_cases h1 : b = -1
      · have hr : numDo 7 a b = (IntKind.i64.wrap (0 - a), 0) := by simp [numDo, h1]
        rw [hr]
        repeat' (first | simp only [seval, evo, beq_self_eq_true, sb, *] | simp (disch := omega) only [if_pos, if_neg] | refine R.seq ?_ | refine LCB.text ?_ | refine LCB.quiet rfl ?_ | refine R.calls rfl ?_ | refine R.block ?_ | refine LCB.skip ?_ | refine LCB.exit ?_ | refine LCB.ret ?_ | ((first | refine RetOk.val hcl ?_ | refine Weak.at hcl ?_); simp only [seval, evw, List.forall_mem_cons, List.forall_mem_map, List.forall_mem_append, List.not_mem_nil, sb, *]) | ((first | refine LCB.cond (by simp only [seval, evo] <;> rfl) ?_ ?_ | refine wpG_split (by simp only [seval, evo] <;> rfl) ?_ ?_ | refine wqG_split (by simp only [seval, evo] <;> rfl) ?_ ?_) <;> (intro hc; try simp only [seval, nf] at hc)) | refine ACalls.inst ?_ | refine CallP.inst rfl ?_)
      · have hr : numDo 7 a b = (IntKind.i64.wrap (a.tdiv b), 0) := by simp [numDo, h0]
        rw [hr]
        repeat' (first | simp only [seval, evo, beq_self_eq_true, sb, *] | simp (disch := omega) only [if_pos, if_neg] | refine R.seq ?_ | refine LCB.text ?_ | refine LCB.quiet rfl ?_ | refine R.calls rfl ?_ | refine R.block ?_ | refine LCB.skip ?_ | refine LCB.exit ?_ | refine LCB.ret ?_ | ((first | refine RetOk.val hcl ?_ | refine Weak.at hcl ?_); simp only [seval, evw, List.forall_mem_cons, List.forall_mem_map, List.forall_mem_append, List.not_mem_nil, sb, *]) | ((first | refine LCB.cond (by simp only [seval, evo] <;> rfl) ?_ ?_ | refine wpG_split (by simp only [seval, evo] <;> rfl) ?_ ?_ | refine wqG_split (by simp only [seval, evo] <;> rfl) ?_ ?_) <;> (intro hc; try simp only [seval, nf] at hc)) | refine ACalls.inst ?_ | refine CallP.inst rfl ?_)
  by_cases o8 : op = 8
  · subst o8
    have hr : numDo 8 a b = (bits .and .i64 a b, 0) := by simp [numDo]
    rw [hr]
    repeat' (first | simp only [seval, evo, beq_self_eq_true, sb, *] | simp (disch := omega) only [if_pos, if_neg] | refine R.seq ?_ | refine LCB.text ?_ | refine LCB.quiet rfl ?_ | refine R.calls rfl ?_ | refine R.block ?_ | refine LCB.skip ?_ | refine LCB.exit ?_ | refine LCB.ret ?_ | ((first | refine RetOk.val hcl ?_ | refine Weak.at hcl ?_); simp only [seval, evw, List.forall_mem_cons, List.forall_mem_map, List.forall_mem_append, List.not_mem_nil, sb, *]) | ((first | refine LCB.cond (by simp only [seval, evo] <;> rfl) ?_ ?_ | refine wpG_split (by simp only [seval, evo] <;> rfl) ?_ ?_ | refine wqG_split (by simp only [seval, evo] <;> rfl) ?_ ?_) <;> (intro hc; try simp only [seval, nf] at hc)) | refine ACalls.inst ?_ | refine CallP.inst rfl ?_)
  by_cases o9 : op = 9
  · subst o9
    have hr : numDo 9 a b = (bits .or .i64 a b, 0) := by simp [numDo]
    rw [hr]
    repeat' (first | simp only [seval, evo, beq_self_eq_true, sb, *] | simp (disch := omega) only [if_pos, if_neg] | refine R.seq ?_ | refine LCB.text ?_ | refine LCB.quiet rfl ?_ | refine R.calls rfl ?_ | refine R.block ?_ | refine LCB.skip ?_ | refine LCB.exit ?_ | refine LCB.ret ?_ | ((first | refine RetOk.val hcl ?_ | refine Weak.at hcl ?_); simp only [seval, evw, List.forall_mem_cons, List.forall_mem_map, List.forall_mem_append, List.not_mem_nil, sb, *]) | ((first | refine LCB.cond (by simp only [seval, evo] <;> rfl) ?_ ?_ | refine wpG_split (by simp only [seval, evo] <;> rfl) ?_ ?_ | refine wqG_split (by simp only [seval, evo] <;> rfl) ?_ ?_) <;> (intro hc; try simp only [seval, nf] at hc)) | refine ACalls.inst ?_ | refine CallP.inst rfl ?_)
  by_cases o10 : op = 10
  · subst o10
    have hr : numDo 10 a b = (bits .xor .i64 a b, 0) := by simp [numDo]
    rw [hr]
    repeat' (first | simp only [seval, evo, beq_self_eq_true, sb, *] | simp (disch := omega) only [if_pos, if_neg] | refine R.seq ?_ | refine LCB.text ?_ | refine LCB.quiet rfl ?_ | refine R.calls rfl ?_ | refine R.block ?_ | refine LCB.skip ?_ | refine LCB.exit ?_ | refine LCB.ret ?_ | ((first | refine RetOk.val hcl ?_ | refine Weak.at hcl ?_); simp only [seval, evw, List.forall_mem_cons, List.forall_mem_map, List.forall_mem_append, List.not_mem_nil, sb, *]) | ((first | refine LCB.cond (by simp only [seval, evo] <;> rfl) ?_ ?_ | refine wpG_split (by simp only [seval, evo] <;> rfl) ?_ ?_ | refine wqG_split (by simp only [seval, evo] <;> rfl) ?_ ?_) <;> (intro hc; try simp only [seval, nf] at hc)) | refine ACalls.inst ?_ | refine CallP.inst rfl ?_)
  by_cases o11 : op = 11
  · subst o11
    by_cases h0 : a < b
    · have hr : numDo 11 a b = (1, 0) := by simp [numDo, h0, flagI]
      rw [hr]
      repeat' (first | simp only [seval, evo, beq_self_eq_true, sb, *] | simp (disch := omega) only [if_pos, if_neg] | refine R.seq ?_ | refine LCB.text ?_ | refine LCB.quiet rfl ?_ | refine R.calls rfl ?_ | refine R.block ?_ | refine LCB.skip ?_ | refine LCB.exit ?_ | refine LCB.ret ?_ | ((first | refine RetOk.val hcl ?_ | refine Weak.at hcl ?_); simp only [seval, evw, List.forall_mem_cons, List.forall_mem_map, List.forall_mem_append, List.not_mem_nil, sb, *]) | ((first | refine LCB.cond (by simp only [seval, evo] <;> rfl) ?_ ?_ | refine wpG_split (by simp only [seval, evo] <;> rfl) ?_ ?_ | refine wqG_split (by simp only [seval, evo] <;> rfl) ?_ ?_) <;> (intro hc; try simp only [seval, nf] at hc)) | refine ACalls.inst ?_ | refine CallP.inst rfl ?_)
    · have hr : numDo 11 a b = (0, 0) := by simp [numDo, h0, flagI]
      rw [hr]
      repeat' (first | simp only [seval, evo, beq_self_eq_true, sb, *] | simp (disch := omega) only [if_pos, if_neg] | refine R.seq ?_ | refine LCB.text ?_ | refine LCB.quiet rfl ?_ | refine R.calls rfl ?_ | refine R.block ?_ | refine LCB.skip ?_ | refine LCB.exit ?_ | refine LCB.ret ?_ | ((first | refine RetOk.val hcl ?_ | refine Weak.at hcl ?_); simp only [seval, evw, List.forall_mem_cons, List.forall_mem_map, List.forall_mem_append, List.not_mem_nil, sb, *]) | ((first | refine LCB.cond (by simp only [seval, evo] <;> rfl) ?_ ?_ | refine wpG_split (by simp only [seval, evo] <;> rfl) ?_ ?_ | refine wqG_split (by simp only [seval, evo] <;> rfl) ?_ ?_) <;> (intro hc; try simp only [seval, nf] at hc)) | refine ACalls.inst ?_ | refine CallP.inst rfl ?_)
  by_cases o12 : op = 12
  · subst o12
    by_cases h0 : a = b
    · have hr : numDo 12 a b = (1, 0) := by simp [numDo, h0, flagI]
      rw [hr]
      subst h0
      have h1 : ¬ a < a := by omega
      repeat' (first | simp only [seval, evo, beq_self_eq_true, sb, *] | simp (disch := omega) only [if_pos, if_neg] | refine R.seq ?_ | refine LCB.text ?_ | refine LCB.quiet rfl ?_ | refine R.calls rfl ?_ | refine R.block ?_ | refine LCB.skip ?_ | refine LCB.exit ?_ | refine LCB.ret ?_ | ((first | refine RetOk.val hcl ?_ | refine Weak.at hcl ?_); simp only [seval, evw, List.forall_mem_cons, List.forall_mem_map, List.forall_mem_append, List.not_mem_nil, sb, *]) | ((first | refine LCB.cond (by simp only [seval, evo] <;> rfl) ?_ ?_ | refine wpG_split (by simp only [seval, evo] <;> rfl) ?_ ?_ | refine wqG_split (by simp only [seval, evo] <;> rfl) ?_ ?_) <;> (intro hc; try simp only [seval, nf] at hc)) | refine ACalls.inst ?_ | refine CallP.inst rfl ?_)
    · have hr : numDo 12 a b = (0, 0) := by simp [numDo, h0, flagI]
      rw [hr]
      by_cases h1 : a < b
      · repeat' (first | simp only [seval, evo, beq_self_eq_true, sb, *] | simp (disch := omega) only [if_pos, if_neg] | refine R.seq ?_ | refine LCB.text ?_ | refine LCB.quiet rfl ?_ | refine R.calls rfl ?_ | refine R.block ?_ | refine LCB.skip ?_ | refine LCB.exit ?_ | refine LCB.ret ?_ | ((first | refine RetOk.val hcl ?_ | refine Weak.at hcl ?_); simp only [seval, evw, List.forall_mem_cons, List.forall_mem_map, List.forall_mem_append, List.not_mem_nil, sb, *]) | ((first | refine LCB.cond (by simp only [seval, evo] <;> rfl) ?_ ?_ | refine wpG_split (by simp only [seval, evo] <;> rfl) ?_ ?_ | refine wqG_split (by simp only [seval, evo] <;> rfl) ?_ ?_) <;> (intro hc; try simp only [seval, nf] at hc)) | refine ACalls.inst ?_ | refine CallP.inst rfl ?_)
      · have h2 : b < a := by omega
        repeat' (first | simp only [seval, evo, beq_self_eq_true, sb, *] | simp (disch := omega) only [if_pos, if_neg] | refine R.seq ?_ | refine LCB.text ?_ | refine LCB.quiet rfl ?_ | refine R.calls rfl ?_ | refine R.block ?_ | refine LCB.skip ?_ | refine LCB.exit ?_ | refine LCB.ret ?_ | ((first | refine RetOk.val hcl ?_ | refine Weak.at hcl ?_); simp only [seval, evw, List.forall_mem_cons, List.forall_mem_map, List.forall_mem_append, List.not_mem_nil, sb, *]) | ((first | refine LCB.cond (by simp only [seval, evo] <;> rfl) ?_ ?_ | refine wpG_split (by simp only [seval, evo] <;> rfl) ?_ ?_ | refine wqG_split (by simp only [seval, evo] <;> rfl) ?_ ?_) <;> (intro hc; try simp only [seval, nf] at hc)) | refine ACalls.inst ?_ | refine CallP.inst rfl ?_)
  have hr : numDo op a b = (0, 2) := by simp [numDo, o4, o5, o6, o7, o8, o9, o10, o11, o12]
  rw [hr]
  repeat' (first | simp only [seval, evo, beq_self_eq_true, sb, *] | simp (disch := omega) only [if_pos, if_neg] | refine R.seq ?_ | refine LCB.text ?_ | refine LCB.quiet rfl ?_ | refine R.calls rfl ?_ | refine R.block ?_ | refine LCB.skip ?_ | refine LCB.exit ?_ | refine LCB.ret ?_ | ((first | refine RetOk.val hcl ?_ | refine Weak.at hcl ?_); simp only [seval, evw, List.forall_mem_cons, List.forall_mem_map, List.forall_mem_append, List.not_mem_nil, sb, *]) | ((first | refine LCB.cond (by simp only [seval, evo] <;> rfl) ?_ ?_ | refine wpG_split (by simp only [seval, evo] <;> rfl) ?_ ?_ | refine wqG_split (by simp only [seval, evo] <;> rfl) ?_ ?_) <;> (intro hc; try simp only [seval, nf] at hc)) | refine ACalls.inst ?_ | refine CallP.inst rfl ?_)
end Go.Proofs.YtbkbehkjndmabaaDoor

/-
  step: the work in memory: its number, set, move and call.
-/
namespace Go.Proofs.YtbkbehkjndmabaaDoor
open Go.RowKit
set_option linter.unusedVariables false
set_option linter.unusedSimpArgs false
/-- Objects are given up, and one that was there is taken for another. -/
theorem LoseH.set {H L M : List AObj} {k z : Nat} {row row' : List AV} (hk : k < H.length)
    (h : LoseL (H.set k (.vec z [row]) ++ L) (H.set k (.vec z [row']) ++ M) L M ∧ row'.length = z ∧ Loses (H.set k (.vec z [row]) ++ L) (H.set k (.vec z [row']) ++ M) row row') : LoseH (H.set k (.vec z [row]) ++ L) (H.set k (.vec z [row']) ++ M) := by
  obtain ⟨h0, h3, h4⟩ := h
  obtain ⟨h1, h2⟩ := h0.spec
  refine ⟨by simp [h1], fun j o p g1 g2 => ?_⟩
  rcases Nat.lt_or_ge j H.length with hj | hj
  · rw [List.getElem?_append_left (by simpa using hj)] at g1 g2
    rw [List.getElem?_set] at g1 g2
    by_cases e : k = j
    · subst e
      simp only [hj, if_true, Option.some.injEq] at g1 g2
      subst g1; subst g2
      have := lo_row (H := H.set k (.vec z [row]) ++ L) (G := H.set k (.vec z [row']) ++ M) (z := z) (r := row) (s := row') ⟨h3, h4⟩
      rw [this]; trivial
    · rw [if_neg e] at g1 g2
      rw [g1] at g2
      cases g2
      exact .inl rfl
  · rw [List.getElem?_append_right (by simpa using hj)] at g1 g2
    simp only [List.length_set] at g1 g2
    exact h2 _ o p g1 g2
/-- What a step works on. -/
def wrow (s : St) (x : Ins) (ask : List Int) (ev : AV) (how value : Int) : List AV :=
  wc s.L ++ [.list (s.heap.map encI), .int .i64 s.pc, .int .i64 s.asked, .int .i64 x.op, .int .i64 x.d, .int .i64 x.a, .int .i64 x.b, .int .i64 x.n, .int .i64 x.to, .list (ask.map encI), ev, .int .i64 how, .int .i64 value]
theorem wrow_eq {s : St} {x : Ins} {ask : List Int} {ev : AV} {how value : Int} : wrow s x ask ev how value = wc s.L ++ [.list (s.heap.map encI), .int .i64 s.pc, .int .i64 s.asked, .int .i64 x.op, .int .i64 x.d, .int .i64 x.a, .int .i64 x.b, .int .i64 x.n, .int .i64 x.to, .list (ask.map encI), ev, .int .i64 how, .int .i64 value] := rfl
section
variable {H : List AObj} {k : Nat} (hk : k < H.length)
include hk
theorem ob_get (o : AObj) (L : List AObj) : (H.set k o ++ L)[k]? = some o := by rw [List.getElem?_append_left (by simpa using hk), set_get hk]
theorem ob_set (o p : AObj) (L : List AObj) : (H.set k o ++ L).set k p = H.set k p ++ L := by rw [List.set_append, if_pos (by simpa using hk), set_set]
end
theorem work_number_ok {H : List AObj} {k : Nat} {L : List W} {r : List AV} (hk : k < H.length) (hx : H[k]? = some (.vec 61 [wc L ++ r])) (hL : L.length = 24) (i : Nat) (hi : i < 24) :
    ACalls Tryd.prog 58 [.ptr k 1 0 0, .int .i64 (i : Int)] H fun r' H' => r' = .int .i64 (L.getD i noW).v ∧ H' = H := by
  refine ACalls.go step_work_number.low (by simp) fun hcl => ?_
  have g1 : ∀ M : List AObj, (H ++ M)[k]? = some (.vec 61 [wc L ++ r]) := fun M => by rw [in_get hk, hx]
  have hg := wr_v (L := L) (r := r) (i := i) (by omega)
  have e1 : (i : Int) < 24 := by omega
  clear hx
  generalize (L.getD i noW).v = v at *
  repeat' (first | simp only [seval, evx, beq_self_eq_true, sb, ew, insA, encIns, ins_dec, ins_eta, wrow_eq, evs_eq, encEv_def, List.map_cons, List.map_nil, *] | simp (disch := omega) only [if_pos, if_neg] | refine R.seq ?_ | refine LCB.text ?_ | refine LCB.quiet rfl ?_ | refine R.anyX ?_ | refine R.block ?_ | refine LCB.skip ?_ | refine LCB.exit ?_ | refine LCB.ret ?_ | ((first | refine RetOk.val hcl ?_ | refine Weak.at hcl ?_); simp only [seval, evw, List.forall_mem_cons, List.forall_mem_map, List.forall_mem_append, List.not_mem_nil, sb, ew, insA, encIns, ins_dec, ins_eta, wrow_eq, evs_eq, encEv_def, List.map_cons, List.map_nil, *]) | ((first | refine LCB.cond (by simp only [seval, evx] <;> rfl) ?_ ?_ | refine wpG_split (by simp only [seval, evx] <;> rfl) ?_ ?_ | refine wxG_split (by simp only [seval, evx] <;> rfl) ?_ ?_) <;> (intro hc; try simp only [seval, nf] at hc)) | refine ACalls.inst ?_ | refine CallX.inst ?_ | (with_reducible refine And.intro ?_ ?_) | exact True.intro)
/-- A place gets a number, if all is well. -/
def setS (s : St) (d : Nat) (v how : Int) : St := if how = 0 then { s with L := s.L.set d ⟨true, v⟩ } else s
theorem work_set_ok {H : List AObj} {k : Nat} {s : St} {x : Ins} {ask : List Int} {ev : AV} {h0 value : Int} (v how : Int) (d : Nat) (hd : x.d = (d : Int)) (hd2 : d < 24) (hk : k < H.length) (hx : H[k]? = some (.vec 61 [wrow s x ask ev h0 value])) (hL : s.L.length = 24) (hev : ev.clean H.length = true) (hcev : ev.cell = true) :
    ACalls Tryd.prog 59 [.ptr k 1 0 0, .int .i64 v, .int .i64 how] H fun r' H' => r' = .tup [] ∧ H' = H.set k (.vec 61 [wrow (setS s d v how) x ask ev how value]) := by
  refine ACalls.go step_work_set.low (by simp) fun hcl => ?_
  have hwl : (wc s.L).length = 48 := by rw [wc_len, hL]
  have g1 : ∀ M : List AObj, (H ++ M)[k]? = some (.vec 61 [wrow s x ask ev h0 value]) := fun M => by rw [in_get hk, hx]
  have g2 : ∀ (M : List AObj) (o : AObj), (H ++ M).set k o = H.set k o ++ M := fun M o => in_set hk
  have g3 := ob_get hk
  have g4 := ob_set hk
  have g5 : ∀ o : AObj, H.length ≤ (H.set k o).length := fun o => by simp
  have hput := wr_put2 (L := s.L) (i := d) (r := [.list (s.heap.map encI), .int .i64 s.pc, .int .i64 s.asked, .int .i64 x.op, .int .i64 (d : Int), .int .i64 x.a, .int .i64 x.b, .int .i64 x.n, .int .i64 x.to, .list (ask.map encI), ev, .int .i64 how, .int .i64 value]) ⟨true, v⟩ (by omega)
  have hwl2 : (wc (s.L.set d ⟨true, v⟩)).length = 48 := by rw [wc_len, List.length_set, hL]
  have e1 : (d : Int) < 24 := by omega
  have e2 : d * 2 + 2 ≤ 61 := by omega
  clear hx
  obtain ⟨op, xd, xa, xb, xn, xto⟩ := x
  simp only at hd
  subst hd
  by_cases hh : how = 0
  · subst hh
    have hs : setS s d v 0 = { s with L := s.L.set d ⟨true, v⟩ } := by simp [setS]
    rw [hs]
    replace hs := Hold.mk hs
    replace hL := Hold.mk hL
    replace hev := Hold.mk hev
    repeat' (first | simp only [seval, evx, beq_self_eq_true, sb, ew, insA, encIns, ins_dec, ins_eta, wrow_eq, evs_eq, encEv_def, List.map_cons, List.map_nil, *] | simp (disch := omega) only [if_pos, if_neg] | refine R.seq ?_ | refine LCB.text ?_ | refine LCB.quiet rfl ?_ | refine R.anyX ?_ | refine R.block ?_ | refine LCB.skip ?_ | refine LCB.exit ?_ | refine LCB.ret ?_ | ((first | refine RetOk.val hcl ?_ | refine Weak.at hcl ?_); simp only [seval, evw, List.forall_mem_cons, List.forall_mem_map, List.forall_mem_append, List.not_mem_nil, sb, ew, insA, encIns, ins_dec, ins_eta, wrow_eq, evs_eq, encEv_def, List.map_cons, List.map_nil, *]) | ((first | refine LCB.cond (by simp only [seval, evx] <;> rfl) ?_ ?_ | refine wpG_split (by simp only [seval, evx] <;> rfl) ?_ ?_ | refine wxG_split (by simp only [seval, evx] <;> rfl) ?_ ?_) <;> (intro hc; try simp only [seval, nf] at hc)) | refine ACalls.inst ?_ | refine CallX.inst ?_ | (with_reducible refine And.intro ?_ ?_) | exact True.intro)
    (refine RetOk.upd (.tup []) (g5 _) (by rw [List.length_set]; exact hcl.set (vec_clean (by simp [cl_wc, cleanAll, AV.clean, hev.of]))) ?_ ⟨rfl, rfl⟩; exact .same _ rfl)
  · have hs : setS s d v how = s := by simp [setS, hh]
    rw [hs]
    replace hs := Hold.mk hs
    replace hL := Hold.mk hL
    replace hev := Hold.mk hev
    repeat' (first | simp only [seval, evx, beq_self_eq_true, sb, ew, insA, encIns, ins_dec, ins_eta, wrow_eq, evs_eq, encEv_def, List.map_cons, List.map_nil, *] | simp (disch := omega) only [if_pos, if_neg] | refine R.seq ?_ | refine LCB.text ?_ | refine LCB.quiet rfl ?_ | refine R.anyX ?_ | refine R.block ?_ | refine LCB.skip ?_ | refine LCB.exit ?_ | refine LCB.ret ?_ | ((first | refine RetOk.val hcl ?_ | refine Weak.at hcl ?_); simp only [seval, evw, List.forall_mem_cons, List.forall_mem_map, List.forall_mem_append, List.not_mem_nil, sb, ew, insA, encIns, ins_dec, ins_eta, wrow_eq, evs_eq, encEv_def, List.map_cons, List.map_nil, *]) | ((first | refine LCB.cond (by simp only [seval, evx] <;> rfl) ?_ ?_ | refine wpG_split (by simp only [seval, evx] <;> rfl) ?_ ?_ | refine wxG_split (by simp only [seval, evx] <;> rfl) ?_ ?_) <;> (intro hc; try simp only [seval, nf] at hc)) | refine ACalls.inst ?_ | refine CallX.inst ?_ | (with_reducible refine And.intro ?_ ?_) | exact True.intro)
    (refine RetOk.upd (.tup []) (g5 _) (by rw [List.length_set]; exact hcl.set (vec_clean (by simp [cl_wc, cleanAll, AV.clean, hev.of]))) ?_ ⟨rfl, rfl⟩; exact .same _ rfl)
/-- What a call comes to: nobody answers, or it is answered. -/
def callS (s : St) (d : Nat) (v : Int) : St := { s with L := s.L.set d ⟨true, v⟩, asked := s.asked + 1 }
set_option maxHeartbeats 1000000 in
theorem work_call_ok {H : List AObj} {k : Nat} {s : St} {x : Ins} {ask : List Int} {value : Int} (arg : Int) (d : Nat) (hd : x.d = (d : Int)) (hd2 : d < 24) (hk : k < H.length) (hx : H[k]? = some (.vec 61 [wrow s x ask (.list []) 0 value])) (hL : s.L.length = 24) (h0 : 0 ≤ s.asked) (hask : (ask.length : Int) ≤ 9223372036854775807) :
    ACalls Tryd.prog 62 [.ptr k 1 0 0, .int .i64 arg] H fun r' H' => r' = .tup [] ∧ H' = if s.asked < (ask.length : Int) then H.set k (.vec 61 [wrow (callS s d (ask.getD s.asked.toNat 0)) x ask (evs [⟨x.n, arg, ask.getD s.asked.toNat 0⟩]) 0 value]) else H.set k (.vec 61 [wrow s x ask (.list []) 5 value]) := by
  refine ACalls.go step_work_call.low (by simp) fun hcl => ?_
  have hwl : (wc s.L).length = 48 := by rw [wc_len, hL]
  have g1 : ∀ M : List AObj, (H ++ M)[k]? = some (.vec 61 [wrow s x ask (.list []) 0 value]) := fun M => by rw [in_get hk, hx]
  have g2 : ∀ (M : List AObj) (o : AObj), (H ++ M).set k o = H.set k o ++ M := fun M o => in_set hk
  have g3 := ob_get hk
  have g4 := ob_set hk
  have g5 : ∀ o : AObj, H.length ≤ (H.set k o).length := fun o => by simp
  have g6 : ∀ (o : AObj) (M : List AObj), (H.set k o ++ M)[H.length]? = M[0]? := fun o M => by rw [List.getElem?_append_right (by simp)]; simp
  have hev : Hold (True) := ⟨trivial⟩
  clear hx
  obtain ⟨op, xd, xa, xb, xn, xto⟩ := x
  simp only at hd
  subst hd
  by_cases hlt : s.asked < (ask.length : Int)
  · rw [show (fun (r' : AV) (H' : List AObj) => r' = AV.tup [] ∧ H' = if s.asked < (ask.length : Int) then H.set k (.vec 61 [wrow (callS s d (ask.getD s.asked.toNat 0)) ⟨op, (d : Int), xa, xb, xn, xto⟩ ask (evs [⟨xn, arg, ask.getD s.asked.toNat 0⟩]) 0 value]) else H.set k (.vec 61 [wrow s ⟨op, (d : Int), xa, xb, xn, xto⟩ ask (.list []) 5 value])) = fun r' H' => r' = AV.tup [] ∧ H' = H.set k (.vec 61 [wrow (callS s d (ask.getD s.asked.toNat 0)) ⟨op, (d : Int), xa, xb, xn, xto⟩ ask (evs [⟨xn, arg, ask.getD s.asked.toNat 0⟩]) 0 value]) from by funext r' H'; rw [if_pos hlt]]
    obtain ⟨n, hn⟩ := Int.eq_ofNat_of_zero_le h0
    obtain ⟨L, heap, pc, asked⟩ := s
    simp only at hn hL hwl hlt h0
    subst hn
    have hnl : n < ask.length := by omega
    have e1 : ¬ (ask.length : Int) ≤ (n : Int) := by omega
    have e2 : IntKind.i64.wrap ((n : Int) + 1) = ((n + 1 : Nat) : Int) := by rw [IntKind.wrap_i64]; omega
    have e3 : ((n : Int) + 1) = ((n + 1 : Nat) : Int) := by omega
    have hg := getD_encI hnl
    have hcS : callS ⟨L, heap, pc, (n : Int)⟩ d (ask.getD n 0) = ⟨L.set d ⟨true, ask.getD n 0⟩, heap, pc, ((n + 1 : Nat) : Int)⟩ := by simp [callS]
    have htn : ((n : Int)).toNat = n := by simp
    simp only [htn]
    rw [hcS]
    replace hcS := Hold.mk hcS
    replace e3 := Hold.mk e3
    replace htn := Hold.mk htn
    generalize ask.getD n 0 = v at *
    replace hL := Hold.mk hL
    clear hask h0
    repeat' (first | simp only [seval, evx, beq_self_eq_true, sb, ew, insA, encIns, ins_dec, ins_eta, wrow_eq, evs_eq, encEv_def, List.map_cons, List.map_nil, *] | simp (disch := omega) only [if_pos, if_neg] | refine R.seq ?_ | refine LCB.text ?_ | refine LCB.quiet rfl ?_ | refine R.anyX ?_ | refine R.block ?_ | refine LCB.skip ?_ | refine LCB.exit ?_ | refine LCB.ret ?_ | ((first | refine RetOk.val hcl ?_ | refine Weak.at hcl ?_); simp only [seval, evw, List.forall_mem_cons, List.forall_mem_map, List.forall_mem_append, List.not_mem_nil, sb, ew, insA, encIns, ins_dec, ins_eta, wrow_eq, evs_eq, encEv_def, List.map_cons, List.map_nil, *]) | ((first | refine LCB.cond (by simp only [seval, evx] <;> rfl) ?_ ?_ | refine wpG_split (by simp only [seval, evx] <;> rfl) ?_ ?_ | refine wxG_split (by simp only [seval, evx] <;> rfl) ?_ ?_) <;> (intro hc; try simp only [seval, nf] at hc)) | refine ACalls.inst ?_ | refine CallX.inst ?_ | (with_reducible refine And.intro ?_ ?_) | exact True.intro)
    refine ACalls.lose (G := H.set k (.vec 61 [wrow ⟨L, heap, pc, ((n + 1 : Nat) : Int)⟩ ⟨op, (d : Int), xa, xb, xn, xto⟩ ask (evs [⟨xn, arg, v⟩]) 0 value]) ++ [.gone]) (LoseH.set hk ⟨?_, ?_, ?_⟩) (Loses.refl _) ?_
    · simp only [seval, evw, lk, List.forall_mem_cons, List.forall_mem_map, List.forall_mem_append, List.not_mem_nil, sb, ew, insA, encIns, ins_dec, ins_eta, wrow_eq, evs_eq, encEv_def, List.map_cons, List.map_nil, *]
    · simp only [seval, evw, lk, List.forall_mem_cons, List.forall_mem_map, List.forall_mem_append, List.not_mem_nil, sb, ew, insA, encIns, ins_dec, ins_eta, wrow_eq, evs_eq, encEv_def, List.map_cons, List.map_nil, *]
    · simp only [seval, evw, lk, List.forall_mem_cons, List.forall_mem_map, List.forall_mem_append, List.not_mem_nil, sb, ew, insA, encIns, ins_dec, ins_eta, wrow_eq, evs_eq, encEv_def, List.map_cons, List.map_nil, *]
    refine (work_set_ok (s := ⟨L, heap, pc, ((n + 1 : Nat) : Int)⟩) (x := ⟨op, (d : Int), xa, xb, xn, xto⟩) v 0 d rfl hd2 (by simp; omega) (g3 _ _) hL.of rfl rfl).mono ?_
    rintro r' H' ⟨rfl, rfl⟩
    have hs : setS ⟨L, heap, pc, ((n + 1 : Nat) : Int)⟩ d v 0 = ⟨L.set d ⟨true, v⟩, heap, pc, ((n + 1 : Nat) : Int)⟩ := by simp [setS]
    rw [hs]
    replace hs := Hold.mk hs
    repeat' (first | simp only [seval, evx, beq_self_eq_true, sb, ew, insA, encIns, ins_dec, ins_eta, wrow_eq, evs_eq, encEv_def, List.map_cons, List.map_nil, *] | simp (disch := omega) only [if_pos, if_neg] | refine R.seq ?_ | refine LCB.text ?_ | refine LCB.quiet rfl ?_ | refine R.anyX ?_ | refine R.block ?_ | refine LCB.skip ?_ | refine LCB.exit ?_ | refine LCB.ret ?_ | ((first | refine RetOk.val hcl ?_ | refine Weak.at hcl ?_); simp only [seval, evw, List.forall_mem_cons, List.forall_mem_map, List.forall_mem_append, List.not_mem_nil, sb, ew, insA, encIns, ins_dec, ins_eta, wrow_eq, evs_eq, encEv_def, List.map_cons, List.map_nil, *]) | ((first | refine LCB.cond (by simp only [seval, evx] <;> rfl) ?_ ?_ | refine wpG_split (by simp only [seval, evx] <;> rfl) ?_ ?_ | refine wxG_split (by simp only [seval, evx] <;> rfl) ?_ ?_) <;> (intro hc; try simp only [seval, nf] at hc)) | refine ACalls.inst ?_ | refine CallX.inst ?_ | (with_reducible refine And.intro ?_ ?_) | exact True.intro)
    (refine RetOk.upd (.tup []) (g5 _) (by rw [List.length_set]; exact hcl.set (vec_clean (by simp [cl_wc, cleanAll, AV.clean, hev.of]))) ?_ ⟨rfl, rfl⟩; exact .same _ rfl)
  · rw [show (fun (r' : AV) (H' : List AObj) => r' = AV.tup [] ∧ H' = if s.asked < (ask.length : Int) then H.set k (.vec 61 [wrow (callS s d (ask.getD s.asked.toNat 0)) ⟨op, (d : Int), xa, xb, xn, xto⟩ ask (evs [⟨xn, arg, ask.getD s.asked.toNat 0⟩]) 0 value]) else H.set k (.vec 61 [wrow s ⟨op, (d : Int), xa, xb, xn, xto⟩ ask (.list []) 5 value])) = fun r' H' => r' = AV.tup [] ∧ H' = H.set k (.vec 61 [wrow s ⟨op, (d : Int), xa, xb, xn, xto⟩ ask (.list []) 5 value]) from by funext r' H'; rw [if_neg hlt]]
    have e1 : (ask.length : Int) ≤ s.asked := by omega
    replace hL := Hold.mk hL
    clear hask h0
    repeat' (first | simp only [seval, evx, beq_self_eq_true, sb, ew, insA, encIns, ins_dec, ins_eta, wrow_eq, evs_eq, encEv_def, List.map_cons, List.map_nil, *] | simp (disch := omega) only [if_pos, if_neg] | refine R.seq ?_ | refine LCB.text ?_ | refine LCB.quiet rfl ?_ | refine R.anyX ?_ | refine R.block ?_ | refine LCB.skip ?_ | refine LCB.exit ?_ | refine LCB.ret ?_ | ((first | refine RetOk.val hcl ?_ | refine Weak.at hcl ?_); simp only [seval, evw, List.forall_mem_cons, List.forall_mem_map, List.forall_mem_append, List.not_mem_nil, sb, ew, insA, encIns, ins_dec, ins_eta, wrow_eq, evs_eq, encEv_def, List.map_cons, List.map_nil, *]) | ((first | refine LCB.cond (by simp only [seval, evx] <;> rfl) ?_ ?_ | refine wpG_split (by simp only [seval, evx] <;> rfl) ?_ ?_ | refine wxG_split (by simp only [seval, evx] <;> rfl) ?_ ?_) <;> (intro hc; try simp only [seval, nf] at hc)) | refine ACalls.inst ?_ | refine CallX.inst ?_ | (with_reducible refine And.intro ?_ ?_) | exact True.intro)
    (refine RetOk.upd (.tup []) (g5 _) (by rw [List.length_set]; exact hcl.set (vec_clean (by simp [cl_wc, cleanAll, AV.clean, hev.of]))) ?_ ⟨rfl, rfl⟩; exact .same _ rfl)
/-- What only moves. -/
def moveS (s : St) (x : Ins) : St :=
  if x.op = 1 then { s with L := s.L.set x.d.toNat ⟨true, x.n⟩ }
  else if x.op = 2 then { s with L := s.L.set x.d.toNat (s.L.getD x.a.toNat noW) }
  else if x.op = 3 then { s with L := (s.L.set x.d.toNat (s.L.getD x.a.toNat noW)).set x.a.toNat (s.L.getD x.d.toNat noW) }
  else s
set_option maxHeartbeats 2000000 in
theorem work_move_ok {H : List AObj} {k : Nat} {s : St} {x : Ins} {ask : List Int} {value how : Int} (d a : Nat) (hd : x.d = (d : Int)) (hd2 : d < 24) (ha : x.a = (a : Int)) (ha2 : a < 24) (hop : x.op = 1 ∨ x.op = 2 ∨ x.op = 3) (hk : k < H.length) (hx : H[k]? = some (.vec 61 [wrow s x ask (.list []) how value])) (hL : s.L.length = 24) :
    ACalls Tryd.prog 64 [.ptr k 1 0 0] H fun r' H' => r' = .tup [] ∧ H' = H.set k (.vec 61 [wrow (moveS s x) x ask (.list []) how value]) := by
  refine ACalls.go step_work_move.low (by simp) fun hcl => ?_
  have hwl : (wc s.L).length = 48 := by rw [wc_len, hL]
  have g1 : ∀ M : List AObj, (H ++ M)[k]? = some (.vec 61 [wrow s x ask (.list []) how value]) := fun M => by rw [in_get hk, hx]
  have g2 : ∀ (M : List AObj) (o : AObj), (H ++ M).set k o = H.set k o ++ M := fun M o => in_set hk
  have g3 := ob_get hk
  have g4 := ob_set hk
  have g5 : ∀ o : AObj, H.length ≤ (H.set k o).length := fun o => by simp
  have hev : Hold (True) := ⟨trivial⟩
  clear hx
  obtain ⟨op, xd, xa, xb, xn, xto⟩ := x
  simp only at hd ha
  subst hd
  subst ha
  have e1 : (d : Int) < 24 := by omega
  have e2 : d * 2 + 2 ≤ 61 := by omega
  have e3 : (a : Int) < 24 := by omega
  have e4 : a * 2 + 2 ≤ 61 := by omega
  have e5 : d * 2 + 2 ≤ 48 + 13 := by omega
  have e6 : a * 2 + 2 ≤ 48 + 13 := by omega
  obtain ⟨L, heap, pc, asked⟩ := s
  simp only at hL hwl
  have hset : ∀ w : W, (wc (L.set d w)).length = 48 := fun w => by rw [wc_len, List.length_set, hL]
  by_cases o1 : op = 1
  · subst o1
    have hm : moveS ⟨L, heap, pc, asked⟩ ⟨1, (d : Int), (a : Int), xb, xn, xto⟩ = ⟨L.set d ⟨true, xn⟩, heap, pc, asked⟩ := by simp [moveS]
    rw [hm]
    replace hm := Hold.mk hm
    have hput := wr_put2 (L := L) (i := d) (r := [.list (heap.map encI), .int .i64 pc, .int .i64 asked, .int .i64 1, .int .i64 (d : Int), .int .i64 (a : Int), .int .i64 xb, .int .i64 xn, .int .i64 xto, .list (ask.map encI), .list [], .int .i64 how, .int .i64 value]) ⟨true, xn⟩ (by omega)
    replace hL := Hold.mk hL
    repeat' (first | simp only [seval, evx, beq_self_eq_true, sb, ew, insA, encIns, ins_dec, ins_eta, wrow_eq, evs_eq, encEv_def, List.map_cons, List.map_nil, *] | simp (disch := omega) only [if_pos, if_neg] | refine R.seq ?_ | refine LCB.text ?_ | refine LCB.quiet rfl ?_ | refine R.anyX ?_ | refine R.block ?_ | refine LCB.skip ?_ | refine LCB.exit ?_ | refine LCB.ret ?_ | ((first | refine RetOk.val hcl ?_ | refine Weak.at hcl ?_); simp only [seval, evw, List.forall_mem_cons, List.forall_mem_map, List.forall_mem_append, List.not_mem_nil, sb, ew, insA, encIns, ins_dec, ins_eta, wrow_eq, evs_eq, encEv_def, List.map_cons, List.map_nil, *]) | ((first | refine LCB.cond (by simp only [seval, evx] <;> rfl) ?_ ?_ | refine wpG_split (by simp only [seval, evx] <;> rfl) ?_ ?_ | refine wxG_split (by simp only [seval, evx] <;> rfl) ?_ ?_) <;> (intro hc; try simp only [seval, nf] at hc)) | refine ACalls.inst ?_ | refine CallX.inst ?_ | (with_reducible refine And.intro ?_ ?_) | exact True.intro)
    (refine RetOk.upd (.tup []) (g5 _) (by rw [List.length_set]; exact hcl.set (vec_clean (by simp [cl_wc, cleanAll, AV.clean, hev.of]))) ?_ ⟨rfl, rfl⟩; exact .same _ rfl)
  by_cases o2 : op = 2
  · subst o2
    have hm : moveS ⟨L, heap, pc, asked⟩ ⟨2, (d : Int), (a : Int), xb, xn, xto⟩ = ⟨L.set d (L.getD a noW), heap, pc, asked⟩ := by simp [moveS]
    rw [hm]
    replace hm := Hold.mk hm
    have hg := wr_pair (L := L) (i := a) (r := [.list (heap.map encI), .int .i64 pc, .int .i64 asked, .int .i64 2, .int .i64 (d : Int), .int .i64 (a : Int), .int .i64 xb, .int .i64 xn, .int .i64 xto, .list (ask.map encI), .list [], .int .i64 how, .int .i64 value]) (by omega)
    have hput := wr_put2 (L := L) (i := d) (r := [.list (heap.map encI), .int .i64 pc, .int .i64 asked, .int .i64 2, .int .i64 (d : Int), .int .i64 (a : Int), .int .i64 xb, .int .i64 xn, .int .i64 xto, .list (ask.map encI), .list [], .int .i64 how, .int .i64 value]) (L.getD a noW) (by omega)
    generalize L.getD a noW = w at *
    simp only [encW_def] at hg
    replace hL := Hold.mk hL
    repeat' (first | simp only [seval, evx, beq_self_eq_true, sb, ew, insA, encIns, ins_dec, ins_eta, wrow_eq, evs_eq, encEv_def, List.map_cons, List.map_nil, *] | simp (disch := omega) only [if_pos, if_neg] | refine R.seq ?_ | refine LCB.text ?_ | refine LCB.quiet rfl ?_ | refine R.anyX ?_ | refine R.block ?_ | refine LCB.skip ?_ | refine LCB.exit ?_ | refine LCB.ret ?_ | ((first | refine RetOk.val hcl ?_ | refine Weak.at hcl ?_); simp only [seval, evw, List.forall_mem_cons, List.forall_mem_map, List.forall_mem_append, List.not_mem_nil, sb, ew, insA, encIns, ins_dec, ins_eta, wrow_eq, evs_eq, encEv_def, List.map_cons, List.map_nil, *]) | ((first | refine LCB.cond (by simp only [seval, evx] <;> rfl) ?_ ?_ | refine wpG_split (by simp only [seval, evx] <;> rfl) ?_ ?_ | refine wxG_split (by simp only [seval, evx] <;> rfl) ?_ ?_) <;> (intro hc; try simp only [seval, nf] at hc)) | refine ACalls.inst ?_ | refine CallX.inst ?_ | (with_reducible refine And.intro ?_ ?_) | exact True.intro)
    (refine RetOk.upd (.tup []) (g5 _) (by rw [List.length_set]; exact hcl.set (vec_clean (by simp [cl_wc, cleanAll, AV.clean, hev.of]))) ?_ ⟨rfl, rfl⟩; exact .same _ rfl)
  by_cases o3 : op = 3
  · subst o3
    have hm : moveS ⟨L, heap, pc, asked⟩ ⟨3, (d : Int), (a : Int), xb, xn, xto⟩ = ⟨(L.set d (L.getD a noW)).set a (L.getD d noW), heap, pc, asked⟩ := by simp [moveS]
    rw [hm]
    replace hm := Hold.mk hm
    have hg := wr_pair (L := L) (i := a) (r := [.list (heap.map encI), .int .i64 pc, .int .i64 asked, .int .i64 3, .int .i64 (d : Int), .int .i64 (a : Int), .int .i64 xb, .int .i64 xn, .int .i64 xto, .list (ask.map encI), .list [], .int .i64 how, .int .i64 value]) (by omega)
    have hg2 := wr_pair (L := L) (i := d) (r := [.list (heap.map encI), .int .i64 pc, .int .i64 asked, .int .i64 3, .int .i64 (d : Int), .int .i64 (a : Int), .int .i64 xb, .int .i64 xn, .int .i64 xto, .list (ask.map encI), .list [], .int .i64 how, .int .i64 value]) (by omega)
    have hput := wr_put2 (L := L) (i := d) (r := [.list (heap.map encI), .int .i64 pc, .int .i64 asked, .int .i64 3, .int .i64 (d : Int), .int .i64 (a : Int), .int .i64 xb, .int .i64 xn, .int .i64 xto, .list (ask.map encI), .list [], .int .i64 how, .int .i64 value]) (L.getD a noW) (by omega)
    have hput2 := wr_put2 (L := L.set d (L.getD a noW)) (i := a) (r := [.list (heap.map encI), .int .i64 pc, .int .i64 asked, .int .i64 3, .int .i64 (d : Int), .int .i64 (a : Int), .int .i64 xb, .int .i64 xn, .int .i64 xto, .list (ask.map encI), .list [], .int .i64 how, .int .i64 value]) (L.getD d noW) (by rw [List.length_set]; omega)
    generalize L.getD a noW = w at *
    generalize L.getD d noW = u at *
    simp only [encW_def] at hg hg2
    replace hL := Hold.mk hL
    repeat' (first | simp only [seval, evx, beq_self_eq_true, sb, ew, insA, encIns, ins_dec, ins_eta, wrow_eq, evs_eq, encEv_def, List.map_cons, List.map_nil, *] | simp (disch := omega) only [if_pos, if_neg] | refine R.seq ?_ | refine LCB.text ?_ | refine LCB.quiet rfl ?_ | refine R.anyX ?_ | refine R.block ?_ | refine LCB.skip ?_ | refine LCB.exit ?_ | refine LCB.ret ?_ | ((first | refine RetOk.val hcl ?_ | refine Weak.at hcl ?_); simp only [seval, evw, List.forall_mem_cons, List.forall_mem_map, List.forall_mem_append, List.not_mem_nil, sb, ew, insA, encIns, ins_dec, ins_eta, wrow_eq, evs_eq, encEv_def, List.map_cons, List.map_nil, *]) | ((first | refine LCB.cond (by simp only [seval, evx] <;> rfl) ?_ ?_ | refine wpG_split (by simp only [seval, evx] <;> rfl) ?_ ?_ | refine wxG_split (by simp only [seval, evx] <;> rfl) ?_ ?_) <;> (intro hc; try simp only [seval, nf] at hc)) | refine ACalls.inst ?_ | refine CallX.inst ?_ | (with_reducible refine And.intro ?_ ?_) | exact True.intro)
    (refine RetOk.upd (.tup []) (g5 _) (by rw [List.length_set]; exact hcl.set (vec_clean (by simp [cl_wc, cleanAll, AV.clean, hev.of]))) ?_ ⟨rfl, rfl⟩; exact .same _ rfl)
  · simp only at hop
    omega
end Go.Proofs.YtbkbehkjndmabaaDoor

/-
  step: one instruction all of whose numbers are there.
-/
namespace Go.Proofs.YtbkbehkjndmabaaDoor
open Go.RowKit
set_option linter.unusedVariables false
set_option linter.unusedSimpArgs false
/-- What an instruction makes of a state, all of whose numbers are there: the state, the events, how, and the value. -/
def stepW (s : St) (x : Ins) (ask : List Int) : St × List Ev × Int × Int :=
  let a := (s.L.getD x.a.toNat noW).v
  let b := (s.L.getD x.b.toNat noW).v
  if x.op = 13 then (if (hLoad s.heap a).2 = 0 then ({ setS s x.d.toNat (hLoad s.heap a).1 0 with pc := s.pc + 1 }, [], 0, 0) else (s, [], (hLoad s.heap a).2, 0))
  else if x.op = 14 then (if (hStore s.heap a b).2 = 0 then ({ s with heap := (hStore s.heap a b).1, pc := s.pc + 1 }, [], 0, 0) else (s, [], (hStore s.heap a b).2, 0))
  else if x.op = 15 then (if s.asked < (ask.length : Int) then ({ callS s x.d.toNat (ask.getD s.asked.toNat 0) with pc := s.pc + 1 }, [⟨x.n, a, ask.getD s.asked.toNat 0⟩], 0, 0) else (s, [], 5, 0))
  else if x.op = 18 then (s, [], 1, a)
  else if x.op = 17 then ({ s with pc := if a = 0 then x.to else s.pc + 1 }, [], 0, 0)
  else if x.op = 16 then ({ s with pc := x.to }, [], 0, 0)
  else if x.op = 1 ∨ x.op = 2 ∨ x.op = 3 then ({ moveS s x with pc := s.pc + 1 }, [], 0, 0)
  else if (numDo x.op a b).2 = 0 then ({ setS s x.d.toNat (numDo x.op a b).1 0 with pc := s.pc + 1 }, [], 0, 0)
  else (s, [], (numDo x.op a b).2, 0)
theorem moveS_pc (s : St) (x : Ins) : (moveS s x).pc = s.pc := by unfold moveS; (repeat' split) <;> rfl
theorem moveS_len (s : St) (x : Ins) : (moveS s x).L.length = s.L.length := by unfold moveS; (repeat' split) <;> simp
theorem hLoad_how (h : List Int) (a : Int) : (hLoad h a).2 = 0 ∨ (hLoad h a).2 = 4 := by unfold hLoad; split <;> simp
theorem hStore_how (h : List Int) (a v : Int) : (hStore h a v).2 = 0 ∨ (hStore h a v).2 = 4 := by unfold hStore; split <;> simp
set_option maxHeartbeats 4000000 in
theorem work_do_ok {H : List AObj} {k : Nat} {s : St} {x : Ins} {ask : List Int} (d a b : Nat) (hd : x.d = (d : Int)) (hd2 : d < 24) (ha : x.a = (a : Int)) (ha2 : a < 24) (hb : x.b = (b : Int)) (hb2 : b < 24) (hk : k < H.length) (hx : H[k]? = some (.vec 61 [wrow s x ask (.list []) 0 0])) (hL : s.L.length = 24)
    (h0 : 0 ≤ s.asked) (hask : (ask.length : Int) ≤ 9223372036854775807) (hp0 : 0 ≤ s.pc) (hp1 : s.pc ≤ 1000) :
    ACalls Tryd.prog 43 [.ptr k 1 0 0] H fun r' H' => r' = .tup [] ∧ H' = H.set k (.vec 61 [wrow (stepW s x ask).1 x ask (evs (stepW s x ask).2.1) (stepW s x ask).2.2.1 (stepW s x ask).2.2.2]) := by
  refine ACalls.go step_work_do.low (by simp) fun hcl => ?_
  have hwl : (wc s.L).length = 48 := by rw [wc_len, hL]
  have g1 : ∀ M : List AObj, (H ++ M)[k]? = some (.vec 61 [wrow s x ask (.list []) 0 0]) := fun M => by rw [in_get hk, hx]
  have g2 : ∀ (M : List AObj) (o : AObj), (H ++ M).set k o = H.set k o ++ M := fun M o => in_set hk
  have g3 := ob_get hk
  have g4 := ob_set hk
  have g5 : ∀ o : AObj, H.length ≤ (H.set k o).length := fun o => by simp
  have hk0 : Hold (k < (H ++ []).length) := ⟨by simpa using hk⟩
  have hx0 : Hold ((H ++ [])[k]? = some (.vec 61 [wrow s x ask (.list []) 0 0])) := ⟨g1 []⟩
  have e1 : IntKind.i64.wrap (s.pc + 1) = s.pc + 1 := by rw [IntKind.wrap_i64]; omega
  have hw := hx0.of
  rw [wrow_eq] at hw
  have n1 := Hold.mk (work_number_ok (L := s.L) (r := _) hk0.of hw hL a ha2)
  have n2 := Hold.mk (work_number_ok (L := s.L) (r := _) hk0.of hw hL b hb2)
  have hset := Hold.mk (fun v how => work_set_ok (s := s) (x := x) (ask := ask) (ev := .list []) (h0 := 0) (value := 0) v how d hd hd2 hk0.of hx0.of hL rfl rfl)
  have hcall := Hold.mk (fun arg => work_call_ok (s := s) (x := x) (ask := ask) (value := 0) arg d hd hd2 hk0.of hx0.of hL h0 hask)
  have hmove := Hold.mk (fun ho => work_move_ok (s := s) (x := x) (ask := ask) (value := 0) (how := 0) d a hd hd2 ha ha2 ho hk0.of hx0.of hL)
  have hins := Hold.mk (ins_Moves_ok x)
  have hld := Hold.mk (heap_Load_ok s.heap (s.L.getD a noW).v)
  have hst := Hold.mk (heap_Store_ok s.heap (s.L.getD a noW).v (s.L.getD b noW).v)
  have hnum := Hold.mk (num_Do_ok x.op (s.L.getD a noW).v (s.L.getD b noW).v)
  have hlh := Hold.mk (hLoad_how s.heap (s.L.getD a noW).v)
  have hsh := Hold.mk (hStore_how s.heap (s.L.getD a noW).v (s.L.getD b noW).v)
  obtain ⟨RES, hW⟩ : ∃ R, stepW s x ask = R := ⟨_, rfl⟩
  rw [hW]
  unfold stepW at hW
  rw [show x.a.toNat = a by rw [ha]; simp, show x.b.toNat = b by rw [hb]; simp, show x.d.toNat = d by rw [hd]; simp] at hW
  simp only at hW
  have hpm := moveS_pc s x
  have hlm := moveS_len s x
  replace hpm := Hold.mk hpm
  replace hlm := Hold.mk hlm
  generalize (s.L.getD a noW).v = va at *
  generalize (s.L.getD b noW).v = vb at *
  clear hx hw
  obtain ⟨op, xd, xa, xb, xn, xto⟩ := x
  simp only at hd ha hb
  subst hd
  subst ha
  subst hb
  rw [insA_eq] at hins
  simp only at hW hins hnum
  replace hW := Hold.mk hW
  replace hL := Hold.mk hL
  clear h0 hask hp0 hp1
  refine R.cut [(0, .ptr k 1 0 0), (2, .int .i64 va), (3, .int .i64 vb)] (H ++ []) ?_ ?_
  · refine LCB.any ?_
    repeat' (first | (refine Weak.at hcl ?_; simp only [seval, evw, List.forall_mem_cons, List.forall_mem_map, List.forall_mem_append, List.not_mem_nil, sb, ew, insA, encIns, ins_dec, ins_eta, wrow_eq, evs_eq, encEv_def, List.map_cons, List.map_nil, *]) | (refine ACalls.mono n1.of ?_; rintro r' H' ⟨rfl, rfl⟩) | (refine ACalls.mono n2.of ?_; rintro r' H' ⟨rfl, rfl⟩) | (with_reducible refine And.intro ?_ ?_) | exact True.intro | simp only [wpP, wpPs, pureStep, seval, evo, evp, sb, ew, insA, encIns, ins_dec, ins_eta, wrow_eq, evs_eq, encEv_def, List.map_cons, List.map_nil, *])
  by_cases o13 : op = 13
  · subst o13
    have hW2 := hW.of
    rw [if_pos rfl] at hW2
    unfold hLoadA at hld
    clear hW
    generalize hLoad s.heap va = q at *
    obtain ⟨v, how⟩ := q
    simp only at hW2 hld hlh
    replace hW2 := Hold.mk hW2
    repeat' (first | simp only [seval, evx, beq_self_eq_true, sb, ew, insA, encIns, ins_dec, ins_eta, wrow_eq, evs_eq, encEv_def, List.map_cons, List.map_nil, *] | simp (disch := omega) only [if_pos, if_neg] | refine R.seq ?_ | refine LCB.text ?_ | refine LCB.quiet rfl ?_ | refine R.anyX ?_ | refine R.block ?_ | refine LCB.skip ?_ | refine LCB.exit ?_ | refine LCB.ret ?_ | ((first | refine RetOk.val hcl ?_ | refine Weak.at hcl ?_); simp only [seval, evw, List.forall_mem_cons, List.forall_mem_map, List.forall_mem_append, List.not_mem_nil, sb, ew, insA, encIns, ins_dec, ins_eta, wrow_eq, evs_eq, encEv_def, List.map_cons, List.map_nil, *]) | ((first | refine LCB.cond (by simp only [seval, evx] <;> rfl) ?_ ?_ | refine wpG_split (by simp only [seval, evx] <;> rfl) ?_ ?_ | refine wxG_split (by simp only [seval, evx] <;> rfl) ?_ ?_) <;> (intro hc; try simp only [seval, nf] at hc)) | refine ACalls.inst ?_ | refine CallX.inst ?_ | (with_reducible refine And.intro ?_ ?_) | exact True.intro)
    first | refine ACalls.pure (hld.of) ?_ | refine CallP.pure (hld.of) rfl ?_ | refine CallX.pure (hld.of) ?_
    repeat' (first | simp only [seval, evx, beq_self_eq_true, sb, ew, insA, encIns, ins_dec, ins_eta, wrow_eq, evs_eq, encEv_def, List.map_cons, List.map_nil, *] | simp (disch := omega) only [if_pos, if_neg] | refine R.seq ?_ | refine LCB.text ?_ | refine LCB.quiet rfl ?_ | refine R.anyX ?_ | refine R.block ?_ | refine LCB.skip ?_ | refine LCB.exit ?_ | refine LCB.ret ?_ | ((first | refine RetOk.val hcl ?_ | refine Weak.at hcl ?_); simp only [seval, evw, List.forall_mem_cons, List.forall_mem_map, List.forall_mem_append, List.not_mem_nil, sb, ew, insA, encIns, ins_dec, ins_eta, wrow_eq, evs_eq, encEv_def, List.map_cons, List.map_nil, *]) | ((first | refine LCB.cond (by simp only [seval, evx] <;> rfl) ?_ ?_ | refine wpG_split (by simp only [seval, evx] <;> rfl) ?_ ?_ | refine wxG_split (by simp only [seval, evx] <;> rfl) ?_ ?_) <;> (intro hc; try simp only [seval, nf] at hc)) | refine ACalls.inst ?_ | refine CallX.inst ?_ | (with_reducible refine And.intro ?_ ?_) | exact True.intro)
    refine (hset.of v how).mono ?_
    rintro r' H' ⟨rfl, rfl⟩
    replace hW2 := hW2.of
    by_cases hh : how = 0
    · subst hh
      rw [if_pos rfl] at hW2
      subst hW2
      have hs : setS s d v 0 = { s with L := s.L.set d ⟨true, v⟩ } := by simp [setS]
      rw [hs]
      replace hs := Hold.mk hs
      have hwl2 : (wc (s.L.set d ⟨true, v⟩)).length = 48 := by rw [wc_len, List.length_set, hL.of]
      repeat' (first | simp only [seval, evx, beq_self_eq_true, sb, ew, insA, encIns, ins_dec, ins_eta, wrow_eq, evs_eq, encEv_def, List.map_cons, List.map_nil, *] | simp (disch := omega) only [if_pos, if_neg] | refine R.seq ?_ | refine LCB.text ?_ | refine LCB.quiet rfl ?_ | refine R.anyX ?_ | refine R.block ?_ | refine LCB.skip ?_ | refine LCB.exit ?_ | refine LCB.ret ?_ | ((first | refine RetOk.val hcl ?_ | refine Weak.at hcl ?_); simp only [seval, evw, List.forall_mem_cons, List.forall_mem_map, List.forall_mem_append, List.not_mem_nil, sb, ew, insA, encIns, ins_dec, ins_eta, wrow_eq, evs_eq, encEv_def, List.map_cons, List.map_nil, *]) | ((first | refine LCB.cond (by simp only [seval, evx] <;> rfl) ?_ ?_ | refine wpG_split (by simp only [seval, evx] <;> rfl) ?_ ?_ | refine wxG_split (by simp only [seval, evx] <;> rfl) ?_ ?_) <;> (intro hc; try simp only [seval, nf] at hc)) | refine ACalls.inst ?_ | refine CallX.inst ?_ | (with_reducible refine And.intro ?_ ?_) | exact True.intro)
      (refine RetOk.upd (.tup []) (g5 _) (by rw [List.length_set]; exact hcl.set (vec_clean (by simp [cl_wc, cleanAll, AV.clean]))) ?_ ⟨rfl, rfl⟩; exact .same _ rfl)
    · rw [if_neg hh] at hW2
      subst hW2
      have hs : setS s d v how = s := by simp [setS, hh]
      rw [hs]
      replace hs := Hold.mk hs
      repeat' (first | simp only [seval, evx, beq_self_eq_true, sb, ew, insA, encIns, ins_dec, ins_eta, wrow_eq, evs_eq, encEv_def, List.map_cons, List.map_nil, *] | simp (disch := omega) only [if_pos, if_neg] | refine R.seq ?_ | refine LCB.text ?_ | refine LCB.quiet rfl ?_ | refine R.anyX ?_ | refine R.block ?_ | refine LCB.skip ?_ | refine LCB.exit ?_ | refine LCB.ret ?_ | ((first | refine RetOk.val hcl ?_ | refine Weak.at hcl ?_); simp only [seval, evw, List.forall_mem_cons, List.forall_mem_map, List.forall_mem_append, List.not_mem_nil, sb, ew, insA, encIns, ins_dec, ins_eta, wrow_eq, evs_eq, encEv_def, List.map_cons, List.map_nil, *]) | ((first | refine LCB.cond (by simp only [seval, evx] <;> rfl) ?_ ?_ | refine wpG_split (by simp only [seval, evx] <;> rfl) ?_ ?_ | refine wxG_split (by simp only [seval, evx] <;> rfl) ?_ ?_) <;> (intro hc; try simp only [seval, nf] at hc)) | refine ACalls.inst ?_ | refine CallX.inst ?_ | (with_reducible refine And.intro ?_ ?_) | exact True.intro)
      (refine RetOk.upd (.tup []) (g5 _) (by rw [List.length_set]; exact hcl.set (vec_clean (by simp [cl_wc, cleanAll, AV.clean]))) ?_ ⟨rfl, rfl⟩; exact .same _ rfl)
  by_cases o14 : op = 14
  · subst o14
    have hW2 := hW.of
    rw [if_neg (by omega), if_pos rfl] at hW2
    unfold hStoreA ints at hst
    clear hW
    generalize hStore s.heap va vb = q at *
    obtain ⟨h', how⟩ := q
    simp only at hW2 hst hsh
    replace hW2 := Hold.mk hW2
    by_cases hh : how = 0
    · subst hh
      have hW3 := hW2.of
      rw [if_pos rfl] at hW3
      subst hW3
      clear hW2
      repeat' (first | simp only [seval, evx, beq_self_eq_true, sb, ew, insA, encIns, ins_dec, ins_eta, wrow_eq, evs_eq, encEv_def, List.map_cons, List.map_nil, *] | simp (disch := omega) only [if_pos, if_neg] | refine R.seq ?_ | refine LCB.text ?_ | refine LCB.quiet rfl ?_ | refine R.anyX ?_ | refine R.block ?_ | refine LCB.skip ?_ | refine LCB.exit ?_ | refine LCB.ret ?_ | ((first | refine RetOk.val hcl ?_ | refine Weak.at hcl ?_); simp only [seval, evw, List.forall_mem_cons, List.forall_mem_map, List.forall_mem_append, List.not_mem_nil, sb, ew, insA, encIns, ins_dec, ins_eta, wrow_eq, evs_eq, encEv_def, List.map_cons, List.map_nil, *]) | ((first | refine LCB.cond (by simp only [seval, evx] <;> rfl) ?_ ?_ | refine wpG_split (by simp only [seval, evx] <;> rfl) ?_ ?_ | refine wxG_split (by simp only [seval, evx] <;> rfl) ?_ ?_) <;> (intro hc; try simp only [seval, nf] at hc)) | refine ACalls.inst ?_ | refine CallX.inst ?_ | (with_reducible refine And.intro ?_ ?_) | exact True.intro)
      first | refine ACalls.pure (hst.of) ?_ | refine CallP.pure (hst.of) rfl ?_ | refine CallX.pure (hst.of) ?_
      repeat' (first | simp only [seval, evx, beq_self_eq_true, sb, ew, insA, encIns, ins_dec, ins_eta, wrow_eq, evs_eq, encEv_def, List.map_cons, List.map_nil, *] | simp (disch := omega) only [if_pos, if_neg] | refine R.seq ?_ | refine LCB.text ?_ | refine LCB.quiet rfl ?_ | refine R.anyX ?_ | refine R.block ?_ | refine LCB.skip ?_ | refine LCB.exit ?_ | refine LCB.ret ?_ | ((first | refine RetOk.val hcl ?_ | refine Weak.at hcl ?_); simp only [seval, evw, List.forall_mem_cons, List.forall_mem_map, List.forall_mem_append, List.not_mem_nil, sb, ew, insA, encIns, ins_dec, ins_eta, wrow_eq, evs_eq, encEv_def, List.map_cons, List.map_nil, *]) | ((first | refine LCB.cond (by simp only [seval, evx] <;> rfl) ?_ ?_ | refine wpG_split (by simp only [seval, evx] <;> rfl) ?_ ?_ | refine wxG_split (by simp only [seval, evx] <;> rfl) ?_ ?_) <;> (intro hc; try simp only [seval, nf] at hc)) | refine ACalls.inst ?_ | refine CallX.inst ?_ | (with_reducible refine And.intro ?_ ?_) | exact True.intro)
      (refine RetOk.upd (.tup []) (g5 _) (by rw [List.length_set]; exact hcl.set (vec_clean (by simp [cl_wc, cleanAll, AV.clean]))) ?_ ⟨rfl, rfl⟩; exact .same _ rfl)
    · have hW3 := hW2.of
      rw [if_neg hh] at hW3
      subst hW3
      clear hW2
      repeat' (first | simp only [seval, evx, beq_self_eq_true, sb, ew, insA, encIns, ins_dec, ins_eta, wrow_eq, evs_eq, encEv_def, List.map_cons, List.map_nil, *] | simp (disch := omega) only [if_pos, if_neg] | refine R.seq ?_ | refine LCB.text ?_ | refine LCB.quiet rfl ?_ | refine R.anyX ?_ | refine R.block ?_ | refine LCB.skip ?_ | refine LCB.exit ?_ | refine LCB.ret ?_ | ((first | refine RetOk.val hcl ?_ | refine Weak.at hcl ?_); simp only [seval, evw, List.forall_mem_cons, List.forall_mem_map, List.forall_mem_append, List.not_mem_nil, sb, ew, insA, encIns, ins_dec, ins_eta, wrow_eq, evs_eq, encEv_def, List.map_cons, List.map_nil, *]) | ((first | refine LCB.cond (by simp only [seval, evx] <;> rfl) ?_ ?_ | refine wpG_split (by simp only [seval, evx] <;> rfl) ?_ ?_ | refine wxG_split (by simp only [seval, evx] <;> rfl) ?_ ?_) <;> (intro hc; try simp only [seval, nf] at hc)) | refine ACalls.inst ?_ | refine CallX.inst ?_ | (with_reducible refine And.intro ?_ ?_) | exact True.intro)
      first | refine ACalls.pure (hst.of) ?_ | refine CallP.pure (hst.of) rfl ?_ | refine CallX.pure (hst.of) ?_
      repeat' (first | simp only [seval, evx, beq_self_eq_true, sb, ew, insA, encIns, ins_dec, ins_eta, wrow_eq, evs_eq, encEv_def, List.map_cons, List.map_nil, *] | simp (disch := omega) only [if_pos, if_neg] | refine R.seq ?_ | refine LCB.text ?_ | refine LCB.quiet rfl ?_ | refine R.anyX ?_ | refine R.block ?_ | refine LCB.skip ?_ | refine LCB.exit ?_ | refine LCB.ret ?_ | ((first | refine RetOk.val hcl ?_ | refine Weak.at hcl ?_); simp only [seval, evw, List.forall_mem_cons, List.forall_mem_map, List.forall_mem_append, List.not_mem_nil, sb, ew, insA, encIns, ins_dec, ins_eta, wrow_eq, evs_eq, encEv_def, List.map_cons, List.map_nil, *]) | ((first | refine LCB.cond (by simp only [seval, evx] <;> rfl) ?_ ?_ | refine wpG_split (by simp only [seval, evx] <;> rfl) ?_ ?_ | refine wxG_split (by simp only [seval, evx] <;> rfl) ?_ ?_) <;> (intro hc; try simp only [seval, nf] at hc)) | refine ACalls.inst ?_ | refine CallX.inst ?_ | (with_reducible refine And.intro ?_ ?_) | exact True.intro)
      (refine RetOk.upd (.tup []) (g5 _) (by rw [List.length_set]; exact hcl.set (vec_clean (by simp [cl_wc, cleanAll, AV.clean]))) ?_ ⟨rfl, rfl⟩; exact .same _ rfl)
  by_cases o15 : op = 15
  · subst o15
    have hW2 := hW.of
    rw [if_neg (by omega), if_neg (by omega), if_pos rfl] at hW2
    clear hW
    have hc2 := hcall.of va
    clear hcall
    by_cases hlt : s.asked < (ask.length : Int)
    · rw [if_pos hlt] at hW2
      simp only [hlt, if_true] at hc2
      subst hW2
      generalize hcs : callS s d (ask.getD s.asked.toNat 0) = s' at *
      have hpc' : s'.pc = s.pc := by rw [← hcs]; rfl
      have hlc' : (wc s'.L).length = 48 := by rw [wc_len, ← hcs]; simp [callS, hL.of]
      generalize ask.getD s.asked.toNat 0 = ans at *
      replace hcs := Hold.mk hcs
      replace hpc' := Hold.mk hpc'
      replace hc2 := Hold.mk hc2
      clear hlt
      repeat' (first | simp only [seval, evx, beq_self_eq_true, sb, ew, insA, encIns, ins_dec, ins_eta, wrow_eq, evs_eq, encEv_def, List.map_cons, List.map_nil, *] | simp (disch := omega) only [if_pos, if_neg] | refine R.seq ?_ | refine LCB.text ?_ | refine LCB.quiet rfl ?_ | refine R.anyX ?_ | refine R.block ?_ | refine LCB.skip ?_ | refine LCB.exit ?_ | refine LCB.ret ?_ | ((first | refine RetOk.val hcl ?_ | refine Weak.at hcl ?_); simp only [seval, evw, List.forall_mem_cons, List.forall_mem_map, List.forall_mem_append, List.not_mem_nil, sb, ew, insA, encIns, ins_dec, ins_eta, wrow_eq, evs_eq, encEv_def, List.map_cons, List.map_nil, *]) | ((first | refine LCB.cond (by simp only [seval, evx] <;> rfl) ?_ ?_ | refine wpG_split (by simp only [seval, evx] <;> rfl) ?_ ?_ | refine wxG_split (by simp only [seval, evx] <;> rfl) ?_ ?_) <;> (intro hc; try simp only [seval, nf] at hc)) | refine ACalls.inst ?_ | refine CallX.inst ?_ | (with_reducible refine And.intro ?_ ?_) | exact True.intro)
      refine hc2.of.mono ?_
      rintro r' H' ⟨rfl, rfl⟩
      repeat' (first | simp only [seval, evx, beq_self_eq_true, sb, ew, insA, encIns, ins_dec, ins_eta, wrow_eq, evs_eq, encEv_def, List.map_cons, List.map_nil, *] | simp (disch := omega) only [if_pos, if_neg] | refine R.seq ?_ | refine LCB.text ?_ | refine LCB.quiet rfl ?_ | refine R.anyX ?_ | refine R.block ?_ | refine LCB.skip ?_ | refine LCB.exit ?_ | refine LCB.ret ?_ | ((first | refine RetOk.val hcl ?_ | refine Weak.at hcl ?_); simp only [seval, evw, List.forall_mem_cons, List.forall_mem_map, List.forall_mem_append, List.not_mem_nil, sb, ew, insA, encIns, ins_dec, ins_eta, wrow_eq, evs_eq, encEv_def, List.map_cons, List.map_nil, *]) | ((first | refine LCB.cond (by simp only [seval, evx] <;> rfl) ?_ ?_ | refine wpG_split (by simp only [seval, evx] <;> rfl) ?_ ?_ | refine wxG_split (by simp only [seval, evx] <;> rfl) ?_ ?_) <;> (intro hc; try simp only [seval, nf] at hc)) | refine ACalls.inst ?_ | refine CallX.inst ?_ | (with_reducible refine And.intro ?_ ?_) | exact True.intro)
      (refine RetOk.upd (.tup []) (g5 _) (by rw [List.length_set]; exact hcl.set (vec_clean (by simp [cl_wc, cleanAll, AV.clean]))) ?_ ⟨rfl, rfl⟩; exact .same _ rfl)
    · rw [if_neg hlt] at hW2
      simp only [hlt, if_false] at hc2
      subst hW2
      replace hc2 := Hold.mk hc2
      clear hlt
      repeat' (first | simp only [seval, evx, beq_self_eq_true, sb, ew, insA, encIns, ins_dec, ins_eta, wrow_eq, evs_eq, encEv_def, List.map_cons, List.map_nil, *] | simp (disch := omega) only [if_pos, if_neg] | refine R.seq ?_ | refine LCB.text ?_ | refine LCB.quiet rfl ?_ | refine R.anyX ?_ | refine R.block ?_ | refine LCB.skip ?_ | refine LCB.exit ?_ | refine LCB.ret ?_ | ((first | refine RetOk.val hcl ?_ | refine Weak.at hcl ?_); simp only [seval, evw, List.forall_mem_cons, List.forall_mem_map, List.forall_mem_append, List.not_mem_nil, sb, ew, insA, encIns, ins_dec, ins_eta, wrow_eq, evs_eq, encEv_def, List.map_cons, List.map_nil, *]) | ((first | refine LCB.cond (by simp only [seval, evx] <;> rfl) ?_ ?_ | refine wpG_split (by simp only [seval, evx] <;> rfl) ?_ ?_ | refine wxG_split (by simp only [seval, evx] <;> rfl) ?_ ?_) <;> (intro hc; try simp only [seval, nf] at hc)) | refine ACalls.inst ?_ | refine CallX.inst ?_ | (with_reducible refine And.intro ?_ ?_) | exact True.intro)
      refine hc2.of.mono ?_
      rintro r' H' ⟨rfl, rfl⟩
      repeat' (first | simp only [seval, evx, beq_self_eq_true, sb, ew, insA, encIns, ins_dec, ins_eta, wrow_eq, evs_eq, encEv_def, List.map_cons, List.map_nil, *] | simp (disch := omega) only [if_pos, if_neg] | refine R.seq ?_ | refine LCB.text ?_ | refine LCB.quiet rfl ?_ | refine R.anyX ?_ | refine R.block ?_ | refine LCB.skip ?_ | refine LCB.exit ?_ | refine LCB.ret ?_ | ((first | refine RetOk.val hcl ?_ | refine Weak.at hcl ?_); simp only [seval, evw, List.forall_mem_cons, List.forall_mem_map, List.forall_mem_append, List.not_mem_nil, sb, ew, insA, encIns, ins_dec, ins_eta, wrow_eq, evs_eq, encEv_def, List.map_cons, List.map_nil, *]) | ((first | refine LCB.cond (by simp only [seval, evx] <;> rfl) ?_ ?_ | refine wpG_split (by simp only [seval, evx] <;> rfl) ?_ ?_ | refine wxG_split (by simp only [seval, evx] <;> rfl) ?_ ?_) <;> (intro hc; try simp only [seval, nf] at hc)) | refine ACalls.inst ?_ | refine CallX.inst ?_ | (with_reducible refine And.intro ?_ ?_) | exact True.intro)
      (refine RetOk.upd (.tup []) (g5 _) (by rw [List.length_set]; exact hcl.set (vec_clean (by simp [cl_wc, cleanAll, AV.clean]))) ?_ ⟨rfl, rfl⟩; exact .same _ rfl)
  by_cases o18 : op = 18
  · subst o18
    have hW2 := hW.of
    rw [if_neg (by omega), if_neg (by omega), if_neg (by omega), if_pos rfl] at hW2
    clear hW
    subst hW2
    repeat' (first | simp only [seval, evx, beq_self_eq_true, sb, ew, insA, encIns, ins_dec, ins_eta, wrow_eq, evs_eq, encEv_def, List.map_cons, List.map_nil, *] | simp (disch := omega) only [if_pos, if_neg] | refine R.seq ?_ | refine LCB.text ?_ | refine LCB.quiet rfl ?_ | refine R.anyX ?_ | refine R.block ?_ | refine LCB.skip ?_ | refine LCB.exit ?_ | refine LCB.ret ?_ | ((first | refine RetOk.val hcl ?_ | refine Weak.at hcl ?_); simp only [seval, evw, List.forall_mem_cons, List.forall_mem_map, List.forall_mem_append, List.not_mem_nil, sb, ew, insA, encIns, ins_dec, ins_eta, wrow_eq, evs_eq, encEv_def, List.map_cons, List.map_nil, *]) | ((first | refine LCB.cond (by simp only [seval, evx] <;> rfl) ?_ ?_ | refine wpG_split (by simp only [seval, evx] <;> rfl) ?_ ?_ | refine wxG_split (by simp only [seval, evx] <;> rfl) ?_ ?_) <;> (intro hc; try simp only [seval, nf] at hc)) | refine ACalls.inst ?_ | refine CallX.inst ?_ | (with_reducible refine And.intro ?_ ?_) | exact True.intro)
    (refine RetOk.upd (.tup []) (g5 _) (by rw [List.length_set]; exact hcl.set (vec_clean (by simp [cl_wc, cleanAll, AV.clean]))) ?_ ⟨rfl, rfl⟩; exact .same _ rfl)
  by_cases o17 : op = 17
  · subst o17
    have hW2 := hW.of
    rw [if_neg (by omega), if_neg (by omega), if_neg (by omega), if_neg (by omega), if_pos rfl] at hW2
    clear hW
    by_cases hz : va = 0
    · rw [if_pos hz] at hW2
      subst hW2
      subst hz
      repeat' (first | simp only [seval, evx, beq_self_eq_true, sb, ew, insA, encIns, ins_dec, ins_eta, wrow_eq, evs_eq, encEv_def, List.map_cons, List.map_nil, *] | simp (disch := omega) only [if_pos, if_neg] | refine R.seq ?_ | refine LCB.text ?_ | refine LCB.quiet rfl ?_ | refine R.anyX ?_ | refine R.block ?_ | refine LCB.skip ?_ | refine LCB.exit ?_ | refine LCB.ret ?_ | ((first | refine RetOk.val hcl ?_ | refine Weak.at hcl ?_); simp only [seval, evw, List.forall_mem_cons, List.forall_mem_map, List.forall_mem_append, List.not_mem_nil, sb, ew, insA, encIns, ins_dec, ins_eta, wrow_eq, evs_eq, encEv_def, List.map_cons, List.map_nil, *]) | ((first | refine LCB.cond (by simp only [seval, evx] <;> rfl) ?_ ?_ | refine wpG_split (by simp only [seval, evx] <;> rfl) ?_ ?_ | refine wxG_split (by simp only [seval, evx] <;> rfl) ?_ ?_) <;> (intro hc; try simp only [seval, nf] at hc)) | refine ACalls.inst ?_ | refine CallX.inst ?_ | (with_reducible refine And.intro ?_ ?_) | exact True.intro)
      (refine RetOk.upd (.tup []) (g5 _) (by rw [List.length_set]; exact hcl.set (vec_clean (by simp [cl_wc, cleanAll, AV.clean]))) ?_ ⟨rfl, rfl⟩; exact .same _ rfl)
    · rw [if_neg hz] at hW2
      subst hW2
      repeat' (first | simp only [seval, evx, beq_self_eq_true, sb, ew, insA, encIns, ins_dec, ins_eta, wrow_eq, evs_eq, encEv_def, List.map_cons, List.map_nil, *] | simp (disch := omega) only [if_pos, if_neg] | refine R.seq ?_ | refine LCB.text ?_ | refine LCB.quiet rfl ?_ | refine R.anyX ?_ | refine R.block ?_ | refine LCB.skip ?_ | refine LCB.exit ?_ | refine LCB.ret ?_ | ((first | refine RetOk.val hcl ?_ | refine Weak.at hcl ?_); simp only [seval, evw, List.forall_mem_cons, List.forall_mem_map, List.forall_mem_append, List.not_mem_nil, sb, ew, insA, encIns, ins_dec, ins_eta, wrow_eq, evs_eq, encEv_def, List.map_cons, List.map_nil, *]) | ((first | refine LCB.cond (by simp only [seval, evx] <;> rfl) ?_ ?_ | refine wpG_split (by simp only [seval, evx] <;> rfl) ?_ ?_ | refine wxG_split (by simp only [seval, evx] <;> rfl) ?_ ?_) <;> (intro hc; try simp only [seval, nf] at hc)) | refine ACalls.inst ?_ | refine CallX.inst ?_ | (with_reducible refine And.intro ?_ ?_) | exact True.intro)
      (refine RetOk.upd (.tup []) (g5 _) (by rw [List.length_set]; exact hcl.set (vec_clean (by simp [cl_wc, cleanAll, AV.clean]))) ?_ ⟨rfl, rfl⟩; exact .same _ rfl)
  by_cases o16 : op = 16
  · subst o16
    have hW2 := hW.of
    rw [if_neg (by omega), if_neg (by omega), if_neg (by omega), if_neg (by omega), if_neg (by omega), if_pos rfl] at hW2
    clear hW
    subst hW2
    repeat' (first | simp only [seval, evx, beq_self_eq_true, sb, ew, insA, encIns, ins_dec, ins_eta, wrow_eq, evs_eq, encEv_def, List.map_cons, List.map_nil, *] | simp (disch := omega) only [if_pos, if_neg] | refine R.seq ?_ | refine LCB.text ?_ | refine LCB.quiet rfl ?_ | refine R.anyX ?_ | refine R.block ?_ | refine LCB.skip ?_ | refine LCB.exit ?_ | refine LCB.ret ?_ | ((first | refine RetOk.val hcl ?_ | refine Weak.at hcl ?_); simp only [seval, evw, List.forall_mem_cons, List.forall_mem_map, List.forall_mem_append, List.not_mem_nil, sb, ew, insA, encIns, ins_dec, ins_eta, wrow_eq, evs_eq, encEv_def, List.map_cons, List.map_nil, *]) | ((first | refine LCB.cond (by simp only [seval, evx] <;> rfl) ?_ ?_ | refine wpG_split (by simp only [seval, evx] <;> rfl) ?_ ?_ | refine wxG_split (by simp only [seval, evx] <;> rfl) ?_ ?_) <;> (intro hc; try simp only [seval, nf] at hc)) | refine ACalls.inst ?_ | refine CallX.inst ?_ | (with_reducible refine And.intro ?_ ?_) | exact True.intro)
    (refine RetOk.upd (.tup []) (g5 _) (by rw [List.length_set]; exact hcl.set (vec_clean (by simp [cl_wc, cleanAll, AV.clean]))) ?_ ⟨rfl, rfl⟩; exact .same _ rfl)
  by_cases om : op = 1 ∨ op = 2 ∨ op = 3
  · have hW2 := hW.of
    rw [if_neg (by omega), if_neg (by omega), if_neg (by omega), if_neg (by omega), if_neg (by omega), if_neg (by omega), if_pos om] at hW2
    clear hW
    have hm := hmove.of om
    clear hmove
    have hmB : movesB op = true := by simp [movesB]; omega
    rw [hmB] at hins
    subst hW2
    generalize hms : moveS s ⟨op, (d : Int), (a : Int), (b : Int), xn, xto⟩ = s' at *
    have hlc' : (wc s'.L).length = 48 := by rw [wc_len, hlm.of, hL.of]
    replace hms := Hold.mk hms
    replace hm := Hold.mk hm
    clear om
    repeat' (first | simp only [seval, evx, beq_self_eq_true, sb, ew, insA, encIns, ins_dec, ins_eta, wrow_eq, evs_eq, encEv_def, List.map_cons, List.map_nil, *] | simp (disch := omega) only [if_pos, if_neg] | refine R.seq ?_ | refine LCB.text ?_ | refine LCB.quiet rfl ?_ | refine R.anyX ?_ | refine R.block ?_ | refine LCB.skip ?_ | refine LCB.exit ?_ | refine LCB.ret ?_ | ((first | refine RetOk.val hcl ?_ | refine Weak.at hcl ?_); simp only [seval, evw, List.forall_mem_cons, List.forall_mem_map, List.forall_mem_append, List.not_mem_nil, sb, ew, insA, encIns, ins_dec, ins_eta, wrow_eq, evs_eq, encEv_def, List.map_cons, List.map_nil, *]) | ((first | refine LCB.cond (by simp only [seval, evx] <;> rfl) ?_ ?_ | refine wpG_split (by simp only [seval, evx] <;> rfl) ?_ ?_ | refine wxG_split (by simp only [seval, evx] <;> rfl) ?_ ?_) <;> (intro hc; try simp only [seval, nf] at hc)) | refine ACalls.inst ?_ | refine CallX.inst ?_ | (with_reducible refine And.intro ?_ ?_) | exact True.intro)
    refine hm.of.mono ?_
    rintro r' H' ⟨rfl, rfl⟩
    repeat' (first | simp only [seval, evx, beq_self_eq_true, sb, ew, insA, encIns, ins_dec, ins_eta, wrow_eq, evs_eq, encEv_def, List.map_cons, List.map_nil, *] | simp (disch := omega) only [if_pos, if_neg] | refine R.seq ?_ | refine LCB.text ?_ | refine LCB.quiet rfl ?_ | refine R.anyX ?_ | refine R.block ?_ | refine LCB.skip ?_ | refine LCB.exit ?_ | refine LCB.ret ?_ | ((first | refine RetOk.val hcl ?_ | refine Weak.at hcl ?_); simp only [seval, evw, List.forall_mem_cons, List.forall_mem_map, List.forall_mem_append, List.not_mem_nil, sb, ew, insA, encIns, ins_dec, ins_eta, wrow_eq, evs_eq, encEv_def, List.map_cons, List.map_nil, *]) | ((first | refine LCB.cond (by simp only [seval, evx] <;> rfl) ?_ ?_ | refine wpG_split (by simp only [seval, evx] <;> rfl) ?_ ?_ | refine wxG_split (by simp only [seval, evx] <;> rfl) ?_ ?_) <;> (intro hc; try simp only [seval, nf] at hc)) | refine ACalls.inst ?_ | refine CallX.inst ?_ | (with_reducible refine And.intro ?_ ?_) | exact True.intro)
    (refine RetOk.upd (.tup []) (g5 _) (by rw [List.length_set]; exact hcl.set (vec_clean (by simp [cl_wc, cleanAll, AV.clean]))) ?_ ⟨rfl, rfl⟩; exact .same _ rfl)
  have hW2 := hW.of
  rw [if_neg o13, if_neg o14, if_neg o15, if_neg o18, if_neg o17, if_neg o16, if_neg om] at hW2
  clear hW
  have hmB : movesB op = false := by simp [movesB]; omega
  rw [hmB] at hins
  unfold nopR at hnum
  generalize numDo op va vb = q at *
  obtain ⟨v, how⟩ := q
  simp only at hW2 hnum
  replace hW2 := Hold.mk hW2
  replace om := Hold.mk om
  repeat' (first | simp only [seval, evx, beq_self_eq_true, sb, ew, insA, encIns, ins_dec, ins_eta, wrow_eq, evs_eq, encEv_def, List.map_cons, List.map_nil, *] | simp (disch := omega) only [if_pos, if_neg] | refine R.seq ?_ | refine LCB.text ?_ | refine LCB.quiet rfl ?_ | refine R.anyX ?_ | refine R.block ?_ | refine LCB.skip ?_ | refine LCB.exit ?_ | refine LCB.ret ?_ | ((first | refine RetOk.val hcl ?_ | refine Weak.at hcl ?_); simp only [seval, evw, List.forall_mem_cons, List.forall_mem_map, List.forall_mem_append, List.not_mem_nil, sb, ew, insA, encIns, ins_dec, ins_eta, wrow_eq, evs_eq, encEv_def, List.map_cons, List.map_nil, *]) | ((first | refine LCB.cond (by simp only [seval, evx] <;> rfl) ?_ ?_ | refine wpG_split (by simp only [seval, evx] <;> rfl) ?_ ?_ | refine wxG_split (by simp only [seval, evx] <;> rfl) ?_ ?_) <;> (intro hc; try simp only [seval, nf] at hc)) | refine ACalls.inst ?_ | refine CallX.inst ?_ | (with_reducible refine And.intro ?_ ?_) | exact True.intro)
  first | refine ACalls.pure (hnum.of) ?_ | refine CallP.pure (hnum.of) rfl ?_ | refine CallX.pure (hnum.of) ?_
  repeat' (first | simp only [seval, evx, beq_self_eq_true, sb, ew, insA, encIns, ins_dec, ins_eta, wrow_eq, evs_eq, encEv_def, List.map_cons, List.map_nil, *] | simp (disch := omega) only [if_pos, if_neg] | refine R.seq ?_ | refine LCB.text ?_ | refine LCB.quiet rfl ?_ | refine R.anyX ?_ | refine R.block ?_ | refine LCB.skip ?_ | refine LCB.exit ?_ | refine LCB.ret ?_ | ((first | refine RetOk.val hcl ?_ | refine Weak.at hcl ?_); simp only [seval, evw, List.forall_mem_cons, List.forall_mem_map, List.forall_mem_append, List.not_mem_nil, sb, ew, insA, encIns, ins_dec, ins_eta, wrow_eq, evs_eq, encEv_def, List.map_cons, List.map_nil, *]) | ((first | refine LCB.cond (by simp only [seval, evx] <;> rfl) ?_ ?_ | refine wpG_split (by simp only [seval, evx] <;> rfl) ?_ ?_ | refine wxG_split (by simp only [seval, evx] <;> rfl) ?_ ?_) <;> (intro hc; try simp only [seval, nf] at hc)) | refine ACalls.inst ?_ | refine CallX.inst ?_ | (with_reducible refine And.intro ?_ ?_) | exact True.intro)
  refine (hset.of v how).mono ?_
  rintro r' H' ⟨rfl, rfl⟩
  replace hW2 := hW2.of
  by_cases hh : how = 0
  · subst hh
    rw [if_pos rfl] at hW2
    subst hW2
    have hs : setS s d v 0 = { s with L := s.L.set d ⟨true, v⟩ } := by simp [setS]
    rw [hs]
    replace hs := Hold.mk hs
    have hwl2 : (wc (s.L.set d ⟨true, v⟩)).length = 48 := by rw [wc_len, List.length_set, hL.of]
    repeat' (first | simp only [seval, evx, beq_self_eq_true, sb, ew, insA, encIns, ins_dec, ins_eta, wrow_eq, evs_eq, encEv_def, List.map_cons, List.map_nil, *] | simp (disch := omega) only [if_pos, if_neg] | refine R.seq ?_ | refine LCB.text ?_ | refine LCB.quiet rfl ?_ | refine R.anyX ?_ | refine R.block ?_ | refine LCB.skip ?_ | refine LCB.exit ?_ | refine LCB.ret ?_ | ((first | refine RetOk.val hcl ?_ | refine Weak.at hcl ?_); simp only [seval, evw, List.forall_mem_cons, List.forall_mem_map, List.forall_mem_append, List.not_mem_nil, sb, ew, insA, encIns, ins_dec, ins_eta, wrow_eq, evs_eq, encEv_def, List.map_cons, List.map_nil, *]) | ((first | refine LCB.cond (by simp only [seval, evx] <;> rfl) ?_ ?_ | refine wpG_split (by simp only [seval, evx] <;> rfl) ?_ ?_ | refine wxG_split (by simp only [seval, evx] <;> rfl) ?_ ?_) <;> (intro hc; try simp only [seval, nf] at hc)) | refine ACalls.inst ?_ | refine CallX.inst ?_ | (with_reducible refine And.intro ?_ ?_) | exact True.intro)
    (refine RetOk.upd (.tup []) (g5 _) (by rw [List.length_set]; exact hcl.set (vec_clean (by simp [cl_wc, cleanAll, AV.clean]))) ?_ ⟨rfl, rfl⟩; exact .same _ rfl)
  · rw [if_neg hh] at hW2
    subst hW2
    have hs : setS s d v how = s := by simp [setS, hh]
    rw [hs]
    replace hs := Hold.mk hs
    repeat' (first | simp only [seval, evx, beq_self_eq_true, sb, ew, insA, encIns, ins_dec, ins_eta, wrow_eq, evs_eq, encEv_def, List.map_cons, List.map_nil, *] | simp (disch := omega) only [if_pos, if_neg] | refine R.seq ?_ | refine LCB.text ?_ | refine LCB.quiet rfl ?_ | refine R.anyX ?_ | refine R.block ?_ | refine LCB.skip ?_ | refine LCB.exit ?_ | refine LCB.ret ?_ | ((first | refine RetOk.val hcl ?_ | refine Weak.at hcl ?_); simp only [seval, evw, List.forall_mem_cons, List.forall_mem_map, List.forall_mem_append, List.not_mem_nil, sb, ew, insA, encIns, ins_dec, ins_eta, wrow_eq, evs_eq, encEv_def, List.map_cons, List.map_nil, *]) | ((first | refine LCB.cond (by simp only [seval, evx] <;> rfl) ?_ ?_ | refine wpG_split (by simp only [seval, evx] <;> rfl) ?_ ?_ | refine wxG_split (by simp only [seval, evx] <;> rfl) ?_ ?_) <;> (intro hc; try simp only [seval, nf] at hc)) | refine ACalls.inst ?_ | refine CallX.inst ?_ | (with_reducible refine And.intro ?_ ?_) | exact True.intro)
    (refine RetOk.upd (.tup []) (g5 _) (by rw [List.length_set]; exact hcl.set (vec_clean (by simp [cl_wc, cleanAll, AV.clean]))) ?_ ⟨rfl, rfl⟩; exact .same _ rfl)
end Go.Proofs.YtbkbehkjndmabaaDoor

/-
  ins: both say the same of what is needed.
-/
namespace Go.Proofs.YtbkbehkjndmabaaDoor
open Go.RowKit
set_option linter.unusedVariables false
set_option linter.unusedSimpArgs false

theorem uses_same (x : Ins) : usesL x = usesR x := by
  obtain ⟨op, d, a, b, n, to⟩ := x
  cases hok : opOk op
  · have h : ¬ (1 ≤ op ∧ op ≤ 18) := by simpa [opOk] using hok
    unfold usesL usesR
    simp only [hok, Bool.false_and, Bool.false_eq_true, if_false]
    rw [if_neg (by omega), if_neg (by omega)]
  · rcases op_cases hok with rfl | rfl | rfl | rfl | rfl | rfl | rfl | rfl | rfl | rfl | rfl | rfl | rfl | rfl | rfl | rfl | rfl | rfl <;> rfl

end Go.Proofs.YtbkbehkjndmabaaDoor

/-
  step: the next instruction is done.
-/
namespace Go.Proofs.YtbkbehkjndmabaaDoor
open Go.RowKit
set_option linter.unusedVariables false
set_option linter.unusedSimpArgs false
theorem places_of {x : Ins} {n : Int} (h : chk x n = 0) : ∃ d a b : Nat, x.d = (d : Int) ∧ d < 24 ∧ x.a = (a : Int) ∧ a < 24 ∧ x.b = (b : Int) ∧ b < 24 := by
  rw [chk_same] at h
  unfold chkR at h
  cases hf : badFormR x with
  | true => rw [hf, if_pos rfl] at h; simp at h
  | false =>
    cases hp : badPlaceR x with
    | true => rw [hf, hp] at h; simp at h
    | false =>
      have ho : onlyR x = x := by
        unfold badFormR at hf
        simp only [Bool.or_eq_false_iff] at hf
        simpa using hf.2.1
      have hb : x.b = sel (keepB x.op) x.b := by
        have := congrArg Ins.b ho
        exact this.symm
      unfold badPlaceR at hp
      by_cases h3 : x.op ≤ 3
      · rw [if_pos h3] at hp
        simp only [Bool.not_eq_false', Bool.and_eq_true, inR, decide_eq_true_eq] at hp
        have hb0 : x.b = 0 := by
          rw [hb]
          have : keepB x.op = false := by unfold keepB; simp; omega
          rw [this]; rfl
        exact ⟨x.d.toNat, x.a.toNat, 0, by omega, by omega, by omega, by omega, by omega, by omega⟩
      · rw [if_neg h3] at hp
        simp only [Bool.not_eq_false', Bool.and_eq_true, inR, decide_eq_true_eq] at hp
        exact ⟨x.d.toNat, x.a.toNat, x.b.toNat, by omega, by omega, by omega, by omega, by omega, by omega⟩
def wAt (L : List W) (l : Int) : W := L.getD l.toNat noW
def out0 : Out := ⟨0, 0, []⟩
/-- What a step makes of a state that is right, its events, and its outcome. -/
def stepF (f : List Ins) (s : St) (ask : List Int) : St × List Ev × Out :=
  if (usesR (f.getD s.pc.toNat noIns)).all (fun l => (wAt s.L l).is) then
    ((stepW s (f.getD s.pc.toNat noIns) ask).1, (stepW s (f.getD s.pc.toNat noIns) ask).2.1, ⟨(stepW s (f.getD s.pc.toNat noIns) ask).2.2.1, (stepW s (f.getD s.pc.toNat noIns) ask).2.2.2, if (stepW s (f.getD s.pc.toNat noIns) ask).2.2.1 = 1 then s.heap else []⟩)
  else (s, [], ⟨2, 0, []⟩)
def st0 : St := ⟨List.replicate 24 noW, [], 0, 0⟩
def z51 : List AV := [.bool false, .int .i64 0, .bool false, .int .i64 0, .bool false, .int .i64 0, .bool false, .int .i64 0, .bool false, .int .i64 0, .bool false, .int .i64 0, .bool false, .int .i64 0, .bool false, .int .i64 0, .bool false, .int .i64 0, .bool false, .int .i64 0, .bool false, .int .i64 0, .bool false, .int .i64 0, .bool false, .int .i64 0, .bool false, .int .i64 0, .bool false, .int .i64 0, .bool false, .int .i64 0, .bool false, .int .i64 0, .bool false, .int .i64 0, .bool false, .int .i64 0, .bool false, .int .i64 0, .bool false, .int .i64 0, .bool false, .int .i64 0, .bool false, .int .i64 0, .bool false, .int .i64 0, .imm (.slice none 0 0), .int .i64 0, .int .i64 0]
theorem z51_eq : z51 = [.bool false, .int .i64 0, .bool false, .int .i64 0, .bool false, .int .i64 0, .bool false, .int .i64 0, .bool false, .int .i64 0, .bool false, .int .i64 0, .bool false, .int .i64 0, .bool false, .int .i64 0, .bool false, .int .i64 0, .bool false, .int .i64 0, .bool false, .int .i64 0, .bool false, .int .i64 0, .bool false, .int .i64 0, .bool false, .int .i64 0, .bool false, .int .i64 0, .bool false, .int .i64 0, .bool false, .int .i64 0, .bool false, .int .i64 0, .bool false, .int .i64 0, .bool false, .int .i64 0, .bool false, .int .i64 0, .bool false, .int .i64 0, .bool false, .int .i64 0, .bool false, .int .i64 0, .imm (.slice none 0 0), .int .i64 0, .int .i64 0] := rfl
theorem st0_eq : stA st0 = .agg [.bool false, .int .i64 0, .bool false, .int .i64 0, .bool false, .int .i64 0, .bool false, .int .i64 0, .bool false, .int .i64 0, .bool false, .int .i64 0, .bool false, .int .i64 0, .bool false, .int .i64 0, .bool false, .int .i64 0, .bool false, .int .i64 0, .bool false, .int .i64 0, .bool false, .int .i64 0, .bool false, .int .i64 0, .bool false, .int .i64 0, .bool false, .int .i64 0, .bool false, .int .i64 0, .bool false, .int .i64 0, .bool false, .int .i64 0, .bool false, .int .i64 0, .bool false, .int .i64 0, .bool false, .int .i64 0, .bool false, .int .i64 0, .bool false, .int .i64 0, .bool false, .int .i64 0, .list [], .int .i64 0, .int .i64 0] := rfl
def stepA (f : List Ins) (s : St) (ask : List Int) : AV := if stRight f s then .tup [stA (stepF f s ask).1, evs (stepF f s ask).2.1, outA (stepF f s ask).2.2, .int .i64 0] else .tup [stA st0, evs [], outA out0, .int .i64 1]
theorem stRight_iff {f : List Ins} {s : St} : stRight f s = true ↔ fnOk f = true ∧ 0 ≤ s.pc ∧ s.pc < (f.length : Int) ∧ s.heap.length ≤ 16 ∧ 0 ≤ s.asked ∧ s.L.all okW = true := by
  unfold stRight
  simp only [Bool.and_eq_true, decide_eq_true_eq]
theorem stepW_len (s : St) (x : Ins) (ask : List Int) : (stepW s x ask).1.L.length = s.L.length := by
  unfold stepW
  simp only
  (repeat' split) <;> simp [setS, callS, moveS_len]
theorem stepW_keep (s : St) (x : Ins) (ask : List Int) (h : (stepW s x ask).2.2.1 = 1) : (stepW s x ask).1 = s := by
  revert h
  unfold stepW
  simp only
  (repeat' split) <;> simp
theorem usesR_mem {x : Ins} {l : Int} (h : l ∈ usesR x) : l = x.a ∨ l = x.b := by
  unfold usesR at h
  (repeat' split at h) <;> simp at h <;> omega
theorem usesR_len (x : Ins) : (usesR x).length ≤ 2 := by
  unfold usesR
  (repeat' split) <;> simp
set_option maxHeartbeats 4000000 in
theorem step_Do_ok (f : List Ins) (s : St) (ask : List Int) (hL : s.L.length = 24) (hask : (ask.length : Int) ≤ 9223372036854775807) : Pure Tryd.prog 17 [encFn f, stA s, ints ask] (stepA f s ask) := by
  intro H
  refine ACalls.go step_Do.low (by simp) fun hcl => ?_
  have hwl : (wc s.L).length = 48 := by rw [wc_len, hL]
  have h1 := step_Right_ok f s hL
  unfold stepA
  by_cases hR : stRight f s = true
  case neg =>
    have hR2 : stRight f s = false := by simpa using hR
    rw [if_neg hR, st0_eq, outA_eq]
    rw [hR2] at h1
    rw [stA_eq] at *
    unfold encFn ints out0 at *
    replace h1 := Hold.mk h1
    replace hL := Hold.mk hL
    clear hR hR2
    repeat' (first | simp only [seval, evx, beq_self_eq_true, sb, ew, insA, encIns, ins_dec, ins_eta, wrow_eq, evs_eq, encEv_def, List.map_cons, List.map_nil, z51_eq, *] | simp (disch := omega) only [if_pos, if_neg] | refine R.seq ?_ | refine LCB.text ?_ | refine LCB.quiet rfl ?_ | refine R.anyX ?_ | refine R.block ?_ | refine LCB.skip ?_ | refine LCB.exit ?_ | refine LCB.ret ?_ | ((first | refine RetOk.val hcl ?_ | refine Weak.at hcl ?_); simp only [seval, evw, List.forall_mem_cons, List.forall_mem_map, List.forall_mem_append, List.not_mem_nil, sb, ew, insA, encIns, ins_dec, ins_eta, wrow_eq, evs_eq, encEv_def, List.map_cons, List.map_nil, z51_eq, *]) | ((first | refine LCB.cond (by simp only [seval, evx] <;> rfl) ?_ ?_ | refine wpG_split (by simp only [seval, evx] <;> rfl) ?_ ?_ | refine wxG_split (by simp only [seval, evx] <;> rfl) ?_ ?_) <;> (intro hc; try simp only [seval, nf] at hc)) | refine ACalls.inst ?_ | refine CallX.inst ?_ | (with_reducible refine And.intro ?_ ?_) | exact True.intro)
    first | refine ACalls.pure (h1.of) ?_ | refine CallP.pure (h1.of) rfl ?_ | refine CallX.pure (h1.of) ?_
    repeat' (first | simp only [seval, evx, beq_self_eq_true, sb, ew, insA, encIns, ins_dec, ins_eta, wrow_eq, evs_eq, encEv_def, List.map_cons, List.map_nil, z51_eq, *] | simp (disch := omega) only [if_pos, if_neg] | refine R.seq ?_ | refine LCB.text ?_ | refine LCB.quiet rfl ?_ | refine R.anyX ?_ | refine R.block ?_ | refine LCB.skip ?_ | refine LCB.exit ?_ | refine LCB.ret ?_ | ((first | refine RetOk.val hcl ?_ | refine Weak.at hcl ?_); simp only [seval, evw, List.forall_mem_cons, List.forall_mem_map, List.forall_mem_append, List.not_mem_nil, sb, ew, insA, encIns, ins_dec, ins_eta, wrow_eq, evs_eq, encEv_def, List.map_cons, List.map_nil, z51_eq, *]) | ((first | refine LCB.cond (by simp only [seval, evx] <;> rfl) ?_ ?_ | refine wpG_split (by simp only [seval, evx] <;> rfl) ?_ ?_ | refine wxG_split (by simp only [seval, evx] <;> rfl) ?_ ?_) <;> (intro hc; try simp only [seval, nf] at hc)) | refine ACalls.inst ?_ | refine CallX.inst ?_ | (with_reducible refine And.intro ?_ ?_) | exact True.intro)
  rw [if_pos hR]
  rw [hR] at h1
  obtain ⟨r1, r2, r3, r4, r5, _⟩ := stRight_iff.1 hR
  obtain ⟨f1, f2, f3, _⟩ := fnOk_iff.1 r1
  obtain ⟨L, heap, pc, asked⟩ := s
  simp only at r2 r3 r4 r5 hL hwl
  obtain ⟨n, rfl⟩ := Int.eq_ofNat_of_zero_le r2
  have hn : n < f.length := by omega
  have hg := getD_encIns hn
  have hmem : f.getD n noIns ∈ f := by simp [List.getD, hn]
  obtain ⟨d, a, b, hd, hd2, ha, ha2, hb, hb2⟩ := places_of (f3 _ hmem)
  have hF : stepF f ⟨L, heap, (n : Int), asked⟩ ask = if (usesR (f.getD n noIns)).all (fun l => (wAt L l).is) then
    ((stepW ⟨L, heap, (n : Int), asked⟩ (f.getD n noIns) ask).1, (stepW ⟨L, heap, (n : Int), asked⟩ (f.getD n noIns) ask).2.1, ⟨(stepW ⟨L, heap, (n : Int), asked⟩ (f.getD n noIns) ask).2.2.1, (stepW ⟨L, heap, (n : Int), asked⟩ (f.getD n noIns) ask).2.2.2, if (stepW ⟨L, heap, (n : Int), asked⟩ (f.getD n noIns) ask).2.2.1 = 1 then heap else []⟩)
    else (⟨L, heap, (n : Int), asked⟩, [], ⟨2, 0, []⟩) := rfl
  have huse := ins_Uses_ok (f.getD n noIns)
  rw [uses_same] at huse
  have hum : ∀ l ∈ usesR (f.getD n noIns), ∃ m : Nat, l = (m : Int) ∧ m < 24 := fun l hl => by
    rcases usesR_mem hl with h | h
    · exact ⟨a, by rw [h, ha], ha2⟩
    · exact ⟨b, by rw [h, hb], hb2⟩
  have hul := usesR_len (f.getD n noIns)
  have hown := step_own_ok ⟨L, heap, (n : Int), asked⟩ hL (by simp only; omega)
  have hsl := stepW_len ⟨L, heap, (n : Int), asked⟩ (f.getD n noIns) ask
  have hsk := stepW_keep ⟨L, heap, (n : Int), asked⟩ (f.getD n noIns) ask
  have e1 : (n : Int) < (f.length : Int) := by omega
  have hdo := fun (G : List AObj) (k : Nat) hk hx => work_do_ok (H := G) (k := k) (s := ⟨L, heap, (n : Int), asked⟩) (x := f.getD n noIns) (ask := ask) d a b hd hd2 ha ha2 hb hb2 hk hx hL r5 hask (by simp only; omega) (by simp only; omega)
  generalize stepF f ⟨L, heap, (n : Int), asked⟩ ask = RES at *
  generalize f.getD n noIns = x at *
  generalize usesR x = U at *
  generalize stepW ⟨L, heap, (n : Int), asked⟩ x ask = q at *
  obtain ⟨s', ev, how, value⟩ := q
  simp only at hF hdo hsl hsk
  have hwl' : (wc s'.L).length = 48 := by rw [wc_len, hsl, hL]
  rw [insA_eq] at huse
  simp only [stA_eq, outA_eq] at h1 hown ⊢
  unfold encFn ints encInts at *
  replace h1 := Hold.mk h1
  replace hL := Hold.mk hL
  replace hF := Hold.mk hF
  replace hsl := Hold.mk hsl
  replace hsk := Hold.mk hsk
  replace huse := Hold.mk huse
  replace hum := Hold.mk hum
  replace hown := Hold.mk hown
  replace hdo := Hold.mk hdo
  replace hd := Hold.mk hd
  replace ha := Hold.mk ha
  replace hb := Hold.mk hb
  clear hR r1 f3 hmem r2 r3
  (refine R.seq ?_; refine LCB.text ?_; repeat' (first | simp only [seval, evx, beq_self_eq_true, sb, ew, insA, encIns, ins_dec, ins_eta, wrow_eq, evs_eq, encEv_def, List.map_cons, List.map_nil, z51_eq, *] | simp (disch := omega) only [if_pos, if_neg]))
  refine R.cut [(0, .list (f.map encIns)), (2, .list (ask.map encI)), (4, .ptr H.length 1 0 0), (6, .ptr (H.length + 1) 1 0 0), (8, .ptr (H.length + 2) 1 0 0)] (H ++ [.vec 51 [wc L ++ [.list (heap.map encI), .int .i64 (n : Int), .int .i64 asked]], .vec 51 [z51], .vec 3 [[.int .i64 0, .int .i64 0, .imm (.slice none 0 0)]]]) ?_ ?_
  · repeat' (first | simp only [seval, evx, beq_self_eq_true, sb, ew, insA, encIns, ins_dec, ins_eta, wrow_eq, evs_eq, encEv_def, List.map_cons, List.map_nil, z51_eq, *] | simp (disch := omega) only [if_pos, if_neg] | refine R.seq ?_ | refine LCB.text ?_ | refine LCB.quiet rfl ?_ | refine R.anyX ?_ | refine R.block ?_ | refine LCB.skip ?_ | refine LCB.exit ?_ | refine LCB.ret ?_ | ((first | refine RetOk.val hcl ?_ | refine Weak.at hcl ?_); simp only [seval, evw, List.forall_mem_cons, List.forall_mem_map, List.forall_mem_append, List.not_mem_nil, sb, ew, insA, encIns, ins_dec, ins_eta, wrow_eq, evs_eq, encEv_def, List.map_cons, List.map_nil, z51_eq, *]) | ((first | refine LCB.cond (by simp only [seval, evx] <;> rfl) ?_ ?_ | refine wpG_split (by simp only [seval, evx] <;> rfl) ?_ ?_ | refine wxG_split (by simp only [seval, evx] <;> rfl) ?_ ?_) <;> (intro hc; try simp only [seval, nf] at hc)) | refine ACalls.inst ?_ | refine CallX.inst ?_ | (with_reducible refine And.intro ?_ ?_) | exact True.intro)
    first | refine ACalls.pure (h1.of) ?_ | refine CallP.pure (h1.of) rfl ?_ | refine CallX.pure (h1.of) ?_
    repeat' (first | simp only [seval, evx, beq_self_eq_true, sb, ew, insA, encIns, ins_dec, ins_eta, wrow_eq, evs_eq, encEv_def, List.map_cons, List.map_nil, z51_eq, *] | simp (disch := omega) only [if_pos, if_neg] | refine R.seq ?_ | refine LCB.text ?_ | refine LCB.quiet rfl ?_ | refine R.anyX ?_ | refine R.block ?_ | refine LCB.skip ?_ | refine LCB.exit ?_ | refine LCB.ret ?_ | ((first | refine RetOk.val hcl ?_ | refine Weak.at hcl ?_); simp only [seval, evw, List.forall_mem_cons, List.forall_mem_map, List.forall_mem_append, List.not_mem_nil, sb, ew, insA, encIns, ins_dec, ins_eta, wrow_eq, evs_eq, encEv_def, List.map_cons, List.map_nil, z51_eq, *]) | ((first | refine LCB.cond (by simp only [seval, evx] <;> rfl) ?_ ?_ | refine wpG_split (by simp only [seval, evx] <;> rfl) ?_ ?_ | refine wxG_split (by simp only [seval, evx] <;> rfl) ?_ ?_) <;> (intro hc; try simp only [seval, nf] at hc)) | refine ACalls.inst ?_ | refine CallX.inst ?_ | (with_reducible refine And.intro ?_ ?_) | exact True.intro)
  refine R.cut [(4, .ptr H.length 1 0 0), (6, .ptr (H.length + 1) 1 0 0), (8, .ptr (H.length + 2) 1 0 0), (10, .ptr (H.length + 3) 1 0 0)] (H ++ [.vec 51 [wc L ++ [.list (heap.map encI), .int .i64 (n : Int), .int .i64 asked]], .vec 51 [z51], .vec 3 [[.int .i64 0, .int .i64 0, .imm (.slice none 0 0)]], .vec 61 [wrow ⟨L, heap, (n : Int), asked⟩ x ask (.imm (.slice none 0 0)) 0 0]]) ?_ ?_
  · repeat' (first | simp only [seval, evx, beq_self_eq_true, sb, ew, insA, encIns, ins_dec, ins_eta, wrow_eq, evs_eq, encEv_def, List.map_cons, List.map_nil, z51_eq, *] | simp (disch := omega) only [if_pos, if_neg] | refine R.seq ?_ | refine LCB.text ?_ | refine LCB.quiet rfl ?_ | refine R.anyX ?_ | refine R.block ?_ | refine LCB.skip ?_ | refine LCB.exit ?_ | refine LCB.ret ?_ | ((first | refine RetOk.val hcl ?_ | refine Weak.at hcl ?_); simp only [seval, evw, List.forall_mem_cons, List.forall_mem_map, List.forall_mem_append, List.not_mem_nil, sb, ew, insA, encIns, ins_dec, ins_eta, wrow_eq, evs_eq, encEv_def, List.map_cons, List.map_nil, z51_eq, *]) | ((first | refine LCB.cond (by simp only [seval, evx] <;> rfl) ?_ ?_ | refine wpG_split (by simp only [seval, evx] <;> rfl) ?_ ?_ | refine wxG_split (by simp only [seval, evx] <;> rfl) ?_ ?_) <;> (intro hc; try simp only [seval, nf] at hc)) | refine ACalls.inst ?_ | refine CallX.inst ?_ | (with_reducible refine And.intro ?_ ?_) | exact True.intro)
    first | refine ACalls.pure (hown.of) ?_ | refine CallP.pure (hown.of) rfl ?_ | refine CallX.pure (hown.of) ?_
    repeat' (first | simp only [seval, evx, beq_self_eq_true, sb, ew, insA, encIns, ins_dec, ins_eta, wrow_eq, evs_eq, encEv_def, List.map_cons, List.map_nil, z51_eq, *] | simp (disch := omega) only [if_pos, if_neg] | refine R.seq ?_ | refine LCB.text ?_ | refine LCB.quiet rfl ?_ | refine R.anyX ?_ | refine R.block ?_ | refine LCB.skip ?_ | refine LCB.exit ?_ | refine LCB.ret ?_ | ((first | refine RetOk.val hcl ?_ | refine Weak.at hcl ?_); simp only [seval, evw, List.forall_mem_cons, List.forall_mem_map, List.forall_mem_append, List.not_mem_nil, sb, ew, insA, encIns, ins_dec, ins_eta, wrow_eq, evs_eq, encEv_def, List.map_cons, List.map_nil, z51_eq, *]) | ((first | refine LCB.cond (by simp only [seval, evx] <;> rfl) ?_ ?_ | refine wpG_split (by simp only [seval, evx] <;> rfl) ?_ ?_ | refine wxG_split (by simp only [seval, evx] <;> rfl) ?_ ?_) <;> (intro hc; try simp only [seval, nf] at hc)) | refine ACalls.inst ?_ | refine CallX.inst ?_ | (with_reducible refine And.intro ?_ ?_) | exact True.intro)
  refine LCB.pre (Weak.loseAt [.vec 51 [wc L ++ [.list (heap.map encI), .int .i64 (n : Int), .int .i64 asked]], .vec 51 [z51], .vec 3 [[.int .i64 0, .int .i64 0, .imm (.slice none 0 0)]], .vec 61 [wrow ⟨L, heap, (n : Int), asked⟩ x ask (.list []) 0 0]] [(4, .ptr H.length 1 0 0), (6, .ptr (H.length + 1) 1 0 0), (8, .ptr (H.length + 2) 1 0 0), (10, .ptr (H.length + 3) 1 0 0)] (by simp only [seval, evw, lk, List.forall_mem_cons, List.forall_mem_map, List.forall_mem_append, List.not_mem_nil, sb, ew, insA, encIns, ins_dec, ins_eta, wrow_eq, evs_eq, encEv_def, List.map_cons, List.map_nil, z51_eq, *])) ?_
  have hU : Hold (U.all (fun l => (wAt L l).is) = (U.drop 0).all (fun l => (wAt L l).is)) := ⟨rfl⟩
  repeat' (first | simp only [seval, evx, beq_self_eq_true, sb, ew, insA, encIns, ins_dec, ins_eta, wrow_eq, evs_eq, encEv_def, List.map_cons, List.map_nil, z51_eq, *] | simp (disch := omega) only [if_pos, if_neg] | refine R.seq ?_ | refine LCB.text ?_ | refine LCB.quiet rfl ?_ | refine R.anyX ?_ | refine R.block ?_ | refine LCB.skip ?_ | refine LCB.exit ?_ | refine LCB.ret ?_ | ((first | refine RetOk.val hcl ?_ | refine Weak.at hcl ?_); simp only [seval, evw, List.forall_mem_cons, List.forall_mem_map, List.forall_mem_append, List.not_mem_nil, sb, ew, insA, encIns, ins_dec, ins_eta, wrow_eq, evs_eq, encEv_def, List.map_cons, List.map_nil, z51_eq, *]) | ((first | refine LCB.cond (by simp only [seval, evx] <;> rfl) ?_ ?_ | refine wpG_split (by simp only [seval, evx] <;> rfl) ?_ ?_ | refine wxG_split (by simp only [seval, evx] <;> rfl) ?_ ?_) <;> (intro hc; try simp only [seval, nf] at hc)) | refine ACalls.inst ?_ | refine CallX.inst ?_ | (with_reducible refine And.intro ?_ ?_) | exact True.intro)
  first | refine ACalls.pure (huse.of) ?_ | refine CallP.pure (huse.of) rfl ?_ | refine CallX.pure (huse.of) ?_
  repeat' (first | simp only [seval, evx, beq_self_eq_true, sb, ew, insA, encIns, ins_dec, ins_eta, wrow_eq, evs_eq, encEv_def, List.map_cons, List.map_nil, z51_eq, *] | simp (disch := omega) only [if_pos, if_neg] | refine R.seq ?_ | refine LCB.text ?_ | refine LCB.quiet rfl ?_ | refine R.anyX ?_ | refine R.block ?_ | refine LCB.skip ?_ | refine LCB.exit ?_ | refine LCB.ret ?_ | ((first | refine RetOk.val hcl ?_ | refine Weak.at hcl ?_); simp only [seval, evw, List.forall_mem_cons, List.forall_mem_map, List.forall_mem_append, List.not_mem_nil, sb, ew, insA, encIns, ins_dec, ins_eta, wrow_eq, evs_eq, encEv_def, List.map_cons, List.map_nil, z51_eq, *]) | ((first | refine LCB.cond (by simp only [seval, evx] <;> rfl) ?_ ?_ | refine wpG_split (by simp only [seval, evx] <;> rfl) ?_ ?_ | refine wxG_split (by simp only [seval, evx] <;> rfl) ?_ ?_) <;> (intro hc; try simp only [seval, nf] at hc)) | refine ACalls.inst ?_ | refine CallX.inst ?_ | (with_reducible refine And.intro ?_ ?_) | exact True.intro)
  refine R.loop (S := Nat) ⟨fun i => [(4, .ptr H.length 1 0 0), (6, .ptr (H.length + 1) 1 0 0), (8, .ptr (H.length + 2) 1 0 0), (10, .ptr (H.length + 3) 1 0 0), (34, .list (U.map encI)), (35, .int .i64 (U.length : Int)), (36, .int .i64 (i : Int))],
    fun i => H ++ [.vec 51 [wc L ++ [.list (heap.map encI), .int .i64 (n : Int), .int .i64 asked]], .vec 51 [z51], .vec 3 [[.int .i64 0, .int .i64 0, .imm (.slice none 0 0)]], .vec 61 [wrow ⟨L, heap, (n : Int), asked⟩ x ask (.list []) 0 0]],
    fun i => i ≤ U.length ∧ U.all (fun l => (wAt L l).is) = (U.drop i).all (fun l => (wAt L l).is), fun i => U.length - i⟩ 0 ⟨Nat.zero_le _, hU.of⟩ (Weak.at hcl ?_) ?_
  · simp only [seval, evw, List.forall_mem_cons, List.forall_mem_map, List.forall_mem_append, List.not_mem_nil, sb, ew, insA, encIns, ins_dec, ins_eta, wrow_eq, evs_eq, encEv_def, List.map_cons, List.map_nil, z51_eq, *]
  rintro i ⟨hi, hq⟩
  simp only at hi hq ⊢
  by_cases hlt : i < U.length
  · have e2 : (i : Int) < (U.length : Int) := by omega
    have e3 : IntKind.i64.wrap ((i : Int) + 1) = ((i + 1 : Nat) : Int) := by rw [IntKind.wrap_i64]; omega
    have hgu := getD_encI hlt
    obtain ⟨m, hm, hm2⟩ := hum.of (U.getD i 0) (by simp [List.getD, hlt])
    rw [hm] at hgu
    have hdr : U.drop i = U.getD i 0 :: U.drop (i + 1) := by
      rw [List.drop_eq_getElem_cons hlt]
      simp [List.getD, hlt]
    rw [hdr, hm, List.all_cons] at hq
    have hll := hL.of
    have hgi := wr_is (L := L) (r := [.list (heap.map encI), .int .i64 (n : Int), .int .i64 asked]) (i := m) (by omega)
    have e4 : (m : Int) < 24 := by omega
    have hwm : wAt L (m : Int) = L.getD m noW := by simp [wAt]
    rw [hwm] at hq
    generalize L.getD m noW = w at *
    clear hll
    replace hm := Hold.mk hm
    replace hdr := Hold.mk hdr
    replace hwm := Hold.mk hwm
    cases hwi : w.is
    · rw [hwi] at hgi hq
      have hF2 := hF.of
      rw [hq, Bool.false_and, if_neg (by simp)] at hF2
      subst hF2
      replace hq := Hold.mk hq
      replace hwi := Hold.mk hwi
      repeat' (first | simp only [seval, evx, beq_self_eq_true, sb, ew, insA, encIns, ins_dec, ins_eta, wrow_eq, evs_eq, encEv_def, List.map_cons, List.map_nil, z51_eq, *] | simp (disch := omega) only [if_pos, if_neg] | refine R.seq ?_ | refine LCB.text ?_ | refine LCB.quiet rfl ?_ | refine R.anyX ?_ | refine R.block ?_ | refine LCB.skip ?_ | refine LCB.exit ?_ | refine LCB.ret ?_ | ((first | refine RetOk.val hcl ?_ | refine Weak.at hcl ?_); simp only [seval, evw, List.forall_mem_cons, List.forall_mem_map, List.forall_mem_append, List.not_mem_nil, sb, ew, insA, encIns, ins_dec, ins_eta, wrow_eq, evs_eq, encEv_def, List.map_cons, List.map_nil, z51_eq, *]) | ((first | refine LCB.cond (by simp only [seval, evx] <;> rfl) ?_ ?_ | refine wpG_split (by simp only [seval, evx] <;> rfl) ?_ ?_ | refine wxG_split (by simp only [seval, evx] <;> rfl) ?_ ?_) <;> (intro hc; try simp only [seval, nf] at hc)) | refine ACalls.inst ?_ | refine CallX.inst ?_ | (with_reducible refine And.intro ?_ ?_) | exact True.intro)
    · rw [hwi, Bool.true_and] at hq
      rw [hwi] at hgi
      replace hq := Hold.mk hq
      replace hwi := Hold.mk hwi
      repeat' (first | simp only [seval, evx, beq_self_eq_true, sb, ew, insA, encIns, ins_dec, ins_eta, wrow_eq, evs_eq, encEv_def, List.map_cons, List.map_nil, z51_eq, *] | simp (disch := omega) only [if_pos, if_neg] | refine R.seq ?_ | refine LCB.text ?_ | refine LCB.quiet rfl ?_ | refine R.anyX ?_ | refine R.block ?_ | refine LCB.skip ?_ | refine LCB.exit ?_ | refine LCB.ret ?_ | ((first | refine RetOk.val hcl ?_ | refine Weak.at hcl ?_); simp only [seval, evw, List.forall_mem_cons, List.forall_mem_map, List.forall_mem_append, List.not_mem_nil, sb, ew, insA, encIns, ins_dec, ins_eta, wrow_eq, evs_eq, encEv_def, List.map_cons, List.map_nil, z51_eq, *]) | ((first | refine LCB.cond (by simp only [seval, evx] <;> rfl) ?_ ?_ | refine wpG_split (by simp only [seval, evx] <;> rfl) ?_ ?_ | refine wxG_split (by simp only [seval, evx] <;> rfl) ?_ ?_) <;> (intro hc; try simp only [seval, nf] at hc)) | refine ACalls.inst ?_ | refine CallX.inst ?_ | (with_reducible refine And.intro ?_ ?_) | exact True.intro)
      refine ⟨i + 1, ⟨hlt, hq.of⟩, by simp only; omega, Weak.at hcl ?_⟩
      simp only [seval, evw, List.forall_mem_cons, List.forall_mem_map, List.forall_mem_append, List.not_mem_nil, sb, ew, insA, encIns, ins_dec, ins_eta, wrow_eq, evs_eq, encEv_def, List.map_cons, List.map_nil, z51_eq, *]
  · have hie : i = U.length := by omega
    subst hie
    have e2 : ¬ (U.length : Int) < (U.length : Int) := by omega
    rw [List.drop_length, List.all_nil] at hq
    have hF2 := hF.of
    rw [hq, if_pos rfl] at hF2
    subst hF2
    replace hq := Hold.mk hq
    have hd2' := hdo.of (H ++ [.vec 51 [wc L ++ [.list (heap.map encI), .int .i64 (n : Int), .int .i64 asked]], .vec 51 [z51], .vec 3 [[.int .i64 0, .int .i64 0, .imm (.slice none 0 0)]], .vec 61 [wrow ⟨L, heap, (n : Int), asked⟩ x ask (.list []) 0 0]]) (H.length + 3) (by simp) (by rw [hp_get]; rfl)
    replace hd2' := Hold.mk hd2'
    repeat' (first | simp only [seval, evx, beq_self_eq_true, sb, ew, insA, encIns, ins_dec, ins_eta, wrow_eq, evs_eq, encEv_def, List.map_cons, List.map_nil, z51_eq, *] | simp (disch := omega) only [if_pos, if_neg] | refine R.seq ?_ | refine LCB.text ?_ | refine LCB.quiet rfl ?_ | refine R.anyX ?_ | refine R.block ?_ | refine LCB.skip ?_ | refine LCB.exit ?_ | refine LCB.ret ?_ | ((first | refine RetOk.val hcl ?_ | refine Weak.at hcl ?_); simp only [seval, evw, List.forall_mem_cons, List.forall_mem_map, List.forall_mem_append, List.not_mem_nil, sb, ew, insA, encIns, ins_dec, ins_eta, wrow_eq, evs_eq, encEv_def, List.map_cons, List.map_nil, z51_eq, *]) | ((first | refine LCB.cond (by simp only [seval, evx] <;> rfl) ?_ ?_ | refine wpG_split (by simp only [seval, evx] <;> rfl) ?_ ?_ | refine wxG_split (by simp only [seval, evx] <;> rfl) ?_ ?_) <;> (intro hc; try simp only [seval, nf] at hc)) | refine ACalls.inst ?_ | refine CallX.inst ?_ | (with_reducible refine And.intro ?_ ?_) | exact True.intro)
    refine hd2'.of.mono ?_
    rintro r' H' ⟨rfl, rfl⟩
    by_cases h1w : how = 1
    · subst h1w
      have hs'' := hsk.of rfl
      subst hs''
      have rk : rowsOk 1 (heap.map encI) = true := rk_map fun x _ => ⟨rfl, rfl⟩
      have b1 : heap.length * 8 ≤ 140737488355328 := by omega
      have b2 : heap.length ≤ 9223372036854775807 := by omega
      have b3 : (0 + heap.length) * 8 ≤ 140737488355328 := by omega
      repeat' (first | simp only [seval, evx, beq_self_eq_true, sb, ew, insA, encIns, ins_dec, ins_eta, wrow_eq, evs_eq, encEv_def, List.map_cons, List.map_nil, z51_eq, *] | simp (disch := omega) only [if_pos, if_neg] | refine R.seq ?_ | refine LCB.text ?_ | refine LCB.quiet rfl ?_ | refine R.anyX ?_ | refine R.block ?_ | refine LCB.skip ?_ | refine LCB.exit ?_ | refine LCB.ret ?_ | ((first | refine RetOk.val hcl ?_ | refine Weak.at hcl ?_); simp only [seval, evw, List.forall_mem_cons, List.forall_mem_map, List.forall_mem_append, List.not_mem_nil, sb, ew, insA, encIns, ins_dec, ins_eta, wrow_eq, evs_eq, encEv_def, List.map_cons, List.map_nil, z51_eq, *]) | ((first | refine LCB.cond (by simp only [seval, evx] <;> rfl) ?_ ?_ | refine wpG_split (by simp only [seval, evx] <;> rfl) ?_ ?_ | refine wxG_split (by simp only [seval, evx] <;> rfl) ?_ ?_) <;> (intro hc; try simp only [seval, nf] at hc)) | refine ACalls.inst ?_ | refine CallX.inst ?_ | (with_reducible refine And.intro ?_ ?_) | exact True.intro)
    · rw [if_neg h1w]
      repeat' (first | simp only [seval, evx, beq_self_eq_true, sb, ew, insA, encIns, ins_dec, ins_eta, wrow_eq, evs_eq, encEv_def, List.map_cons, List.map_nil, z51_eq, *] | simp (disch := omega) only [if_pos, if_neg] | refine R.seq ?_ | refine LCB.text ?_ | refine LCB.quiet rfl ?_ | refine R.anyX ?_ | refine R.block ?_ | refine LCB.skip ?_ | refine LCB.exit ?_ | refine LCB.ret ?_ | ((first | refine RetOk.val hcl ?_ | refine Weak.at hcl ?_); simp only [seval, evw, List.forall_mem_cons, List.forall_mem_map, List.forall_mem_append, List.not_mem_nil, sb, ew, insA, encIns, ins_dec, ins_eta, wrow_eq, evs_eq, encEv_def, List.map_cons, List.map_nil, z51_eq, *]) | ((first | refine LCB.cond (by simp only [seval, evx] <;> rfl) ?_ ?_ | refine wpG_split (by simp only [seval, evx] <;> rfl) ?_ ?_ | refine wxG_split (by simp only [seval, evx] <;> rfl) ?_ ?_) <;> (intro hc; try simp only [seval, nf] at hc)) | refine ACalls.inst ?_ | refine CallX.inst ?_ | (with_reducible refine And.intro ?_ ?_) | exact True.intro)
end Go.Proofs.YtbkbehkjndmabaaDoor

