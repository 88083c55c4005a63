/-
  cand: the closures.
-/
import Derived.Test.YteoahfpnkbdkkaaD3
namespace Go.Proofs.Yteoahfpnkbdkkaa
set_option linter.unusedVariables false
set_option linter.unusedSimpArgs false

theorem RetOk.heap {B : Nat} {H : List AObj} {rs : List LRes} {QF : AV → List AObj → Prop} {t : Tm} {l : List AV} {r : AV} (hB : B ≤ H.length) (hcl : Clean H.length H) (he : resE ⟨t, H⟩ rs = some l) (hv : View H H.length (resV l) r) (hq : QF r H) : RetOk B rs QF ⟨t, H⟩ :=
  ⟨l, H.length, r, he, hB, by simpa using hcl, hv, by simpa using hq⟩

theorem Clean.set {m : Nat} {H : List AObj} {k : Nat} {o : AObj} (h : Clean m H) (ho : o.clean m) : Clean m (H.set k o) := fun j p hj => by
  rw [List.getElem?_set] at hj
  split at hj
  · split at hj
    · simp only [Option.some.injEq] at hj; subst hj; exact ho
    · simp at hj
  · exact h j p hj

def keysOf (ks : List Int) : List (AV × AV) := ks.map fun n => (.int .i64 n, .bool true)

theorem findKey_keys (a : Int) : ∀ (ks : List Int) (i : Nat), (a ∈ ks → ∃ j, findKeyA (.int .i64 a) (keysOf ks) i = some (some (j, .bool true)) ∧ i ≤ j ∧ (keysOf ks)[j - i]? = some (.int .i64 a, .bool true)) ∧ (a ∉ ks → findKeyA (.int .i64 a) (keysOf ks) i = some none)
  | [], i => by simp [keysOf, findKeyA]
  | k :: ks, i => by
    have ih := findKey_keys a ks (i + 1)
    by_cases h : a = k
    · subst h
      refine ⟨fun _ => ⟨i, ?_, Nat.le_refl _, ?_⟩, fun h => by simp at h⟩
      · simp [keysOf, findKeyA, keyIs]
      · simp [keysOf]
    · refine ⟨fun hm => ?_, fun hm => ?_⟩
      · have hm' : a ∈ ks := by
          rcases List.mem_cons.1 hm with e | e
          · exact absurd e h
          · exact e
        obtain ⟨j, h1, h2, h3⟩ := ih.1 hm'
        refine ⟨j, ?_, by omega, ?_⟩
        · have : keysOf (k :: ks) = (.int .i64 k, .bool true) :: keysOf ks := rfl
          rw [this]
          simp only [findKeyA, keyIs, if_true]
          have e : (a == k) = false := by simpa using h
          rw [e]
          exact h1
        · have : keysOf (k :: ks) = (.int .i64 k, .bool true) :: keysOf ks := rfl
          rw [this, show j - i = (j - (i + 1)) + 1 by omega, List.getElem?_cons_succ]
          exact h3
      · have hm' : a ∉ ks := fun e => hm (List.mem_cons_of_mem _ e)
        have : keysOf (k :: ks) = (.int .i64 k, .bool true) :: keysOf ks := rfl
        rw [this]
        simp only [findKeyA, keyIs, if_true]
        have e : (a == k) = false := by simpa using h
        rw [e]
        exact ih.2 hm'

/-- The least number from a on that is none of them. -/
def Fresh (ks : List Int) (a m : Int) : Prop := a ≤ m ∧ m ∉ ks ∧ ∀ x, a ≤ x → x < m → x ∈ ks

theorem cand_At_1_ok {H : List AObj} {kb kp n : Nat} {pool : List Int} (i : Int) (h1 : H[kb]? = some (.vec 1 [[.sl 1 kp n 0 n]])) (h2 : H[kp]? = some (.vec 1 (pool.map encI))) (hn : n = pool.length) (h0 : 0 ≤ i) (hp : 0 < n) :
    ACalls Try.prog 16 [.int .i64 i, .ptr kb 1 0 0] H fun r H' => r = .int .i64 (pool.getD (i.toNat % n) 0) ∧ H' = H := by
  refine ACalls.low cand_At_1.low (by simp) fun hcl => ?_
  have ht : i.tmod (n : Int) = ((i.toNat % n : Nat) : Int) := by
    obtain ⟨j, rfl⟩ := Int.eq_ofNat_of_zero_le h0
    rfl
  have hlt : i.toNat % n < n := Nat.mod_lt _ hp
  have hn0 : ¬ (n : Int) = 0 := by omega
  have g0 : 0 ≤ ((i.toNat % n : Nat) : Int) := by omega
  have g1 : ((i.toNat % n : Nat) : Int) < (n : Int) := by omega
  have g2 : i.toNat % n < pool.length := by omega
  have hrow := getD_map encI pool (i.toNat % n) g2
  have hrow2 : (pool.map encI)[i.toNat % n]? = some (encI pool[i.toNat % n]) := by simp [g2]
  have hv : pool.getD (i.toNat % n) 0 = pool[i.toNat % n] := by simp [g2]
  generalize hq : i.toNat % n = q at *
  unfold cand_At_1.lc
  refine LCB.seq (LCB.text ?_)
  simp only [wpL, wpG_none, wpG_hit, wpG_miss, wpO, stepL, pureStep, ev_tmp, ev_cst, Tm.put_some, Tm.put_none, argsT_zero, argsT_succ, List.map_cons, List.map_nil, Option.map_some, Option.map_none, Option.bind_some, Option.bind_none, reduceIte, reduceCtorEq, Nat.reduceEqDiff, Nat.reduceAdd, Nat.reduceLT, Nat.reduceLeDiff, Nat.reduceMul, Nat.reduceSub, Int.reduceLE, Int.reduceLT, Int.reduceToNat, Int.reduceAdd, Int.reduceSub, Int.reduceMul, Int.reduceEq, Int.reduceNe, List.length_cons, List.length_nil, List.length_map, CallA_fn, ne_eq, not_false_eq_true, not_true_eq_false, Bool.not_true, Bool.not_false, forall_const, false_implies, true_implies, implies_true, true_and, and_true, false_and, and_false, and_self, or_self, true_or, or_true, false_or, or_false, Bool.true_eq_false, Bool.false_eq_true, if_true, if_false, foldI_two, bdA_no, bdA_int, ixA_int, binA_int, arith, keepT, List.contains_cons, List.contains_nil, Nat.reduceBEq, Bool.or_true, Bool.true_or, Bool.or_false, Bool.false_or, Int.toNat_natCast, Nat.zero_add, Nat.add_zero]
  refine LCB.seq (LCB.quiet rfl ?_)
  simp only [wpL, wpG_none, wpG_hit, wpG_miss, wpO, stepL, pureStep, ev_tmp, ev_cst, Tm.put_some, Tm.put_none, argsT_zero, argsT_succ, List.map_cons, List.map_nil, Option.map_some, Option.map_none, Option.bind_some, Option.bind_none, reduceIte, reduceCtorEq, Nat.reduceEqDiff, Nat.reduceAdd, Nat.reduceLT, Nat.reduceLeDiff, Nat.reduceMul, Nat.reduceSub, Int.reduceLE, Int.reduceLT, Int.reduceToNat, Int.reduceAdd, Int.reduceSub, Int.reduceMul, Int.reduceEq, Int.reduceNe, List.length_cons, List.length_nil, List.length_map, CallA_fn, ne_eq, not_false_eq_true, not_true_eq_false, Bool.not_true, Bool.not_false, forall_const, false_implies, true_implies, implies_true, true_and, and_true, false_and, and_false, and_self, or_self, true_or, or_true, false_or, or_false, Bool.true_eq_false, Bool.false_eq_true, if_true, if_false, foldI_two, bdA_no, bdA_int, ixA_int, binA_int, arith, keepT, List.contains_cons, List.contains_nil, Nat.reduceBEq, Bool.or_true, Bool.true_or, Bool.or_false, Bool.false_or, Int.toNat_natCast, Nat.zero_add, Nat.add_zero, rowOf, partA, cellsOf, allCells, List.all_cons, List.all_nil, AV.cell, putRow, List.take_succ_cons, List.take_zero, List.take_nil, List.drop_zero, List.drop_succ_cons, List.drop_nil, List.nil_append, List.cons_append, List.append_nil, List.getElem?_cons_zero, List.getElem?_cons_succ, List.getElem?_nil, List.set_cons_zero, List.set_cons_succ, hp_get, hp_get0, hp_set, hp_set0, hp_len, hp_app, hp_take, Bool.and_true, Bool.true_and, Bool.and_self, Bool.and_false, Bool.false_and, fillA, fillRows, List.replicate_succ, List.replicate_zero, appendL, elems, rowsOk, Nat.add_assoc, beq_self_eq_true, h1, h2, hn0, ht, g0, g1, ← hn, hrow2, encI]
  refine LCB.ret ⟨.inr rfl, RetOk.pure0 hcl rfl (.same _ rfl) ⟨?_, rfl⟩⟩
  simp only [wpL, wpG_none, wpG_hit, wpG_miss, wpO, stepL, pureStep, ev_tmp, ev_cst, Tm.put_some, Tm.put_none, argsT_zero, argsT_succ, List.map_cons, List.map_nil, Option.map_some, Option.map_none, Option.bind_some, Option.bind_none, reduceIte, reduceCtorEq, Nat.reduceEqDiff, Nat.reduceAdd, Nat.reduceLT, Nat.reduceLeDiff, Nat.reduceMul, Nat.reduceSub, Int.reduceLE, Int.reduceLT, Int.reduceToNat, Int.reduceAdd, Int.reduceSub, Int.reduceMul, Int.reduceEq, Int.reduceNe, List.length_cons, List.length_nil, List.length_map, CallA_fn, ne_eq, not_false_eq_true, not_true_eq_false, Bool.not_true, Bool.not_false, forall_const, false_implies, true_implies, implies_true, true_and, and_true, false_and, and_false, and_self, or_self, true_or, or_true, false_or, or_false, Bool.true_eq_false, Bool.false_eq_true, if_true, if_false, foldI_two, bdA_no, bdA_int, ixA_int, binA_int, arith, keepT, List.contains_cons, List.contains_nil, Nat.reduceBEq, Bool.or_true, Bool.true_or, Bool.or_false, Bool.false_or, Int.toNat_natCast, Nat.zero_add, Nat.add_zero, resV, hv]

theorem cand_First_1_ok {H : List AObj} {km kk ka : Nat} {ks : List Int} {a m : Int} (h1 : H[km]? = some (.vec 1 [[.map kk]])) (h2 : H[kk]? = some (.map (keysOf ks))) (h3 : H[ka]? = some (.vec 1 [[.int .i64 a]])) (hf : Fresh ks a m) (ha : -9223372036854775807 ≤ a) (hm : m < 9223372036854775807) :
    ACalls Try.prog 14 [.ptr km 1 0 0, .ptr ka 1 0 0] H fun r H' => r = .int .i64 m ∧ H' = H.set ka (.vec 1 [[.int .i64 (m + 1)]]) := by
  refine ACalls.low cand_First_1.low (by simp) fun hcl => ?_
  obtain ⟨f1, f2, f3⟩ := hf
  have hma : km ≠ ka := fun e => by subst e; rw [h1] at h3; simp at h3
  have hka : kk ≠ ka := fun e => by subst e; rw [h2] at h3; simp at h3
  have hlt : ka < H.length := (List.getElem?_eq_some_iff.1 h3).1
  have s1 : ∀ o, (H.set ka o)[km]? = some (.vec 1 [[.map kk]]) := fun o => by rw [List.getElem?_set_ne (Ne.symm hma)]; exact h1
  have s2 : ∀ o, (H.set ka o)[kk]? = some (.map (keysOf ks)) := fun o => by rw [List.getElem?_set_ne (Ne.symm hka)]; exact h2
  have s3 : ∀ o, (H.set ka o)[ka]? = some o := fun o => by simp [hlt]
  have s4 : H.set ka (.vec 1 [[.int .i64 a]]) = H := by
    apply List.ext_getElem?
    intro j
    by_cases e : ka = j
    · subst e; rw [s3, h3]
    · rw [List.getElem?_set_ne e]
  unfold cand_First_1.lc
  refine LCB.seq (LCB.text ?_)
  simp only [wpL, wpG_none, wpG_hit, wpG_miss, wpO, stepL, pureStep, ev_tmp, ev_cst, Tm.put_some, Tm.put_none, argsT_zero, argsT_succ, List.map_cons, List.map_nil, Option.map_some, Option.map_none, Option.bind_some, Option.bind_none, reduceIte, reduceCtorEq, Nat.reduceEqDiff, Nat.reduceAdd, Nat.reduceLT, Nat.reduceLeDiff, Nat.reduceMul, Nat.reduceSub, Int.reduceLE, Int.reduceLT, Int.reduceToNat, Int.reduceAdd, Int.reduceSub, Int.reduceMul, Int.reduceEq, Int.reduceNe, List.length_cons, List.length_nil, List.length_map, CallA_fn, ne_eq, not_false_eq_true, not_true_eq_false, Bool.not_true, Bool.not_false, forall_const, false_implies, true_implies, implies_true, true_and, and_true, false_and, and_false, and_self, or_self, true_or, or_true, false_or, or_false, Bool.true_eq_false, Bool.false_eq_true, if_true, if_false, foldI_two, bdA_no, bdA_int, ixA_int, binA_int, arith, keepT, List.contains_cons, List.contains_nil, Nat.reduceBEq, Bool.or_true, Bool.true_or, Bool.or_false, Bool.false_or, Int.toNat_natCast, Nat.zero_add, Nat.add_zero]
  refine LCB.seq (LCB.block (LCB.loop (fun n σ => ∃ a', a ≤ a' ∧ a' ≤ m ∧ n = (m - a').toNat ∧ σ.H = H.set ka (.vec 1 [[.int .i64 a']]) ∧ σ.t 0 = .ptr km 1 0 0 ∧ σ.t 1 = .ptr ka 1 0 0) (m - a).toNat ⟨a, by omega, f1, rfl, s4.symm, rfl, rfl⟩ ?_))
  rintro n ⟨t, H'⟩ ⟨a', b1, b2, rfl, b3, b4, b5⟩
  simp only at b3 b4 b5
  subst b3
  refine LCB.seq (LCB.seq (LCB.text ?_))
  by_cases hmem : a' ∈ ks
  · obtain ⟨j, hj, _, _⟩ := (findKey_keys a' ks 0).1 hmem
    simp only [wpL, wpG_none, wpG_hit, wpG_miss, wpO, stepL, pureStep, ev_tmp, ev_cst, Tm.put_some, Tm.put_none, argsT_zero, argsT_succ, List.map_cons, List.map_nil, Option.map_some, Option.map_none, Option.bind_some, Option.bind_none, reduceIte, reduceCtorEq, Nat.reduceEqDiff, Nat.reduceAdd, Nat.reduceLT, Nat.reduceLeDiff, Nat.reduceMul, Nat.reduceSub, Int.reduceLE, Int.reduceLT, Int.reduceToNat, Int.reduceAdd, Int.reduceSub, Int.reduceMul, Int.reduceEq, Int.reduceNe, List.length_cons, List.length_nil, List.length_map, CallA_fn, ne_eq, not_false_eq_true, not_true_eq_false, Bool.not_true, Bool.not_false, forall_const, false_implies, true_implies, implies_true, true_and, and_true, false_and, and_false, and_self, or_self, true_or, or_true, false_or, or_false, Bool.true_eq_false, Bool.false_eq_true, if_true, if_false, foldI_two, bdA_no, bdA_int, ixA_int, binA_int, arith, keepT, List.contains_cons, List.contains_nil, Nat.reduceBEq, Bool.or_true, Bool.true_or, Bool.or_false, Bool.false_or, Int.toNat_natCast, Nat.zero_add, Nat.add_zero, rowOf, partA, cellsOf, allCells, List.all_cons, List.all_nil, AV.cell, putRow, List.take_succ_cons, List.take_zero, List.take_nil, List.drop_zero, List.drop_succ_cons, List.drop_nil, List.nil_append, List.cons_append, List.append_nil, List.getElem?_cons_zero, List.getElem?_cons_succ, List.getElem?_nil, List.set_cons_zero, List.set_cons_succ, hp_get, hp_get0, hp_set, hp_set0, hp_len, hp_app, hp_take, Bool.and_true, Bool.true_and, Bool.and_self, Bool.and_false, Bool.false_and, fillA, fillRows, List.replicate_succ, List.replicate_zero, appendL, elems, rowsOk, Nat.add_assoc, beq_self_eq_true, b4, b5, s1, s2, s3, isInt, hj]
    refine LCB.cond (t := true) (by simp only [wpL, wpG_none, wpG_hit, wpG_miss, wpO, stepL, pureStep, ev_tmp, ev_cst, Tm.put_some, Tm.put_none, argsT_zero, argsT_succ, List.map_cons, List.map_nil, Option.map_some, Option.map_none, Option.bind_some, Option.bind_none, reduceIte, reduceCtorEq, Nat.reduceEqDiff, Nat.reduceAdd, Nat.reduceLT, Nat.reduceLeDiff, Nat.reduceMul, Nat.reduceSub, Int.reduceLE, Int.reduceLT, Int.reduceToNat, Int.reduceAdd, Int.reduceSub, Int.reduceMul, Int.reduceEq, Int.reduceNe, List.length_cons, List.length_nil, List.length_map, CallA_fn, ne_eq, not_false_eq_true, not_true_eq_false, Bool.not_true, Bool.not_false, forall_const, false_implies, true_implies, implies_true, true_and, and_true, false_and, and_false, and_self, or_self, true_or, or_true, false_or, or_false, Bool.true_eq_false, Bool.false_eq_true, if_true, if_false, foldI_two, bdA_no, bdA_int, ixA_int, binA_int, arith, keepT, List.contains_cons, List.contains_nil, Nat.reduceBEq, Bool.or_true, Bool.true_or, Bool.or_false, Bool.false_or, Int.toNat_natCast, Nat.zero_add, Nat.add_zero]) (fun _ => LCB.skip ?_) (fun h => by simp at h)
    have hne : a' ≠ m := fun e => f2 (e ▸ hmem)
    refine LCB.block (LCB.text ?_)
    simp only [wpL, wpG_none, wpG_hit, wpG_miss, wpO, stepL, pureStep, ev_tmp, ev_cst, Tm.put_some, Tm.put_none, argsT_zero, argsT_succ, List.map_cons, List.map_nil, Option.map_some, Option.map_none, Option.bind_some, Option.bind_none, reduceIte, reduceCtorEq, Nat.reduceEqDiff, Nat.reduceAdd, Nat.reduceLT, Nat.reduceLeDiff, Nat.reduceMul, Nat.reduceSub, Int.reduceLE, Int.reduceLT, Int.reduceToNat, Int.reduceAdd, Int.reduceSub, Int.reduceMul, Int.reduceEq, Int.reduceNe, List.length_cons, List.length_nil, List.length_map, CallA_fn, ne_eq, not_false_eq_true, not_true_eq_false, Bool.not_true, Bool.not_false, forall_const, false_implies, true_implies, implies_true, true_and, and_true, false_and, and_false, and_self, or_self, true_or, or_true, false_or, or_false, Bool.true_eq_false, Bool.false_eq_true, if_true, if_false, foldI_two, bdA_no, bdA_int, ixA_int, binA_int, arith, keepT, List.contains_cons, List.contains_nil, Nat.reduceBEq, Bool.or_true, Bool.true_or, Bool.or_false, Bool.false_or, Int.toNat_natCast, Nat.zero_add, Nat.add_zero, rowOf, partA, cellsOf, allCells, List.all_cons, List.all_nil, AV.cell, putRow, List.take_succ_cons, List.take_zero, List.take_nil, List.drop_zero, List.drop_succ_cons, List.drop_nil, List.nil_append, List.cons_append, List.append_nil, List.getElem?_cons_zero, List.getElem?_cons_succ, List.getElem?_nil, List.set_cons_zero, List.set_cons_succ, hp_get, hp_get0, hp_set, hp_set0, hp_len, hp_app, hp_take, Bool.and_true, Bool.true_and, Bool.and_self, Bool.and_false, Bool.false_and, fillA, fillRows, List.replicate_succ, List.replicate_zero, appendL, elems, rowsOk, Nat.add_assoc, beq_self_eq_true, b4, b5, s1, s2, s3, List.set_set]
    rw [wrap_i64_in (by omega) (by omega)]
    exact ⟨(m - (a' + 1)).toNat, by omega, a' + 1, by omega, by omega, rfl, rfl⟩
  · have hj := (findKey_keys a' ks 0).2 hmem
    simp only [wpL, wpG_none, wpG_hit, wpG_miss, wpO, stepL, pureStep, ev_tmp, ev_cst, Tm.put_some, Tm.put_none, argsT_zero, argsT_succ, List.map_cons, List.map_nil, Option.map_some, Option.map_none, Option.bind_some, Option.bind_none, reduceIte, reduceCtorEq, Nat.reduceEqDiff, Nat.reduceAdd, Nat.reduceLT, Nat.reduceLeDiff, Nat.reduceMul, Nat.reduceSub, Int.reduceLE, Int.reduceLT, Int.reduceToNat, Int.reduceAdd, Int.reduceSub, Int.reduceMul, Int.reduceEq, Int.reduceNe, List.length_cons, List.length_nil, List.length_map, CallA_fn, ne_eq, not_false_eq_true, not_true_eq_false, Bool.not_true, Bool.not_false, forall_const, false_implies, true_implies, implies_true, true_and, and_true, false_and, and_false, and_self, or_self, true_or, or_true, false_or, or_false, Bool.true_eq_false, Bool.false_eq_true, if_true, if_false, foldI_two, bdA_no, bdA_int, ixA_int, binA_int, arith, keepT, List.contains_cons, List.contains_nil, Nat.reduceBEq, Bool.or_true, Bool.true_or, Bool.or_false, Bool.false_or, Int.toNat_natCast, Nat.zero_add, Nat.add_zero, rowOf, partA, cellsOf, allCells, List.all_cons, List.all_nil, AV.cell, putRow, List.take_succ_cons, List.take_zero, List.take_nil, List.drop_zero, List.drop_succ_cons, List.drop_nil, List.nil_append, List.cons_append, List.append_nil, List.getElem?_cons_zero, List.getElem?_cons_succ, List.getElem?_nil, List.set_cons_zero, List.set_cons_succ, hp_get, hp_get0, hp_set, hp_set0, hp_len, hp_app, hp_take, Bool.and_true, Bool.true_and, Bool.and_self, Bool.and_false, Bool.false_and, fillA, fillRows, List.replicate_succ, List.replicate_zero, appendL, elems, rowsOk, Nat.add_assoc, beq_self_eq_true, b4, b5, s1, s2, s3, isInt, hj]
    refine LCB.cond (t := false) (by simp only [wpL, wpG_none, wpG_hit, wpG_miss, wpO, stepL, pureStep, ev_tmp, ev_cst, Tm.put_some, Tm.put_none, argsT_zero, argsT_succ, List.map_cons, List.map_nil, Option.map_some, Option.map_none, Option.bind_some, Option.bind_none, reduceIte, reduceCtorEq, Nat.reduceEqDiff, Nat.reduceAdd, Nat.reduceLT, Nat.reduceLeDiff, Nat.reduceMul, Nat.reduceSub, Int.reduceLE, Int.reduceLT, Int.reduceToNat, Int.reduceAdd, Int.reduceSub, Int.reduceMul, Int.reduceEq, Int.reduceNe, List.length_cons, List.length_nil, List.length_map, CallA_fn, ne_eq, not_false_eq_true, not_true_eq_false, Bool.not_true, Bool.not_false, forall_const, false_implies, true_implies, implies_true, true_and, and_true, false_and, and_false, and_self, or_self, true_or, or_true, false_or, or_false, Bool.true_eq_false, Bool.false_eq_true, if_true, if_false, foldI_two, bdA_no, bdA_int, ixA_int, binA_int, arith, keepT, List.contains_cons, List.contains_nil, Nat.reduceBEq, Bool.or_true, Bool.true_or, Bool.or_false, Bool.false_or, Int.toNat_natCast, Nat.zero_add, Nat.add_zero]) (fun h => by simp at h) (fun _ => LCB.exit ?_)
    have he : a' = m := by
      by_cases e : a' = m
      · exact e
      · exact absurd (f3 a' b1 (by omega)) hmem
    subst he
    simp only [if_true]
    refine LCB.seq (LCB.text ?_)
    simp only [wpL, wpG_none, wpG_hit, wpG_miss, wpO, stepL, pureStep, ev_tmp, ev_cst, Tm.put_some, Tm.put_none, argsT_zero, argsT_succ, List.map_cons, List.map_nil, Option.map_some, Option.map_none, Option.bind_some, Option.bind_none, reduceIte, reduceCtorEq, Nat.reduceEqDiff, Nat.reduceAdd, Nat.reduceLT, Nat.reduceLeDiff, Nat.reduceMul, Nat.reduceSub, Int.reduceLE, Int.reduceLT, Int.reduceToNat, Int.reduceAdd, Int.reduceSub, Int.reduceMul, Int.reduceEq, Int.reduceNe, List.length_cons, List.length_nil, List.length_map, CallA_fn, ne_eq, not_false_eq_true, not_true_eq_false, Bool.not_true, Bool.not_false, forall_const, false_implies, true_implies, implies_true, true_and, and_true, false_and, and_false, and_self, or_self, true_or, or_true, false_or, or_false, Bool.true_eq_false, Bool.false_eq_true, if_true, if_false, foldI_two, bdA_no, bdA_int, ixA_int, binA_int, arith, keepT, List.contains_cons, List.contains_nil, Nat.reduceBEq, Bool.or_true, Bool.true_or, Bool.or_false, Bool.false_or, Int.toNat_natCast, Nat.zero_add, Nat.add_zero, rowOf, partA, cellsOf, allCells, List.all_cons, List.all_nil, AV.cell, putRow, List.take_succ_cons, List.take_zero, List.take_nil, List.drop_zero, List.drop_succ_cons, List.drop_nil, List.nil_append, List.cons_append, List.append_nil, List.getElem?_cons_zero, List.getElem?_cons_succ, List.getElem?_nil, List.set_cons_zero, List.set_cons_succ, hp_get, hp_get0, hp_set, hp_set0, hp_len, hp_app, hp_take, Bool.and_true, Bool.true_and, Bool.and_self, Bool.and_false, Bool.false_and, fillA, fillRows, List.replicate_succ, List.replicate_zero, appendL, elems, rowsOk, Nat.add_assoc, beq_self_eq_true, b4, b5, s1, s2, s3, List.set_set]
    rw [wrap_i64_in (by omega) (by omega)]
    refine LCB.seq (LCB.text ?_)
    simp only [wpL, wpG_none, wpG_hit, wpG_miss, wpO, stepL, pureStep, ev_tmp, ev_cst, Tm.put_some, Tm.put_none, argsT_zero, argsT_succ, List.map_cons, List.map_nil, Option.map_some, Option.map_none, Option.bind_some, Option.bind_none, reduceIte, reduceCtorEq, Nat.reduceEqDiff, Nat.reduceAdd, Nat.reduceLT, Nat.reduceLeDiff, Nat.reduceMul, Nat.reduceSub, Int.reduceLE, Int.reduceLT, Int.reduceToNat, Int.reduceAdd, Int.reduceSub, Int.reduceMul, Int.reduceEq, Int.reduceNe, List.length_cons, List.length_nil, List.length_map, CallA_fn, ne_eq, not_false_eq_true, not_true_eq_false, Bool.not_true, Bool.not_false, forall_const, false_implies, true_implies, implies_true, true_and, and_true, false_and, and_false, and_self, or_self, true_or, or_true, false_or, or_false, Bool.true_eq_false, Bool.false_eq_true, if_true, if_false, foldI_two, bdA_no, bdA_int, ixA_int, binA_int, arith, keepT, List.contains_cons, List.contains_nil, Nat.reduceBEq, Bool.or_true, Bool.true_or, Bool.or_false, Bool.false_or, Int.toNat_natCast, Nat.zero_add, Nat.add_zero, rowOf, partA, cellsOf, allCells, List.all_cons, List.all_nil, AV.cell, putRow, List.take_succ_cons, List.take_zero, List.take_nil, List.drop_zero, List.drop_succ_cons, List.drop_nil, List.nil_append, List.cons_append, List.append_nil, List.getElem?_cons_zero, List.getElem?_cons_succ, List.getElem?_nil, List.set_cons_zero, List.set_cons_succ, hp_get, hp_get0, hp_set, hp_set0, hp_len, hp_app, hp_take, Bool.and_true, Bool.true_and, Bool.and_self, Bool.and_false, Bool.false_and, fillA, fillRows, List.replicate_succ, List.replicate_zero, appendL, elems, rowsOk, Nat.add_assoc, beq_self_eq_true, b4, b5, s1, s2, s3, List.set_set]
    rw [wrap_i64_in (by omega) (by omega)]
    have hc : Clean H.length (H.set ka (.vec 1 [[.int .i64 (a' + 1)]])) := hcl.set (vec_clean (by simp [cleanAll, AV.clean]))
    refine LCB.ret ⟨.inr rfl, RetOk.heap (by simp) (by simpa using hc) rfl (.same _ rfl) ⟨?_, rfl⟩⟩
    simp only [wpL, wpG_none, wpG_hit, wpG_miss, wpO, stepL, pureStep, ev_tmp, ev_cst, Tm.put_some, Tm.put_none, argsT_zero, argsT_succ, List.map_cons, List.map_nil, Option.map_some, Option.map_none, Option.bind_some, Option.bind_none, reduceIte, reduceCtorEq, Nat.reduceEqDiff, Nat.reduceAdd, Nat.reduceLT, Nat.reduceLeDiff, Nat.reduceMul, Nat.reduceSub, Int.reduceLE, Int.reduceLT, Int.reduceToNat, Int.reduceAdd, Int.reduceSub, Int.reduceMul, Int.reduceEq, Int.reduceNe, List.length_cons, List.length_nil, List.length_map, CallA_fn, ne_eq, not_false_eq_true, not_true_eq_false, Bool.not_true, Bool.not_false, forall_const, false_implies, true_implies, implies_true, true_and, and_true, false_and, and_false, and_self, or_self, true_or, or_true, false_or, or_false, Bool.true_eq_false, Bool.false_eq_true, if_true, if_false, foldI_two, bdA_no, bdA_int, ixA_int, binA_int, arith, keepT, List.contains_cons, List.contains_nil, Nat.reduceBEq, Bool.or_true, Bool.true_or, Bool.or_false, Bool.false_or, Int.toNat_natCast, Nat.zero_add, Nat.add_zero, resV]
    congr 1
    omega
end Go.Proofs.Yteoahfpnkbdkkaa
