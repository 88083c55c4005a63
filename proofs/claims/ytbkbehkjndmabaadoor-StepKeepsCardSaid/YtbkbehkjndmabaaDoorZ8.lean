/-
  Texts of this claim, put together.
-/
import Derived.Test.YtbkbehkjndmabaaDoorZ7
/-
  step: the work in memory: its number, set, move and call.
-/
namespace Go.Proofs.YtbkbehkjndmabaaDoor
open Go.RowKit
set_option linter.unusedVariables false
set_option linter.unusedSimpArgs false
/-- Objects are given up, and one that was there is taken for another. -/
theorem LoseH.set {H L M : List AObj} {k z : Nat} {row row' : List AV} (hk : k < H.length)
    (h : LoseL (H.set k (.vec z [row]) ++ L) (H.set k (.vec z [row']) ++ M) L M ∧ row'.length = z ∧ Loses (H.set k (.vec z [row]) ++ L) (H.set k (.vec z [row']) ++ M) row row') : LoseH (H.set k (.vec z [row]) ++ L) (H.set k (.vec z [row']) ++ M) := by
  obtain ⟨h0, h3, h4⟩ := h
  obtain ⟨h1, h2⟩ := h0.spec
  refine ⟨by simp [h1], fun j o p g1 g2 => ?_⟩
  rcases Nat.lt_or_ge j H.length with hj | hj
  · rw [List.getElem?_append_left (by simpa using hj)] at g1 g2
    rw [List.getElem?_set] at g1 g2
    by_cases e : k = j
    · subst e
      simp only [hj, if_true, Option.some.injEq] at g1 g2
      subst g1; subst g2
      have := lo_row (H := H.set k (.vec z [row]) ++ L) (G := H.set k (.vec z [row']) ++ M) (z := z) (r := row) (s := row') ⟨h3, h4⟩
      rw [this]; trivial
    · rw [if_neg e] at g1 g2
      rw [g1] at g2
      cases g2
      exact .inl rfl
  · rw [List.getElem?_append_right (by simpa using hj)] at g1 g2
    simp only [List.length_set] at g1 g2
    exact h2 _ o p g1 g2
theorem Weak.loseSet {B N : Nat} {t : Tm} {H L : List AObj} {k z : Nat} {row : List AV} (row' : List AV) (M : List AObj) (sl : List (Nat × AV)) (hk : k < H.length)
    (h : LoseL (H.set k (.vec z [row]) ++ L) (H.set k (.vec z [row']) ++ M) L M ∧ row'.length = z ∧ Loses (H.set k (.vec z [row]) ++ L) (H.set k (.vec z [row']) ++ M) row row') (hs : ∀ p ∈ sl, Lose (H.set k (.vec z [row]) ++ L) (H.set k (.vec z [row']) ++ M) (t p.1) p.2) :
    Weak B N ⟨t, H.set k (.vec z [row]) ++ L⟩ ⟨mkT sl, H.set k (.vec z [row']) ++ M⟩ :=
  Weak.lose (LoseH.set hk h) fun n => by
    clear h
    induction sl with
    | nil => exact .dead _
    | cons p r ih =>
      obtain ⟨i, v⟩ := p
      rw [mkT_cons]
      split
      · rename_i e; subst e; exact hs (n, v) (by simp)
      · exact ih fun p hp => hs p (by simp [hp])

/-- What a step works on. -/
def wrow (s : St) (x : Ins) (ask : List Int) (ev : AV) (how value : Int) : List AV :=
  wc s.L ++ [.list (s.heap.map encI), .int .i64 s.pc, .int .i64 s.asked, .int .i64 x.op, .int .i64 x.d, .int .i64 x.a, .int .i64 x.b, .int .i64 x.n, .int .i64 x.to, .list (ask.map encI), ev, .int .i64 how, .int .i64 value]
theorem wrow_eq {s : St} {x : Ins} {ask : List Int} {ev : AV} {how value : Int} : wrow s x ask ev how value = wc s.L ++ [.list (s.heap.map encI), .int .i64 s.pc, .int .i64 s.asked, .int .i64 x.op, .int .i64 x.d, .int .i64 x.a, .int .i64 x.b, .int .i64 x.n, .int .i64 x.to, .list (ask.map encI), ev, .int .i64 how, .int .i64 value] := rfl
section
variable {H : List AObj} {k : Nat} (hk : k < H.length)
include hk
theorem ob_get (o : AObj) (L : List AObj) : (H.set k o ++ L)[k]? = some o := by rw [List.getElem?_append_left (by simpa using hk), set_get hk]
theorem ob_get0 (o : AObj) : (H.set k o)[k]? = some o := set_get hk
theorem ob_set (o p : AObj) (L : List AObj) : (H.set k o ++ L).set k p = H.set k p ++ L := by rw [List.set_append, if_pos (by simpa using hk), set_set]
omit hk in
theorem ob_set0 (o p : AObj) : (H.set k o).set k p = H.set k p := set_set
end
theorem work_number_ok {H : List AObj} {k : Nat} {L : List W} {r : List AV} (hk : k < H.length) (hx : H[k]? = some (.vec 61 [wc L ++ r])) (hL : L.length = 24) (i : Nat) (hi : i < 24) :
    ACalls Tryd.prog 58 [.ptr k 1 0 0, .int .i64 (i : Int)] H fun r' H' => r' = .int .i64 (L.getD i noW).v ∧ H' = H := by
  refine ACalls.go step_work_number.low (by simp) fun hcl => ?_
  have g1 : ∀ M : List AObj, (H ++ M)[k]? = some (.vec 61 [wc L ++ r]) := fun M => by rw [in_get hk, hx]
  have hg := wr_v (L := L) (r := r) (i := i) (by omega)
  have e1 : (i : Int) < 24 := by omega
  clear hx
  generalize (L.getD i noW).v = v at *
  repeat' (first | simp only [seval, evx, beq_self_eq_true, sb, ew, insA, encIns, ins_dec, ins_eta, wrow_eq, evs_eq, encEv_def, List.map_cons, List.map_nil, *] | simp (disch := omega) only [if_pos, if_neg] | refine R.seq ?_ | refine LCB.text ?_ | refine LCB.quiet rfl ?_ | refine R.anyX ?_ | refine R.block ?_ | refine LCB.skip ?_ | refine LCB.exit ?_ | refine LCB.ret ?_ | ((first | refine RetOk.val hcl ?_ | refine Weak.at hcl ?_); simp only [seval, evw, List.forall_mem_cons, List.forall_mem_map, List.forall_mem_append, List.not_mem_nil, sb, ew, insA, encIns, ins_dec, ins_eta, wrow_eq, evs_eq, encEv_def, List.map_cons, List.map_nil, *]) | ((first | refine LCB.cond (by simp only [seval, evx] <;> rfl) ?_ ?_ | refine wpG_split (by simp only [seval, evx] <;> rfl) ?_ ?_ | refine wxG_split (by simp only [seval, evx] <;> rfl) ?_ ?_) <;> (intro hc; try simp only [seval, nf] at hc)) | refine ACalls.inst ?_ | refine CallX.inst ?_ | (with_reducible refine And.intro ?_ ?_) | exact True.intro)
/-- A place gets a number, if all is well. -/
def setS (s : St) (d : Nat) (v how : Int) : St := if how = 0 then { s with L := s.L.set d ⟨true, v⟩ } else s
theorem work_set_ok {H : List AObj} {k : Nat} {s : St} {x : Ins} {ask : List Int} {ev : AV} {h0 value : Int} (v how : Int) (d : Nat) (hd : x.d = (d : Int)) (hd2 : d < 24) (hk : k < H.length) (hx : H[k]? = some (.vec 61 [wrow s x ask ev h0 value])) (hL : s.L.length = 24) (hev : ev.clean H.length = true) (hcev : ev.cell = true) :
    ACalls Tryd.prog 59 [.ptr k 1 0 0, .int .i64 v, .int .i64 how] H fun r' H' => r' = .tup [] ∧ H' = H.set k (.vec 61 [wrow (setS s d v how) x ask ev how value]) := by
  refine ACalls.go step_work_set.low (by simp) fun hcl => ?_
  have hwl : (wc s.L).length = 48 := by rw [wc_len, hL]
  have g1 : ∀ M : List AObj, (H ++ M)[k]? = some (.vec 61 [wrow s x ask ev h0 value]) := fun M => by rw [in_get hk, hx]
  have g2 : ∀ (M : List AObj) (o : AObj), (H ++ M).set k o = H.set k o ++ M := fun M o => in_set hk
  have g3 := ob_get hk
  have g4 := ob_set hk
  have g5 : ∀ o : AObj, H.length ≤ (H.set k o).length := fun o => by simp
  have hput := wr_put2 (L := s.L) (i := d) (r := [.list (s.heap.map encI), .int .i64 s.pc, .int .i64 s.asked, .int .i64 x.op, .int .i64 (d : Int), .int .i64 x.a, .int .i64 x.b, .int .i64 x.n, .int .i64 x.to, .list (ask.map encI), ev, .int .i64 how, .int .i64 value]) ⟨true, v⟩ (by omega)
  have hwl2 : (wc (s.L.set d ⟨true, v⟩)).length = 48 := by rw [wc_len, List.length_set, hL]
  have e1 : (d : Int) < 24 := by omega
  have e2 : d * 2 + 2 ≤ 61 := by omega
  clear hx
  obtain ⟨op, xd, xa, xb, xn, xto⟩ := x
  simp only at hd
  subst hd
  by_cases hh : how = 0
  · subst hh
    have hs : setS s d v 0 = { s with L := s.L.set d ⟨true, v⟩ } := by simp [setS]
    rw [hs]
    replace hs := Hold.mk hs
    replace hL := Hold.mk hL
    replace hev := Hold.mk hev
    repeat' (first | simp only [seval, evx, beq_self_eq_true, sb, ew, insA, encIns, ins_dec, ins_eta, wrow_eq, evs_eq, encEv_def, List.map_cons, List.map_nil, *] | simp (disch := omega) only [if_pos, if_neg] | refine R.seq ?_ | refine LCB.text ?_ | refine LCB.quiet rfl ?_ | refine R.anyX ?_ | refine R.block ?_ | refine LCB.skip ?_ | refine LCB.exit ?_ | refine LCB.ret ?_ | ((first | refine RetOk.val hcl ?_ | refine Weak.at hcl ?_); simp only [seval, evw, List.forall_mem_cons, List.forall_mem_map, List.forall_mem_append, List.not_mem_nil, sb, ew, insA, encIns, ins_dec, ins_eta, wrow_eq, evs_eq, encEv_def, List.map_cons, List.map_nil, *]) | ((first | refine LCB.cond (by simp only [seval, evx] <;> rfl) ?_ ?_ | refine wpG_split (by simp only [seval, evx] <;> rfl) ?_ ?_ | refine wxG_split (by simp only [seval, evx] <;> rfl) ?_ ?_) <;> (intro hc; try simp only [seval, nf] at hc)) | refine ACalls.inst ?_ | refine CallX.inst ?_ | (with_reducible refine And.intro ?_ ?_) | exact True.intro)
    (refine RetOk.upd (.tup []) (g5 _) (by rw [List.length_set]; exact hcl.set (vec_clean (by simp [cl_wc, cleanAll, AV.clean, hev.of]))) ?_ ⟨rfl, rfl⟩; exact .same _ rfl)
  · have hs : setS s d v how = s := by simp [setS, hh]
    rw [hs]
    replace hs := Hold.mk hs
    replace hL := Hold.mk hL
    replace hev := Hold.mk hev
    repeat' (first | simp only [seval, evx, beq_self_eq_true, sb, ew, insA, encIns, ins_dec, ins_eta, wrow_eq, evs_eq, encEv_def, List.map_cons, List.map_nil, *] | simp (disch := omega) only [if_pos, if_neg] | refine R.seq ?_ | refine LCB.text ?_ | refine LCB.quiet rfl ?_ | refine R.anyX ?_ | refine R.block ?_ | refine LCB.skip ?_ | refine LCB.exit ?_ | refine LCB.ret ?_ | ((first | refine RetOk.val hcl ?_ | refine Weak.at hcl ?_); simp only [seval, evw, List.forall_mem_cons, List.forall_mem_map, List.forall_mem_append, List.not_mem_nil, sb, ew, insA, encIns, ins_dec, ins_eta, wrow_eq, evs_eq, encEv_def, List.map_cons, List.map_nil, *]) | ((first | refine LCB.cond (by simp only [seval, evx] <;> rfl) ?_ ?_ | refine wpG_split (by simp only [seval, evx] <;> rfl) ?_ ?_ | refine wxG_split (by simp only [seval, evx] <;> rfl) ?_ ?_) <;> (intro hc; try simp only [seval, nf] at hc)) | refine ACalls.inst ?_ | refine CallX.inst ?_ | (with_reducible refine And.intro ?_ ?_) | exact True.intro)
    (refine RetOk.upd (.tup []) (g5 _) (by rw [List.length_set]; exact hcl.set (vec_clean (by simp [cl_wc, cleanAll, AV.clean, hev.of]))) ?_ ⟨rfl, rfl⟩; exact .same _ rfl)
/-- What a call comes to: nobody answers, or it is answered. -/
def callS (s : St) (d : Nat) (v : Int) : St := { s with L := s.L.set d ⟨true, v⟩, asked := s.asked + 1 }
set_option maxHeartbeats 1000000 in
theorem work_call_ok {H : List AObj} {k : Nat} {s : St} {x : Ins} {ask : List Int} {value : Int} (arg : Int) (d : Nat) (hd : x.d = (d : Int)) (hd2 : d < 24) (hk : k < H.length) (hx : H[k]? = some (.vec 61 [wrow s x ask (.list []) 0 value])) (hL : s.L.length = 24) (h0 : 0 ≤ s.asked) (hask : (ask.length : Int) ≤ 9223372036854775807) :
    ACalls Tryd.prog 62 [.ptr k 1 0 0, .int .i64 arg] H fun r' H' => r' = .tup [] ∧ H' = if s.asked < (ask.length : Int) then H.set k (.vec 61 [wrow (callS s d (ask.getD s.asked.toNat 0)) x ask (evs [⟨x.n, arg, ask.getD s.asked.toNat 0⟩]) 0 value]) else H.set k (.vec 61 [wrow s x ask (.list []) 5 value]) := by
  refine ACalls.go step_work_call.low (by simp) fun hcl => ?_
  have hwl : (wc s.L).length = 48 := by rw [wc_len, hL]
  have g1 : ∀ M : List AObj, (H ++ M)[k]? = some (.vec 61 [wrow s x ask (.list []) 0 value]) := fun M => by rw [in_get hk, hx]
  have g2 : ∀ (M : List AObj) (o : AObj), (H ++ M).set k o = H.set k o ++ M := fun M o => in_set hk
  have g3 := ob_get hk
  have g4 := ob_set hk
  have g5 : ∀ o : AObj, H.length ≤ (H.set k o).length := fun o => by simp
  have g6 : ∀ (o : AObj) (M : List AObj), (H.set k o ++ M)[H.length]? = M[0]? := fun o M => by rw [List.getElem?_append_right (by simp)]; simp
  have hev : Hold (True) := ⟨trivial⟩
  clear hx
  obtain ⟨op, xd, xa, xb, xn, xto⟩ := x
  simp only at hd
  subst hd
  by_cases hlt : s.asked < (ask.length : Int)
  · rw [show (fun (r' : AV) (H' : List AObj) => r' = AV.tup [] ∧ H' = if s.asked < (ask.length : Int) then H.set k (.vec 61 [wrow (callS s d (ask.getD s.asked.toNat 0)) ⟨op, (d : Int), xa, xb, xn, xto⟩ ask (evs [⟨xn, arg, ask.getD s.asked.toNat 0⟩]) 0 value]) else H.set k (.vec 61 [wrow s ⟨op, (d : Int), xa, xb, xn, xto⟩ ask (.list []) 5 value])) = fun r' H' => r' = AV.tup [] ∧ H' = H.set k (.vec 61 [wrow (callS s d (ask.getD s.asked.toNat 0)) ⟨op, (d : Int), xa, xb, xn, xto⟩ ask (evs [⟨xn, arg, ask.getD s.asked.toNat 0⟩]) 0 value]) from by funext r' H'; rw [if_pos hlt]]
    obtain ⟨n, hn⟩ := Int.eq_ofNat_of_zero_le h0
    obtain ⟨L, heap, pc, asked⟩ := s
    simp only at hn hL hwl hlt h0
    subst hn
    have hnl : n < ask.length := by omega
    have e1 : ¬ (ask.length : Int) ≤ (n : Int) := by omega
    have e2 : IntKind.i64.wrap ((n : Int) + 1) = ((n + 1 : Nat) : Int) := by rw [IntKind.wrap_i64]; omega
    have e3 : ((n : Int) + 1) = ((n + 1 : Nat) : Int) := by omega
    have hg := getD_encI hnl
    have hcS : callS ⟨L, heap, pc, (n : Int)⟩ d (ask.getD n 0) = ⟨L.set d ⟨true, ask.getD n 0⟩, heap, pc, ((n + 1 : Nat) : Int)⟩ := by simp [callS]
    have htn : ((n : Int)).toNat = n := by simp
    simp only [htn]
    rw [hcS]
    replace hcS := Hold.mk hcS
    replace e3 := Hold.mk e3
    replace htn := Hold.mk htn
    generalize ask.getD n 0 = v at *
    replace hL := Hold.mk hL
    clear hask h0
    repeat' (first | simp only [seval, evx, beq_self_eq_true, sb, ew, insA, encIns, ins_dec, ins_eta, wrow_eq, evs_eq, encEv_def, List.map_cons, List.map_nil, *] | simp (disch := omega) only [if_pos, if_neg] | refine R.seq ?_ | refine LCB.text ?_ | refine LCB.quiet rfl ?_ | refine R.anyX ?_ | refine R.block ?_ | refine LCB.skip ?_ | refine LCB.exit ?_ | refine LCB.ret ?_ | ((first | refine RetOk.val hcl ?_ | refine Weak.at hcl ?_); simp only [seval, evw, List.forall_mem_cons, List.forall_mem_map, List.forall_mem_append, List.not_mem_nil, sb, ew, insA, encIns, ins_dec, ins_eta, wrow_eq, evs_eq, encEv_def, List.map_cons, List.map_nil, *]) | ((first | refine LCB.cond (by simp only [seval, evx] <;> rfl) ?_ ?_ | refine wpG_split (by simp only [seval, evx] <;> rfl) ?_ ?_ | refine wxG_split (by simp only [seval, evx] <;> rfl) ?_ ?_) <;> (intro hc; try simp only [seval, nf] at hc)) | refine ACalls.inst ?_ | refine CallX.inst ?_ | (with_reducible refine And.intro ?_ ?_) | exact True.intro)
    refine ACalls.lose (G := H.set k (.vec 61 [wrow ⟨L, heap, pc, ((n + 1 : Nat) : Int)⟩ ⟨op, (d : Int), xa, xb, xn, xto⟩ ask (evs [⟨xn, arg, v⟩]) 0 value]) ++ [.gone]) (LoseH.set hk ⟨?_, ?_, ?_⟩) (Loses.refl _) ?_
    · simp only [seval, evw, lk, List.forall_mem_cons, List.forall_mem_map, List.forall_mem_append, List.not_mem_nil, sb, ew, insA, encIns, ins_dec, ins_eta, wrow_eq, evs_eq, encEv_def, List.map_cons, List.map_nil, *]
    · simp only [seval, evw, lk, List.forall_mem_cons, List.forall_mem_map, List.forall_mem_append, List.not_mem_nil, sb, ew, insA, encIns, ins_dec, ins_eta, wrow_eq, evs_eq, encEv_def, List.map_cons, List.map_nil, *]
    · simp only [seval, evw, lk, List.forall_mem_cons, List.forall_mem_map, List.forall_mem_append, List.not_mem_nil, sb, ew, insA, encIns, ins_dec, ins_eta, wrow_eq, evs_eq, encEv_def, List.map_cons, List.map_nil, *]
    refine (work_set_ok (s := ⟨L, heap, pc, ((n + 1 : Nat) : Int)⟩) (x := ⟨op, (d : Int), xa, xb, xn, xto⟩) v 0 d rfl hd2 (by simp; omega) (g3 _ _) hL.of rfl rfl).mono ?_
    rintro r' H' ⟨rfl, rfl⟩
    have hs : setS ⟨L, heap, pc, ((n + 1 : Nat) : Int)⟩ d v 0 = ⟨L.set d ⟨true, v⟩, heap, pc, ((n + 1 : Nat) : Int)⟩ := by simp [setS]
    rw [hs]
    replace hs := Hold.mk hs
    repeat' (first | simp only [seval, evx, beq_self_eq_true, sb, ew, insA, encIns, ins_dec, ins_eta, wrow_eq, evs_eq, encEv_def, List.map_cons, List.map_nil, *] | simp (disch := omega) only [if_pos, if_neg] | refine R.seq ?_ | refine LCB.text ?_ | refine LCB.quiet rfl ?_ | refine R.anyX ?_ | refine R.block ?_ | refine LCB.skip ?_ | refine LCB.exit ?_ | refine LCB.ret ?_ | ((first | refine RetOk.val hcl ?_ | refine Weak.at hcl ?_); simp only [seval, evw, List.forall_mem_cons, List.forall_mem_map, List.forall_mem_append, List.not_mem_nil, sb, ew, insA, encIns, ins_dec, ins_eta, wrow_eq, evs_eq, encEv_def, List.map_cons, List.map_nil, *]) | ((first | refine LCB.cond (by simp only [seval, evx] <;> rfl) ?_ ?_ | refine wpG_split (by simp only [seval, evx] <;> rfl) ?_ ?_ | refine wxG_split (by simp only [seval, evx] <;> rfl) ?_ ?_) <;> (intro hc; try simp only [seval, nf] at hc)) | refine ACalls.inst ?_ | refine CallX.inst ?_ | (with_reducible refine And.intro ?_ ?_) | exact True.intro)
    (refine RetOk.upd (.tup []) (g5 _) (by rw [List.length_set]; exact hcl.set (vec_clean (by simp [cl_wc, cleanAll, AV.clean, hev.of]))) ?_ ⟨rfl, rfl⟩; exact .same _ rfl)
  · rw [show (fun (r' : AV) (H' : List AObj) => r' = AV.tup [] ∧ H' = if s.asked < (ask.length : Int) then H.set k (.vec 61 [wrow (callS s d (ask.getD s.asked.toNat 0)) ⟨op, (d : Int), xa, xb, xn, xto⟩ ask (evs [⟨xn, arg, ask.getD s.asked.toNat 0⟩]) 0 value]) else H.set k (.vec 61 [wrow s ⟨op, (d : Int), xa, xb, xn, xto⟩ ask (.list []) 5 value])) = fun r' H' => r' = AV.tup [] ∧ H' = H.set k (.vec 61 [wrow s ⟨op, (d : Int), xa, xb, xn, xto⟩ ask (.list []) 5 value]) from by funext r' H'; rw [if_neg hlt]]
    have e1 : (ask.length : Int) ≤ s.asked := by omega
    replace hL := Hold.mk hL
    clear hask h0
    repeat' (first | simp only [seval, evx, beq_self_eq_true, sb, ew, insA, encIns, ins_dec, ins_eta, wrow_eq, evs_eq, encEv_def, List.map_cons, List.map_nil, *] | simp (disch := omega) only [if_pos, if_neg] | refine R.seq ?_ | refine LCB.text ?_ | refine LCB.quiet rfl ?_ | refine R.anyX ?_ | refine R.block ?_ | refine LCB.skip ?_ | refine LCB.exit ?_ | refine LCB.ret ?_ | ((first | refine RetOk.val hcl ?_ | refine Weak.at hcl ?_); simp only [seval, evw, List.forall_mem_cons, List.forall_mem_map, List.forall_mem_append, List.not_mem_nil, sb, ew, insA, encIns, ins_dec, ins_eta, wrow_eq, evs_eq, encEv_def, List.map_cons, List.map_nil, *]) | ((first | refine LCB.cond (by simp only [seval, evx] <;> rfl) ?_ ?_ | refine wpG_split (by simp only [seval, evx] <;> rfl) ?_ ?_ | refine wxG_split (by simp only [seval, evx] <;> rfl) ?_ ?_) <;> (intro hc; try simp only [seval, nf] at hc)) | refine ACalls.inst ?_ | refine CallX.inst ?_ | (with_reducible refine And.intro ?_ ?_) | exact True.intro)
    (refine RetOk.upd (.tup []) (g5 _) (by rw [List.length_set]; exact hcl.set (vec_clean (by simp [cl_wc, cleanAll, AV.clean, hev.of]))) ?_ ⟨rfl, rfl⟩; exact .same _ rfl)
/-- What only moves. -/
def moveS (s : St) (x : Ins) : St :=
  if x.op = 1 then { s with L := s.L.set x.d.toNat ⟨true, x.n⟩ }
  else if x.op = 2 then { s with L := s.L.set x.d.toNat (s.L.getD x.a.toNat noW) }
  else if x.op = 3 then { s with L := (s.L.set x.d.toNat (s.L.getD x.a.toNat noW)).set x.a.toNat (s.L.getD x.d.toNat noW) }
  else s
set_option maxHeartbeats 2000000 in
theorem work_move_ok {H : List AObj} {k : Nat} {s : St} {x : Ins} {ask : List Int} {value how : Int} (d a : Nat) (hd : x.d = (d : Int)) (hd2 : d < 24) (ha : x.a = (a : Int)) (ha2 : a < 24) (hop : x.op = 1 ∨ x.op = 2 ∨ x.op = 3) (hk : k < H.length) (hx : H[k]? = some (.vec 61 [wrow s x ask (.list []) how value])) (hL : s.L.length = 24) :
    ACalls Tryd.prog 64 [.ptr k 1 0 0] H fun r' H' => r' = .tup [] ∧ H' = H.set k (.vec 61 [wrow (moveS s x) x ask (.list []) how value]) := by
  refine ACalls.go step_work_move.low (by simp) fun hcl => ?_
  have hwl : (wc s.L).length = 48 := by rw [wc_len, hL]
  have g1 : ∀ M : List AObj, (H ++ M)[k]? = some (.vec 61 [wrow s x ask (.list []) how value]) := fun M => by rw [in_get hk, hx]
  have g2 : ∀ (M : List AObj) (o : AObj), (H ++ M).set k o = H.set k o ++ M := fun M o => in_set hk
  have g3 := ob_get hk
  have g4 := ob_set hk
  have g5 : ∀ o : AObj, H.length ≤ (H.set k o).length := fun o => by simp
  have hev : Hold (True) := ⟨trivial⟩
  clear hx
  obtain ⟨op, xd, xa, xb, xn, xto⟩ := x
  simp only at hd ha
  subst hd
  subst ha
  have e1 : (d : Int) < 24 := by omega
  have e2 : d * 2 + 2 ≤ 61 := by omega
  have e3 : (a : Int) < 24 := by omega
  have e4 : a * 2 + 2 ≤ 61 := by omega
  have e5 : d * 2 + 2 ≤ 48 + 13 := by omega
  have e6 : a * 2 + 2 ≤ 48 + 13 := by omega
  obtain ⟨L, heap, pc, asked⟩ := s
  simp only at hL hwl
  have hset : ∀ w : W, (wc (L.set d w)).length = 48 := fun w => by rw [wc_len, List.length_set, hL]
  by_cases o1 : op = 1
  · subst o1
    have hm : moveS ⟨L, heap, pc, asked⟩ ⟨1, (d : Int), (a : Int), xb, xn, xto⟩ = ⟨L.set d ⟨true, xn⟩, heap, pc, asked⟩ := by simp [moveS]
    rw [hm]
    replace hm := Hold.mk hm
    have hput := wr_put2 (L := L) (i := d) (r := [.list (heap.map encI), .int .i64 pc, .int .i64 asked, .int .i64 1, .int .i64 (d : Int), .int .i64 (a : Int), .int .i64 xb, .int .i64 xn, .int .i64 xto, .list (ask.map encI), .list [], .int .i64 how, .int .i64 value]) ⟨true, xn⟩ (by omega)
    replace hL := Hold.mk hL
    repeat' (first | simp only [seval, evx, beq_self_eq_true, sb, ew, insA, encIns, ins_dec, ins_eta, wrow_eq, evs_eq, encEv_def, List.map_cons, List.map_nil, *] | simp (disch := omega) only [if_pos, if_neg] | refine R.seq ?_ | refine LCB.text ?_ | refine LCB.quiet rfl ?_ | refine R.anyX ?_ | refine R.block ?_ | refine LCB.skip ?_ | refine LCB.exit ?_ | refine LCB.ret ?_ | ((first | refine RetOk.val hcl ?_ | refine Weak.at hcl ?_); simp only [seval, evw, List.forall_mem_cons, List.forall_mem_map, List.forall_mem_append, List.not_mem_nil, sb, ew, insA, encIns, ins_dec, ins_eta, wrow_eq, evs_eq, encEv_def, List.map_cons, List.map_nil, *]) | ((first | refine LCB.cond (by simp only [seval, evx] <;> rfl) ?_ ?_ | refine wpG_split (by simp only [seval, evx] <;> rfl) ?_ ?_ | refine wxG_split (by simp only [seval, evx] <;> rfl) ?_ ?_) <;> (intro hc; try simp only [seval, nf] at hc)) | refine ACalls.inst ?_ | refine CallX.inst ?_ | (with_reducible refine And.intro ?_ ?_) | exact True.intro)
    (refine RetOk.upd (.tup []) (g5 _) (by rw [List.length_set]; exact hcl.set (vec_clean (by simp [cl_wc, cleanAll, AV.clean, hev.of]))) ?_ ⟨rfl, rfl⟩; exact .same _ rfl)
  by_cases o2 : op = 2
  · subst o2
    have hm : moveS ⟨L, heap, pc, asked⟩ ⟨2, (d : Int), (a : Int), xb, xn, xto⟩ = ⟨L.set d (L.getD a noW), heap, pc, asked⟩ := by simp [moveS]
    rw [hm]
    replace hm := Hold.mk hm
    have hg := wr_pair (L := L) (i := a) (r := [.list (heap.map encI), .int .i64 pc, .int .i64 asked, .int .i64 2, .int .i64 (d : Int), .int .i64 (a : Int), .int .i64 xb, .int .i64 xn, .int .i64 xto, .list (ask.map encI), .list [], .int .i64 how, .int .i64 value]) (by omega)
    have hput := wr_put2 (L := L) (i := d) (r := [.list (heap.map encI), .int .i64 pc, .int .i64 asked, .int .i64 2, .int .i64 (d : Int), .int .i64 (a : Int), .int .i64 xb, .int .i64 xn, .int .i64 xto, .list (ask.map encI), .list [], .int .i64 how, .int .i64 value]) (L.getD a noW) (by omega)
    generalize L.getD a noW = w at *
    simp only [encW_def] at hg
    replace hL := Hold.mk hL
    repeat' (first | simp only [seval, evx, beq_self_eq_true, sb, ew, insA, encIns, ins_dec, ins_eta, wrow_eq, evs_eq, encEv_def, List.map_cons, List.map_nil, *] | simp (disch := omega) only [if_pos, if_neg] | refine R.seq ?_ | refine LCB.text ?_ | refine LCB.quiet rfl ?_ | refine R.anyX ?_ | refine R.block ?_ | refine LCB.skip ?_ | refine LCB.exit ?_ | refine LCB.ret ?_ | ((first | refine RetOk.val hcl ?_ | refine Weak.at hcl ?_); simp only [seval, evw, List.forall_mem_cons, List.forall_mem_map, List.forall_mem_append, List.not_mem_nil, sb, ew, insA, encIns, ins_dec, ins_eta, wrow_eq, evs_eq, encEv_def, List.map_cons, List.map_nil, *]) | ((first | refine LCB.cond (by simp only [seval, evx] <;> rfl) ?_ ?_ | refine wpG_split (by simp only [seval, evx] <;> rfl) ?_ ?_ | refine wxG_split (by simp only [seval, evx] <;> rfl) ?_ ?_) <;> (intro hc; try simp only [seval, nf] at hc)) | refine ACalls.inst ?_ | refine CallX.inst ?_ | (with_reducible refine And.intro ?_ ?_) | exact True.intro)
    (refine RetOk.upd (.tup []) (g5 _) (by rw [List.length_set]; exact hcl.set (vec_clean (by simp [cl_wc, cleanAll, AV.clean, hev.of]))) ?_ ⟨rfl, rfl⟩; exact .same _ rfl)
  by_cases o3 : op = 3
  · subst o3
    have hm : moveS ⟨L, heap, pc, asked⟩ ⟨3, (d : Int), (a : Int), xb, xn, xto⟩ = ⟨(L.set d (L.getD a noW)).set a (L.getD d noW), heap, pc, asked⟩ := by simp [moveS]
    rw [hm]
    replace hm := Hold.mk hm
    have hg := wr_pair (L := L) (i := a) (r := [.list (heap.map encI), .int .i64 pc, .int .i64 asked, .int .i64 3, .int .i64 (d : Int), .int .i64 (a : Int), .int .i64 xb, .int .i64 xn, .int .i64 xto, .list (ask.map encI), .list [], .int .i64 how, .int .i64 value]) (by omega)
    have hg2 := wr_pair (L := L) (i := d) (r := [.list (heap.map encI), .int .i64 pc, .int .i64 asked, .int .i64 3, .int .i64 (d : Int), .int .i64 (a : Int), .int .i64 xb, .int .i64 xn, .int .i64 xto, .list (ask.map encI), .list [], .int .i64 how, .int .i64 value]) (by omega)
    have hput := wr_put2 (L := L) (i := d) (r := [.list (heap.map encI), .int .i64 pc, .int .i64 asked, .int .i64 3, .int .i64 (d : Int), .int .i64 (a : Int), .int .i64 xb, .int .i64 xn, .int .i64 xto, .list (ask.map encI), .list [], .int .i64 how, .int .i64 value]) (L.getD a noW) (by omega)
    have hput2 := wr_put2 (L := L.set d (L.getD a noW)) (i := a) (r := [.list (heap.map encI), .int .i64 pc, .int .i64 asked, .int .i64 3, .int .i64 (d : Int), .int .i64 (a : Int), .int .i64 xb, .int .i64 xn, .int .i64 xto, .list (ask.map encI), .list [], .int .i64 how, .int .i64 value]) (L.getD d noW) (by rw [List.length_set]; omega)
    generalize L.getD a noW = w at *
    generalize L.getD d noW = u at *
    simp only [encW_def] at hg hg2
    replace hL := Hold.mk hL
    repeat' (first | simp only [seval, evx, beq_self_eq_true, sb, ew, insA, encIns, ins_dec, ins_eta, wrow_eq, evs_eq, encEv_def, List.map_cons, List.map_nil, *] | simp (disch := omega) only [if_pos, if_neg] | refine R.seq ?_ | refine LCB.text ?_ | refine LCB.quiet rfl ?_ | refine R.anyX ?_ | refine R.block ?_ | refine LCB.skip ?_ | refine LCB.exit ?_ | refine LCB.ret ?_ | ((first | refine RetOk.val hcl ?_ | refine Weak.at hcl ?_); simp only [seval, evw, List.forall_mem_cons, List.forall_mem_map, List.forall_mem_append, List.not_mem_nil, sb, ew, insA, encIns, ins_dec, ins_eta, wrow_eq, evs_eq, encEv_def, List.map_cons, List.map_nil, *]) | ((first | refine LCB.cond (by simp only [seval, evx] <;> rfl) ?_ ?_ | refine wpG_split (by simp only [seval, evx] <;> rfl) ?_ ?_ | refine wxG_split (by simp only [seval, evx] <;> rfl) ?_ ?_) <;> (intro hc; try simp only [seval, nf] at hc)) | refine ACalls.inst ?_ | refine CallX.inst ?_ | (with_reducible refine And.intro ?_ ?_) | exact True.intro)
    (refine RetOk.upd (.tup []) (g5 _) (by rw [List.length_set]; exact hcl.set (vec_clean (by simp [cl_wc, cleanAll, AV.clean, hev.of]))) ?_ ⟨rfl, rfl⟩; exact .same _ rfl)
  · simp only at hop
    omega
end Go.Proofs.YtbkbehkjndmabaaDoor

/-
  step: one instruction all of whose numbers are there.
-/
namespace Go.Proofs.YtbkbehkjndmabaaDoor
open Go.RowKit
set_option linter.unusedVariables false
set_option linter.unusedSimpArgs false
/-- What an instruction makes of a state, all of whose numbers are there: the state, the events, how, and the value. -/
def stepW (s : St) (x : Ins) (ask : List Int) : St × List Ev × Int × Int :=
  let a := (s.L.getD x.a.toNat noW).v
  let b := (s.L.getD x.b.toNat noW).v
  if x.op = 13 then (if (hLoad s.heap a).2 = 0 then ({ setS s x.d.toNat (hLoad s.heap a).1 0 with pc := s.pc + 1 }, [], 0, 0) else (s, [], (hLoad s.heap a).2, 0))
  else if x.op = 14 then (if (hStore s.heap a b).2 = 0 then ({ s with heap := (hStore s.heap a b).1, pc := s.pc + 1 }, [], 0, 0) else (s, [], (hStore s.heap a b).2, 0))
  else if x.op = 15 then (if s.asked < (ask.length : Int) then ({ callS s x.d.toNat (ask.getD s.asked.toNat 0) with pc := s.pc + 1 }, [⟨x.n, a, ask.getD s.asked.toNat 0⟩], 0, 0) else (s, [], 5, 0))
  else if x.op = 18 then (s, [], 1, a)
  else if x.op = 17 then ({ s with pc := if a = 0 then x.to else s.pc + 1 }, [], 0, 0)
  else if x.op = 16 then ({ s with pc := x.to }, [], 0, 0)
  else if x.op = 1 ∨ x.op = 2 ∨ x.op = 3 then ({ moveS s x with pc := s.pc + 1 }, [], 0, 0)
  else if (numDo x.op a b).2 = 0 then ({ setS s x.d.toNat (numDo x.op a b).1 0 with pc := s.pc + 1 }, [], 0, 0)
  else (s, [], (numDo x.op a b).2, 0)
theorem moveS_pc (s : St) (x : Ins) : (moveS s x).pc = s.pc := by unfold moveS; (repeat' split) <;> rfl
theorem moveS_len (s : St) (x : Ins) : (moveS s x).L.length = s.L.length := by unfold moveS; (repeat' split) <;> simp
theorem hLoad_how (h : List Int) (a : Int) : (hLoad h a).2 = 0 ∨ (hLoad h a).2 = 4 := by unfold hLoad; split <;> simp
theorem hStore_how (h : List Int) (a v : Int) : (hStore h a v).2 = 0 ∨ (hStore h a v).2 = 4 := by unfold hStore; split <;> simp
set_option maxHeartbeats 4000000 in
theorem work_do_ok {H : List AObj} {k : Nat} {s : St} {x : Ins} {ask : List Int} (d a b : Nat) (hd : x.d = (d : Int)) (hd2 : d < 24) (ha : x.a = (a : Int)) (ha2 : a < 24) (hb : x.b = (b : Int)) (hb2 : b < 24) (hk : k < H.length) (hx : H[k]? = some (.vec 61 [wrow s x ask (.list []) 0 0])) (hL : s.L.length = 24)
    (h0 : 0 ≤ s.asked) (hask : (ask.length : Int) ≤ 9223372036854775807) (hp0 : 0 ≤ s.pc) (hp1 : s.pc ≤ 1000) :
    ACalls Tryd.prog 43 [.ptr k 1 0 0] H fun r' H' => r' = .tup [] ∧ H' = H.set k (.vec 61 [wrow (stepW s x ask).1 x ask (evs (stepW s x ask).2.1) (stepW s x ask).2.2.1 (stepW s x ask).2.2.2]) := by
  refine ACalls.go step_work_do.low (by simp) fun hcl => ?_
  have hwl : (wc s.L).length = 48 := by rw [wc_len, hL]
  have g1 : ∀ M : List AObj, (H ++ M)[k]? = some (.vec 61 [wrow s x ask (.list []) 0 0]) := fun M => by rw [in_get hk, hx]
  have g2 : ∀ (M : List AObj) (o : AObj), (H ++ M).set k o = H.set k o ++ M := fun M o => in_set hk
  have g3 := ob_get hk
  have g4 := ob_set hk
  have g5 : ∀ o : AObj, H.length ≤ (H.set k o).length := fun o => by simp
  have hk0 : Hold (k < (H ++ []).length) := ⟨by simpa using hk⟩
  have hx0 : Hold ((H ++ [])[k]? = some (.vec 61 [wrow s x ask (.list []) 0 0])) := ⟨g1 []⟩
  have e1 : IntKind.i64.wrap (s.pc + 1) = s.pc + 1 := by rw [IntKind.wrap_i64]; omega
  have hw := hx0.of
  rw [wrow_eq] at hw
  have n1 := Hold.mk (work_number_ok (L := s.L) (r := _) hk0.of hw hL a ha2)
  have n2 := Hold.mk (work_number_ok (L := s.L) (r := _) hk0.of hw hL b hb2)
  have hset := Hold.mk (fun v how => work_set_ok (s := s) (x := x) (ask := ask) (ev := .list []) (h0 := 0) (value := 0) v how d hd hd2 hk0.of hx0.of hL rfl rfl)
  have hcall := Hold.mk (fun arg => work_call_ok (s := s) (x := x) (ask := ask) (value := 0) arg d hd hd2 hk0.of hx0.of hL h0 hask)
  have hmove := Hold.mk (fun ho => work_move_ok (s := s) (x := x) (ask := ask) (value := 0) (how := 0) d a hd hd2 ha ha2 ho hk0.of hx0.of hL)
  have hins := Hold.mk (ins_Moves_ok x)
  have hld := Hold.mk (heap_Load_ok s.heap (s.L.getD a noW).v)
  have hst := Hold.mk (heap_Store_ok s.heap (s.L.getD a noW).v (s.L.getD b noW).v)
  have hnum := Hold.mk (num_Do_ok x.op (s.L.getD a noW).v (s.L.getD b noW).v)
  have hlh := Hold.mk (hLoad_how s.heap (s.L.getD a noW).v)
  have hsh := Hold.mk (hStore_how s.heap (s.L.getD a noW).v (s.L.getD b noW).v)
  obtain ⟨RES, hW⟩ : ∃ R, stepW s x ask = R := ⟨_, rfl⟩
  rw [hW]
  unfold stepW at hW
  rw [show x.a.toNat = a by rw [ha]; simp, show x.b.toNat = b by rw [hb]; simp, show x.d.toNat = d by rw [hd]; simp] at hW
  simp only at hW
  have hpm := moveS_pc s x
  have hlm := moveS_len s x
  replace hpm := Hold.mk hpm
  replace hlm := Hold.mk hlm
  generalize (s.L.getD a noW).v = va at *
  generalize (s.L.getD b noW).v = vb at *
  clear hx hw
  obtain ⟨op, xd, xa, xb, xn, xto⟩ := x
  simp only at hd ha hb
  subst hd
  subst ha
  subst hb
  rw [insA_eq] at hins
  simp only at hW hins hnum
  replace hW := Hold.mk hW
  replace hL := Hold.mk hL
  clear h0 hask hp0 hp1
  refine R.cut [(0, .ptr k 1 0 0), (2, .int .i64 va), (3, .int .i64 vb)] (H ++ []) ?_ ?_
  · refine LCB.any ?_
    repeat' (first | (refine Weak.at hcl ?_; simp only [seval, evw, List.forall_mem_cons, List.forall_mem_map, List.forall_mem_append, List.not_mem_nil, sb, ew, insA, encIns, ins_dec, ins_eta, wrow_eq, evs_eq, encEv_def, List.map_cons, List.map_nil, *]) | (refine ACalls.mono n1.of ?_; rintro r' H' ⟨rfl, rfl⟩) | (refine ACalls.mono n2.of ?_; rintro r' H' ⟨rfl, rfl⟩) | (with_reducible refine And.intro ?_ ?_) | exact True.intro | simp only [wpP, wpPs, pureStep, seval, evo, evp, sb, ew, insA, encIns, ins_dec, ins_eta, wrow_eq, evs_eq, encEv_def, List.map_cons, List.map_nil, *])
  by_cases o13 : op = 13
  · subst o13
    have hW2 := hW.of
    rw [if_pos rfl] at hW2
    unfold hLoadA at hld
    clear hW
    generalize hLoad s.heap va = q at *
    obtain ⟨v, how⟩ := q
    simp only at hW2 hld hlh
    replace hW2 := Hold.mk hW2
    repeat' (first | simp only [seval, evx, beq_self_eq_true, sb, ew, insA, encIns, ins_dec, ins_eta, wrow_eq, evs_eq, encEv_def, List.map_cons, List.map_nil, *] | simp (disch := omega) only [if_pos, if_neg] | refine R.seq ?_ | refine LCB.text ?_ | refine LCB.quiet rfl ?_ | refine R.anyX ?_ | refine R.block ?_ | refine LCB.skip ?_ | refine LCB.exit ?_ | refine LCB.ret ?_ | ((first | refine RetOk.val hcl ?_ | refine Weak.at hcl ?_); simp only [seval, evw, List.forall_mem_cons, List.forall_mem_map, List.forall_mem_append, List.not_mem_nil, sb, ew, insA, encIns, ins_dec, ins_eta, wrow_eq, evs_eq, encEv_def, List.map_cons, List.map_nil, *]) | ((first | refine LCB.cond (by simp only [seval, evx] <;> rfl) ?_ ?_ | refine wpG_split (by simp only [seval, evx] <;> rfl) ?_ ?_ | refine wxG_split (by simp only [seval, evx] <;> rfl) ?_ ?_) <;> (intro hc; try simp only [seval, nf] at hc)) | refine ACalls.inst ?_ | refine CallX.inst ?_ | (with_reducible refine And.intro ?_ ?_) | exact True.intro)
    first | refine ACalls.pure (hld.of) ?_ | refine CallP.pure (hld.of) rfl ?_ | refine CallX.pure (hld.of) ?_
    repeat' (first | simp only [seval, evx, beq_self_eq_true, sb, ew, insA, encIns, ins_dec, ins_eta, wrow_eq, evs_eq, encEv_def, List.map_cons, List.map_nil, *] | simp (disch := omega) only [if_pos, if_neg] | refine R.seq ?_ | refine LCB.text ?_ | refine LCB.quiet rfl ?_ | refine R.anyX ?_ | refine R.block ?_ | refine LCB.skip ?_ | refine LCB.exit ?_ | refine LCB.ret ?_ | ((first | refine RetOk.val hcl ?_ | refine Weak.at hcl ?_); simp only [seval, evw, List.forall_mem_cons, List.forall_mem_map, List.forall_mem_append, List.not_mem_nil, sb, ew, insA, encIns, ins_dec, ins_eta, wrow_eq, evs_eq, encEv_def, List.map_cons, List.map_nil, *]) | ((first | refine LCB.cond (by simp only [seval, evx] <;> rfl) ?_ ?_ | refine wpG_split (by simp only [seval, evx] <;> rfl) ?_ ?_ | refine wxG_split (by simp only [seval, evx] <;> rfl) ?_ ?_) <;> (intro hc; try simp only [seval, nf] at hc)) | refine ACalls.inst ?_ | refine CallX.inst ?_ | (with_reducible refine And.intro ?_ ?_) | exact True.intro)
    refine (hset.of v how).mono ?_
    rintro r' H' ⟨rfl, rfl⟩
    replace hW2 := hW2.of
    by_cases hh : how = 0
    · subst hh
      rw [if_pos rfl] at hW2
      subst hW2
      have hs : setS s d v 0 = { s with L := s.L.set d ⟨true, v⟩ } := by simp [setS]
      rw [hs]
      replace hs := Hold.mk hs
      have hwl2 : (wc (s.L.set d ⟨true, v⟩)).length = 48 := by rw [wc_len, List.length_set, hL.of]
      repeat' (first | simp only [seval, evx, beq_self_eq_true, sb, ew, insA, encIns, ins_dec, ins_eta, wrow_eq, evs_eq, encEv_def, List.map_cons, List.map_nil, *] | simp (disch := omega) only [if_pos, if_neg] | refine R.seq ?_ | refine LCB.text ?_ | refine LCB.quiet rfl ?_ | refine R.anyX ?_ | refine R.block ?_ | refine LCB.skip ?_ | refine LCB.exit ?_ | refine LCB.ret ?_ | ((first | refine RetOk.val hcl ?_ | refine Weak.at hcl ?_); simp only [seval, evw, List.forall_mem_cons, List.forall_mem_map, List.forall_mem_append, List.not_mem_nil, sb, ew, insA, encIns, ins_dec, ins_eta, wrow_eq, evs_eq, encEv_def, List.map_cons, List.map_nil, *]) | ((first | refine LCB.cond (by simp only [seval, evx] <;> rfl) ?_ ?_ | refine wpG_split (by simp only [seval, evx] <;> rfl) ?_ ?_ | refine wxG_split (by simp only [seval, evx] <;> rfl) ?_ ?_) <;> (intro hc; try simp only [seval, nf] at hc)) | refine ACalls.inst ?_ | refine CallX.inst ?_ | (with_reducible refine And.intro ?_ ?_) | exact True.intro)
      (refine RetOk.upd (.tup []) (g5 _) (by rw [List.length_set]; exact hcl.set (vec_clean (by simp [cl_wc, cleanAll, AV.clean]))) ?_ ⟨rfl, rfl⟩; exact .same _ rfl)
    · rw [if_neg hh] at hW2
      subst hW2
      have hs : setS s d v how = s := by simp [setS, hh]
      rw [hs]
      replace hs := Hold.mk hs
      repeat' (first | simp only [seval, evx, beq_self_eq_true, sb, ew, insA, encIns, ins_dec, ins_eta, wrow_eq, evs_eq, encEv_def, List.map_cons, List.map_nil, *] | simp (disch := omega) only [if_pos, if_neg] | refine R.seq ?_ | refine LCB.text ?_ | refine LCB.quiet rfl ?_ | refine R.anyX ?_ | refine R.block ?_ | refine LCB.skip ?_ | refine LCB.exit ?_ | refine LCB.ret ?_ | ((first | refine RetOk.val hcl ?_ | refine Weak.at hcl ?_); simp only [seval, evw, List.forall_mem_cons, List.forall_mem_map, List.forall_mem_append, List.not_mem_nil, sb, ew, insA, encIns, ins_dec, ins_eta, wrow_eq, evs_eq, encEv_def, List.map_cons, List.map_nil, *]) | ((first | refine LCB.cond (by simp only [seval, evx] <;> rfl) ?_ ?_ | refine wpG_split (by simp only [seval, evx] <;> rfl) ?_ ?_ | refine wxG_split (by simp only [seval, evx] <;> rfl) ?_ ?_) <;> (intro hc; try simp only [seval, nf] at hc)) | refine ACalls.inst ?_ | refine CallX.inst ?_ | (with_reducible refine And.intro ?_ ?_) | exact True.intro)
      (refine RetOk.upd (.tup []) (g5 _) (by rw [List.length_set]; exact hcl.set (vec_clean (by simp [cl_wc, cleanAll, AV.clean]))) ?_ ⟨rfl, rfl⟩; exact .same _ rfl)
  by_cases o14 : op = 14
  · subst o14
    have hW2 := hW.of
    rw [if_neg (by omega), if_pos rfl] at hW2
    unfold hStoreA ints at hst
    clear hW
    generalize hStore s.heap va vb = q at *
    obtain ⟨h', how⟩ := q
    simp only at hW2 hst hsh
    replace hW2 := Hold.mk hW2
    by_cases hh : how = 0
    · subst hh
      have hW3 := hW2.of
      rw [if_pos rfl] at hW3
      subst hW3
      clear hW2
      repeat' (first | simp only [seval, evx, beq_self_eq_true, sb, ew, insA, encIns, ins_dec, ins_eta, wrow_eq, evs_eq, encEv_def, List.map_cons, List.map_nil, *] | simp (disch := omega) only [if_pos, if_neg] | refine R.seq ?_ | refine LCB.text ?_ | refine LCB.quiet rfl ?_ | refine R.anyX ?_ | refine R.block ?_ | refine LCB.skip ?_ | refine LCB.exit ?_ | refine LCB.ret ?_ | ((first | refine RetOk.val hcl ?_ | refine Weak.at hcl ?_); simp only [seval, evw, List.forall_mem_cons, List.forall_mem_map, List.forall_mem_append, List.not_mem_nil, sb, ew, insA, encIns, ins_dec, ins_eta, wrow_eq, evs_eq, encEv_def, List.map_cons, List.map_nil, *]) | ((first | refine LCB.cond (by simp only [seval, evx] <;> rfl) ?_ ?_ | refine wpG_split (by simp only [seval, evx] <;> rfl) ?_ ?_ | refine wxG_split (by simp only [seval, evx] <;> rfl) ?_ ?_) <;> (intro hc; try simp only [seval, nf] at hc)) | refine ACalls.inst ?_ | refine CallX.inst ?_ | (with_reducible refine And.intro ?_ ?_) | exact True.intro)
      first | refine ACalls.pure (hst.of) ?_ | refine CallP.pure (hst.of) rfl ?_ | refine CallX.pure (hst.of) ?_
      repeat' (first | simp only [seval, evx, beq_self_eq_true, sb, ew, insA, encIns, ins_dec, ins_eta, wrow_eq, evs_eq, encEv_def, List.map_cons, List.map_nil, *] | simp (disch := omega) only [if_pos, if_neg] | refine R.seq ?_ | refine LCB.text ?_ | refine LCB.quiet rfl ?_ | refine R.anyX ?_ | refine R.block ?_ | refine LCB.skip ?_ | refine LCB.exit ?_ | refine LCB.ret ?_ | ((first | refine RetOk.val hcl ?_ | refine Weak.at hcl ?_); simp only [seval, evw, List.forall_mem_cons, List.forall_mem_map, List.forall_mem_append, List.not_mem_nil, sb, ew, insA, encIns, ins_dec, ins_eta, wrow_eq, evs_eq, encEv_def, List.map_cons, List.map_nil, *]) | ((first | refine LCB.cond (by simp only [seval, evx] <;> rfl) ?_ ?_ | refine wpG_split (by simp only [seval, evx] <;> rfl) ?_ ?_ | refine wxG_split (by simp only [seval, evx] <;> rfl) ?_ ?_) <;> (intro hc; try simp only [seval, nf] at hc)) | refine ACalls.inst ?_ | refine CallX.inst ?_ | (with_reducible refine And.intro ?_ ?_) | exact True.intro)
      (refine RetOk.upd (.tup []) (g5 _) (by rw [List.length_set]; exact hcl.set (vec_clean (by simp [cl_wc, cleanAll, AV.clean]))) ?_ ⟨rfl, rfl⟩; exact .same _ rfl)
    · have hW3 := hW2.of
      rw [if_neg hh] at hW3
      subst hW3
      clear hW2
      repeat' (first | simp only [seval, evx, beq_self_eq_true, sb, ew, insA, encIns, ins_dec, ins_eta, wrow_eq, evs_eq, encEv_def, List.map_cons, List.map_nil, *] | simp (disch := omega) only [if_pos, if_neg] | refine R.seq ?_ | refine LCB.text ?_ | refine LCB.quiet rfl ?_ | refine R.anyX ?_ | refine R.block ?_ | refine LCB.skip ?_ | refine LCB.exit ?_ | refine LCB.ret ?_ | ((first | refine RetOk.val hcl ?_ | refine Weak.at hcl ?_); simp only [seval, evw, List.forall_mem_cons, List.forall_mem_map, List.forall_mem_append, List.not_mem_nil, sb, ew, insA, encIns, ins_dec, ins_eta, wrow_eq, evs_eq, encEv_def, List.map_cons, List.map_nil, *]) | ((first | refine LCB.cond (by simp only [seval, evx] <;> rfl) ?_ ?_ | refine wpG_split (by simp only [seval, evx] <;> rfl) ?_ ?_ | refine wxG_split (by simp only [seval, evx] <;> rfl) ?_ ?_) <;> (intro hc; try simp only [seval, nf] at hc)) | refine ACalls.inst ?_ | refine CallX.inst ?_ | (with_reducible refine And.intro ?_ ?_) | exact True.intro)
      first | refine ACalls.pure (hst.of) ?_ | refine CallP.pure (hst.of) rfl ?_ | refine CallX.pure (hst.of) ?_
      repeat' (first | simp only [seval, evx, beq_self_eq_true, sb, ew, insA, encIns, ins_dec, ins_eta, wrow_eq, evs_eq, encEv_def, List.map_cons, List.map_nil, *] | simp (disch := omega) only [if_pos, if_neg] | refine R.seq ?_ | refine LCB.text ?_ | refine LCB.quiet rfl ?_ | refine R.anyX ?_ | refine R.block ?_ | refine LCB.skip ?_ | refine LCB.exit ?_ | refine LCB.ret ?_ | ((first | refine RetOk.val hcl ?_ | refine Weak.at hcl ?_); simp only [seval, evw, List.forall_mem_cons, List.forall_mem_map, List.forall_mem_append, List.not_mem_nil, sb, ew, insA, encIns, ins_dec, ins_eta, wrow_eq, evs_eq, encEv_def, List.map_cons, List.map_nil, *]) | ((first | refine LCB.cond (by simp only [seval, evx] <;> rfl) ?_ ?_ | refine wpG_split (by simp only [seval, evx] <;> rfl) ?_ ?_ | refine wxG_split (by simp only [seval, evx] <;> rfl) ?_ ?_) <;> (intro hc; try simp only [seval, nf] at hc)) | refine ACalls.inst ?_ | refine CallX.inst ?_ | (with_reducible refine And.intro ?_ ?_) | exact True.intro)
      (refine RetOk.upd (.tup []) (g5 _) (by rw [List.length_set]; exact hcl.set (vec_clean (by simp [cl_wc, cleanAll, AV.clean]))) ?_ ⟨rfl, rfl⟩; exact .same _ rfl)
  by_cases o15 : op = 15
  · subst o15
    have hW2 := hW.of
    rw [if_neg (by omega), if_neg (by omega), if_pos rfl] at hW2
    clear hW
    have hc2 := hcall.of va
    clear hcall
    by_cases hlt : s.asked < (ask.length : Int)
    · rw [if_pos hlt] at hW2
      simp only [hlt, if_true] at hc2
      subst hW2
      generalize hcs : callS s d (ask.getD s.asked.toNat 0) = s' at *
      have hpc' : s'.pc = s.pc := by rw [← hcs]; rfl
      have hlc' : (wc s'.L).length = 48 := by rw [wc_len, ← hcs]; simp [callS, hL.of]
      generalize ask.getD s.asked.toNat 0 = ans at *
      replace hcs := Hold.mk hcs
      replace hpc' := Hold.mk hpc'
      replace hc2 := Hold.mk hc2
      clear hlt
      repeat' (first | simp only [seval, evx, beq_self_eq_true, sb, ew, insA, encIns, ins_dec, ins_eta, wrow_eq, evs_eq, encEv_def, List.map_cons, List.map_nil, *] | simp (disch := omega) only [if_pos, if_neg] | refine R.seq ?_ | refine LCB.text ?_ | refine LCB.quiet rfl ?_ | refine R.anyX ?_ | refine R.block ?_ | refine LCB.skip ?_ | refine LCB.exit ?_ | refine LCB.ret ?_ | ((first | refine RetOk.val hcl ?_ | refine Weak.at hcl ?_); simp only [seval, evw, List.forall_mem_cons, List.forall_mem_map, List.forall_mem_append, List.not_mem_nil, sb, ew, insA, encIns, ins_dec, ins_eta, wrow_eq, evs_eq, encEv_def, List.map_cons, List.map_nil, *]) | ((first | refine LCB.cond (by simp only [seval, evx] <;> rfl) ?_ ?_ | refine wpG_split (by simp only [seval, evx] <;> rfl) ?_ ?_ | refine wxG_split (by simp only [seval, evx] <;> rfl) ?_ ?_) <;> (intro hc; try simp only [seval, nf] at hc)) | refine ACalls.inst ?_ | refine CallX.inst ?_ | (with_reducible refine And.intro ?_ ?_) | exact True.intro)
      refine hc2.of.mono ?_
      rintro r' H' ⟨rfl, rfl⟩
      repeat' (first | simp only [seval, evx, beq_self_eq_true, sb, ew, insA, encIns, ins_dec, ins_eta, wrow_eq, evs_eq, encEv_def, List.map_cons, List.map_nil, *] | simp (disch := omega) only [if_pos, if_neg] | refine R.seq ?_ | refine LCB.text ?_ | refine LCB.quiet rfl ?_ | refine R.anyX ?_ | refine R.block ?_ | refine LCB.skip ?_ | refine LCB.exit ?_ | refine LCB.ret ?_ | ((first | refine RetOk.val hcl ?_ | refine Weak.at hcl ?_); simp only [seval, evw, List.forall_mem_cons, List.forall_mem_map, List.forall_mem_append, List.not_mem_nil, sb, ew, insA, encIns, ins_dec, ins_eta, wrow_eq, evs_eq, encEv_def, List.map_cons, List.map_nil, *]) | ((first | refine LCB.cond (by simp only [seval, evx] <;> rfl) ?_ ?_ | refine wpG_split (by simp only [seval, evx] <;> rfl) ?_ ?_ | refine wxG_split (by simp only [seval, evx] <;> rfl) ?_ ?_) <;> (intro hc; try simp only [seval, nf] at hc)) | refine ACalls.inst ?_ | refine CallX.inst ?_ | (with_reducible refine And.intro ?_ ?_) | exact True.intro)
      (refine RetOk.upd (.tup []) (g5 _) (by rw [List.length_set]; exact hcl.set (vec_clean (by simp [cl_wc, cleanAll, AV.clean]))) ?_ ⟨rfl, rfl⟩; exact .same _ rfl)
    · rw [if_neg hlt] at hW2
      simp only [hlt, if_false] at hc2
      subst hW2
      replace hc2 := Hold.mk hc2
      clear hlt
      repeat' (first | simp only [seval, evx, beq_self_eq_true, sb, ew, insA, encIns, ins_dec, ins_eta, wrow_eq, evs_eq, encEv_def, List.map_cons, List.map_nil, *] | simp (disch := omega) only [if_pos, if_neg] | refine R.seq ?_ | refine LCB.text ?_ | refine LCB.quiet rfl ?_ | refine R.anyX ?_ | refine R.block ?_ | refine LCB.skip ?_ | refine LCB.exit ?_ | refine LCB.ret ?_ | ((first | refine RetOk.val hcl ?_ | refine Weak.at hcl ?_); simp only [seval, evw, List.forall_mem_cons, List.forall_mem_map, List.forall_mem_append, List.not_mem_nil, sb, ew, insA, encIns, ins_dec, ins_eta, wrow_eq, evs_eq, encEv_def, List.map_cons, List.map_nil, *]) | ((first | refine LCB.cond (by simp only [seval, evx] <;> rfl) ?_ ?_ | refine wpG_split (by simp only [seval, evx] <;> rfl) ?_ ?_ | refine wxG_split (by simp only [seval, evx] <;> rfl) ?_ ?_) <;> (intro hc; try simp only [seval, nf] at hc)) | refine ACalls.inst ?_ | refine CallX.inst ?_ | (with_reducible refine And.intro ?_ ?_) | exact True.intro)
      refine hc2.of.mono ?_
      rintro r' H' ⟨rfl, rfl⟩
      repeat' (first | simp only [seval, evx, beq_self_eq_true, sb, ew, insA, encIns, ins_dec, ins_eta, wrow_eq, evs_eq, encEv_def, List.map_cons, List.map_nil, *] | simp (disch := omega) only [if_pos, if_neg] | refine R.seq ?_ | refine LCB.text ?_ | refine LCB.quiet rfl ?_ | refine R.anyX ?_ | refine R.block ?_ | refine LCB.skip ?_ | refine LCB.exit ?_ | refine LCB.ret ?_ | ((first | refine RetOk.val hcl ?_ | refine Weak.at hcl ?_); simp only [seval, evw, List.forall_mem_cons, List.forall_mem_map, List.forall_mem_append, List.not_mem_nil, sb, ew, insA, encIns, ins_dec, ins_eta, wrow_eq, evs_eq, encEv_def, List.map_cons, List.map_nil, *]) | ((first | refine LCB.cond (by simp only [seval, evx] <;> rfl) ?_ ?_ | refine wpG_split (by simp only [seval, evx] <;> rfl) ?_ ?_ | refine wxG_split (by simp only [seval, evx] <;> rfl) ?_ ?_) <;> (intro hc; try simp only [seval, nf] at hc)) | refine ACalls.inst ?_ | refine CallX.inst ?_ | (with_reducible refine And.intro ?_ ?_) | exact True.intro)
      (refine RetOk.upd (.tup []) (g5 _) (by rw [List.length_set]; exact hcl.set (vec_clean (by simp [cl_wc, cleanAll, AV.clean]))) ?_ ⟨rfl, rfl⟩; exact .same _ rfl)
  by_cases o18 : op = 18
  · subst o18
    have hW2 := hW.of
    rw [if_neg (by omega), if_neg (by omega), if_neg (by omega), if_pos rfl] at hW2
    clear hW
    subst hW2
    repeat' (first | simp only [seval, evx, beq_self_eq_true, sb, ew, insA, encIns, ins_dec, ins_eta, wrow_eq, evs_eq, encEv_def, List.map_cons, List.map_nil, *] | simp (disch := omega) only [if_pos, if_neg] | refine R.seq ?_ | refine LCB.text ?_ | refine LCB.quiet rfl ?_ | refine R.anyX ?_ | refine R.block ?_ | refine LCB.skip ?_ | refine LCB.exit ?_ | refine LCB.ret ?_ | ((first | refine RetOk.val hcl ?_ | refine Weak.at hcl ?_); simp only [seval, evw, List.forall_mem_cons, List.forall_mem_map, List.forall_mem_append, List.not_mem_nil, sb, ew, insA, encIns, ins_dec, ins_eta, wrow_eq, evs_eq, encEv_def, List.map_cons, List.map_nil, *]) | ((first | refine LCB.cond (by simp only [seval, evx] <;> rfl) ?_ ?_ | refine wpG_split (by simp only [seval, evx] <;> rfl) ?_ ?_ | refine wxG_split (by simp only [seval, evx] <;> rfl) ?_ ?_) <;> (intro hc; try simp only [seval, nf] at hc)) | refine ACalls.inst ?_ | refine CallX.inst ?_ | (with_reducible refine And.intro ?_ ?_) | exact True.intro)
    (refine RetOk.upd (.tup []) (g5 _) (by rw [List.length_set]; exact hcl.set (vec_clean (by simp [cl_wc, cleanAll, AV.clean]))) ?_ ⟨rfl, rfl⟩; exact .same _ rfl)
  by_cases o17 : op = 17
  · subst o17
    have hW2 := hW.of
    rw [if_neg (by omega), if_neg (by omega), if_neg (by omega), if_neg (by omega), if_pos rfl] at hW2
    clear hW
    by_cases hz : va = 0
    · rw [if_pos hz] at hW2
      subst hW2
      subst hz
      repeat' (first | simp only [seval, evx, beq_self_eq_true, sb, ew, insA, encIns, ins_dec, ins_eta, wrow_eq, evs_eq, encEv_def, List.map_cons, List.map_nil, *] | simp (disch := omega) only [if_pos, if_neg] | refine R.seq ?_ | refine LCB.text ?_ | refine LCB.quiet rfl ?_ | refine R.anyX ?_ | refine R.block ?_ | refine LCB.skip ?_ | refine LCB.exit ?_ | refine LCB.ret ?_ | ((first | refine RetOk.val hcl ?_ | refine Weak.at hcl ?_); simp only [seval, evw, List.forall_mem_cons, List.forall_mem_map, List.forall_mem_append, List.not_mem_nil, sb, ew, insA, encIns, ins_dec, ins_eta, wrow_eq, evs_eq, encEv_def, List.map_cons, List.map_nil, *]) | ((first | refine LCB.cond (by simp only [seval, evx] <;> rfl) ?_ ?_ | refine wpG_split (by simp only [seval, evx] <;> rfl) ?_ ?_ | refine wxG_split (by simp only [seval, evx] <;> rfl) ?_ ?_) <;> (intro hc; try simp only [seval, nf] at hc)) | refine ACalls.inst ?_ | refine CallX.inst ?_ | (with_reducible refine And.intro ?_ ?_) | exact True.intro)
      (refine RetOk.upd (.tup []) (g5 _) (by rw [List.length_set]; exact hcl.set (vec_clean (by simp [cl_wc, cleanAll, AV.clean]))) ?_ ⟨rfl, rfl⟩; exact .same _ rfl)
    · rw [if_neg hz] at hW2
      subst hW2
      repeat' (first | simp only [seval, evx, beq_self_eq_true, sb, ew, insA, encIns, ins_dec, ins_eta, wrow_eq, evs_eq, encEv_def, List.map_cons, List.map_nil, *] | simp (disch := omega) only [if_pos, if_neg] | refine R.seq ?_ | refine LCB.text ?_ | refine LCB.quiet rfl ?_ | refine R.anyX ?_ | refine R.block ?_ | refine LCB.skip ?_ | refine LCB.exit ?_ | refine LCB.ret ?_ | ((first | refine RetOk.val hcl ?_ | refine Weak.at hcl ?_); simp only [seval, evw, List.forall_mem_cons, List.forall_mem_map, List.forall_mem_append, List.not_mem_nil, sb, ew, insA, encIns, ins_dec, ins_eta, wrow_eq, evs_eq, encEv_def, List.map_cons, List.map_nil, *]) | ((first | refine LCB.cond (by simp only [seval, evx] <;> rfl) ?_ ?_ | refine wpG_split (by simp only [seval, evx] <;> rfl) ?_ ?_ | refine wxG_split (by simp only [seval, evx] <;> rfl) ?_ ?_) <;> (intro hc; try simp only [seval, nf] at hc)) | refine ACalls.inst ?_ | refine CallX.inst ?_ | (with_reducible refine And.intro ?_ ?_) | exact True.intro)
      (refine RetOk.upd (.tup []) (g5 _) (by rw [List.length_set]; exact hcl.set (vec_clean (by simp [cl_wc, cleanAll, AV.clean]))) ?_ ⟨rfl, rfl⟩; exact .same _ rfl)
  by_cases o16 : op = 16
  · subst o16
    have hW2 := hW.of
    rw [if_neg (by omega), if_neg (by omega), if_neg (by omega), if_neg (by omega), if_neg (by omega), if_pos rfl] at hW2
    clear hW
    subst hW2
    repeat' (first | simp only [seval, evx, beq_self_eq_true, sb, ew, insA, encIns, ins_dec, ins_eta, wrow_eq, evs_eq, encEv_def, List.map_cons, List.map_nil, *] | simp (disch := omega) only [if_pos, if_neg] | refine R.seq ?_ | refine LCB.text ?_ | refine LCB.quiet rfl ?_ | refine R.anyX ?_ | refine R.block ?_ | refine LCB.skip ?_ | refine LCB.exit ?_ | refine LCB.ret ?_ | ((first | refine RetOk.val hcl ?_ | refine Weak.at hcl ?_); simp only [seval, evw, List.forall_mem_cons, List.forall_mem_map, List.forall_mem_append, List.not_mem_nil, sb, ew, insA, encIns, ins_dec, ins_eta, wrow_eq, evs_eq, encEv_def, List.map_cons, List.map_nil, *]) | ((first | refine LCB.cond (by simp only [seval, evx] <;> rfl) ?_ ?_ | refine wpG_split (by simp only [seval, evx] <;> rfl) ?_ ?_ | refine wxG_split (by simp only [seval, evx] <;> rfl) ?_ ?_) <;> (intro hc; try simp only [seval, nf] at hc)) | refine ACalls.inst ?_ | refine CallX.inst ?_ | (with_reducible refine And.intro ?_ ?_) | exact True.intro)
    (refine RetOk.upd (.tup []) (g5 _) (by rw [List.length_set]; exact hcl.set (vec_clean (by simp [cl_wc, cleanAll, AV.clean]))) ?_ ⟨rfl, rfl⟩; exact .same _ rfl)
  by_cases om : op = 1 ∨ op = 2 ∨ op = 3
  · have hW2 := hW.of
    rw [if_neg (by omega), if_neg (by omega), if_neg (by omega), if_neg (by omega), if_neg (by omega), if_neg (by omega), if_pos om] at hW2
    clear hW
    have hm := hmove.of om
    clear hmove
    have hmB : movesB op = true := by simp [movesB]; omega
    rw [hmB] at hins
    subst hW2
    generalize hms : moveS s ⟨op, (d : Int), (a : Int), (b : Int), xn, xto⟩ = s' at *
    have hlc' : (wc s'.L).length = 48 := by rw [wc_len, hlm.of, hL.of]
    replace hms := Hold.mk hms
    replace hm := Hold.mk hm
    clear om
    repeat' (first | simp only [seval, evx, beq_self_eq_true, sb, ew, insA, encIns, ins_dec, ins_eta, wrow_eq, evs_eq, encEv_def, List.map_cons, List.map_nil, *] | simp (disch := omega) only [if_pos, if_neg] | refine R.seq ?_ | refine LCB.text ?_ | refine LCB.quiet rfl ?_ | refine R.anyX ?_ | refine R.block ?_ | refine LCB.skip ?_ | refine LCB.exit ?_ | refine LCB.ret ?_ | ((first | refine RetOk.val hcl ?_ | refine Weak.at hcl ?_); simp only [seval, evw, List.forall_mem_cons, List.forall_mem_map, List.forall_mem_append, List.not_mem_nil, sb, ew, insA, encIns, ins_dec, ins_eta, wrow_eq, evs_eq, encEv_def, List.map_cons, List.map_nil, *]) | ((first | refine LCB.cond (by simp only [seval, evx] <;> rfl) ?_ ?_ | refine wpG_split (by simp only [seval, evx] <;> rfl) ?_ ?_ | refine wxG_split (by simp only [seval, evx] <;> rfl) ?_ ?_) <;> (intro hc; try simp only [seval, nf] at hc)) | refine ACalls.inst ?_ | refine CallX.inst ?_ | (with_reducible refine And.intro ?_ ?_) | exact True.intro)
    refine hm.of.mono ?_
    rintro r' H' ⟨rfl, rfl⟩
    repeat' (first | simp only [seval, evx, beq_self_eq_true, sb, ew, insA, encIns, ins_dec, ins_eta, wrow_eq, evs_eq, encEv_def, List.map_cons, List.map_nil, *] | simp (disch := omega) only [if_pos, if_neg] | refine R.seq ?_ | refine LCB.text ?_ | refine LCB.quiet rfl ?_ | refine R.anyX ?_ | refine R.block ?_ | refine LCB.skip ?_ | refine LCB.exit ?_ | refine LCB.ret ?_ | ((first | refine RetOk.val hcl ?_ | refine Weak.at hcl ?_); simp only [seval, evw, List.forall_mem_cons, List.forall_mem_map, List.forall_mem_append, List.not_mem_nil, sb, ew, insA, encIns, ins_dec, ins_eta, wrow_eq, evs_eq, encEv_def, List.map_cons, List.map_nil, *]) | ((first | refine LCB.cond (by simp only [seval, evx] <;> rfl) ?_ ?_ | refine wpG_split (by simp only [seval, evx] <;> rfl) ?_ ?_ | refine wxG_split (by simp only [seval, evx] <;> rfl) ?_ ?_) <;> (intro hc; try simp only [seval, nf] at hc)) | refine ACalls.inst ?_ | refine CallX.inst ?_ | (with_reducible refine And.intro ?_ ?_) | exact True.intro)
    (refine RetOk.upd (.tup []) (g5 _) (by rw [List.length_set]; exact hcl.set (vec_clean (by simp [cl_wc, cleanAll, AV.clean]))) ?_ ⟨rfl, rfl⟩; exact .same _ rfl)
  have hW2 := hW.of
  rw [if_neg o13, if_neg o14, if_neg o15, if_neg o18, if_neg o17, if_neg o16, if_neg om] at hW2
  clear hW
  have hmB : movesB op = false := by simp [movesB]; omega
  rw [hmB] at hins
  unfold nopR at hnum
  generalize numDo op va vb = q at *
  obtain ⟨v, how⟩ := q
  simp only at hW2 hnum
  replace hW2 := Hold.mk hW2
  replace om := Hold.mk om
  repeat' (first | simp only [seval, evx, beq_self_eq_true, sb, ew, insA, encIns, ins_dec, ins_eta, wrow_eq, evs_eq, encEv_def, List.map_cons, List.map_nil, *] | simp (disch := omega) only [if_pos, if_neg] | refine R.seq ?_ | refine LCB.text ?_ | refine LCB.quiet rfl ?_ | refine R.anyX ?_ | refine R.block ?_ | refine LCB.skip ?_ | refine LCB.exit ?_ | refine LCB.ret ?_ | ((first | refine RetOk.val hcl ?_ | refine Weak.at hcl ?_); simp only [seval, evw, List.forall_mem_cons, List.forall_mem_map, List.forall_mem_append, List.not_mem_nil, sb, ew, insA, encIns, ins_dec, ins_eta, wrow_eq, evs_eq, encEv_def, List.map_cons, List.map_nil, *]) | ((first | refine LCB.cond (by simp only [seval, evx] <;> rfl) ?_ ?_ | refine wpG_split (by simp only [seval, evx] <;> rfl) ?_ ?_ | refine wxG_split (by simp only [seval, evx] <;> rfl) ?_ ?_) <;> (intro hc; try simp only [seval, nf] at hc)) | refine ACalls.inst ?_ | refine CallX.inst ?_ | (with_reducible refine And.intro ?_ ?_) | exact True.intro)
  first | refine ACalls.pure (hnum.of) ?_ | refine CallP.pure (hnum.of) rfl ?_ | refine CallX.pure (hnum.of) ?_
  repeat' (first | simp only [seval, evx, beq_self_eq_true, sb, ew, insA, encIns, ins_dec, ins_eta, wrow_eq, evs_eq, encEv_def, List.map_cons, List.map_nil, *] | simp (disch := omega) only [if_pos, if_neg] | refine R.seq ?_ | refine LCB.text ?_ | refine LCB.quiet rfl ?_ | refine R.anyX ?_ | refine R.block ?_ | refine LCB.skip ?_ | refine LCB.exit ?_ | refine LCB.ret ?_ | ((first | refine RetOk.val hcl ?_ | refine Weak.at hcl ?_); simp only [seval, evw, List.forall_mem_cons, List.forall_mem_map, List.forall_mem_append, List.not_mem_nil, sb, ew, insA, encIns, ins_dec, ins_eta, wrow_eq, evs_eq, encEv_def, List.map_cons, List.map_nil, *]) | ((first | refine LCB.cond (by simp only [seval, evx] <;> rfl) ?_ ?_ | refine wpG_split (by simp only [seval, evx] <;> rfl) ?_ ?_ | refine wxG_split (by simp only [seval, evx] <;> rfl) ?_ ?_) <;> (intro hc; try simp only [seval, nf] at hc)) | refine ACalls.inst ?_ | refine CallX.inst ?_ | (with_reducible refine And.intro ?_ ?_) | exact True.intro)
  refine (hset.of v how).mono ?_
  rintro r' H' ⟨rfl, rfl⟩
  replace hW2 := hW2.of
  by_cases hh : how = 0
  · subst hh
    rw [if_pos rfl] at hW2
    subst hW2
    have hs : setS s d v 0 = { s with L := s.L.set d ⟨true, v⟩ } := by simp [setS]
    rw [hs]
    replace hs := Hold.mk hs
    have hwl2 : (wc (s.L.set d ⟨true, v⟩)).length = 48 := by rw [wc_len, List.length_set, hL.of]
    repeat' (first | simp only [seval, evx, beq_self_eq_true, sb, ew, insA, encIns, ins_dec, ins_eta, wrow_eq, evs_eq, encEv_def, List.map_cons, List.map_nil, *] | simp (disch := omega) only [if_pos, if_neg] | refine R.seq ?_ | refine LCB.text ?_ | refine LCB.quiet rfl ?_ | refine R.anyX ?_ | refine R.block ?_ | refine LCB.skip ?_ | refine LCB.exit ?_ | refine LCB.ret ?_ | ((first | refine RetOk.val hcl ?_ | refine Weak.at hcl ?_); simp only [seval, evw, List.forall_mem_cons, List.forall_mem_map, List.forall_mem_append, List.not_mem_nil, sb, ew, insA, encIns, ins_dec, ins_eta, wrow_eq, evs_eq, encEv_def, List.map_cons, List.map_nil, *]) | ((first | refine LCB.cond (by simp only [seval, evx] <;> rfl) ?_ ?_ | refine wpG_split (by simp only [seval, evx] <;> rfl) ?_ ?_ | refine wxG_split (by simp only [seval, evx] <;> rfl) ?_ ?_) <;> (intro hc; try simp only [seval, nf] at hc)) | refine ACalls.inst ?_ | refine CallX.inst ?_ | (with_reducible refine And.intro ?_ ?_) | exact True.intro)
    (refine RetOk.upd (.tup []) (g5 _) (by rw [List.length_set]; exact hcl.set (vec_clean (by simp [cl_wc, cleanAll, AV.clean]))) ?_ ⟨rfl, rfl⟩; exact .same _ rfl)
  · rw [if_neg hh] at hW2
    subst hW2
    have hs : setS s d v how = s := by simp [setS, hh]
    rw [hs]
    replace hs := Hold.mk hs
    repeat' (first | simp only [seval, evx, beq_self_eq_true, sb, ew, insA, encIns, ins_dec, ins_eta, wrow_eq, evs_eq, encEv_def, List.map_cons, List.map_nil, *] | simp (disch := omega) only [if_pos, if_neg] | refine R.seq ?_ | refine LCB.text ?_ | refine LCB.quiet rfl ?_ | refine R.anyX ?_ | refine R.block ?_ | refine LCB.skip ?_ | refine LCB.exit ?_ | refine LCB.ret ?_ | ((first | refine RetOk.val hcl ?_ | refine Weak.at hcl ?_); simp only [seval, evw, List.forall_mem_cons, List.forall_mem_map, List.forall_mem_append, List.not_mem_nil, sb, ew, insA, encIns, ins_dec, ins_eta, wrow_eq, evs_eq, encEv_def, List.map_cons, List.map_nil, *]) | ((first | refine LCB.cond (by simp only [seval, evx] <;> rfl) ?_ ?_ | refine wpG_split (by simp only [seval, evx] <;> rfl) ?_ ?_ | refine wxG_split (by simp only [seval, evx] <;> rfl) ?_ ?_) <;> (intro hc; try simp only [seval, nf] at hc)) | refine ACalls.inst ?_ | refine CallX.inst ?_ | (with_reducible refine And.intro ?_ ?_) | exact True.intro)
    (refine RetOk.upd (.tup []) (g5 _) (by rw [List.length_set]; exact hcl.set (vec_clean (by simp [cl_wc, cleanAll, AV.clean]))) ?_ ⟨rfl, rfl⟩; exact .same _ rfl)
end Go.Proofs.YtbkbehkjndmabaaDoor

/-
  ins: both say the same of what is needed.
-/
namespace Go.Proofs.YtbkbehkjndmabaaDoor
open Go.RowKit
set_option linter.unusedVariables false
set_option linter.unusedSimpArgs false

theorem uses_same (x : Ins) : usesL x = usesR x := by
  obtain ⟨op, d, a, b, n, to⟩ := x
  cases hok : opOk op
  · have h : ¬ (1 ≤ op ∧ op ≤ 18) := by simpa [opOk] using hok
    unfold usesL usesR
    simp only [hok, Bool.false_and, Bool.false_eq_true, if_false]
    rw [if_neg (by omega), if_neg (by omega)]
  · rcases op_cases hok with rfl | rfl | rfl | rfl | rfl | rfl | rfl | rfl | rfl | rfl | rfl | rfl | rfl | rfl | rfl | rfl | rfl | rfl <;> rfl

end Go.Proofs.YtbkbehkjndmabaaDoor

/-
  step: the next instruction is done.
-/
namespace Go.Proofs.YtbkbehkjndmabaaDoor
open Go.RowKit
set_option linter.unusedVariables false
set_option linter.unusedSimpArgs false
theorem places_of {x : Ins} {n : Int} (h : chk x n = 0) : ∃ d a b : Nat, x.d = (d : Int) ∧ d < 24 ∧ x.a = (a : Int) ∧ a < 24 ∧ x.b = (b : Int) ∧ b < 24 := by
  rw [chk_same] at h
  unfold chkR at h
  cases hf : badFormR x with
  | true => rw [hf, if_pos rfl] at h; simp at h
  | false =>
    cases hp : badPlaceR x with
    | true => rw [hf, hp] at h; simp at h
    | false =>
      have ho : onlyR x = x := by
        unfold badFormR at hf
        simp only [Bool.or_eq_false_iff] at hf
        simpa using hf.2.1
      have hb : x.b = sel (keepB x.op) x.b := by
        have := congrArg Ins.b ho
        exact this.symm
      unfold badPlaceR at hp
      by_cases h3 : x.op ≤ 3
      · rw [if_pos h3] at hp
        simp only [Bool.not_eq_false', Bool.and_eq_true, inR, decide_eq_true_eq] at hp
        have hb0 : x.b = 0 := by
          rw [hb]
          have : keepB x.op = false := by unfold keepB; simp; omega
          rw [this]; rfl
        exact ⟨x.d.toNat, x.a.toNat, 0, by omega, by omega, by omega, by omega, by omega, by omega⟩
      · rw [if_neg h3] at hp
        simp only [Bool.not_eq_false', Bool.and_eq_true, inR, decide_eq_true_eq] at hp
        exact ⟨x.d.toNat, x.a.toNat, x.b.toNat, by omega, by omega, by omega, by omega, by omega, by omega⟩
def wAt (L : List W) (l : Int) : W := L.getD l.toNat noW
def out0 : Out := ⟨0, 0, []⟩
/-- What a step makes of a state that is right, its events, and its outcome. -/
def stepF (f : List Ins) (s : St) (ask : List Int) : St × List Ev × Out :=
  if (usesR (f.getD s.pc.toNat noIns)).all (fun l => (wAt s.L l).is) then
    ((stepW s (f.getD s.pc.toNat noIns) ask).1, (stepW s (f.getD s.pc.toNat noIns) ask).2.1, ⟨(stepW s (f.getD s.pc.toNat noIns) ask).2.2.1, (stepW s (f.getD s.pc.toNat noIns) ask).2.2.2, if (stepW s (f.getD s.pc.toNat noIns) ask).2.2.1 = 1 then s.heap else []⟩)
  else (s, [], ⟨2, 0, []⟩)
def st0 : St := ⟨List.replicate 24 noW, [], 0, 0⟩
def z51 : List AV := [.bool false, .int .i64 0, .bool false, .int .i64 0, .bool false, .int .i64 0, .bool false, .int .i64 0, .bool false, .int .i64 0, .bool false, .int .i64 0, .bool false, .int .i64 0, .bool false, .int .i64 0, .bool false, .int .i64 0, .bool false, .int .i64 0, .bool false, .int .i64 0, .bool false, .int .i64 0, .bool false, .int .i64 0, .bool false, .int .i64 0, .bool false, .int .i64 0, .bool false, .int .i64 0, .bool false, .int .i64 0, .bool false, .int .i64 0, .bool false, .int .i64 0, .bool false, .int .i64 0, .bool false, .int .i64 0, .bool false, .int .i64 0, .bool false, .int .i64 0, .bool false, .int .i64 0, .imm (.slice none 0 0), .int .i64 0, .int .i64 0]
theorem z51_eq : z51 = [.bool false, .int .i64 0, .bool false, .int .i64 0, .bool false, .int .i64 0, .bool false, .int .i64 0, .bool false, .int .i64 0, .bool false, .int .i64 0, .bool false, .int .i64 0, .bool false, .int .i64 0, .bool false, .int .i64 0, .bool false, .int .i64 0, .bool false, .int .i64 0, .bool false, .int .i64 0, .bool false, .int .i64 0, .bool false, .int .i64 0, .bool false, .int .i64 0, .bool false, .int .i64 0, .bool false, .int .i64 0, .bool false, .int .i64 0, .bool false, .int .i64 0, .bool false, .int .i64 0, .bool false, .int .i64 0, .bool false, .int .i64 0, .bool false, .int .i64 0, .bool false, .int .i64 0, .imm (.slice none 0 0), .int .i64 0, .int .i64 0] := rfl
theorem st0_eq : stA st0 = .agg [.bool false, .int .i64 0, .bool false, .int .i64 0, .bool false, .int .i64 0, .bool false, .int .i64 0, .bool false, .int .i64 0, .bool false, .int .i64 0, .bool false, .int .i64 0, .bool false, .int .i64 0, .bool false, .int .i64 0, .bool false, .int .i64 0, .bool false, .int .i64 0, .bool false, .int .i64 0, .bool false, .int .i64 0, .bool false, .int .i64 0, .bool false, .int .i64 0, .bool false, .int .i64 0, .bool false, .int .i64 0, .bool false, .int .i64 0, .bool false, .int .i64 0, .bool false, .int .i64 0, .bool false, .int .i64 0, .bool false, .int .i64 0, .bool false, .int .i64 0, .bool false, .int .i64 0, .list [], .int .i64 0, .int .i64 0] := rfl
def stepA (f : List Ins) (s : St) (ask : List Int) : AV := if stRight f s then .tup [stA (stepF f s ask).1, evs (stepF f s ask).2.1, outA (stepF f s ask).2.2, .int .i64 0] else .tup [stA st0, evs [], outA out0, .int .i64 1]
theorem stRight_iff {f : List Ins} {s : St} : stRight f s = true ↔ fnOk f = true ∧ 0 ≤ s.pc ∧ s.pc < (f.length : Int) ∧ s.heap.length ≤ 16 ∧ 0 ≤ s.asked ∧ s.L.all okW = true := by
  unfold stRight
  simp only [Bool.and_eq_true, decide_eq_true_eq]
theorem stepW_len (s : St) (x : Ins) (ask : List Int) : (stepW s x ask).1.L.length = s.L.length := by
  unfold stepW
  simp only
  (repeat' split) <;> simp [setS, callS, moveS_len]
theorem stepW_keep (s : St) (x : Ins) (ask : List Int) (h : (stepW s x ask).2.2.1 = 1) : (stepW s x ask).1 = s := by
  revert h
  unfold stepW
  simp only
  (repeat' split) <;> simp
theorem usesR_mem {x : Ins} {l : Int} (h : l ∈ usesR x) : l = x.a ∨ l = x.b := by
  unfold usesR at h
  (repeat' split at h) <;> simp at h <;> omega
theorem usesR_len (x : Ins) : (usesR x).length ≤ 2 := by
  unfold usesR
  (repeat' split) <;> simp
set_option maxHeartbeats 4000000 in
theorem step_Do_ok (f : List Ins) (s : St) (ask : List Int) (hL : s.L.length = 24) (hask : (ask.length : Int) ≤ 9223372036854775807) : Pure Tryd.prog 17 [encFn f, stA s, ints ask] (stepA f s ask) := by
  intro H
  refine ACalls.go step_Do.low (by simp) fun hcl => ?_
  have hwl : (wc s.L).length = 48 := by rw [wc_len, hL]
  have h1 := step_Right_ok f s hL
  unfold stepA
  by_cases hR : stRight f s = true
  case neg =>
    have hR2 : stRight f s = false := by simpa using hR
    rw [if_neg hR, st0_eq, outA_eq]
    rw [hR2] at h1
    rw [stA_eq] at *
    unfold encFn ints out0 at *
    replace h1 := Hold.mk h1
    replace hL := Hold.mk hL
    clear hR hR2
    repeat' (first | simp only [seval, evx, beq_self_eq_true, sb, ew, insA, encIns, ins_dec, ins_eta, wrow_eq, evs_eq, encEv_def, List.map_cons, List.map_nil, z51_eq, *] | simp (disch := omega) only [if_pos, if_neg] | refine R.seq ?_ | refine LCB.text ?_ | refine LCB.quiet rfl ?_ | refine R.anyX ?_ | refine R.block ?_ | refine LCB.skip ?_ | refine LCB.exit ?_ | refine LCB.ret ?_ | ((first | refine RetOk.val hcl ?_ | refine Weak.at hcl ?_); simp only [seval, evw, List.forall_mem_cons, List.forall_mem_map, List.forall_mem_append, List.not_mem_nil, sb, ew, insA, encIns, ins_dec, ins_eta, wrow_eq, evs_eq, encEv_def, List.map_cons, List.map_nil, z51_eq, *]) | ((first | refine LCB.cond (by simp only [seval, evx] <;> rfl) ?_ ?_ | refine wpG_split (by simp only [seval, evx] <;> rfl) ?_ ?_ | refine wxG_split (by simp only [seval, evx] <;> rfl) ?_ ?_) <;> (intro hc; try simp only [seval, nf] at hc)) | refine ACalls.inst ?_ | refine CallX.inst ?_ | (with_reducible refine And.intro ?_ ?_) | exact True.intro)
    first | refine ACalls.pure (h1.of) ?_ | refine CallP.pure (h1.of) rfl ?_ | refine CallX.pure (h1.of) ?_
    repeat' (first | simp only [seval, evx, beq_self_eq_true, sb, ew, insA, encIns, ins_dec, ins_eta, wrow_eq, evs_eq, encEv_def, List.map_cons, List.map_nil, z51_eq, *] | simp (disch := omega) only [if_pos, if_neg] | refine R.seq ?_ | refine LCB.text ?_ | refine LCB.quiet rfl ?_ | refine R.anyX ?_ | refine R.block ?_ | refine LCB.skip ?_ | refine LCB.exit ?_ | refine LCB.ret ?_ | ((first | refine RetOk.val hcl ?_ | refine Weak.at hcl ?_); simp only [seval, evw, List.forall_mem_cons, List.forall_mem_map, List.forall_mem_append, List.not_mem_nil, sb, ew, insA, encIns, ins_dec, ins_eta, wrow_eq, evs_eq, encEv_def, List.map_cons, List.map_nil, z51_eq, *]) | ((first | refine LCB.cond (by simp only [seval, evx] <;> rfl) ?_ ?_ | refine wpG_split (by simp only [seval, evx] <;> rfl) ?_ ?_ | refine wxG_split (by simp only [seval, evx] <;> rfl) ?_ ?_) <;> (intro hc; try simp only [seval, nf] at hc)) | refine ACalls.inst ?_ | refine CallX.inst ?_ | (with_reducible refine And.intro ?_ ?_) | exact True.intro)
  rw [if_pos hR]
  rw [hR] at h1
  obtain ⟨r1, r2, r3, r4, r5, _⟩ := stRight_iff.1 hR
  obtain ⟨f1, f2, f3, _⟩ := fnOk_iff.1 r1
  obtain ⟨L, heap, pc, asked⟩ := s
  simp only at r2 r3 r4 r5 hL hwl
  obtain ⟨n, rfl⟩ := Int.eq_ofNat_of_zero_le r2
  have hn : n < f.length := by omega
  have hg := getD_encIns hn
  have hmem : f.getD n noIns ∈ f := by simp [List.getD, hn]
  obtain ⟨d, a, b, hd, hd2, ha, ha2, hb, hb2⟩ := places_of (f3 _ hmem)
  have hF : stepF f ⟨L, heap, (n : Int), asked⟩ ask = if (usesR (f.getD n noIns)).all (fun l => (wAt L l).is) then
    ((stepW ⟨L, heap, (n : Int), asked⟩ (f.getD n noIns) ask).1, (stepW ⟨L, heap, (n : Int), asked⟩ (f.getD n noIns) ask).2.1, ⟨(stepW ⟨L, heap, (n : Int), asked⟩ (f.getD n noIns) ask).2.2.1, (stepW ⟨L, heap, (n : Int), asked⟩ (f.getD n noIns) ask).2.2.2, if (stepW ⟨L, heap, (n : Int), asked⟩ (f.getD n noIns) ask).2.2.1 = 1 then heap else []⟩)
    else (⟨L, heap, (n : Int), asked⟩, [], ⟨2, 0, []⟩) := rfl
  have huse := ins_Uses_ok (f.getD n noIns)
  rw [uses_same] at huse
  have hum : ∀ l ∈ usesR (f.getD n noIns), ∃ m : Nat, l = (m : Int) ∧ m < 24 := fun l hl => by
    rcases usesR_mem hl with h | h
    · exact ⟨a, by rw [h, ha], ha2⟩
    · exact ⟨b, by rw [h, hb], hb2⟩
  have hul := usesR_len (f.getD n noIns)
  have hown := step_own_ok ⟨L, heap, (n : Int), asked⟩ hL (by simp only; omega)
  have hsl := stepW_len ⟨L, heap, (n : Int), asked⟩ (f.getD n noIns) ask
  have hsk := stepW_keep ⟨L, heap, (n : Int), asked⟩ (f.getD n noIns) ask
  have e1 : (n : Int) < (f.length : Int) := by omega
  have hdo := fun (G : List AObj) (k : Nat) hk hx => work_do_ok (H := G) (k := k) (s := ⟨L, heap, (n : Int), asked⟩) (x := f.getD n noIns) (ask := ask) d a b hd hd2 ha ha2 hb hb2 hk hx hL r5 hask (by simp only; omega) (by simp only; omega)
  generalize stepF f ⟨L, heap, (n : Int), asked⟩ ask = RES at *
  generalize f.getD n noIns = x at *
  generalize usesR x = U at *
  generalize stepW ⟨L, heap, (n : Int), asked⟩ x ask = q at *
  obtain ⟨s', ev, how, value⟩ := q
  simp only at hF hdo hsl hsk
  have hwl' : (wc s'.L).length = 48 := by rw [wc_len, hsl, hL]
  rw [insA_eq] at huse
  simp only [stA_eq, outA_eq] at h1 hown ⊢
  unfold encFn ints encInts at *
  replace h1 := Hold.mk h1
  replace hL := Hold.mk hL
  replace hF := Hold.mk hF
  replace hsl := Hold.mk hsl
  replace hsk := Hold.mk hsk
  replace huse := Hold.mk huse
  replace hum := Hold.mk hum
  replace hown := Hold.mk hown
  replace hdo := Hold.mk hdo
  replace hd := Hold.mk hd
  replace ha := Hold.mk ha
  replace hb := Hold.mk hb
  clear hR r1 f3 hmem r2 r3
  (refine R.seq ?_; refine LCB.text ?_; repeat' (first | simp only [seval, evx, beq_self_eq_true, sb, ew, insA, encIns, ins_dec, ins_eta, wrow_eq, evs_eq, encEv_def, List.map_cons, List.map_nil, z51_eq, *] | simp (disch := omega) only [if_pos, if_neg]))
  refine R.cut [(0, .list (f.map encIns)), (2, .list (ask.map encI)), (4, .ptr H.length 1 0 0), (6, .ptr (H.length + 1) 1 0 0), (8, .ptr (H.length + 2) 1 0 0)] (H ++ [.vec 51 [wc L ++ [.list (heap.map encI), .int .i64 (n : Int), .int .i64 asked]], .vec 51 [z51], .vec 3 [[.int .i64 0, .int .i64 0, .imm (.slice none 0 0)]]]) ?_ ?_
  · repeat' (first | simp only [seval, evx, beq_self_eq_true, sb, ew, insA, encIns, ins_dec, ins_eta, wrow_eq, evs_eq, encEv_def, List.map_cons, List.map_nil, z51_eq, *] | simp (disch := omega) only [if_pos, if_neg] | refine R.seq ?_ | refine LCB.text ?_ | refine LCB.quiet rfl ?_ | refine R.anyX ?_ | refine R.block ?_ | refine LCB.skip ?_ | refine LCB.exit ?_ | refine LCB.ret ?_ | ((first | refine RetOk.val hcl ?_ | refine Weak.at hcl ?_); simp only [seval, evw, List.forall_mem_cons, List.forall_mem_map, List.forall_mem_append, List.not_mem_nil, sb, ew, insA, encIns, ins_dec, ins_eta, wrow_eq, evs_eq, encEv_def, List.map_cons, List.map_nil, z51_eq, *]) | ((first | refine LCB.cond (by simp only [seval, evx] <;> rfl) ?_ ?_ | refine wpG_split (by simp only [seval, evx] <;> rfl) ?_ ?_ | refine wxG_split (by simp only [seval, evx] <;> rfl) ?_ ?_) <;> (intro hc; try simp only [seval, nf] at hc)) | refine ACalls.inst ?_ | refine CallX.inst ?_ | (with_reducible refine And.intro ?_ ?_) | exact True.intro)
    first | refine ACalls.pure (h1.of) ?_ | refine CallP.pure (h1.of) rfl ?_ | refine CallX.pure (h1.of) ?_
    repeat' (first | simp only [seval, evx, beq_self_eq_true, sb, ew, insA, encIns, ins_dec, ins_eta, wrow_eq, evs_eq, encEv_def, List.map_cons, List.map_nil, z51_eq, *] | simp (disch := omega) only [if_pos, if_neg] | refine R.seq ?_ | refine LCB.text ?_ | refine LCB.quiet rfl ?_ | refine R.anyX ?_ | refine R.block ?_ | refine LCB.skip ?_ | refine LCB.exit ?_ | refine LCB.ret ?_ | ((first | refine RetOk.val hcl ?_ | refine Weak.at hcl ?_); simp only [seval, evw, List.forall_mem_cons, List.forall_mem_map, List.forall_mem_append, List.not_mem_nil, sb, ew, insA, encIns, ins_dec, ins_eta, wrow_eq, evs_eq, encEv_def, List.map_cons, List.map_nil, z51_eq, *]) | ((first | refine LCB.cond (by simp only [seval, evx] <;> rfl) ?_ ?_ | refine wpG_split (by simp only [seval, evx] <;> rfl) ?_ ?_ | refine wxG_split (by simp only [seval, evx] <;> rfl) ?_ ?_) <;> (intro hc; try simp only [seval, nf] at hc)) | refine ACalls.inst ?_ | refine CallX.inst ?_ | (with_reducible refine And.intro ?_ ?_) | exact True.intro)
  refine R.cut [(4, .ptr H.length 1 0 0), (6, .ptr (H.length + 1) 1 0 0), (8, .ptr (H.length + 2) 1 0 0), (10, .ptr (H.length + 3) 1 0 0)] (H ++ [.vec 51 [wc L ++ [.list (heap.map encI), .int .i64 (n : Int), .int .i64 asked]], .vec 51 [z51], .vec 3 [[.int .i64 0, .int .i64 0, .imm (.slice none 0 0)]], .vec 61 [wrow ⟨L, heap, (n : Int), asked⟩ x ask (.imm (.slice none 0 0)) 0 0]]) ?_ ?_
  · repeat' (first | simp only [seval, evx, beq_self_eq_true, sb, ew, insA, encIns, ins_dec, ins_eta, wrow_eq, evs_eq, encEv_def, List.map_cons, List.map_nil, z51_eq, *] | simp (disch := omega) only [if_pos, if_neg] | refine R.seq ?_ | refine LCB.text ?_ | refine LCB.quiet rfl ?_ | refine R.anyX ?_ | refine R.block ?_ | refine LCB.skip ?_ | refine LCB.exit ?_ | refine LCB.ret ?_ | ((first | refine RetOk.val hcl ?_ | refine Weak.at hcl ?_); simp only [seval, evw, List.forall_mem_cons, List.forall_mem_map, List.forall_mem_append, List.not_mem_nil, sb, ew, insA, encIns, ins_dec, ins_eta, wrow_eq, evs_eq, encEv_def, List.map_cons, List.map_nil, z51_eq, *]) | ((first | refine LCB.cond (by simp only [seval, evx] <;> rfl) ?_ ?_ | refine wpG_split (by simp only [seval, evx] <;> rfl) ?_ ?_ | refine wxG_split (by simp only [seval, evx] <;> rfl) ?_ ?_) <;> (intro hc; try simp only [seval, nf] at hc)) | refine ACalls.inst ?_ | refine CallX.inst ?_ | (with_reducible refine And.intro ?_ ?_) | exact True.intro)
    first | refine ACalls.pure (hown.of) ?_ | refine CallP.pure (hown.of) rfl ?_ | refine CallX.pure (hown.of) ?_
    repeat' (first | simp only [seval, evx, beq_self_eq_true, sb, ew, insA, encIns, ins_dec, ins_eta, wrow_eq, evs_eq, encEv_def, List.map_cons, List.map_nil, z51_eq, *] | simp (disch := omega) only [if_pos, if_neg] | refine R.seq ?_ | refine LCB.text ?_ | refine LCB.quiet rfl ?_ | refine R.anyX ?_ | refine R.block ?_ | refine LCB.skip ?_ | refine LCB.exit ?_ | refine LCB.ret ?_ | ((first | refine RetOk.val hcl ?_ | refine Weak.at hcl ?_); simp only [seval, evw, List.forall_mem_cons, List.forall_mem_map, List.forall_mem_append, List.not_mem_nil, sb, ew, insA, encIns, ins_dec, ins_eta, wrow_eq, evs_eq, encEv_def, List.map_cons, List.map_nil, z51_eq, *]) | ((first | refine LCB.cond (by simp only [seval, evx] <;> rfl) ?_ ?_ | refine wpG_split (by simp only [seval, evx] <;> rfl) ?_ ?_ | refine wxG_split (by simp only [seval, evx] <;> rfl) ?_ ?_) <;> (intro hc; try simp only [seval, nf] at hc)) | refine ACalls.inst ?_ | refine CallX.inst ?_ | (with_reducible refine And.intro ?_ ?_) | exact True.intro)
  refine LCB.pre (Weak.loseAt [.vec 51 [wc L ++ [.list (heap.map encI), .int .i64 (n : Int), .int .i64 asked]], .vec 51 [z51], .vec 3 [[.int .i64 0, .int .i64 0, .imm (.slice none 0 0)]], .vec 61 [wrow ⟨L, heap, (n : Int), asked⟩ x ask (.list []) 0 0]] [(4, .ptr H.length 1 0 0), (6, .ptr (H.length + 1) 1 0 0), (8, .ptr (H.length + 2) 1 0 0), (10, .ptr (H.length + 3) 1 0 0)] (by simp only [seval, evw, lk, List.forall_mem_cons, List.forall_mem_map, List.forall_mem_append, List.not_mem_nil, sb, ew, insA, encIns, ins_dec, ins_eta, wrow_eq, evs_eq, encEv_def, List.map_cons, List.map_nil, z51_eq, *])) ?_
  have hU : Hold (U.all (fun l => (wAt L l).is) = (U.drop 0).all (fun l => (wAt L l).is)) := ⟨rfl⟩
  repeat' (first | simp only [seval, evx, beq_self_eq_true, sb, ew, insA, encIns, ins_dec, ins_eta, wrow_eq, evs_eq, encEv_def, List.map_cons, List.map_nil, z51_eq, *] | simp (disch := omega) only [if_pos, if_neg] | refine R.seq ?_ | refine LCB.text ?_ | refine LCB.quiet rfl ?_ | refine R.anyX ?_ | refine R.block ?_ | refine LCB.skip ?_ | refine LCB.exit ?_ | refine LCB.ret ?_ | ((first | refine RetOk.val hcl ?_ | refine Weak.at hcl ?_); simp only [seval, evw, List.forall_mem_cons, List.forall_mem_map, List.forall_mem_append, List.not_mem_nil, sb, ew, insA, encIns, ins_dec, ins_eta, wrow_eq, evs_eq, encEv_def, List.map_cons, List.map_nil, z51_eq, *]) | ((first | refine LCB.cond (by simp only [seval, evx] <;> rfl) ?_ ?_ | refine wpG_split (by simp only [seval, evx] <;> rfl) ?_ ?_ | refine wxG_split (by simp only [seval, evx] <;> rfl) ?_ ?_) <;> (intro hc; try simp only [seval, nf] at hc)) | refine ACalls.inst ?_ | refine CallX.inst ?_ | (with_reducible refine And.intro ?_ ?_) | exact True.intro)
  first | refine ACalls.pure (huse.of) ?_ | refine CallP.pure (huse.of) rfl ?_ | refine CallX.pure (huse.of) ?_
  repeat' (first | simp only [seval, evx, beq_self_eq_true, sb, ew, insA, encIns, ins_dec, ins_eta, wrow_eq, evs_eq, encEv_def, List.map_cons, List.map_nil, z51_eq, *] | simp (disch := omega) only [if_pos, if_neg] | refine R.seq ?_ | refine LCB.text ?_ | refine LCB.quiet rfl ?_ | refine R.anyX ?_ | refine R.block ?_ | refine LCB.skip ?_ | refine LCB.exit ?_ | refine LCB.ret ?_ | ((first | refine RetOk.val hcl ?_ | refine Weak.at hcl ?_); simp only [seval, evw, List.forall_mem_cons, List.forall_mem_map, List.forall_mem_append, List.not_mem_nil, sb, ew, insA, encIns, ins_dec, ins_eta, wrow_eq, evs_eq, encEv_def, List.map_cons, List.map_nil, z51_eq, *]) | ((first | refine LCB.cond (by simp only [seval, evx] <;> rfl) ?_ ?_ | refine wpG_split (by simp only [seval, evx] <;> rfl) ?_ ?_ | refine wxG_split (by simp only [seval, evx] <;> rfl) ?_ ?_) <;> (intro hc; try simp only [seval, nf] at hc)) | refine ACalls.inst ?_ | refine CallX.inst ?_ | (with_reducible refine And.intro ?_ ?_) | exact True.intro)
  refine R.loop (S := Nat) ⟨fun i => [(4, .ptr H.length 1 0 0), (6, .ptr (H.length + 1) 1 0 0), (8, .ptr (H.length + 2) 1 0 0), (10, .ptr (H.length + 3) 1 0 0), (34, .list (U.map encI)), (35, .int .i64 (U.length : Int)), (36, .int .i64 (i : Int))],
    fun i => H ++ [.vec 51 [wc L ++ [.list (heap.map encI), .int .i64 (n : Int), .int .i64 asked]], .vec 51 [z51], .vec 3 [[.int .i64 0, .int .i64 0, .imm (.slice none 0 0)]], .vec 61 [wrow ⟨L, heap, (n : Int), asked⟩ x ask (.list []) 0 0]],
    fun i => i ≤ U.length ∧ U.all (fun l => (wAt L l).is) = (U.drop i).all (fun l => (wAt L l).is), fun i => U.length - i⟩ 0 ⟨Nat.zero_le _, hU.of⟩ (Weak.at hcl ?_) ?_
  · simp only [seval, evw, List.forall_mem_cons, List.forall_mem_map, List.forall_mem_append, List.not_mem_nil, sb, ew, insA, encIns, ins_dec, ins_eta, wrow_eq, evs_eq, encEv_def, List.map_cons, List.map_nil, z51_eq, *]
  rintro i ⟨hi, hq⟩
  simp only at hi hq ⊢
  by_cases hlt : i < U.length
  · have e2 : (i : Int) < (U.length : Int) := by omega
    have e3 : IntKind.i64.wrap ((i : Int) + 1) = ((i + 1 : Nat) : Int) := by rw [IntKind.wrap_i64]; omega
    have hgu := getD_encI hlt
    obtain ⟨m, hm, hm2⟩ := hum.of (U.getD i 0) (by simp [List.getD, hlt])
    rw [hm] at hgu
    have hdr : U.drop i = U.getD i 0 :: U.drop (i + 1) := by
      rw [List.drop_eq_getElem_cons hlt]
      simp [List.getD, hlt]
    rw [hdr, hm, List.all_cons] at hq
    have hll := hL.of
    have hgi := wr_is (L := L) (r := [.list (heap.map encI), .int .i64 (n : Int), .int .i64 asked]) (i := m) (by omega)
    have e4 : (m : Int) < 24 := by omega
    have hwm : wAt L (m : Int) = L.getD m noW := by simp [wAt]
    rw [hwm] at hq
    generalize L.getD m noW = w at *
    clear hll
    replace hm := Hold.mk hm
    replace hdr := Hold.mk hdr
    replace hwm := Hold.mk hwm
    cases hwi : w.is
    · rw [hwi] at hgi hq
      have hF2 := hF.of
      rw [hq, Bool.false_and, if_neg (by simp)] at hF2
      subst hF2
      replace hq := Hold.mk hq
      replace hwi := Hold.mk hwi
      repeat' (first | simp only [seval, evx, beq_self_eq_true, sb, ew, insA, encIns, ins_dec, ins_eta, wrow_eq, evs_eq, encEv_def, List.map_cons, List.map_nil, z51_eq, *] | simp (disch := omega) only [if_pos, if_neg] | refine R.seq ?_ | refine LCB.text ?_ | refine LCB.quiet rfl ?_ | refine R.anyX ?_ | refine R.block ?_ | refine LCB.skip ?_ | refine LCB.exit ?_ | refine LCB.ret ?_ | ((first | refine RetOk.val hcl ?_ | refine Weak.at hcl ?_); simp only [seval, evw, List.forall_mem_cons, List.forall_mem_map, List.forall_mem_append, List.not_mem_nil, sb, ew, insA, encIns, ins_dec, ins_eta, wrow_eq, evs_eq, encEv_def, List.map_cons, List.map_nil, z51_eq, *]) | ((first | refine LCB.cond (by simp only [seval, evx] <;> rfl) ?_ ?_ | refine wpG_split (by simp only [seval, evx] <;> rfl) ?_ ?_ | refine wxG_split (by simp only [seval, evx] <;> rfl) ?_ ?_) <;> (intro hc; try simp only [seval, nf] at hc)) | refine ACalls.inst ?_ | refine CallX.inst ?_ | (with_reducible refine And.intro ?_ ?_) | exact True.intro)
    · rw [hwi, Bool.true_and] at hq
      rw [hwi] at hgi
      replace hq := Hold.mk hq
      replace hwi := Hold.mk hwi
      repeat' (first | simp only [seval, evx, beq_self_eq_true, sb, ew, insA, encIns, ins_dec, ins_eta, wrow_eq, evs_eq, encEv_def, List.map_cons, List.map_nil, z51_eq, *] | simp (disch := omega) only [if_pos, if_neg] | refine R.seq ?_ | refine LCB.text ?_ | refine LCB.quiet rfl ?_ | refine R.anyX ?_ | refine R.block ?_ | refine LCB.skip ?_ | refine LCB.exit ?_ | refine LCB.ret ?_ | ((first | refine RetOk.val hcl ?_ | refine Weak.at hcl ?_); simp only [seval, evw, List.forall_mem_cons, List.forall_mem_map, List.forall_mem_append, List.not_mem_nil, sb, ew, insA, encIns, ins_dec, ins_eta, wrow_eq, evs_eq, encEv_def, List.map_cons, List.map_nil, z51_eq, *]) | ((first | refine LCB.cond (by simp only [seval, evx] <;> rfl) ?_ ?_ | refine wpG_split (by simp only [seval, evx] <;> rfl) ?_ ?_ | refine wxG_split (by simp only [seval, evx] <;> rfl) ?_ ?_) <;> (intro hc; try simp only [seval, nf] at hc)) | refine ACalls.inst ?_ | refine CallX.inst ?_ | (with_reducible refine And.intro ?_ ?_) | exact True.intro)
      refine ⟨i + 1, ⟨hlt, hq.of⟩, by simp only; omega, Weak.at hcl ?_⟩
      simp only [seval, evw, List.forall_mem_cons, List.forall_mem_map, List.forall_mem_append, List.not_mem_nil, sb, ew, insA, encIns, ins_dec, ins_eta, wrow_eq, evs_eq, encEv_def, List.map_cons, List.map_nil, z51_eq, *]
  · have hie : i = U.length := by omega
    subst hie
    have e2 : ¬ (U.length : Int) < (U.length : Int) := by omega
    rw [List.drop_length, List.all_nil] at hq
    have hF2 := hF.of
    rw [hq, if_pos rfl] at hF2
    subst hF2
    replace hq := Hold.mk hq
    have hd2' := hdo.of (H ++ [.vec 51 [wc L ++ [.list (heap.map encI), .int .i64 (n : Int), .int .i64 asked]], .vec 51 [z51], .vec 3 [[.int .i64 0, .int .i64 0, .imm (.slice none 0 0)]], .vec 61 [wrow ⟨L, heap, (n : Int), asked⟩ x ask (.list []) 0 0]]) (H.length + 3) (by simp) (by rw [hp_get]; rfl)
    replace hd2' := Hold.mk hd2'
    repeat' (first | simp only [seval, evx, beq_self_eq_true, sb, ew, insA, encIns, ins_dec, ins_eta, wrow_eq, evs_eq, encEv_def, List.map_cons, List.map_nil, z51_eq, *] | simp (disch := omega) only [if_pos, if_neg] | refine R.seq ?_ | refine LCB.text ?_ | refine LCB.quiet rfl ?_ | refine R.anyX ?_ | refine R.block ?_ | refine LCB.skip ?_ | refine LCB.exit ?_ | refine LCB.ret ?_ | ((first | refine RetOk.val hcl ?_ | refine Weak.at hcl ?_); simp only [seval, evw, List.forall_mem_cons, List.forall_mem_map, List.forall_mem_append, List.not_mem_nil, sb, ew, insA, encIns, ins_dec, ins_eta, wrow_eq, evs_eq, encEv_def, List.map_cons, List.map_nil, z51_eq, *]) | ((first | refine LCB.cond (by simp only [seval, evx] <;> rfl) ?_ ?_ | refine wpG_split (by simp only [seval, evx] <;> rfl) ?_ ?_ | refine wxG_split (by simp only [seval, evx] <;> rfl) ?_ ?_) <;> (intro hc; try simp only [seval, nf] at hc)) | refine ACalls.inst ?_ | refine CallX.inst ?_ | (with_reducible refine And.intro ?_ ?_) | exact True.intro)
    refine hd2'.of.mono ?_
    rintro r' H' ⟨rfl, rfl⟩
    by_cases h1w : how = 1
    · subst h1w
      have hs'' := hsk.of rfl
      subst hs''
      have rk : rowsOk 1 (heap.map encI) = true := rk_map fun x _ => ⟨rfl, rfl⟩
      have b1 : heap.length * 8 ≤ 140737488355328 := by omega
      have b2 : heap.length ≤ 9223372036854775807 := by omega
      have b3 : (0 + heap.length) * 8 ≤ 140737488355328 := by omega
      repeat' (first | simp only [seval, evx, beq_self_eq_true, sb, ew, insA, encIns, ins_dec, ins_eta, wrow_eq, evs_eq, encEv_def, List.map_cons, List.map_nil, z51_eq, *] | simp (disch := omega) only [if_pos, if_neg] | refine R.seq ?_ | refine LCB.text ?_ | refine LCB.quiet rfl ?_ | refine R.anyX ?_ | refine R.block ?_ | refine LCB.skip ?_ | refine LCB.exit ?_ | refine LCB.ret ?_ | ((first | refine RetOk.val hcl ?_ | refine Weak.at hcl ?_); simp only [seval, evw, List.forall_mem_cons, List.forall_mem_map, List.forall_mem_append, List.not_mem_nil, sb, ew, insA, encIns, ins_dec, ins_eta, wrow_eq, evs_eq, encEv_def, List.map_cons, List.map_nil, z51_eq, *]) | ((first | refine LCB.cond (by simp only [seval, evx] <;> rfl) ?_ ?_ | refine wpG_split (by simp only [seval, evx] <;> rfl) ?_ ?_ | refine wxG_split (by simp only [seval, evx] <;> rfl) ?_ ?_) <;> (intro hc; try simp only [seval, nf] at hc)) | refine ACalls.inst ?_ | refine CallX.inst ?_ | (with_reducible refine And.intro ?_ ?_) | exact True.intro)
    · rw [if_neg h1w]
      repeat' (first | simp only [seval, evx, beq_self_eq_true, sb, ew, insA, encIns, ins_dec, ins_eta, wrow_eq, evs_eq, encEv_def, List.map_cons, List.map_nil, z51_eq, *] | simp (disch := omega) only [if_pos, if_neg] | refine R.seq ?_ | refine LCB.text ?_ | refine LCB.quiet rfl ?_ | refine R.anyX ?_ | refine R.block ?_ | refine LCB.skip ?_ | refine LCB.exit ?_ | refine LCB.ret ?_ | ((first | refine RetOk.val hcl ?_ | refine Weak.at hcl ?_); simp only [seval, evw, List.forall_mem_cons, List.forall_mem_map, List.forall_mem_append, List.not_mem_nil, sb, ew, insA, encIns, ins_dec, ins_eta, wrow_eq, evs_eq, encEv_def, List.map_cons, List.map_nil, z51_eq, *]) | ((first | refine LCB.cond (by simp only [seval, evx] <;> rfl) ?_ ?_ | refine wpG_split (by simp only [seval, evx] <;> rfl) ?_ ?_ | refine wxG_split (by simp only [seval, evx] <;> rfl) ?_ ?_) <;> (intro hc; try simp only [seval, nf] at hc)) | refine ACalls.inst ?_ | refine CallX.inst ?_ | (with_reducible refine And.intro ?_ ?_) | exact True.intro)
end Go.Proofs.YtbkbehkjndmabaaDoor

/-
  step: the document's step.
-/
namespace Go.Proofs.YtbkbehkjndmabaaDoor
open Go.RowKit
set_option linter.unusedVariables false
set_option linter.unusedSimpArgs false
theorem numDo_how (op a b : Int) : (numDo op a b).2 = 0 ∨ (numDo op a b).2 = 2 ∨ (numDo op a b).2 = 3 := by
  unfold numDo
  (repeat' split) <;> simp
set_option maxHeartbeats 8000000 in
theorem ref07_Do_ok (f : List Ins) (s : St) (ask : List Int) (hL : s.L.length = 24) (hask : (ask.length : Int) ≤ 9223372036854775807) (hR : stRight f s = true) : Pure Tryd.prog 23 [encFn f, rsA s, ints ask] (.tup [rsA (stepF f s ask).1, evs (stepF f s ask).2.1, outA (stepF f s ask).2.2]) := by
  intro H
  refine ACalls.go joineryref07_Do.low (by simp) fun hcl => ?_
  obtain ⟨r1, r2, r3, r4, r5, _⟩ := stRight_iff.1 hR
  obtain ⟨f1, f2, f3, _⟩ := fnOk_iff.1 r1
  obtain ⟨L, heap, pc, asked⟩ := s
  simp only at r2 r3 r4 r5 hL
  obtain ⟨n, rfl⟩ := Int.eq_ofNat_of_zero_le r2
  have hn : n < f.length := by omega
  have hg := getD_encIns hn
  have hmem : f.getD n noIns ∈ f := by simp [List.getD, hn]
  obtain ⟨d, a, b, hd, hd2, ha, ha2, hb, hb2⟩ := places_of (f3 _ hmem)
  have hF : (if (usesR (f.getD n noIns)).all (fun l => (wAt L l).is) then
    ((stepW ⟨L, heap, (n : Int), asked⟩ (f.getD n noIns) ask).1, (stepW ⟨L, heap, (n : Int), asked⟩ (f.getD n noIns) ask).2.1, ⟨(stepW ⟨L, heap, (n : Int), asked⟩ (f.getD n noIns) ask).2.2.1, (stepW ⟨L, heap, (n : Int), asked⟩ (f.getD n noIns) ask).2.2.2, if (stepW ⟨L, heap, (n : Int), asked⟩ (f.getD n noIns) ask).2.2.1 = 1 then heap else []⟩)
    else (⟨L, heap, (n : Int), asked⟩, [], ⟨2, 0, []⟩)) = stepF f ⟨L, heap, (n : Int), asked⟩ ask := rfl
  have huse := ref03_Uses_ok (f.getD n noIns)
  have hum : ∀ l ∈ usesR (f.getD n noIns), ∃ m : Nat, l = (m : Int) ∧ m < 24 := fun l hl => by
    rcases usesR_mem hl with h | h
    · exact ⟨a, by rw [h, ha], ha2⟩
    · exact ⟨b, by rw [h, hb], hb2⟩
  have hul := usesR_len (f.getD n noIns)
  have hu0 : (¬ (4 ≤ (f.getD n noIns).op ∧ (f.getD n noIns).op ≤ 12) ∧ ¬ (f.getD n noIns).op = 14 ∧ ¬ (f.getD n noIns).op = 13 ∧ ¬ (f.getD n noIns).op = 15 ∧ ¬ (f.getD n noIns).op = 17 ∧ ¬ (f.getD n noIns).op = 18) → usesR (f.getD n noIns) = [] := fun h => by
    unfold usesR
    rw [if_neg (by omega), if_neg (by omega)]
  have e1 : (n : Int) < (f.length : Int) := by omega
  have e2 : IntKind.i64.wrap ((n : Int) + 1) = ((n + 1 : Nat) : Int) := by rw [IntKind.wrap_i64]; omega
  have e3 : ((n : Int) + 1) = ((n + 1 : Nat) : Int) := by omega
  have hwith := fun (L' : List W) (i : Nat) (w : W) (h1 : L'.length = 24) (h2 : i < 24) => ref07_With_ok L' i w (by omega) (by omega)
  generalize stepF f ⟨L, heap, (n : Int), asked⟩ ask = RES at *
  generalize f.getD n noIns = x at *
  obtain ⟨q, hq⟩ : ∃ q, stepW ⟨L, heap, (n : Int), asked⟩ x ask = q := ⟨_, rfl⟩
  rw [hq] at hF
  unfold stepW at hq
  rw [show x.a.toNat = a by rw [ha]; simp, show x.b.toNat = b by rw [hb]; simp, show x.d.toNat = d by rw [hd]; simp] at hq
  simp only [e3] at hq
  have hga := getD_encW (l := L) (j := a) (by omega)
  have hgb := getD_encW (l := L) (j := b) (by omega)
  have hgd := getD_encW (l := L) (j := d) (by omega)
  have a1 : (a : Int) < (L.length : Int) := by omega
  have a2 : (b : Int) < (L.length : Int) := by omega
  have a3 : (d : Int) < (L.length : Int) := by omega
  rw [insA_eq] at huse
  simp only [rsA_eq, outA_eq]
  unfold encFn ints encInts at *
  generalize hUU : usesR x = U at *
  replace hUU := Hold.mk hUU
  replace e3 := Hold.mk e3
  replace hL := Hold.mk hL
  replace huse := Hold.mk huse
  replace hum := Hold.mk hum
  replace hwith := Hold.mk hwith
  obtain ⟨op, xd, xa, xb, xn, xto⟩ := x
  simp only at hd ha hb hq hu0 huse
  subst hd
  subst ha
  subst hb
  clear hR r1 f3 hmem r2 r3
  by_cases o16 : op = 16
  · subst o16
    have hu := hu0 (by omega)
    subst hu
    rw [if_neg (by omega), if_neg (by omega), if_neg (by omega), if_neg (by omega), if_neg (by omega), if_pos rfl] at hq
    subst hq
    simp only [List.all_nil] at hF
    rw [if_pos trivial, if_neg (by decide)] at hF
    subst hF
    clear hu0
    repeat' (first | simp only [seval, evx, beq_self_eq_true, sb, ew, insA, encIns, ins_dec, ins_eta, evs_eq, encEv_def, List.map_cons, List.map_nil, *] | simp (disch := omega) only [if_pos, if_neg] | refine R.seq ?_ | refine LCB.text ?_ | refine LCB.quiet rfl ?_ | refine R.anyX ?_ | refine R.block ?_ | refine LCB.skip ?_ | refine LCB.exit ?_ | refine LCB.ret ?_ | ((first | refine RetOk.val hcl ?_ | refine Weak.at hcl ?_); simp only [seval, evw, List.forall_mem_cons, List.forall_mem_map, List.forall_mem_append, List.not_mem_nil, sb, ew, insA, encIns, ins_dec, ins_eta, evs_eq, encEv_def, List.map_cons, List.map_nil, *]) | ((first | refine LCB.cond (by simp only [seval, evx] <;> rfl) ?_ ?_ | refine wpG_split (by simp only [seval, evx] <;> rfl) ?_ ?_ | refine wxG_split (by simp only [seval, evx] <;> rfl) ?_ ?_) <;> (intro hc; try simp only [seval, nf] at hc)) | refine ACalls.inst ?_ | refine CallX.inst ?_ | (with_reducible refine And.intro ?_ ?_) | exact True.intro)
  by_cases o1 : op = 1
  · subst o1
    have hu := hu0 (by omega)
    subst hu
    rw [if_neg (by omega), if_neg (by omega), if_neg (by omega), if_neg (by omega), if_neg (by omega), if_neg (by omega), if_pos (by omega)] at hq
    subst hq
    simp only [List.all_nil] at hF
    rw [if_pos trivial, if_neg (by decide)] at hF
    subst hF
    clear hu0
    have hm : moveS ⟨L, heap, (n : Int), asked⟩ ⟨1, (d : Int), (a : Int), (b : Int), xn, xto⟩ = ⟨L.set d ⟨true, xn⟩, heap, (n : Int), asked⟩ := by simp [moveS]
    rw [hm]
    replace hm := Hold.mk hm
    have hw := Hold.mk (hwith.of L d ⟨true, xn⟩ hL.of hd2)
    repeat' (first | simp only [seval, evx, beq_self_eq_true, sb, ew, insA, encIns, ins_dec, ins_eta, evs_eq, encEv_def, List.map_cons, List.map_nil, *] | simp (disch := omega) only [if_pos, if_neg] | refine R.seq ?_ | refine LCB.text ?_ | refine LCB.quiet rfl ?_ | refine R.anyX ?_ | refine R.block ?_ | refine LCB.skip ?_ | refine LCB.exit ?_ | refine LCB.ret ?_ | ((first | refine RetOk.val hcl ?_ | refine Weak.at hcl ?_); simp only [seval, evw, List.forall_mem_cons, List.forall_mem_map, List.forall_mem_append, List.not_mem_nil, sb, ew, insA, encIns, ins_dec, ins_eta, evs_eq, encEv_def, List.map_cons, List.map_nil, *]) | ((first | refine LCB.cond (by simp only [seval, evx] <;> rfl) ?_ ?_ | refine wpG_split (by simp only [seval, evx] <;> rfl) ?_ ?_ | refine wxG_split (by simp only [seval, evx] <;> rfl) ?_ ?_) <;> (intro hc; try simp only [seval, nf] at hc)) | refine ACalls.inst ?_ | refine CallX.inst ?_ | (with_reducible refine And.intro ?_ ?_) | exact True.intro)
    first | refine ACalls.pure (hw.of) ?_ | refine CallP.pure (hw.of) rfl ?_ | refine CallX.pure (hw.of) ?_
    repeat' (first | simp only [seval, evx, beq_self_eq_true, sb, ew, insA, encIns, ins_dec, ins_eta, evs_eq, encEv_def, List.map_cons, List.map_nil, *] | simp (disch := omega) only [if_pos, if_neg] | refine R.seq ?_ | refine LCB.text ?_ | refine LCB.quiet rfl ?_ | refine R.anyX ?_ | refine R.block ?_ | refine LCB.skip ?_ | refine LCB.exit ?_ | refine LCB.ret ?_ | ((first | refine RetOk.val hcl ?_ | refine Weak.at hcl ?_); simp only [seval, evw, List.forall_mem_cons, List.forall_mem_map, List.forall_mem_append, List.not_mem_nil, sb, ew, insA, encIns, ins_dec, ins_eta, evs_eq, encEv_def, List.map_cons, List.map_nil, *]) | ((first | refine LCB.cond (by simp only [seval, evx] <;> rfl) ?_ ?_ | refine wpG_split (by simp only [seval, evx] <;> rfl) ?_ ?_ | refine wxG_split (by simp only [seval, evx] <;> rfl) ?_ ?_) <;> (intro hc; try simp only [seval, nf] at hc)) | refine ACalls.inst ?_ | refine CallX.inst ?_ | (with_reducible refine And.intro ?_ ?_) | exact True.intro)
  by_cases o2 : op = 2
  · subst o2
    have hu := hu0 (by omega)
    subst hu
    rw [if_neg (by omega), if_neg (by omega), if_neg (by omega), if_neg (by omega), if_neg (by omega), if_neg (by omega), if_pos (by omega)] at hq
    subst hq
    simp only [List.all_nil] at hF
    rw [if_pos trivial, if_neg (by decide)] at hF
    subst hF
    clear hu0
    have hm : moveS ⟨L, heap, (n : Int), asked⟩ ⟨2, (d : Int), (a : Int), (b : Int), xn, xto⟩ = ⟨L.set d (L.getD a noW), heap, (n : Int), asked⟩ := by simp [moveS]
    rw [hm]
    replace hm := Hold.mk hm
    have hw := Hold.mk (hwith.of L d (L.getD a noW) hL.of hd2)
    generalize L.getD a noW = wa at *
    repeat' (first | simp only [seval, evx, beq_self_eq_true, sb, ew, insA, encIns, ins_dec, ins_eta, evs_eq, encEv_def, List.map_cons, List.map_nil, *] | simp (disch := omega) only [if_pos, if_neg] | refine R.seq ?_ | refine LCB.text ?_ | refine LCB.quiet rfl ?_ | refine R.anyX ?_ | refine R.block ?_ | refine LCB.skip ?_ | refine LCB.exit ?_ | refine LCB.ret ?_ | ((first | refine RetOk.val hcl ?_ | refine Weak.at hcl ?_); simp only [seval, evw, List.forall_mem_cons, List.forall_mem_map, List.forall_mem_append, List.not_mem_nil, sb, ew, insA, encIns, ins_dec, ins_eta, evs_eq, encEv_def, List.map_cons, List.map_nil, *]) | ((first | refine LCB.cond (by simp only [seval, evx] <;> rfl) ?_ ?_ | refine wpG_split (by simp only [seval, evx] <;> rfl) ?_ ?_ | refine wxG_split (by simp only [seval, evx] <;> rfl) ?_ ?_) <;> (intro hc; try simp only [seval, nf] at hc)) | refine ACalls.inst ?_ | refine CallX.inst ?_ | (with_reducible refine And.intro ?_ ?_) | exact True.intro)
    first | refine ACalls.pure (hw.of) ?_ | refine CallP.pure (hw.of) rfl ?_ | refine CallX.pure (hw.of) ?_
    repeat' (first | simp only [seval, evx, beq_self_eq_true, sb, ew, insA, encIns, ins_dec, ins_eta, evs_eq, encEv_def, List.map_cons, List.map_nil, *] | simp (disch := omega) only [if_pos, if_neg] | refine R.seq ?_ | refine LCB.text ?_ | refine LCB.quiet rfl ?_ | refine R.anyX ?_ | refine R.block ?_ | refine LCB.skip ?_ | refine LCB.exit ?_ | refine LCB.ret ?_ | ((first | refine RetOk.val hcl ?_ | refine Weak.at hcl ?_); simp only [seval, evw, List.forall_mem_cons, List.forall_mem_map, List.forall_mem_append, List.not_mem_nil, sb, ew, insA, encIns, ins_dec, ins_eta, evs_eq, encEv_def, List.map_cons, List.map_nil, *]) | ((first | refine LCB.cond (by simp only [seval, evx] <;> rfl) ?_ ?_ | refine wpG_split (by simp only [seval, evx] <;> rfl) ?_ ?_ | refine wxG_split (by simp only [seval, evx] <;> rfl) ?_ ?_) <;> (intro hc; try simp only [seval, nf] at hc)) | refine ACalls.inst ?_ | refine CallX.inst ?_ | (with_reducible refine And.intro ?_ ?_) | exact True.intro)
  by_cases o3 : op = 3
  · subst o3
    have hu := hu0 (by omega)
    subst hu
    rw [if_neg (by omega), if_neg (by omega), if_neg (by omega), if_neg (by omega), if_neg (by omega), if_neg (by omega), if_pos (by omega)] at hq
    subst hq
    simp only [List.all_nil] at hF
    rw [if_pos trivial, if_neg (by decide)] at hF
    subst hF
    clear hu0
    have hm : moveS ⟨L, heap, (n : Int), asked⟩ ⟨3, (d : Int), (a : Int), (b : Int), xn, xto⟩ = ⟨(L.set d (L.getD a noW)).set a (L.getD d noW), heap, (n : Int), asked⟩ := by simp [moveS]
    rw [hm]
    replace hm := Hold.mk hm
    have hw := Hold.mk (hwith.of L d (L.getD a noW) hL.of hd2)
    have hw2 := Hold.mk (hwith.of (L.set d (L.getD a noW)) a (L.getD d noW) (by rw [List.length_set]; exact hL.of) ha2)
    generalize L.getD a noW = wa at *
    generalize L.getD d noW = wd at *
    repeat' (first | simp only [seval, evx, beq_self_eq_true, sb, ew, insA, encIns, ins_dec, ins_eta, evs_eq, encEv_def, List.map_cons, List.map_nil, *] | simp (disch := omega) only [if_pos, if_neg] | refine R.seq ?_ | refine LCB.text ?_ | refine LCB.quiet rfl ?_ | refine R.anyX ?_ | refine R.block ?_ | refine LCB.skip ?_ | refine LCB.exit ?_ | refine LCB.ret ?_ | ((first | refine RetOk.val hcl ?_ | refine Weak.at hcl ?_); simp only [seval, evw, List.forall_mem_cons, List.forall_mem_map, List.forall_mem_append, List.not_mem_nil, sb, ew, insA, encIns, ins_dec, ins_eta, evs_eq, encEv_def, List.map_cons, List.map_nil, *]) | ((first | refine LCB.cond (by simp only [seval, evx] <;> rfl) ?_ ?_ | refine wpG_split (by simp only [seval, evx] <;> rfl) ?_ ?_ | refine wxG_split (by simp only [seval, evx] <;> rfl) ?_ ?_) <;> (intro hc; try simp only [seval, nf] at hc)) | refine ACalls.inst ?_ | refine CallX.inst ?_ | (with_reducible refine And.intro ?_ ?_) | exact True.intro)
    first | refine ACalls.pure (hw.of) ?_ | refine CallP.pure (hw.of) rfl ?_ | refine CallX.pure (hw.of) ?_
    repeat' (first | simp only [seval, evx, beq_self_eq_true, sb, ew, insA, encIns, ins_dec, ins_eta, evs_eq, encEv_def, List.map_cons, List.map_nil, *] | simp (disch := omega) only [if_pos, if_neg] | refine R.seq ?_ | refine LCB.text ?_ | refine LCB.quiet rfl ?_ | refine R.anyX ?_ | refine R.block ?_ | refine LCB.skip ?_ | refine LCB.exit ?_ | refine LCB.ret ?_ | ((first | refine RetOk.val hcl ?_ | refine Weak.at hcl ?_); simp only [seval, evw, List.forall_mem_cons, List.forall_mem_map, List.forall_mem_append, List.not_mem_nil, sb, ew, insA, encIns, ins_dec, ins_eta, evs_eq, encEv_def, List.map_cons, List.map_nil, *]) | ((first | refine LCB.cond (by simp only [seval, evx] <;> rfl) ?_ ?_ | refine wpG_split (by simp only [seval, evx] <;> rfl) ?_ ?_ | refine wxG_split (by simp only [seval, evx] <;> rfl) ?_ ?_) <;> (intro hc; try simp only [seval, nf] at hc)) | refine ACalls.inst ?_ | refine CallX.inst ?_ | (with_reducible refine And.intro ?_ ?_) | exact True.intro)
    first | refine ACalls.pure (hw2.of) ?_ | refine CallP.pure (hw2.of) rfl ?_ | refine CallX.pure (hw2.of) ?_
    repeat' (first | simp only [seval, evx, beq_self_eq_true, sb, ew, insA, encIns, ins_dec, ins_eta, evs_eq, encEv_def, List.map_cons, List.map_nil, *] | simp (disch := omega) only [if_pos, if_neg] | refine R.seq ?_ | refine LCB.text ?_ | refine LCB.quiet rfl ?_ | refine R.anyX ?_ | refine R.block ?_ | refine LCB.skip ?_ | refine LCB.exit ?_ | refine LCB.ret ?_ | ((first | refine RetOk.val hcl ?_ | refine Weak.at hcl ?_); simp only [seval, evw, List.forall_mem_cons, List.forall_mem_map, List.forall_mem_append, List.not_mem_nil, sb, ew, insA, encIns, ins_dec, ins_eta, evs_eq, encEv_def, List.map_cons, List.map_nil, *]) | ((first | refine LCB.cond (by simp only [seval, evx] <;> rfl) ?_ ?_ | refine wpG_split (by simp only [seval, evx] <;> rfl) ?_ ?_ | refine wxG_split (by simp only [seval, evx] <;> rfl) ?_ ?_) <;> (intro hc; try simp only [seval, nf] at hc)) | refine ACalls.inst ?_ | refine CallX.inst ?_ | (with_reducible refine And.intro ?_ ?_) | exact True.intro)
  replace hu0 := Hold.mk hu0
  replace hF := Hold.mk hF
  replace hq := Hold.mk hq
  have hU : Hold (U.all (fun l => (wAt L l).is) = (U.drop 0).all (fun l => (wAt L l).is)) := ⟨rfl⟩
  repeat' (first | simp only [seval, evx, beq_self_eq_true, sb, ew, insA, encIns, ins_dec, ins_eta, evs_eq, encEv_def, List.map_cons, List.map_nil, *] | simp (disch := omega) only [if_pos, if_neg] | refine R.seq ?_ | refine LCB.text ?_ | refine LCB.quiet rfl ?_ | refine R.anyX ?_ | refine R.block ?_ | refine LCB.skip ?_ | refine LCB.exit ?_ | refine LCB.ret ?_ | ((first | refine RetOk.val hcl ?_ | refine Weak.at hcl ?_); simp only [seval, evw, List.forall_mem_cons, List.forall_mem_map, List.forall_mem_append, List.not_mem_nil, sb, ew, insA, encIns, ins_dec, ins_eta, evs_eq, encEv_def, List.map_cons, List.map_nil, *]) | ((first | refine LCB.cond (by simp only [seval, evx] <;> rfl) ?_ ?_ | refine wpG_split (by simp only [seval, evx] <;> rfl) ?_ ?_ | refine wxG_split (by simp only [seval, evx] <;> rfl) ?_ ?_) <;> (intro hc; try simp only [seval, nf] at hc)) | refine ACalls.inst ?_ | refine CallX.inst ?_ | (with_reducible refine And.intro ?_ ?_) | exact True.intro)
  first | refine ACalls.pure (huse.of) ?_ | refine CallP.pure (huse.of) rfl ?_ | refine CallX.pure (huse.of) ?_
  repeat' (first | simp only [seval, evx, beq_self_eq_true, sb, ew, insA, encIns, ins_dec, ins_eta, evs_eq, encEv_def, List.map_cons, List.map_nil, *] | simp (disch := omega) only [if_pos, if_neg] | refine R.seq ?_ | refine LCB.text ?_ | refine LCB.quiet rfl ?_ | refine R.anyX ?_ | refine R.block ?_ | refine LCB.skip ?_ | refine LCB.exit ?_ | refine LCB.ret ?_ | ((first | refine RetOk.val hcl ?_ | refine Weak.at hcl ?_); simp only [seval, evw, List.forall_mem_cons, List.forall_mem_map, List.forall_mem_append, List.not_mem_nil, sb, ew, insA, encIns, ins_dec, ins_eta, evs_eq, encEv_def, List.map_cons, List.map_nil, *]) | ((first | refine LCB.cond (by simp only [seval, evx] <;> rfl) ?_ ?_ | refine wpG_split (by simp only [seval, evx] <;> rfl) ?_ ?_ | refine wxG_split (by simp only [seval, evx] <;> rfl) ?_ ?_) <;> (intro hc; try simp only [seval, nf] at hc)) | refine ACalls.inst ?_ | refine CallX.inst ?_ | (with_reducible refine And.intro ?_ ?_) | exact True.intro)
  refine R.loop (S := Nat) ⟨fun i => [(2, .list (ask.map encI)), (4, .ptr H.length 1 0 0), (6, .ptr (H.length + 1) 1 0 0), (8, .ptr (H.length + 2) 1 0 0), (9, .ptr (H.length + 3) 1 0 0), (10, .ptr (H.length + 4) 1 0 0), (11, .list (U.map encI)), (12, .int .i64 (i : Int))], fun i => H ++ [.vec 4 [[.list (L.map encW), .list (heap.map encI), .int .i64 (n : Int), .int .i64 asked]], .vec 4 [[.imm (.slice none 0 0), .imm (.slice none 0 0), .int .i64 0, .int .i64 0]], .vec 3 [[.int .i64 0, .int .i64 0, .imm (.slice none 0 0)]], .vec 6 [[.int .i64 op, .int .i64 (d : Int), .int .i64 (a : Int), .int .i64 (b : Int), .int .i64 xn, .int .i64 xto]], .vec 4 [[.list (L.map encW), .list (heap.map encI), .int .i64 ((n + 1 : Nat) : Int), .int .i64 asked]]],
    fun i => i ≤ U.length ∧ U.all (fun l => (wAt L l).is) = (U.drop i).all (fun l => (wAt L l).is), fun i => U.length - i⟩ 0 ⟨Nat.zero_le _, hU.of⟩ (Weak.at hcl ?_) ?_
  · simp only [seval, evw, List.forall_mem_cons, List.forall_mem_map, List.forall_mem_append, List.not_mem_nil, sb, ew, insA, encIns, ins_dec, ins_eta, evs_eq, encEv_def, List.map_cons, List.map_nil, *]
  rintro i ⟨hi, hq2⟩
  simp only at hi hq2 ⊢
  by_cases hlt : i < U.length
  · have d2 : (i : Int) < (U.length : Int) := by omega
    have d3 : IntKind.i64.wrap ((i : Int) + 1) = ((i + 1 : Nat) : Int) := by rw [IntKind.wrap_i64]; omega
    have hgu := getD_encI hlt
    obtain ⟨m, hm, hm2⟩ := hum.of (U.getD i 0) (by simp [List.getD, hlt])
    rw [hm] at hgu
    have hdr : U.drop i = U.getD i 0 :: U.drop (i + 1) := by
      rw [List.drop_eq_getElem_cons hlt]
      simp [List.getD, hlt]
    rw [hdr, hm, List.all_cons] at hq2
    have hll := hL.of
    have hgi := getD_encW (l := L) (j := m) (by omega)
    have d4 : (m : Int) < (L.length : Int) := by omega
    have hwm : wAt L (m : Int) = L.getD m noW := by simp [wAt]
    rw [hwm] at hq2
    clear hga hgb hgd
    generalize L.getD m noW = w at *
    clear hll
    replace hm := Hold.mk hm
    replace hdr := Hold.mk hdr
    replace hwm := Hold.mk hwm
    cases hwi : w.is
    · rw [hwi] at hgi hq2
      have hF2 := hF.of
      rw [hq2, Bool.false_and, if_neg (by simp)] at hF2
      subst hF2
      replace hq2 := Hold.mk hq2
      replace hwi := Hold.mk hwi
      clear hF hq
      repeat' (first | simp only [seval, evx, beq_self_eq_true, sb, ew, insA, encIns, ins_dec, ins_eta, evs_eq, encEv_def, List.map_cons, List.map_nil, *] | simp (disch := omega) only [if_pos, if_neg] | refine R.seq ?_ | refine LCB.text ?_ | refine LCB.quiet rfl ?_ | refine R.anyX ?_ | refine R.block ?_ | refine LCB.skip ?_ | refine LCB.exit ?_ | refine LCB.ret ?_ | ((first | refine RetOk.val hcl ?_ | refine Weak.at hcl ?_); simp only [seval, evw, List.forall_mem_cons, List.forall_mem_map, List.forall_mem_append, List.not_mem_nil, sb, ew, insA, encIns, ins_dec, ins_eta, evs_eq, encEv_def, List.map_cons, List.map_nil, *]) | ((first | refine LCB.cond (by simp only [seval, evx] <;> rfl) ?_ ?_ | refine wpG_split (by simp only [seval, evx] <;> rfl) ?_ ?_ | refine wxG_split (by simp only [seval, evx] <;> rfl) ?_ ?_) <;> (intro hc; try simp only [seval, nf] at hc)) | refine ACalls.inst ?_ | refine CallX.inst ?_ | (with_reducible refine And.intro ?_ ?_) | exact True.intro)
    · rw [hwi, Bool.true_and] at hq2
      rw [hwi] at hgi
      replace hq2 := Hold.mk hq2
      replace hwi := Hold.mk hwi
      repeat' (first | simp only [seval, evx, beq_self_eq_true, sb, ew, insA, encIns, ins_dec, ins_eta, evs_eq, encEv_def, List.map_cons, List.map_nil, *] | simp (disch := omega) only [if_pos, if_neg] | refine R.seq ?_ | refine LCB.text ?_ | refine LCB.quiet rfl ?_ | refine R.anyX ?_ | refine R.block ?_ | refine LCB.skip ?_ | refine LCB.exit ?_ | refine LCB.ret ?_ | ((first | refine RetOk.val hcl ?_ | refine Weak.at hcl ?_); simp only [seval, evw, List.forall_mem_cons, List.forall_mem_map, List.forall_mem_append, List.not_mem_nil, sb, ew, insA, encIns, ins_dec, ins_eta, evs_eq, encEv_def, List.map_cons, List.map_nil, *]) | ((first | refine LCB.cond (by simp only [seval, evx] <;> rfl) ?_ ?_ | refine wpG_split (by simp only [seval, evx] <;> rfl) ?_ ?_ | refine wxG_split (by simp only [seval, evx] <;> rfl) ?_ ?_) <;> (intro hc; try simp only [seval, nf] at hc)) | refine ACalls.inst ?_ | refine CallX.inst ?_ | (with_reducible refine And.intro ?_ ?_) | exact True.intro)
      refine ⟨i + 1, ⟨hlt, hq2.of⟩, by simp only; omega, Weak.at hcl ?_⟩
      simp only [seval, evw, List.forall_mem_cons, List.forall_mem_map, List.forall_mem_append, List.not_mem_nil, sb, ew, insA, encIns, ins_dec, ins_eta, evs_eq, encEv_def, List.map_cons, List.map_nil, *]
  · have hie : i = U.length := by omega
    subst hie
    have d2 : ¬ (U.length : Int) < (U.length : Int) := by omega
    rw [List.drop_length, List.all_nil] at hq2
    replace hF := hF.of
    rw [hq2, if_pos rfl] at hF
    replace hq := hq.of
    clear hU hum huse hu0 hul
    replace hq2 := Hold.mk hq2
    have hld := ref06_Load_ok heap (L.getD a noW).v
    have hst := ref06_Store_ok heap (L.getD a noW).v (L.getD b noW).v
    have hnum := ref01_Do_ok op (L.getD a noW).v (L.getD b noW).v
    have hwd := Hold.mk (fun v => hwith.of L d ⟨true, v⟩ hL.of hd2)
    have hlh := hLoad_how heap (L.getD a noW).v
    have hsh := hStore_how heap (L.getD a noW).v (L.getD b noW).v
    have hnh := numDo_how op (L.getD a noW).v (L.getD b noW).v
    replace hlh := Hold.mk hlh
    replace hsh := Hold.mk hsh
    replace hnh := Hold.mk hnh
    generalize hwa : L.getD a noW = wa at *
    generalize hwb : L.getD b noW = wb at *
    clear hgd
    replace hwa := Hold.mk hwa
    replace hwb := Hold.mk hwb
    unfold hLoadA ints at hld
    unfold hStoreA ints at hst
    unfold nopR at hnum
    by_cases o18 : op = 18
    · subst o18
      rw [if_neg (by omega), if_neg (by omega), if_neg (by omega), if_pos rfl] at hq
      subst hq
      simp only at hF
      rw [if_pos trivial] at hF
      subst hF
      replace hld := Hold.mk hld
      replace hst := Hold.mk hst
      replace hnum := Hold.mk hnum
      repeat' (first | simp only [seval, evx, beq_self_eq_true, sb, ew, insA, encIns, ins_dec, ins_eta, evs_eq, encEv_def, List.map_cons, List.map_nil, *] | simp (disch := omega) only [if_pos, if_neg] | refine R.seq ?_ | refine LCB.text ?_ | refine LCB.quiet rfl ?_ | refine R.anyX ?_ | refine R.block ?_ | refine LCB.skip ?_ | refine LCB.exit ?_ | refine LCB.ret ?_ | ((first | refine RetOk.val hcl ?_ | refine Weak.at hcl ?_); simp only [seval, evw, List.forall_mem_cons, List.forall_mem_map, List.forall_mem_append, List.not_mem_nil, sb, ew, insA, encIns, ins_dec, ins_eta, evs_eq, encEv_def, List.map_cons, List.map_nil, *]) | ((first | refine LCB.cond (by simp only [seval, evx] <;> rfl) ?_ ?_ | refine wpG_split (by simp only [seval, evx] <;> rfl) ?_ ?_ | refine wxG_split (by simp only [seval, evx] <;> rfl) ?_ ?_) <;> (intro hc; try simp only [seval, nf] at hc)) | refine ACalls.inst ?_ | refine CallX.inst ?_ | (with_reducible refine And.intro ?_ ?_) | exact True.intro)
    by_cases o17 : op = 17
    · subst o17
      rw [if_neg (by omega), if_neg (by omega), if_neg (by omega), if_neg (by omega), if_pos rfl] at hq
      replace hld := Hold.mk hld
      replace hst := Hold.mk hst
      replace hnum := Hold.mk hnum
      by_cases hz : wa.v = 0
      · rw [if_pos hz] at hq
        subst hq
        simp only at hF
        rw [if_neg (by decide)] at hF
        subst hF
        repeat' (first | simp only [seval, evx, beq_self_eq_true, sb, ew, insA, encIns, ins_dec, ins_eta, evs_eq, encEv_def, List.map_cons, List.map_nil, *] | simp (disch := omega) only [if_pos, if_neg] | refine R.seq ?_ | refine LCB.text ?_ | refine LCB.quiet rfl ?_ | refine R.anyX ?_ | refine R.block ?_ | refine LCB.skip ?_ | refine LCB.exit ?_ | refine LCB.ret ?_ | ((first | refine RetOk.val hcl ?_ | refine Weak.at hcl ?_); simp only [seval, evw, List.forall_mem_cons, List.forall_mem_map, List.forall_mem_append, List.not_mem_nil, sb, ew, insA, encIns, ins_dec, ins_eta, evs_eq, encEv_def, List.map_cons, List.map_nil, *]) | ((first | refine LCB.cond (by simp only [seval, evx] <;> rfl) ?_ ?_ | refine wpG_split (by simp only [seval, evx] <;> rfl) ?_ ?_ | refine wxG_split (by simp only [seval, evx] <;> rfl) ?_ ?_) <;> (intro hc; try simp only [seval, nf] at hc)) | refine ACalls.inst ?_ | refine CallX.inst ?_ | (with_reducible refine And.intro ?_ ?_) | exact True.intro)
      · rw [if_neg hz] at hq
        subst hq
        simp only at hF
        rw [if_neg (by decide)] at hF
        subst hF
        repeat' (first | simp only [seval, evx, beq_self_eq_true, sb, ew, insA, encIns, ins_dec, ins_eta, evs_eq, encEv_def, List.map_cons, List.map_nil, *] | simp (disch := omega) only [if_pos, if_neg] | refine R.seq ?_ | refine LCB.text ?_ | refine LCB.quiet rfl ?_ | refine R.anyX ?_ | refine R.block ?_ | refine LCB.skip ?_ | refine LCB.exit ?_ | refine LCB.ret ?_ | ((first | refine RetOk.val hcl ?_ | refine Weak.at hcl ?_); simp only [seval, evw, List.forall_mem_cons, List.forall_mem_map, List.forall_mem_append, List.not_mem_nil, sb, ew, insA, encIns, ins_dec, ins_eta, evs_eq, encEv_def, List.map_cons, List.map_nil, *]) | ((first | refine LCB.cond (by simp only [seval, evx] <;> rfl) ?_ ?_ | refine wpG_split (by simp only [seval, evx] <;> rfl) ?_ ?_ | refine wxG_split (by simp only [seval, evx] <;> rfl) ?_ ?_) <;> (intro hc; try simp only [seval, nf] at hc)) | refine ACalls.inst ?_ | refine CallX.inst ?_ | (with_reducible refine And.intro ?_ ?_) | exact True.intro)
    by_cases o14 : op = 14
    · subst o14
      rw [if_neg (by omega), if_pos rfl] at hq
      generalize hStore heap wa.v wb.v = p at *
      obtain ⟨h', how⟩ := p
      simp only at hq hst
      replace hld := Hold.mk hld
      replace hst := Hold.mk hst
      replace hnum := Hold.mk hnum
      by_cases hh : how = 0
      · subst hh
        rw [if_pos rfl] at hq
        subst hq
        simp only at hF
        rw [if_neg (by decide)] at hF
        subst hF
        repeat' (first | simp only [seval, evx, beq_self_eq_true, sb, ew, insA, encIns, ins_dec, ins_eta, evs_eq, encEv_def, List.map_cons, List.map_nil, *] | simp (disch := omega) only [if_pos, if_neg] | refine R.seq ?_ | refine LCB.text ?_ | refine LCB.quiet rfl ?_ | refine R.anyX ?_ | refine R.block ?_ | refine LCB.skip ?_ | refine LCB.exit ?_ | refine LCB.ret ?_ | ((first | refine RetOk.val hcl ?_ | refine Weak.at hcl ?_); simp only [seval, evw, List.forall_mem_cons, List.forall_mem_map, List.forall_mem_append, List.not_mem_nil, sb, ew, insA, encIns, ins_dec, ins_eta, evs_eq, encEv_def, List.map_cons, List.map_nil, *]) | ((first | refine LCB.cond (by simp only [seval, evx] <;> rfl) ?_ ?_ | refine wpG_split (by simp only [seval, evx] <;> rfl) ?_ ?_ | refine wxG_split (by simp only [seval, evx] <;> rfl) ?_ ?_) <;> (intro hc; try simp only [seval, nf] at hc)) | refine ACalls.inst ?_ | refine CallX.inst ?_ | (with_reducible refine And.intro ?_ ?_) | exact True.intro)
        first | refine ACalls.pure (hst.of) ?_ | refine CallP.pure (hst.of) rfl ?_ | refine CallX.pure (hst.of) ?_
        repeat' (first | simp only [seval, evx, beq_self_eq_true, sb, ew, insA, encIns, ins_dec, ins_eta, evs_eq, encEv_def, List.map_cons, List.map_nil, *] | simp (disch := omega) only [if_pos, if_neg] | refine R.seq ?_ | refine LCB.text ?_ | refine LCB.quiet rfl ?_ | refine R.anyX ?_ | refine R.block ?_ | refine LCB.skip ?_ | refine LCB.exit ?_ | refine LCB.ret ?_ | ((first | refine RetOk.val hcl ?_ | refine Weak.at hcl ?_); simp only [seval, evw, List.forall_mem_cons, List.forall_mem_map, List.forall_mem_append, List.not_mem_nil, sb, ew, insA, encIns, ins_dec, ins_eta, evs_eq, encEv_def, List.map_cons, List.map_nil, *]) | ((first | refine LCB.cond (by simp only [seval, evx] <;> rfl) ?_ ?_ | refine wpG_split (by simp only [seval, evx] <;> rfl) ?_ ?_ | refine wxG_split (by simp only [seval, evx] <;> rfl) ?_ ?_) <;> (intro hc; try simp only [seval, nf] at hc)) | refine ACalls.inst ?_ | refine CallX.inst ?_ | (with_reducible refine And.intro ?_ ?_) | exact True.intro)
      · rw [if_neg hh] at hq
        subst hq
        simp only at hF
        have hh1 : ¬ how = 1 := by have := hsh.of; simp only at this; omega
        rw [if_neg hh1] at hF
        subst hF
        repeat' (first | simp only [seval, evx, beq_self_eq_true, sb, ew, insA, encIns, ins_dec, ins_eta, evs_eq, encEv_def, List.map_cons, List.map_nil, *] | simp (disch := omega) only [if_pos, if_neg] | refine R.seq ?_ | refine LCB.text ?_ | refine LCB.quiet rfl ?_ | refine R.anyX ?_ | refine R.block ?_ | refine LCB.skip ?_ | refine LCB.exit ?_ | refine LCB.ret ?_ | ((first | refine RetOk.val hcl ?_ | refine Weak.at hcl ?_); simp only [seval, evw, List.forall_mem_cons, List.forall_mem_map, List.forall_mem_append, List.not_mem_nil, sb, ew, insA, encIns, ins_dec, ins_eta, evs_eq, encEv_def, List.map_cons, List.map_nil, *]) | ((first | refine LCB.cond (by simp only [seval, evx] <;> rfl) ?_ ?_ | refine wpG_split (by simp only [seval, evx] <;> rfl) ?_ ?_ | refine wxG_split (by simp only [seval, evx] <;> rfl) ?_ ?_) <;> (intro hc; try simp only [seval, nf] at hc)) | refine ACalls.inst ?_ | refine CallX.inst ?_ | (with_reducible refine And.intro ?_ ?_) | exact True.intro)
        first | refine ACalls.pure (hst.of) ?_ | refine CallP.pure (hst.of) rfl ?_ | refine CallX.pure (hst.of) ?_
        repeat' (first | simp only [seval, evx, beq_self_eq_true, sb, ew, insA, encIns, ins_dec, ins_eta, evs_eq, encEv_def, List.map_cons, List.map_nil, *] | simp (disch := omega) only [if_pos, if_neg] | refine R.seq ?_ | refine LCB.text ?_ | refine LCB.quiet rfl ?_ | refine R.anyX ?_ | refine R.block ?_ | refine LCB.skip ?_ | refine LCB.exit ?_ | refine LCB.ret ?_ | ((first | refine RetOk.val hcl ?_ | refine Weak.at hcl ?_); simp only [seval, evw, List.forall_mem_cons, List.forall_mem_map, List.forall_mem_append, List.not_mem_nil, sb, ew, insA, encIns, ins_dec, ins_eta, evs_eq, encEv_def, List.map_cons, List.map_nil, *]) | ((first | refine LCB.cond (by simp only [seval, evx] <;> rfl) ?_ ?_ | refine wpG_split (by simp only [seval, evx] <;> rfl) ?_ ?_ | refine wxG_split (by simp only [seval, evx] <;> rfl) ?_ ?_) <;> (intro hc; try simp only [seval, nf] at hc)) | refine ACalls.inst ?_ | refine CallX.inst ?_ | (with_reducible refine And.intro ?_ ?_) | exact True.intro)
    by_cases o15 : op = 15
    · subst o15
      rw [if_neg (by omega), if_neg (by omega), if_pos rfl] at hq
      replace hld := Hold.mk hld
      replace hst := Hold.mk hst
      replace hnum := Hold.mk hnum
      obtain ⟨m, rfl⟩ := Int.eq_ofNat_of_zero_le r5
      by_cases hlt2 : (m : Int) < (ask.length : Int)
      · have hml : m < ask.length := by omega
        rw [if_pos hlt2] at hq
        have hgm := getD_encI hml
        have c1 : ¬ (ask.length : Int) ≤ (m : Int) := by omega
        have c2 : IntKind.i64.wrap ((m : Int) + 1) = ((m + 1 : Nat) : Int) := by rw [IntKind.wrap_i64]; omega
        have hcS : callS ⟨L, heap, (n : Int), (m : Int)⟩ d (ask.getD m 0) = ⟨L.set d ⟨true, ask.getD m 0⟩, heap, (n : Int), ((m + 1 : Nat) : Int)⟩ := by simp [callS]
        simp only [Int.toNat_natCast, hcS] at hq
        clear hcS
        generalize ask.getD m 0 = ans at *
        subst hq
        simp only at hF
        rw [if_neg (by decide)] at hF
        subst hF
        have hw := Hold.mk (hwd.of ans)
        repeat' (first | simp only [seval, evx, beq_self_eq_true, sb, ew, insA, encIns, ins_dec, ins_eta, evs_eq, encEv_def, List.map_cons, List.map_nil, *] | simp (disch := omega) only [if_pos, if_neg] | refine R.seq ?_ | refine LCB.text ?_ | refine LCB.quiet rfl ?_ | refine R.anyX ?_ | refine R.block ?_ | refine LCB.skip ?_ | refine LCB.exit ?_ | refine LCB.ret ?_ | ((first | refine RetOk.val hcl ?_ | refine Weak.at hcl ?_); simp only [seval, evw, List.forall_mem_cons, List.forall_mem_map, List.forall_mem_append, List.not_mem_nil, sb, ew, insA, encIns, ins_dec, ins_eta, evs_eq, encEv_def, List.map_cons, List.map_nil, *]) | ((first | refine LCB.cond (by simp only [seval, evx] <;> rfl) ?_ ?_ | refine wpG_split (by simp only [seval, evx] <;> rfl) ?_ ?_ | refine wxG_split (by simp only [seval, evx] <;> rfl) ?_ ?_) <;> (intro hc; try simp only [seval, nf] at hc)) | refine ACalls.inst ?_ | refine CallX.inst ?_ | (with_reducible refine And.intro ?_ ?_) | exact True.intro)
        first | refine ACalls.pure (hw.of) ?_ | refine CallP.pure (hw.of) rfl ?_ | refine CallX.pure (hw.of) ?_
        repeat' (first | simp only [seval, evx, beq_self_eq_true, sb, ew, insA, encIns, ins_dec, ins_eta, evs_eq, encEv_def, List.map_cons, List.map_nil, *] | simp (disch := omega) only [if_pos, if_neg] | refine R.seq ?_ | refine LCB.text ?_ | refine LCB.quiet rfl ?_ | refine R.anyX ?_ | refine R.block ?_ | refine LCB.skip ?_ | refine LCB.exit ?_ | refine LCB.ret ?_ | ((first | refine RetOk.val hcl ?_ | refine Weak.at hcl ?_); simp only [seval, evw, List.forall_mem_cons, List.forall_mem_map, List.forall_mem_append, List.not_mem_nil, sb, ew, insA, encIns, ins_dec, ins_eta, evs_eq, encEv_def, List.map_cons, List.map_nil, *]) | ((first | refine LCB.cond (by simp only [seval, evx] <;> rfl) ?_ ?_ | refine wpG_split (by simp only [seval, evx] <;> rfl) ?_ ?_ | refine wxG_split (by simp only [seval, evx] <;> rfl) ?_ ?_) <;> (intro hc; try simp only [seval, nf] at hc)) | refine ACalls.inst ?_ | refine CallX.inst ?_ | (with_reducible refine And.intro ?_ ?_) | exact True.intro)
      · rw [if_neg hlt2] at hq
        have c1 : (ask.length : Int) ≤ (m : Int) := by omega
        subst hq
        simp only at hF
        rw [if_neg (by decide)] at hF
        subst hF
        repeat' (first | simp only [seval, evx, beq_self_eq_true, sb, ew, insA, encIns, ins_dec, ins_eta, evs_eq, encEv_def, List.map_cons, List.map_nil, *] | simp (disch := omega) only [if_pos, if_neg] | refine R.seq ?_ | refine LCB.text ?_ | refine LCB.quiet rfl ?_ | refine R.anyX ?_ | refine R.block ?_ | refine LCB.skip ?_ | refine LCB.exit ?_ | refine LCB.ret ?_ | ((first | refine RetOk.val hcl ?_ | refine Weak.at hcl ?_); simp only [seval, evw, List.forall_mem_cons, List.forall_mem_map, List.forall_mem_append, List.not_mem_nil, sb, ew, insA, encIns, ins_dec, ins_eta, evs_eq, encEv_def, List.map_cons, List.map_nil, *]) | ((first | refine LCB.cond (by simp only [seval, evx] <;> rfl) ?_ ?_ | refine wpG_split (by simp only [seval, evx] <;> rfl) ?_ ?_ | refine wxG_split (by simp only [seval, evx] <;> rfl) ?_ ?_) <;> (intro hc; try simp only [seval, nf] at hc)) | refine ACalls.inst ?_ | refine CallX.inst ?_ | (with_reducible refine And.intro ?_ ?_) | exact True.intro)
    by_cases o13 : op = 13
    · subst o13
      rw [if_pos rfl] at hq
      generalize hLoad heap wa.v = p at *
      obtain ⟨v, how⟩ := p
      simp only at hq hld
      replace hld := Hold.mk hld
      replace hst := Hold.mk hst
      replace hnum := Hold.mk hnum
      by_cases hh : how = 0
      · subst hh
        rw [if_pos rfl] at hq
        subst hq
        simp only at hF
        rw [if_neg (by decide)] at hF
        subst hF
        have hw := Hold.mk (hwd.of v)
        have hs : setS ⟨L, heap, (n : Int), asked⟩ d v 0 = ⟨L.set d ⟨true, v⟩, heap, (n : Int), asked⟩ := by simp [setS]
        rw [hs]
        replace hs := Hold.mk hs
        repeat' (first | simp only [seval, evx, beq_self_eq_true, sb, ew, insA, encIns, ins_dec, ins_eta, evs_eq, encEv_def, List.map_cons, List.map_nil, *] | simp (disch := omega) only [if_pos, if_neg] | refine R.seq ?_ | refine LCB.text ?_ | refine LCB.quiet rfl ?_ | refine R.anyX ?_ | refine R.block ?_ | refine LCB.skip ?_ | refine LCB.exit ?_ | refine LCB.ret ?_ | ((first | refine RetOk.val hcl ?_ | refine Weak.at hcl ?_); simp only [seval, evw, List.forall_mem_cons, List.forall_mem_map, List.forall_mem_append, List.not_mem_nil, sb, ew, insA, encIns, ins_dec, ins_eta, evs_eq, encEv_def, List.map_cons, List.map_nil, *]) | ((first | refine LCB.cond (by simp only [seval, evx] <;> rfl) ?_ ?_ | refine wpG_split (by simp only [seval, evx] <;> rfl) ?_ ?_ | refine wxG_split (by simp only [seval, evx] <;> rfl) ?_ ?_) <;> (intro hc; try simp only [seval, nf] at hc)) | refine ACalls.inst ?_ | refine CallX.inst ?_ | (with_reducible refine And.intro ?_ ?_) | exact True.intro)
        first | refine ACalls.pure (hnum.of) ?_ | refine CallP.pure (hnum.of) rfl ?_ | refine CallX.pure (hnum.of) ?_
        repeat' (first | simp only [seval, evx, beq_self_eq_true, sb, ew, insA, encIns, ins_dec, ins_eta, evs_eq, encEv_def, List.map_cons, List.map_nil, *] | simp (disch := omega) only [if_pos, if_neg] | refine R.seq ?_ | refine LCB.text ?_ | refine LCB.quiet rfl ?_ | refine R.anyX ?_ | refine R.block ?_ | refine LCB.skip ?_ | refine LCB.exit ?_ | refine LCB.ret ?_ | ((first | refine RetOk.val hcl ?_ | refine Weak.at hcl ?_); simp only [seval, evw, List.forall_mem_cons, List.forall_mem_map, List.forall_mem_append, List.not_mem_nil, sb, ew, insA, encIns, ins_dec, ins_eta, evs_eq, encEv_def, List.map_cons, List.map_nil, *]) | ((first | refine LCB.cond (by simp only [seval, evx] <;> rfl) ?_ ?_ | refine wpG_split (by simp only [seval, evx] <;> rfl) ?_ ?_ | refine wxG_split (by simp only [seval, evx] <;> rfl) ?_ ?_) <;> (intro hc; try simp only [seval, nf] at hc)) | refine ACalls.inst ?_ | refine CallX.inst ?_ | (with_reducible refine And.intro ?_ ?_) | exact True.intro)
        first | refine ACalls.pure (hld.of) ?_ | refine CallP.pure (hld.of) rfl ?_ | refine CallX.pure (hld.of) ?_
        repeat' (first | simp only [seval, evx, beq_self_eq_true, sb, ew, insA, encIns, ins_dec, ins_eta, evs_eq, encEv_def, List.map_cons, List.map_nil, *] | simp (disch := omega) only [if_pos, if_neg] | refine R.seq ?_ | refine LCB.text ?_ | refine LCB.quiet rfl ?_ | refine R.anyX ?_ | refine R.block ?_ | refine LCB.skip ?_ | refine LCB.exit ?_ | refine LCB.ret ?_ | ((first | refine RetOk.val hcl ?_ | refine Weak.at hcl ?_); simp only [seval, evw, List.forall_mem_cons, List.forall_mem_map, List.forall_mem_append, List.not_mem_nil, sb, ew, insA, encIns, ins_dec, ins_eta, evs_eq, encEv_def, List.map_cons, List.map_nil, *]) | ((first | refine LCB.cond (by simp only [seval, evx] <;> rfl) ?_ ?_ | refine wpG_split (by simp only [seval, evx] <;> rfl) ?_ ?_ | refine wxG_split (by simp only [seval, evx] <;> rfl) ?_ ?_) <;> (intro hc; try simp only [seval, nf] at hc)) | refine ACalls.inst ?_ | refine CallX.inst ?_ | (with_reducible refine And.intro ?_ ?_) | exact True.intro)
        first | refine ACalls.pure (hw.of) ?_ | refine CallP.pure (hw.of) rfl ?_ | refine CallX.pure (hw.of) ?_
        repeat' (first | simp only [seval, evx, beq_self_eq_true, sb, ew, insA, encIns, ins_dec, ins_eta, evs_eq, encEv_def, List.map_cons, List.map_nil, *] | simp (disch := omega) only [if_pos, if_neg] | refine R.seq ?_ | refine LCB.text ?_ | refine LCB.quiet rfl ?_ | refine R.anyX ?_ | refine R.block ?_ | refine LCB.skip ?_ | refine LCB.exit ?_ | refine LCB.ret ?_ | ((first | refine RetOk.val hcl ?_ | refine Weak.at hcl ?_); simp only [seval, evw, List.forall_mem_cons, List.forall_mem_map, List.forall_mem_append, List.not_mem_nil, sb, ew, insA, encIns, ins_dec, ins_eta, evs_eq, encEv_def, List.map_cons, List.map_nil, *]) | ((first | refine LCB.cond (by simp only [seval, evx] <;> rfl) ?_ ?_ | refine wpG_split (by simp only [seval, evx] <;> rfl) ?_ ?_ | refine wxG_split (by simp only [seval, evx] <;> rfl) ?_ ?_) <;> (intro hc; try simp only [seval, nf] at hc)) | refine ACalls.inst ?_ | refine CallX.inst ?_ | (with_reducible refine And.intro ?_ ?_) | exact True.intro)
      · rw [if_neg hh] at hq
        subst hq
        simp only at hF
        have hh1 : ¬ how = 1 := by have := hlh.of; simp only at this; omega
        rw [if_neg hh1] at hF
        subst hF
        repeat' (first | simp only [seval, evx, beq_self_eq_true, sb, ew, insA, encIns, ins_dec, ins_eta, evs_eq, encEv_def, List.map_cons, List.map_nil, *] | simp (disch := omega) only [if_pos, if_neg] | refine R.seq ?_ | refine LCB.text ?_ | refine LCB.quiet rfl ?_ | refine R.anyX ?_ | refine R.block ?_ | refine LCB.skip ?_ | refine LCB.exit ?_ | refine LCB.ret ?_ | ((first | refine RetOk.val hcl ?_ | refine Weak.at hcl ?_); simp only [seval, evw, List.forall_mem_cons, List.forall_mem_map, List.forall_mem_append, List.not_mem_nil, sb, ew, insA, encIns, ins_dec, ins_eta, evs_eq, encEv_def, List.map_cons, List.map_nil, *]) | ((first | refine LCB.cond (by simp only [seval, evx] <;> rfl) ?_ ?_ | refine wpG_split (by simp only [seval, evx] <;> rfl) ?_ ?_ | refine wxG_split (by simp only [seval, evx] <;> rfl) ?_ ?_) <;> (intro hc; try simp only [seval, nf] at hc)) | refine ACalls.inst ?_ | refine CallX.inst ?_ | (with_reducible refine And.intro ?_ ?_) | exact True.intro)
        first | refine ACalls.pure (hnum.of) ?_ | refine CallP.pure (hnum.of) rfl ?_ | refine CallX.pure (hnum.of) ?_
        repeat' (first | simp only [seval, evx, beq_self_eq_true, sb, ew, insA, encIns, ins_dec, ins_eta, evs_eq, encEv_def, List.map_cons, List.map_nil, *] | simp (disch := omega) only [if_pos, if_neg] | refine R.seq ?_ | refine LCB.text ?_ | refine LCB.quiet rfl ?_ | refine R.anyX ?_ | refine R.block ?_ | refine LCB.skip ?_ | refine LCB.exit ?_ | refine LCB.ret ?_ | ((first | refine RetOk.val hcl ?_ | refine Weak.at hcl ?_); simp only [seval, evw, List.forall_mem_cons, List.forall_mem_map, List.forall_mem_append, List.not_mem_nil, sb, ew, insA, encIns, ins_dec, ins_eta, evs_eq, encEv_def, List.map_cons, List.map_nil, *]) | ((first | refine LCB.cond (by simp only [seval, evx] <;> rfl) ?_ ?_ | refine wpG_split (by simp only [seval, evx] <;> rfl) ?_ ?_ | refine wxG_split (by simp only [seval, evx] <;> rfl) ?_ ?_) <;> (intro hc; try simp only [seval, nf] at hc)) | refine ACalls.inst ?_ | refine CallX.inst ?_ | (with_reducible refine And.intro ?_ ?_) | exact True.intro)
        first | refine ACalls.pure (hld.of) ?_ | refine CallP.pure (hld.of) rfl ?_ | refine CallX.pure (hld.of) ?_
        repeat' (first | simp only [seval, evx, beq_self_eq_true, sb, ew, insA, encIns, ins_dec, ins_eta, evs_eq, encEv_def, List.map_cons, List.map_nil, *] | simp (disch := omega) only [if_pos, if_neg] | refine R.seq ?_ | refine LCB.text ?_ | refine LCB.quiet rfl ?_ | refine R.anyX ?_ | refine R.block ?_ | refine LCB.skip ?_ | refine LCB.exit ?_ | refine LCB.ret ?_ | ((first | refine RetOk.val hcl ?_ | refine Weak.at hcl ?_); simp only [seval, evw, List.forall_mem_cons, List.forall_mem_map, List.forall_mem_append, List.not_mem_nil, sb, ew, insA, encIns, ins_dec, ins_eta, evs_eq, encEv_def, List.map_cons, List.map_nil, *]) | ((first | refine LCB.cond (by simp only [seval, evx] <;> rfl) ?_ ?_ | refine wpG_split (by simp only [seval, evx] <;> rfl) ?_ ?_ | refine wxG_split (by simp only [seval, evx] <;> rfl) ?_ ?_) <;> (intro hc; try simp only [seval, nf] at hc)) | refine ACalls.inst ?_ | refine CallX.inst ?_ | (with_reducible refine And.intro ?_ ?_) | exact True.intro)
    rw [if_neg o13, if_neg o14, if_neg o15, if_neg o18, if_neg o17, if_neg o16, if_neg (by omega)] at hq
    generalize numDo op wa.v wb.v = p at *
    obtain ⟨v, how⟩ := p
    simp only at hq hnum
    replace hld := Hold.mk hld
    replace hst := Hold.mk hst
    replace hnum := Hold.mk hnum
    by_cases hh : how = 0
    · subst hh
      rw [if_pos rfl] at hq
      subst hq
      simp only at hF
      rw [if_neg (by decide)] at hF
      subst hF
      have hw := Hold.mk (hwd.of v)
      have hs : setS ⟨L, heap, (n : Int), asked⟩ d v 0 = ⟨L.set d ⟨true, v⟩, heap, (n : Int), asked⟩ := by simp [setS]
      rw [hs]
      replace hs := Hold.mk hs
      repeat' (first | simp only [seval, evx, beq_self_eq_true, sb, ew, insA, encIns, ins_dec, ins_eta, evs_eq, encEv_def, List.map_cons, List.map_nil, *] | simp (disch := omega) only [if_pos, if_neg] | refine R.seq ?_ | refine LCB.text ?_ | refine LCB.quiet rfl ?_ | refine R.anyX ?_ | refine R.block ?_ | refine LCB.skip ?_ | refine LCB.exit ?_ | refine LCB.ret ?_ | ((first | refine RetOk.val hcl ?_ | refine Weak.at hcl ?_); simp only [seval, evw, List.forall_mem_cons, List.forall_mem_map, List.forall_mem_append, List.not_mem_nil, sb, ew, insA, encIns, ins_dec, ins_eta, evs_eq, encEv_def, List.map_cons, List.map_nil, *]) | ((first | refine LCB.cond (by simp only [seval, evx] <;> rfl) ?_ ?_ | refine wpG_split (by simp only [seval, evx] <;> rfl) ?_ ?_ | refine wxG_split (by simp only [seval, evx] <;> rfl) ?_ ?_) <;> (intro hc; try simp only [seval, nf] at hc)) | refine ACalls.inst ?_ | refine CallX.inst ?_ | (with_reducible refine And.intro ?_ ?_) | exact True.intro)
      first | refine ACalls.pure (hnum.of) ?_ | refine CallP.pure (hnum.of) rfl ?_ | refine CallX.pure (hnum.of) ?_
      repeat' (first | simp only [seval, evx, beq_self_eq_true, sb, ew, insA, encIns, ins_dec, ins_eta, evs_eq, encEv_def, List.map_cons, List.map_nil, *] | simp (disch := omega) only [if_pos, if_neg] | refine R.seq ?_ | refine LCB.text ?_ | refine LCB.quiet rfl ?_ | refine R.anyX ?_ | refine R.block ?_ | refine LCB.skip ?_ | refine LCB.exit ?_ | refine LCB.ret ?_ | ((first | refine RetOk.val hcl ?_ | refine Weak.at hcl ?_); simp only [seval, evw, List.forall_mem_cons, List.forall_mem_map, List.forall_mem_append, List.not_mem_nil, sb, ew, insA, encIns, ins_dec, ins_eta, evs_eq, encEv_def, List.map_cons, List.map_nil, *]) | ((first | refine LCB.cond (by simp only [seval, evx] <;> rfl) ?_ ?_ | refine wpG_split (by simp only [seval, evx] <;> rfl) ?_ ?_ | refine wxG_split (by simp only [seval, evx] <;> rfl) ?_ ?_) <;> (intro hc; try simp only [seval, nf] at hc)) | refine ACalls.inst ?_ | refine CallX.inst ?_ | (with_reducible refine And.intro ?_ ?_) | exact True.intro)
      first | refine ACalls.pure (hw.of) ?_ | refine CallP.pure (hw.of) rfl ?_ | refine CallX.pure (hw.of) ?_
      repeat' (first | simp only [seval, evx, beq_self_eq_true, sb, ew, insA, encIns, ins_dec, ins_eta, evs_eq, encEv_def, List.map_cons, List.map_nil, *] | simp (disch := omega) only [if_pos, if_neg] | refine R.seq ?_ | refine LCB.text ?_ | refine LCB.quiet rfl ?_ | refine R.anyX ?_ | refine R.block ?_ | refine LCB.skip ?_ | refine LCB.exit ?_ | refine LCB.ret ?_ | ((first | refine RetOk.val hcl ?_ | refine Weak.at hcl ?_); simp only [seval, evw, List.forall_mem_cons, List.forall_mem_map, List.forall_mem_append, List.not_mem_nil, sb, ew, insA, encIns, ins_dec, ins_eta, evs_eq, encEv_def, List.map_cons, List.map_nil, *]) | ((first | refine LCB.cond (by simp only [seval, evx] <;> rfl) ?_ ?_ | refine wpG_split (by simp only [seval, evx] <;> rfl) ?_ ?_ | refine wxG_split (by simp only [seval, evx] <;> rfl) ?_ ?_) <;> (intro hc; try simp only [seval, nf] at hc)) | refine ACalls.inst ?_ | refine CallX.inst ?_ | (with_reducible refine And.intro ?_ ?_) | exact True.intro)
    · rw [if_neg hh] at hq
      subst hq
      simp only at hF
      have hh1 : ¬ how = 1 := by have := hnh.of; simp only at this; omega
      rw [if_neg hh1] at hF
      subst hF
      repeat' (first | simp only [seval, evx, beq_self_eq_true, sb, ew, insA, encIns, ins_dec, ins_eta, evs_eq, encEv_def, List.map_cons, List.map_nil, *] | simp (disch := omega) only [if_pos, if_neg] | refine R.seq ?_ | refine LCB.text ?_ | refine LCB.quiet rfl ?_ | refine R.anyX ?_ | refine R.block ?_ | refine LCB.skip ?_ | refine LCB.exit ?_ | refine LCB.ret ?_ | ((first | refine RetOk.val hcl ?_ | refine Weak.at hcl ?_); simp only [seval, evw, List.forall_mem_cons, List.forall_mem_map, List.forall_mem_append, List.not_mem_nil, sb, ew, insA, encIns, ins_dec, ins_eta, evs_eq, encEv_def, List.map_cons, List.map_nil, *]) | ((first | refine LCB.cond (by simp only [seval, evx] <;> rfl) ?_ ?_ | refine wpG_split (by simp only [seval, evx] <;> rfl) ?_ ?_ | refine wxG_split (by simp only [seval, evx] <;> rfl) ?_ ?_) <;> (intro hc; try simp only [seval, nf] at hc)) | refine ACalls.inst ?_ | refine CallX.inst ?_ | (with_reducible refine And.intro ?_ ?_) | exact True.intro)
      first | refine ACalls.pure (hnum.of) ?_ | refine CallP.pure (hnum.of) rfl ?_ | refine CallX.pure (hnum.of) ?_
      repeat' (first | simp only [seval, evx, beq_self_eq_true, sb, ew, insA, encIns, ins_dec, ins_eta, evs_eq, encEv_def, List.map_cons, List.map_nil, *] | simp (disch := omega) only [if_pos, if_neg] | refine R.seq ?_ | refine LCB.text ?_ | refine LCB.quiet rfl ?_ | refine R.anyX ?_ | refine R.block ?_ | refine LCB.skip ?_ | refine LCB.exit ?_ | refine LCB.ret ?_ | ((first | refine RetOk.val hcl ?_ | refine Weak.at hcl ?_); simp only [seval, evw, List.forall_mem_cons, List.forall_mem_map, List.forall_mem_append, List.not_mem_nil, sb, ew, insA, encIns, ins_dec, ins_eta, evs_eq, encEv_def, List.map_cons, List.map_nil, *]) | ((first | refine LCB.cond (by simp only [seval, evx] <;> rfl) ?_ ?_ | refine wpG_split (by simp only [seval, evx] <;> rfl) ?_ ?_ | refine wxG_split (by simp only [seval, evx] <;> rfl) ?_ ?_) <;> (intro hc; try simp only [seval, nf] at hc)) | refine ACalls.inst ?_ | refine CallX.inst ?_ | (with_reducible refine And.intro ?_ ?_) | exact True.intro)
end Go.Proofs.YtbkbehkjndmabaaDoor

/-
  An instruction's text, read: one field.
-/
namespace Go.Proofs.YtbkbehkjndmabaaDoor
open Go.RowKit
set_option linter.unusedVariables false
set_option linter.unusedSimpArgs false

def setField (x : Ins) (c : UInt8) (v : Int) : Ins := if c = 78 then { x with n := v } else if c = 84 then { x with to := v } else if c = 68 ∨ c = 100 then { x with d := v } else if c = 65 ∨ c = 97 then { x with a := v } else { x with b := v }
def fillV (c : UInt8) (w : List UInt8) : Option Int := if c = 78 ∨ c = 84 then numOf w else locOf w

theorem encIns_set {x : Ins} {c : UInt8} {v : Int} (h1 : c ≠ 78) (h2 : c ≠ 84) : (encIns x).take (offOf (c.toNat : Int)) ++ [.int .i64 v] ++ (encIns x).drop (offOf (c.toNat : Int) + 1) = encIns (setField x c v) := by
  unfold setField
  rw [if_neg h1, if_neg h2]
  have e (k : UInt8) : ((c.toNat : Int) = (k.toNat : Int)) ↔ c = k := ⟨fun h => UInt8.toNat_inj.1 (by omega), fun h => by rw [h]⟩
  have e1 := e 68
  have e2 := e 100
  have e3 := e 65
  have e4 := e 97
  have t1 : ((68 : UInt8).toNat : Int) = 68 := rfl
  have t2 : ((100 : UInt8).toNat : Int) = 100 := rfl
  have t3 : ((65 : UInt8).toNat : Int) = 65 := rfl
  have t4 : ((97 : UInt8).toNat : Int) = 97 := rfl
  rw [t1] at e1; rw [t2] at e2; rw [t3] at e3; rw [t4] at e4
  unfold offOf
  simp only [e1, e2, e3, e4]
  split
  · simp [encIns]
  · split <;> simp [encIns]

theorem ins_fill_ok {H : List AObj} {k : Nat} {x : Ins} (c : UInt8) (w : List UInt8) (hw : w.length ≤ 1000000) (hk : k < H.length) (hx : H[k]? = some (.vec 6 [encIns x])) :
    ACalls Tryd.prog 67 [.ptr k 1 0 0, .int .i32 (c.toNat : Int), .str (bs w)] H fun r H' => r = .int .i64 (if (fillV c w).isSome then 0 else 2) ∧ H' = H.set k (.vec 6 [encIns (setField x c ((fillV c w).getD 0))]) := by
  refine ACalls.go ins_fill.low (by simp) fun hcl => ?_
  have g1 : ∀ L : List AObj, (H ++ L)[k]? = some (.vec 6 [encIns x]) := fun L => by rw [in_get hk, hx]
  have g2 : ∀ (L : List AObj) (o : AObj), (H ++ L).set k o = H.set k o ++ L := fun L o => in_set hk
  have g3 : ∀ y : Ins, Clean (H.set k (.vec 6 [encIns y])).length (H.set k (.vec 6 [encIns y])) := fun y => by rw [List.length_set]; exact hcl.set (vec_clean (by simp [encIns, cleanAll, AV.clean]))
  have g4 : ∀ o : AObj, H.length ≤ (H.set k o).length := fun o => by simp
  clear hx
  by_cases h78 : c = 78
  · subst h78
    have e3 : ((UInt8.toNat 78 : Nat) : Int) = 78 := rfl
    have hp := num_Parse_ok w (by omega)
    have hf : fillV 78 w = numOf w := rfl
    have hs : ∀ v, setField x 78 v = { x with n := v } := fun v => rfl
    rw [hf, hs]
    unfold numP at hp
    generalize numOf w = r at *
    replace hp := Hold.mk hp
    replace g3 := Hold.mk g3
    replace g4 := Hold.mk g4
    repeat' (first | simp only [seval, evo, beq_self_eq_true, encB_def, encS_def, sb, insA, encIns, ins_dec, ins_eta, *] | simp (disch := omega) only [if_pos, if_neg] | refine R.seq ?_ | refine LCB.text ?_ | refine LCB.quiet rfl ?_ | refine R.calls rfl ?_ | refine R.block ?_ | refine LCB.skip ?_ | refine LCB.exit ?_ | refine LCB.ret ?_ | ((first | refine RetOk.val hcl ?_ | refine Weak.at hcl ?_); simp only [seval, evw, List.forall_mem_cons, List.forall_mem_map, List.forall_mem_append, List.not_mem_nil, encB_def, encS_def, sb, insA, encIns, ins_dec, ins_eta, *]) | ((first | refine LCB.cond (by simp only [seval, evo] <;> rfl) ?_ ?_ | refine wpG_split (by simp only [seval, evo] <;> rfl) ?_ ?_ | refine wqG_split (by simp only [seval, evo] <;> rfl) ?_ ?_) <;> (intro hc; try simp only [seval, nf] at hc)) | refine ACalls.inst ?_ | refine CallP.inst rfl ?_)
    refine ACalls.pure hp.of ?_
    repeat' (first | simp only [seval, evo, beq_self_eq_true, encB_def, encS_def, sb, insA, encIns, ins_dec, ins_eta, *] | simp (disch := omega) only [if_pos, if_neg] | refine R.seq ?_ | refine LCB.text ?_ | refine LCB.quiet rfl ?_ | refine R.calls rfl ?_ | refine R.block ?_ | refine LCB.skip ?_ | refine LCB.exit ?_ | refine LCB.ret ?_ | ((first | refine RetOk.val hcl ?_ | refine Weak.at hcl ?_); simp only [seval, evw, List.forall_mem_cons, List.forall_mem_map, List.forall_mem_append, List.not_mem_nil, encB_def, encS_def, sb, insA, encIns, ins_dec, ins_eta, *]) | ((first | refine LCB.cond (by simp only [seval, evo] <;> rfl) ?_ ?_ | refine wpG_split (by simp only [seval, evo] <;> rfl) ?_ ?_ | refine wqG_split (by simp only [seval, evo] <;> rfl) ?_ ?_) <;> (intro hc; try simp only [seval, nf] at hc)) | refine ACalls.inst ?_ | refine CallP.inst rfl ?_)
    refine RetOk.upd (.int .i64 (if r.isSome = true then 0 else 2)) (g4.of _) (g3.of { x with n := r.getD 0 }) ?_ ⟨rfl, rfl⟩
    simp only [seval, evw, List.forall_mem_cons, List.forall_mem_map, List.forall_mem_append, List.not_mem_nil, encB_def, encS_def, sb, insA, encIns, ins_dec, ins_eta, *]
  have n78 : ¬ ((c.toNat : Int) = 78) := fun e => h78 (UInt8.toNat_inj.1 (by have : (78 : UInt8).toNat = 78 := rfl; omega))
  by_cases h84 : c = 84
  · subst h84
    have e3 : ((UInt8.toNat 84 : Nat) : Int) = 84 := rfl
    have hp := num_Parse_ok w (by omega)
    have hf : fillV 84 w = numOf w := rfl
    have hs : ∀ v, setField x 84 v = { x with to := v } := fun v => rfl
    have h64 : in64 ((numOf w).getD 0) := by
      cases h : numOf w with
      | none => exact ⟨by simp, by simp⟩
      | some n => exact (numOf_iff.1 h).1
    have hwr := wrap64 h64
    rw [hf, hs]
    unfold numP at hp
    generalize numOf w = r at *
    replace hp := Hold.mk hp
    replace g3 := Hold.mk g3
    replace g4 := Hold.mk g4
    clear n78
    repeat' (first | simp only [seval, evo, beq_self_eq_true, encB_def, encS_def, sb, insA, encIns, ins_dec, ins_eta, *] | simp (disch := omega) only [if_pos, if_neg] | refine R.seq ?_ | refine LCB.text ?_ | refine LCB.quiet rfl ?_ | refine R.calls rfl ?_ | refine R.block ?_ | refine LCB.skip ?_ | refine LCB.exit ?_ | refine LCB.ret ?_ | ((first | refine RetOk.val hcl ?_ | refine Weak.at hcl ?_); simp only [seval, evw, List.forall_mem_cons, List.forall_mem_map, List.forall_mem_append, List.not_mem_nil, encB_def, encS_def, sb, insA, encIns, ins_dec, ins_eta, *]) | ((first | refine LCB.cond (by simp only [seval, evo] <;> rfl) ?_ ?_ | refine wpG_split (by simp only [seval, evo] <;> rfl) ?_ ?_ | refine wqG_split (by simp only [seval, evo] <;> rfl) ?_ ?_) <;> (intro hc; try simp only [seval, nf] at hc)) | refine ACalls.inst ?_ | refine CallP.inst rfl ?_)
    refine ACalls.pure hp.of ?_
    repeat' (first | simp only [seval, evo, beq_self_eq_true, encB_def, encS_def, sb, insA, encIns, ins_dec, ins_eta, *] | simp (disch := omega) only [if_pos, if_neg] | refine R.seq ?_ | refine LCB.text ?_ | refine LCB.quiet rfl ?_ | refine R.calls rfl ?_ | refine R.block ?_ | refine LCB.skip ?_ | refine LCB.exit ?_ | refine LCB.ret ?_ | ((first | refine RetOk.val hcl ?_ | refine Weak.at hcl ?_); simp only [seval, evw, List.forall_mem_cons, List.forall_mem_map, List.forall_mem_append, List.not_mem_nil, encB_def, encS_def, sb, insA, encIns, ins_dec, ins_eta, *]) | ((first | refine LCB.cond (by simp only [seval, evo] <;> rfl) ?_ ?_ | refine wpG_split (by simp only [seval, evo] <;> rfl) ?_ ?_ | refine wqG_split (by simp only [seval, evo] <;> rfl) ?_ ?_) <;> (intro hc; try simp only [seval, nf] at hc)) | refine ACalls.inst ?_ | refine CallP.inst rfl ?_)
    refine RetOk.upd (.int .i64 (if r.isSome = true then 0 else 2)) (g4.of _) (g3.of { x with to := r.getD 0 }) ?_ ⟨rfl, rfl⟩
    simp only [seval, evw, List.forall_mem_cons, List.forall_mem_map, List.forall_mem_append, List.not_mem_nil, encB_def, encS_def, sb, insA, encIns, ins_dec, ins_eta, *]
  have n84 : ¬ ((c.toNat : Int) = 84) := fun e => h84 (UInt8.toNat_inj.1 (by have : (84 : UInt8).toNat = 84 := rfl; omega))
  have hp := loc_Parse_ok w (by omega)
  have hf : fillV c w = locOf w := by unfold fillV; rw [if_neg (by rintro (h | h); exact h78 h; exact h84 h)]
  rw [hf]
  unfold locP at hp
  generalize locOf w = r at *
  have hset := encIns_set (x := x) (v := r.getD 0) h78 h84
  have hof : offOf (c.toNat : Int) + 1 ≤ 6 := by unfold offOf; split; omega; split <;> omega
  have hcl0 := vec_clean (m := H.length) (sz := 6) (xs := [encIns (setField x c (r.getD 0))]) (by simp [encIns, cleanAll, AV.clean])
  generalize encIns (setField x c (r.getD 0)) = E at *
  replace hp := Hold.mk hp
  replace g3 := Hold.mk g3
  replace g4 := Hold.mk g4
  replace hcl0 := Hold.mk hcl0
  rw [show encIns x = [.int .i64 x.op, .int .i64 x.d, .int .i64 x.a, .int .i64 x.b, .int .i64 x.n, .int .i64 x.to] from rfl] at *
  simp only [List.drop_succ_cons] at hset
  repeat' (first | simp only [seval, evo, beq_self_eq_true, encB_def, encS_def, sb, insA, encIns, ins_dec, ins_eta, *] | simp (disch := omega) only [if_pos, if_neg] | refine R.seq ?_ | refine LCB.text ?_ | refine LCB.quiet rfl ?_ | refine R.calls rfl ?_ | refine R.block ?_ | refine LCB.skip ?_ | refine LCB.exit ?_ | refine LCB.ret ?_ | ((first | refine RetOk.val hcl ?_ | refine Weak.at hcl ?_); simp only [seval, evw, List.forall_mem_cons, List.forall_mem_map, List.forall_mem_append, List.not_mem_nil, encB_def, encS_def, sb, insA, encIns, ins_dec, ins_eta, *]) | ((first | refine LCB.cond (by simp only [seval, evo] <;> rfl) ?_ ?_ | refine wpG_split (by simp only [seval, evo] <;> rfl) ?_ ?_ | refine wqG_split (by simp only [seval, evo] <;> rfl) ?_ ?_) <;> (intro hc; try simp only [seval, nf] at hc)) | refine ACalls.inst ?_ | refine CallP.inst rfl ?_)
  refine ACalls.pure hp.of ?_
  repeat' (first | simp only [seval, evo, beq_self_eq_true, encB_def, encS_def, sb, insA, encIns, ins_dec, ins_eta, *] | simp (disch := omega) only [if_pos, if_neg] | refine R.seq ?_ | refine LCB.text ?_ | refine LCB.quiet rfl ?_ | refine R.calls rfl ?_ | refine R.block ?_ | refine LCB.skip ?_ | refine LCB.exit ?_ | refine LCB.ret ?_ | ((first | refine RetOk.val hcl ?_ | refine Weak.at hcl ?_); simp only [seval, evw, List.forall_mem_cons, List.forall_mem_map, List.forall_mem_append, List.not_mem_nil, encB_def, encS_def, sb, insA, encIns, ins_dec, ins_eta, *]) | ((first | refine LCB.cond (by simp only [seval, evo] <;> rfl) ?_ ?_ | refine wpG_split (by simp only [seval, evo] <;> rfl) ?_ ?_ | refine wqG_split (by simp only [seval, evo] <;> rfl) ?_ ?_) <;> (intro hc; try simp only [seval, nf] at hc)) | refine ACalls.inst ?_ | refine CallP.inst rfl ?_)
  refine (ins_field_ok (c.toNat : Int) (by rw [List.length_append]; omega)).mono ?_
  rintro r' H' ⟨rfl, rfl⟩
  repeat' (first | simp only [seval, evo, beq_self_eq_true, encB_def, encS_def, sb, insA, encIns, ins_dec, ins_eta, *] | simp (disch := omega) only [if_pos, if_neg] | refine R.seq ?_ | refine LCB.text ?_ | refine LCB.quiet rfl ?_ | refine R.calls rfl ?_ | refine R.block ?_ | refine LCB.skip ?_ | refine LCB.exit ?_ | refine LCB.ret ?_ | ((first | refine RetOk.val hcl ?_ | refine Weak.at hcl ?_); simp only [seval, evw, List.forall_mem_cons, List.forall_mem_map, List.forall_mem_append, List.not_mem_nil, encB_def, encS_def, sb, insA, encIns, ins_dec, ins_eta, *]) | ((first | refine LCB.cond (by simp only [seval, evo] <;> rfl) ?_ ?_ | refine wpG_split (by simp only [seval, evo] <;> rfl) ?_ ?_ | refine wqG_split (by simp only [seval, evo] <;> rfl) ?_ ?_) <;> (intro hc; try simp only [seval, nf] at hc)) | refine ACalls.inst ?_ | refine CallP.inst rfl ?_)
  refine RetOk.upd (.int .i64 (if r.isSome = true then 0 else 2)) (g4.of _) (by rw [List.length_set]; exact hcl.set hcl0.of) ?_ ⟨rfl, rfl⟩
  simp only [seval, evw, List.forall_mem_cons, List.forall_mem_map, List.forall_mem_append, List.not_mem_nil, encB_def, encS_def, sb, insA, encIns, ins_dec, ins_eta, *]
end Go.Proofs.YtbkbehkjndmabaaDoor

/-
  An instruction's text, read.
-/
namespace Go.Proofs.YtbkbehkjndmabaaDoor
open Go.RowKit
set_option linter.unusedVariables false
set_option linter.unusedSimpArgs false

def matchOp (w : List (List UInt8)) (i : Nat) : Bool := decide (wordL ((i + 1 : Nat) : Int) = w.headD []) && decide ((fieldL ((i + 1 : Nat) : Int)).length + 1 = w.length)
def fillAll : Ins → List UInt8 → List (List UInt8) → Option Ins
  | x, [], _ => some x
  | x, c :: fs, w :: ws => match fillV c w with
    | some v => fillAll (setField x c v) fs ws
    | none => none
  | _, _ :: _, [] => none
def parseAt (w : List (List UInt8)) (i : Nat) : Option Ins := match fillAll { noIns with op := ((i + 1 : Nat) : Int) } (fieldL ((i + 1 : Nat) : Int)) w.tail with
  | some x => if chk x 200 = 0 then some x else none
  | none => none
/-- The instruction of a text's words. -/
def parseW (w : List (List UInt8)) : Option Ins := match (List.range 18).find? (matchOp w) with
  | some i => parseAt w i
  | none => none
def parseIns (s : List UInt8) : Option Ins := parseW (splitSp s)
def insR (r : Option Ins) : AV := match r with
  | some x => .tup [insA x, .int .i64 0]
  | none => .tup [insA noIns, .int .i64 2]

theorem find_range {f : Nat → Bool} : ∀ {n i : Nat}, i < n → f i = true → (∀ j, j < i → f j = false) → (List.range n).find? f = some i := by
  intro n i hi hf hj
  rw [List.find?_range_eq_some]
  exact ⟨hf, by simpa using hi, fun j h => by simp [hj j h]⟩
theorem find_range_none {f : Nat → Bool} {n : Nat} (h : ∀ j, j < n → f j = false) : (List.range n).find? f = none := by
  rw [List.find?_eq_none]
  intro j hj
  simp at hj
  simp [h j hj]

theorem setField_op (x : Ins) (c : UInt8) (v : Int) : (setField x c v).op = x.op := by
  unfold setField
  split; rfl
  split; rfl
  split; rfl
  split <;> rfl

theorem splitSp_word : ∀ (l : List UInt8) (w : List UInt8), w ∈ splitSp l → w.length ≤ l.length
  | [], w, h => by simp [splitSp] at h; simp [h]
  | c :: r, w, h => by
    rw [splitSp] at h
    split at h
    · rcases List.mem_cons.1 h with rfl | h
      · simp
      · have := splitSp_word r w h; simp; omega
    · cases hr : splitSp r with
      | nil => exact absurd hr (splitSp_ne r)
      | cons v vs =>
        rw [hr] at h
        rcases List.mem_cons.1 h with rfl | h
        · have := splitSp_word r v (by rw [hr]; simp); simp; omega
        · have := splitSp_word r w (by rw [hr]; simp [h]); simp; omega

theorem getD_map {W : List (List UInt8)} {j : Nat} (h : j < W.length) : (W.map encS).getD j [] = [.str (bs (W.getD j []))] := by
  simp [List.getD, h, encS]

set_option maxHeartbeats 2000000 in
theorem ins_Parse_ok (s : List UInt8) (hs : s.length ≤ 1000000) : Pure Tryd.prog 54 [.str (bs s)] (insR (parseIns s)) := by
  intro H
  refine ACalls.go ins_Parse.low (by simp) fun hcl => ?_
  have hww := ins_words_ok s hs
  (refine R.seq ?_; refine LCB.text ?_; repeat' (first | simp only [seval, evo, beq_self_eq_true, encB_def, encS_def, sb, insA, encIns, ins_dec, ins_eta, noIns, *] | simp (disch := omega) only [if_pos, if_neg]))
  refine R.seq (LCB.text ?_)
  repeat' (first | simp only [seval, evo, beq_self_eq_true, encB_def, encS_def, sb, insA, encIns, ins_dec, ins_eta, noIns, *] | simp (disch := omega) only [if_pos, if_neg])
  refine ACalls.pure hww ?_
  clear hww
  have hW0 := splitSp_ne s
  have hWl := splitSp_len s
  have hWs : ∀ w ∈ splitSp s, w.length ≤ 1000000 := fun w hw => by have := splitSp_word s w hw; omega
  have hsp : parseIns s = parseW (splitSp s) := rfl
  rw [hsp]
  generalize splitSp s = W at *
  have hW1 : 0 < W.length := by
    cases W with
    | nil => exact absurd rfl hW0
    | cons a b => simp
  obtain ⟨row, htb, hl36, htk, hcr, hrow⟩ := shape_tbl
  replace hW0 := Hold.mk hW0
  replace hWs := Hold.mk hWs
  replace hrow := Hold.mk hrow
  replace hsp := Hold.mk hsp
  repeat' (first | simp only [seval, evo, beq_self_eq_true, encB_def, encS_def, sb, insA, encIns, ins_dec, ins_eta, noIns, *] | simp (disch := omega) only [if_pos, if_neg] | refine R.seq ?_ | refine LCB.text ?_ | refine LCB.quiet rfl ?_ | refine R.calls rfl ?_ | refine R.block ?_ | refine LCB.skip ?_ | refine LCB.exit ?_ | refine LCB.ret ?_ | ((first | refine RetOk.val hcl ?_ | refine Weak.at hcl ?_); simp only [seval, evw, List.forall_mem_cons, List.forall_mem_map, List.forall_mem_append, List.not_mem_nil, encB_def, encS_def, sb, insA, encIns, ins_dec, ins_eta, noIns, *]) | ((first | refine LCB.cond (by simp only [seval, evo] <;> rfl) ?_ ?_ | refine wpG_split (by simp only [seval, evo] <;> rfl) ?_ ?_ | refine wqG_split (by simp only [seval, evo] <;> rfl) ?_ ?_) <;> (intro hc; try simp only [seval, nf] at hc)) | refine ACalls.inst ?_ | refine CallP.inst rfl ?_)
  clear htb
  refine R.loop (S := Nat) ⟨fun i => [(2, .ptr H.length 1 0 0), (4, .list (W.map encS)), (13, .agg row), (14, .int .i64 (i : Int))], fun i => H ++ [.vec 6 [encIns noIns]], fun i => i ≤ 18 ∧ ∀ j, j < i → matchOp W j = false, fun i => 18 - i⟩ 0 ⟨Nat.zero_le _, fun j hj => by omega⟩ (Weak.at hcl ?_) ?_
  · simp only [seval, evw, List.forall_mem_cons, List.forall_mem_map, List.forall_mem_append, List.not_mem_nil, encB_def, encS_def, sb, insA, encIns, ins_dec, ins_eta, noIns, *]
  rintro i ⟨hi, hj⟩
  simp only at hi hj ⊢
  replace hj := Hold.mk hj
  by_cases hlt : ¬ i < 18
  · have : i = 18 := by omega
    subst this
    have : insR (parseW W) = .tup [insA noIns, .int .i64 2] := by unfold parseW; rw [find_range_none hj.of]; rfl
    repeat' (first | simp only [seval, evo, beq_self_eq_true, encB_def, encS_def, sb, insA, encIns, ins_dec, ins_eta, noIns, *] | simp (disch := omega) only [if_pos, if_neg] | refine R.seq ?_ | refine LCB.text ?_ | refine LCB.quiet rfl ?_ | refine R.calls rfl ?_ | refine R.block ?_ | refine LCB.skip ?_ | refine LCB.exit ?_ | refine LCB.ret ?_ | ((first | refine RetOk.val hcl ?_ | refine Weak.at hcl ?_); simp only [seval, evw, List.forall_mem_cons, List.forall_mem_map, List.forall_mem_append, List.not_mem_nil, encB_def, encS_def, sb, insA, encIns, ins_dec, ins_eta, noIns, *]) | ((first | refine LCB.cond (by simp only [seval, evo] <;> rfl) ?_ ?_ | refine wpG_split (by simp only [seval, evo] <;> rfl) ?_ ?_ | refine wqG_split (by simp only [seval, evo] <;> rfl) ?_ ?_) <;> (intro hc; try simp only [seval, nf] at hc)) | refine ACalls.inst ?_ | refine CallP.inst rfl ?_)
  replace hlt : i < 18 := by omega
  have e1 : (i : Int) < 18 := by omega
  have e2 : IntKind.i64.wrap ((i : Int) + 1) = ((i + 1 : Nat) : Int) := by rw [IntKind.wrap_i64]; omega
  have e2' : IntKind.i64.wrap (1 + (i : Int)) = ((i + 1 : Nat) : Int) := by rw [IntKind.wrap_i64]; omega
  have hr := hrow.of i hlt
  have hg0 := getD_map hW1
  have hm : Hold (matchOp W i = (decide (wordL ((i + 1 : Nat) : Int) = W.getD 0 []) && decide ((fieldL ((i + 1 : Nat) : Int)).length + 1 = W.length))) := ⟨by unfold matchOp; cases W <;> rfl⟩
  have hpa : Hold (parseAt W i = match fillAll { noIns with op := ((i + 1 : Nat) : Int) } (fieldL ((i + 1 : Nat) : Int)) W.tail with | some x => if chk x 200 = 0 then some x else none | none => none) := ⟨rfl⟩
  obtain ⟨_, hF3, hFa⟩ := shape_short ((i + 1 : Nat) : Int)
  replace hFa := Hold.mk hFa
  have e5 : IntKind.i64.wrap ((W.length : Int) - 1) = ((W.length - 1 : Nat) : Int) := by rw [IntKind.wrap_i64]; omega
  generalize wordL ((i + 1 : Nat) : Int) = wd at *
  generalize fieldL ((i + 1 : Nat) : Int) = F at *
  have e6 : i * 2 + 2 ≤ 36 := by omega
  have e7 : (i : Int) < ((18 : Nat) : Int) := by omega
  cases hmt : matchOp W i with
  | false =>
    have hjn : ∀ j, j < i + 1 → matchOp W j = false := fun j hj1 => by
      rcases Nat.lt_or_ge j i with h | h
      · exact hj.of j h
      · have : j = i := by omega
        subst this; exact hmt
    have hdw := hm.of
    rw [hmt] at hdw
    replace hjn := Hold.mk hjn
    replace hmt := Hold.mk hmt
    by_cases hwd : wd = W.getD 0 []
    · rw [decide_eq_true hwd, Bool.true_and] at hdw
      have hne : ¬ ((F.length : Nat) : Int) = ((W.length - 1 : Nat) : Int) := fun e => by
        have := of_decide_eq_false hdw.symm
        omega
      replace hdw := Hold.mk hdw
      repeat' (first | simp only [seval, evo, beq_self_eq_true, encB_def, encS_def, sb, insA, encIns, ins_dec, ins_eta, noIns, *] | simp (disch := omega) only [if_pos, if_neg] | refine R.seq ?_ | refine LCB.text ?_ | refine LCB.quiet rfl ?_ | refine R.calls rfl ?_ | refine R.block ?_ | refine LCB.skip ?_ | refine LCB.exit ?_ | refine LCB.ret ?_ | ((first | refine RetOk.val hcl ?_ | refine Weak.at hcl ?_); simp only [seval, evw, List.forall_mem_cons, List.forall_mem_map, List.forall_mem_append, List.not_mem_nil, encB_def, encS_def, sb, insA, encIns, ins_dec, ins_eta, noIns, *]) | ((first | refine LCB.cond (by simp only [seval, evo] <;> rfl) ?_ ?_ | refine wpG_split (by simp only [seval, evo] <;> rfl) ?_ ?_ | refine wqG_split (by simp only [seval, evo] <;> rfl) ?_ ?_) <;> (intro hc; try simp only [seval, nf] at hc)) | refine ACalls.inst ?_ | refine CallP.inst rfl ?_)
      refine ⟨i + 1, ⟨hlt, hjn.of⟩, by simp only; omega, Weak.at hcl ?_⟩
      simp only [seval, evw, List.forall_mem_cons, List.forall_mem_map, List.forall_mem_append, List.not_mem_nil, encB_def, encS_def, sb, insA, encIns, ins_dec, ins_eta, noIns, *]
    · replace hdw := Hold.mk hdw
      repeat' (first | simp only [seval, evo, beq_self_eq_true, encB_def, encS_def, sb, insA, encIns, ins_dec, ins_eta, noIns, *] | simp (disch := omega) only [if_pos, if_neg] | refine R.seq ?_ | refine LCB.text ?_ | refine LCB.quiet rfl ?_ | refine R.calls rfl ?_ | refine R.block ?_ | refine LCB.skip ?_ | refine LCB.exit ?_ | refine LCB.ret ?_ | ((first | refine RetOk.val hcl ?_ | refine Weak.at hcl ?_); simp only [seval, evw, List.forall_mem_cons, List.forall_mem_map, List.forall_mem_append, List.not_mem_nil, encB_def, encS_def, sb, insA, encIns, ins_dec, ins_eta, noIns, *]) | ((first | refine LCB.cond (by simp only [seval, evo] <;> rfl) ?_ ?_ | refine wpG_split (by simp only [seval, evo] <;> rfl) ?_ ?_ | refine wqG_split (by simp only [seval, evo] <;> rfl) ?_ ?_) <;> (intro hc; try simp only [seval, nf] at hc)) | refine ACalls.inst ?_ | refine CallP.inst rfl ?_)
      refine ⟨i + 1, ⟨hlt, hjn.of⟩, by simp only; omega, Weak.at hcl ?_⟩
      simp only [seval, evw, List.forall_mem_cons, List.forall_mem_map, List.forall_mem_append, List.not_mem_nil, encB_def, encS_def, sb, insA, encIns, ins_dec, ins_eta, noIns, *]
  | true =>
    have hdw := hm.of
    rw [hmt] at hdw
    replace hdw := hdw.symm
    simp only [Bool.and_eq_true, decide_eq_true_eq] at hdw
    obtain ⟨hwd, hFl⟩ := hdw
    subst hwd
    have hres : Hold (parseW W = parseAt W i) := ⟨by unfold parseW; rw [find_range hlt hmt hj.of]⟩
    replace hmt := Hold.mk hmt
    have heq : ((F.length : Nat) : Int) = ((W.length - 1 : Nat) : Int) := by omega
    have hF1 : F.length = W.length - 1 := by omega
    replace hFl := Hold.mk hFl
    clear heq
    repeat' (first | simp only [seval, evo, beq_self_eq_true, encB_def, encS_def, sb, insA, encIns, ins_dec, ins_eta, noIns, *] | simp (disch := omega) only [if_pos, if_neg] | refine R.seq ?_ | refine LCB.text ?_ | refine LCB.quiet rfl ?_ | refine R.calls rfl ?_ | refine R.block ?_ | refine LCB.skip ?_ | refine LCB.exit ?_ | refine LCB.ret ?_ | ((first | refine RetOk.val hcl ?_ | refine Weak.at hcl ?_); simp only [seval, evw, List.forall_mem_cons, List.forall_mem_map, List.forall_mem_append, List.not_mem_nil, encB_def, encS_def, sb, insA, encIns, ins_dec, ins_eta, noIns, *]) | ((first | refine LCB.cond (by simp only [seval, evo] <;> rfl) ?_ ?_ | refine wpG_split (by simp only [seval, evo] <;> rfl) ?_ ?_ | refine wqG_split (by simp only [seval, evo] <;> rfl) ?_ ?_) <;> (intro hc; try simp only [seval, nf] at hc)) | refine ACalls.inst ?_ | refine CallP.inst rfl ?_)
    refine R.loop (S := Nat × Ins) ⟨fun y => [(2, .ptr H.length 1 0 0), (4, .list (W.map encS)), (7, .ptr (H.length + 2) 1 0 0), (38, .iter (H.length + 3))], fun y => H ++ [.vec 6 [encIns noIns], .vec 2 [[.str (bs (W.getD 0 [])), .str (bs F)]], .vec 6 [encIns y.2], .iter (bs F) y.1],
      fun y => y.1 ≤ F.length ∧ y.2.op = ((i + 1 : Nat) : Int) ∧ fillAll y.2 (F.drop y.1) (W.drop (y.1 + 1)) = fillAll { noIns with op := ((i + 1 : Nat) : Int) } F W.tail, fun y => F.length - y.1⟩ (0, { noIns with op := ((i + 1 : Nat) : Int) }) ⟨Nat.zero_le _, rfl, by simp⟩ (Weak.at hcl ?_) ?_
    · simp only [seval, evw, List.forall_mem_cons, List.forall_mem_map, List.forall_mem_append, List.not_mem_nil, encB_def, encS_def, sb, insA, encIns, ins_dec, ins_eta, noIns, *]
    rintro ⟨p, x⟩ ⟨hp, hxo, hq⟩
    simp only at hp hxo hq ⊢
    replace hq := Hold.mk hq
    replace hxo := Hold.mk hxo
    replace hF1 := Hold.mk hF1
    by_cases hlt2 : p < F.length
    · have hmem : F.getD p 0 ∈ F := by simp [List.getD, hlt2]
      have hd := dec_near (l := F) (p := p) (hFa.of _ hmem)
      have hdr := drop_at hlt2
      have hwp : p + 1 < W.length := by have := hF1.of; omega
      have hgp := getD_map hwp
      have hdw2 : W.drop (p + 1) = W.getD (p + 1) [] :: W.drop (p + 2) := by
        rw [List.drop_eq_getElem_cons hwp]
        simp [List.getD, hwp]
      have hq2 := hq.of
      rw [hdr, hdw2] at hq2
      replace hq2 := Hold.mk hq2
      have e8 : IntKind.i64.wrap ((p : Int) + 1) = ((p + 1 : Nat) : Int) := by rw [IntKind.wrap_i64]; omega
      have hwm : W.getD (p + 1) [] ∈ W := by simp [List.getD, hwp]
      have hwlen := hWs.of _ hwm
      clear hdr hdw2 hmem hwm hg0
      generalize F.getD p 0 = c at *
      generalize W.getD (p + 1) [] = wnx at *
      repeat' (first | simp only [seval, evo, beq_self_eq_true, encB_def, encS_def, sb, insA, encIns, ins_dec, ins_eta, noIns, *] | simp (disch := omega) only [if_pos, if_neg] | refine R.seq ?_ | refine LCB.text ?_ | refine LCB.quiet rfl ?_ | refine R.calls rfl ?_ | refine R.block ?_ | refine LCB.skip ?_ | refine LCB.exit ?_ | refine LCB.ret ?_ | ((first | refine RetOk.val hcl ?_ | refine Weak.at hcl ?_); simp only [seval, evw, List.forall_mem_cons, List.forall_mem_map, List.forall_mem_append, List.not_mem_nil, encB_def, encS_def, sb, insA, encIns, ins_dec, ins_eta, noIns, *]) | ((first | refine LCB.cond (by simp only [seval, evo] <;> rfl) ?_ ?_ | refine wpG_split (by simp only [seval, evo] <;> rfl) ?_ ?_ | refine wqG_split (by simp only [seval, evo] <;> rfl) ?_ ?_) <;> (intro hc; try simp only [seval, nf] at hc)) | refine ACalls.inst ?_ | refine CallP.inst rfl ?_)
      refine (ins_fill_ok (x := x) c wnx hwlen (by simp) (by simp only [seval, evo, beq_self_eq_true, encB_def, encS_def, sb, insA, encIns, ins_dec, ins_eta, noIns, *])).mono ?_
      rintro r' H' ⟨rfl, rfl⟩
      cases hv : fillV c wnx with
      | some v =>
        have hs1 : (some v).isSome = true := rfl
        have hs2 : (some v).getD 0 = v := rfl
        have hq3 := hq2.of
        rw [fillAll, hv] at hq3
        replace hq3 := Hold.mk hq3
        repeat' (first | simp only [seval, evo, beq_self_eq_true, encB_def, encS_def, sb, insA, encIns, ins_dec, ins_eta, noIns, *] | simp (disch := omega) only [if_pos, if_neg] | refine R.seq ?_ | refine LCB.text ?_ | refine LCB.quiet rfl ?_ | refine R.calls rfl ?_ | refine R.block ?_ | refine LCB.skip ?_ | refine LCB.exit ?_ | refine LCB.ret ?_ | ((first | refine RetOk.val hcl ?_ | refine Weak.at hcl ?_); simp only [seval, evw, List.forall_mem_cons, List.forall_mem_map, List.forall_mem_append, List.not_mem_nil, encB_def, encS_def, sb, insA, encIns, ins_dec, ins_eta, noIns, *]) | ((first | refine LCB.cond (by simp only [seval, evo] <;> rfl) ?_ ?_ | refine wpG_split (by simp only [seval, evo] <;> rfl) ?_ ?_ | refine wqG_split (by simp only [seval, evo] <;> rfl) ?_ ?_) <;> (intro hc; try simp only [seval, nf] at hc)) | refine ACalls.inst ?_ | refine CallP.inst rfl ?_)
        refine ⟨(p + 1, setField x c v), ⟨hlt2, by simp only; rw [setField_op]; exact hxo.of, hq3.of⟩, by simp only; omega, Weak.at hcl ?_⟩
        simp only [seval, evw, List.forall_mem_cons, List.forall_mem_map, List.forall_mem_append, List.not_mem_nil, encB_def, encS_def, sb, insA, encIns, ins_dec, ins_eta, noIns, *]
      | none =>
        have hs1 : (none : Option Int).isSome = false := rfl
        have hs2 : (none : Option Int).getD 0 = 0 := rfl
        have hq3 := hq2.of
        rw [fillAll, hv] at hq3
        have hfin : insR (parseW W) = .tup [insA noIns, .int .i64 2] := by
          rw [hres.of, hpa.of, ← hq3]; rfl
        clear hq3
        repeat' (first | simp only [seval, evo, beq_self_eq_true, encB_def, encS_def, sb, insA, encIns, ins_dec, ins_eta, noIns, *] | simp (disch := omega) only [if_pos, if_neg] | refine R.seq ?_ | refine LCB.text ?_ | refine LCB.quiet rfl ?_ | refine R.calls rfl ?_ | refine R.block ?_ | refine LCB.skip ?_ | refine LCB.exit ?_ | refine LCB.ret ?_ | ((first | refine RetOk.val hcl ?_ | refine Weak.at hcl ?_); simp only [seval, evw, List.forall_mem_cons, List.forall_mem_map, List.forall_mem_append, List.not_mem_nil, encB_def, encS_def, sb, insA, encIns, ins_dec, ins_eta, noIns, *]) | ((first | refine LCB.cond (by simp only [seval, evo] <;> rfl) ?_ ?_ | refine wpG_split (by simp only [seval, evo] <;> rfl) ?_ ?_ | refine wqG_split (by simp only [seval, evo] <;> rfl) ?_ ?_) <;> (intro hc; try simp only [seval, nf] at hc)) | refine ACalls.inst ?_ | refine CallP.inst rfl ?_)
    · have hp' : p = F.length := by omega
      subst hp'
      have hq2 := hq.of
      rw [List.drop_length, fillAll] at hq2
      have hx : Hold (parseW W = if chk x 200 = 0 then some x else none) := ⟨by rw [hres.of, hpa.of, ← hq2]⟩
      clear hq2
      have hck := ins_Check_ok x 200
      rw [insA_eq] at hck
      replace hck := Hold.mk hck
      repeat' (first | simp only [seval, evo, beq_self_eq_true, encB_def, encS_def, sb, insA, encIns, ins_dec, ins_eta, noIns, *] | simp (disch := omega) only [if_pos, if_neg] | refine R.seq ?_ | refine LCB.text ?_ | refine LCB.quiet rfl ?_ | refine R.calls rfl ?_ | refine R.block ?_ | refine LCB.skip ?_ | refine LCB.exit ?_ | refine LCB.ret ?_ | ((first | refine RetOk.val hcl ?_ | refine Weak.at hcl ?_); simp only [seval, evw, List.forall_mem_cons, List.forall_mem_map, List.forall_mem_append, List.not_mem_nil, encB_def, encS_def, sb, insA, encIns, ins_dec, ins_eta, noIns, *]) | ((first | refine LCB.cond (by simp only [seval, evo] <;> rfl) ?_ ?_ | refine wpG_split (by simp only [seval, evo] <;> rfl) ?_ ?_ | refine wqG_split (by simp only [seval, evo] <;> rfl) ?_ ?_) <;> (intro hc; try simp only [seval, nf] at hc)) | refine ACalls.inst ?_ | refine CallP.inst rfl ?_)
      refine ACalls.pure hck.of ?_
      by_cases hk : chk x 200 = 0
      · have hfin : insR (parseW W) = .tup [insA x, .int .i64 0] := by rw [hx.of, if_pos hk]; rfl
        repeat' (first | simp only [seval, evo, beq_self_eq_true, encB_def, encS_def, sb, insA, encIns, ins_dec, ins_eta, noIns, *] | simp (disch := omega) only [if_pos, if_neg] | refine R.seq ?_ | refine LCB.text ?_ | refine LCB.quiet rfl ?_ | refine R.calls rfl ?_ | refine R.block ?_ | refine LCB.skip ?_ | refine LCB.exit ?_ | refine LCB.ret ?_ | ((first | refine RetOk.val hcl ?_ | refine Weak.at hcl ?_); simp only [seval, evw, List.forall_mem_cons, List.forall_mem_map, List.forall_mem_append, List.not_mem_nil, encB_def, encS_def, sb, insA, encIns, ins_dec, ins_eta, noIns, *]) | ((first | refine LCB.cond (by simp only [seval, evo] <;> rfl) ?_ ?_ | refine wpG_split (by simp only [seval, evo] <;> rfl) ?_ ?_ | refine wqG_split (by simp only [seval, evo] <;> rfl) ?_ ?_) <;> (intro hc; try simp only [seval, nf] at hc)) | refine ACalls.inst ?_ | refine CallP.inst rfl ?_)
      · have hfin : insR (parseW W) = .tup [insA noIns, .int .i64 2] := by rw [hx.of, if_neg hk]; rfl
        repeat' (first | simp only [seval, evo, beq_self_eq_true, encB_def, encS_def, sb, insA, encIns, ins_dec, ins_eta, noIns, *] | simp (disch := omega) only [if_pos, if_neg] | refine R.seq ?_ | refine LCB.text ?_ | refine LCB.quiet rfl ?_ | refine R.calls rfl ?_ | refine R.block ?_ | refine LCB.skip ?_ | refine LCB.exit ?_ | refine LCB.ret ?_ | ((first | refine RetOk.val hcl ?_ | refine Weak.at hcl ?_); simp only [seval, evw, List.forall_mem_cons, List.forall_mem_map, List.forall_mem_append, List.not_mem_nil, encB_def, encS_def, sb, insA, encIns, ins_dec, ins_eta, noIns, *]) | ((first | refine LCB.cond (by simp only [seval, evo] <;> rfl) ?_ ?_ | refine wpG_split (by simp only [seval, evo] <;> rfl) ?_ ?_ | refine wqG_split (by simp only [seval, evo] <;> rfl) ?_ ?_) <;> (intro hc; try simp only [seval, nf] at hc)) | refine ACalls.inst ?_ | refine CallP.inst rfl ?_)
end Go.Proofs.YtbkbehkjndmabaaDoor
