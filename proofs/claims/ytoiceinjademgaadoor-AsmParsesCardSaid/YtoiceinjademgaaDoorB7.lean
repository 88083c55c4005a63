/-
  The abstract layer, part 16: copy, maps, ranges over texts.
-/
import Derived.Test.YtoiceinjademgaaDoorB6
namespace Go.Proofs.YtoiceinjademgaaDoor
open Go.RowKit

section
variable {P : Program} {c : Cx} {ρ : Operand → Value} {t : Tm}

/-! ### Maps -/
theorem s_mkMap (hH : RepH c) {o : Oper} {ty : TypeId} (ho : o.op = .makeMap ty none) : Does P ρ o c (.map c.H.length) (c.H ++ [.map []]) := by
  have hb : ∀ b, b < c.w.heap.size → (c.w.alloc (.map #[] 0)).heap[b]? = c.w.heap[b]? := fun b hb => Below.heap_alloc c.w _ b hb
  have hnew : (c.w.alloc (.map #[] 0)).heap[c.w.heap.size]? = some (.map #[] 0) := by
    show (c.w.heap.push (.map #[] 0))[c.w.heap.size]? = _
    simp
  have hf : Fr c (c.push (.map []) (some c.w.heap.size) (c.w.alloc (.map #[] 0))) := Fr.push rfl rfl rfl (by simp) hb (fun b e => by cases e; exact Nat.le_refl _) hH.lt
  have hR : RepH (c.push (.map []) (some c.w.heap.size) (c.w.alloc (.map #[] 0))) := hH.push rfl rfl rfl (by simp) hb (fun b e => by cases e; simp) ⟨_, #[], 0, push_ι _ _ _, hnew, rfl, by simp⟩
  refine ⟨_, _, .value (.map (some c.w.heap.size)), _, ?_, .inl rfl, hR, hf, .map _ _ (push_len _ _ _) (fun es hx => ⟨_, push_ι _ _ _, rfl⟩)⟩
  simp only [execOp, ho, Option.map_none, Instr.makeMap, Sem.run_bind, Sem.run_pure, Result.andThen_ok, run_newObj]
  rfl

theorem keyIs_spec {k q : AV} {x y : Value} {b : Bool} (h : keyIs k q = some b) (hx : RepV c k x) (hy : RepV c q y) : ∃ kd n m, k = .int kd n ∧ x = .int kd n ∧ y = .int kd m ∧ b = (n == m) := by
  unfold keyIs at h
  split at h
  · rename_i kd n kd' m
    split at h
    · rename_i e
      subst e
      simp only [Option.some.injEq] at h
      exact ⟨kd, n, m, rfl, hx.int_inv, hy.int_inv, h.symm⟩
    · simp at h
  · simp at h

theorem findNow_sound {kd : IntKind} {k : AV} {x : Value} (hx : RepV c k x) : ∀ (es : List (AV × AV)) (ents : List MapEntry) (i : Nat) (r : Option (Nat × AV)), ents.length = es.length →
    (∀ (i : Nat) (p : AV × AV), es[i]? = some p → ∃ e : MapEntry, ents[i]? = some e ∧ RepV c p.1 e.key ∧ RepV c p.2 e.val) → findKeyA k es i = some r →
    match r with
    | none => Instr.findNow (.int kd) x ents i = some none
    | some (j, v) => ∃ u, Instr.findNow (.int kd) x ents i = some (some (j, u)) ∧ RepV c v u ∧ i ≤ j ∧ (∃ e : MapEntry, ents[j - i]? = some e ∧ e.key = x) ∧ ∃ p, es[j - i]? = some p
  | [], [], i, r, _, _, h => by
    simp only [findKeyA, Option.some.injEq] at h
    subst h
    rfl
  | [], _ :: _, i, r, hl, _, _ => by simp at hl
  | _ :: _, [], i, r, hl, _, _ => by simp at hl
  | (q, v) :: es, e :: ents, i, r, hl, hr, h => by
    obtain ⟨e', he, hk, hv⟩ := hr 0 (q, v) rfl
    simp only [List.getElem?_cons_zero, Option.some.injEq] at he
    subst he
    simp only [findKeyA] at h
    split at h
    · rename_i hq
      simp only [Option.some.injEq] at h
      subst h
      obtain ⟨kd', n, m, _, h2, h3, h4⟩ := keyIs_spec hq hx hk
      refine ⟨e.val, ?_, hv, Nat.le_refl _, ⟨e, by simp, ?_⟩, (q, v), by simp⟩
      · simp only [Instr.findNow, h2, h3, Instr.sameNow, if_true]
        rw [← h4]
      · rw [h3, h2]
        have := h4.symm
        simp at this
        rw [this]
    · rename_i hq
      obtain ⟨kd', n, m, _, h2, h3, h4⟩ := keyIs_spec hq hx hk
      have ih := findNow_sound (kd := kd) hx es ents (i + 1) r (by simpa using hl) (fun i p hp => by simpa using hr (i + 1) p (by simpa using hp)) h
      have e1 : Instr.findNow (.int kd) x (e :: ents) i = Instr.findNow (.int kd) x ents (i + 1) := by
        simp only [Instr.findNow, h2, h3, Instr.sameNow, if_true]
        rw [← h4]
      cases r with
      | none => simpa only [e1] using ih
      | some r =>
        obtain ⟨j, u⟩ := r
        obtain ⟨u', g1, g2, g3, ⟨e2, g4, g5⟩, p, g6⟩ := ih
        have hj : j - i = (j - (i + 1)) + 1 := by omega
        exact ⟨u', by rw [e1]; exact g1, g2, by omega, ⟨e2, by rw [hj]; simpa using g4, g5⟩, p, by rw [hj]; simpa using g6⟩
    · simp at h

theorem isInt_spec {a : AV} {v : Value} (h : isInt a = true) (hv : RepV c a v) : ∃ k n, v = .int k n := by
  unfold isInt at h
  split at h
  · exact ⟨_, _, hv.int_inv⟩
  · simp at h

theorem checkKey_int' (b : Bool) {kt : TypeId} {kd : IntKind} (hk : P.underlying kt = some (.int kd)) (k : IntKind) (n : Int) (w : World) (d : Nat) : (Instr.checkKey b (d + 1) kt (.int k n)).run P w = .ok () w := by
  simp [Instr.checkKey, run_underlying hk]
theorem checkKey_int (b : Bool) {kt : TypeId} {kd : IntKind} (hk : P.underlying kt = some (.int kd)) (k : IntKind) (n : Int) (w : World) : (Instr.checkKey b 10000 kt (.int k n)).run P w = .ok () w := checkKey_int' b hk k n w 9999

theorem map_spec (hH : RepH c) {m : Nat} {v : Value} (hv : RepV c (.map m) v) {es : List (AV × AV)} (hm : c.H[m]? = some (.map es)) : ∃ b ents clock, v = .map (some b) ∧ c.ι m = some b ∧ c.w.heap[b]? = some (.map ents clock) ∧ ents.size = es.length ∧
    ∀ (i : Nat) (p : AV × AV), es[i]? = some p → ∃ e : MapEntry, ents[i]? = some e ∧ RepV c p.1 e.key ∧ RepV c p.2 e.val := by
  obtain ⟨b, ents, clock, h1, h2, h3, h4⟩ := hH.obj m _ hm
  cases hv with
  | map _ r hk hvv =>
    obtain ⟨b', hb', rfl⟩ := hvv es hm
    rw [h1] at hb'
    simp only [Option.some.injEq] at hb'
    subst hb'
    exact ⟨b, ents, clock, rfl, h1, h2, h3, h4⟩

theorem zeroV_rep {t : TypeId} {z : AV} (h : zeroV P t = some z) (c : Cx) : ∃ v, (∀ w, (zeroValue t).run P w = .ok v w) ∧ RepV c z v := by
  simp only [zeroV, Option.map_eq_some_iff, Option.bind_eq_some_iff] at h
  obtain ⟨v, ⟨i, hi, hz⟩, rfl⟩ := h
  exact ⟨v, fun w => by simp [zeroValue, typeInfo, hi, hz], absV_rep c v⟩

theorem tup2 {a b : AV} {x y : Value} (h1 : RepV c a x) (h2 : RepV c b y) : RepV c (.tup [a, b]) (.tuple #[x, y]) := by
  refine .tup _ _ rfl fun i z hz => ?_
  match i with
  | 0 => simp at hz; subst hz; exact h1
  | 1 => simp at hz; subst hz; exact h2
  | i + 2 => simp at hz

theorem s_lookup (hH : RepH c) (hρ : ∀ x, RepV c (ev t (lowX x)) (ρ x)) {o : Oper} {ty kt et : TypeId} {x k : Operand} {ok : Bool} {kd : IntKind} {z : AV} (ho : o.op = .lookup ty x k ok) (ht : P.underlying ty = some (.map kt et)) (hk : P.underlying kt = some (.int kd)) (hz : zeroV P et = some z) {v : AV} {H' : List AObj}
    (h : stepL (.lookup z (lowX x) (lowX k) ok) ⟨t, c.H⟩ = some (v, H')) : H' = c.H ∧ ∃ u, RepV c v u ∧ (execOp ρ o).run P c.w = .ok (.value u) c.w := by
  simp only [stepL] at h
  split at h
  · rename_i m hm
    split at h
    · rename_i es hes
      split at h
      · rename_i hint
        simp only [Option.map_eq_some_iff] at h
        obtain ⟨r, hr, h⟩ := h
        have hx := hρ x
        rw [hm] at hx
        obtain ⟨b, ents, clock, hv, hb, hheap, hsz, hents⟩ := map_spec hH hx hes
        obtain ⟨k', n, hkv⟩ := isInt_spec hint (hρ k)
        have hf := findNow_sound (kd := kd) (hρ k) es ents.toList 0 r (by simpa using hsz) (fun i p hp => by
          obtain ⟨e, he, h1, h2⟩ := hents i p hp
          exact ⟨e, by rw [Array.getElem?_toList]; exact he, h1, h2⟩) hr
        have hget : (getObj b).run P c.w = .ok (.map ents clock) c.w := by simp [getObj, Sem.run, hheap]
        obtain ⟨zv, hzr, hzrep⟩ := zeroV_rep hz c
        have hck' : (Instr.checkKey ents.isEmpty 10000 kt (ρ k)).run P c.w = .ok () c.w := by rw [hkv]; exact checkKey_int ents.isEmpty hk k' n c.w
        cases r with
        | none =>
          simp only [Prod.mk.injEq] at h
          obtain ⟨rfl, rfl⟩ := h
          refine ⟨rfl, if ok then .tuple #[zv, .bool false] else zv, ?_, ?_⟩
          · cases ok
            · exact hzrep
            · exact tup2 hzrep (.bool _)
          · cases ok <;> simp only [execOp, ho, Instr.lookup, Sem.run_bind, Sem.run_pure, Result.andThen_ok, run_underlying ht, hv, hget, hck', Instr.findKey, run_underlying hk, hf, hzr, if_true, if_false, Bool.false_eq_true]
        | some r =>
          obtain ⟨j, av⟩ := r
          simp only [Prod.mk.injEq] at h
          obtain ⟨rfl, rfl⟩ := h
          obtain ⟨u, g1, g2, _⟩ := hf
          refine ⟨rfl, if ok then .tuple #[u, .bool true] else u, ?_, ?_⟩
          · cases ok
            · exact g2
            · exact tup2 g2 (.bool _)
          · cases ok <;> simp only [execOp, ho, Instr.lookup, Sem.run_bind, Sem.run_pure, Result.andThen_ok, run_underlying ht, hv, hget, hck', Instr.findKey, run_underlying hk, g1, if_true, if_false, Bool.false_eq_true]
      · simp at h
    · simp at h
  · simp at h

theorem heap_set (w : World) (b : Nat) (o : Obj) (x : Nat) : (w.heap.setIfInBounds b o)[x]? = if x = b ∧ b < w.heap.size then some o else w.heap[x]? := by
  by_cases e : b = x
  · subst e
    by_cases h : b < w.heap.size
    · simp [h]
    · simp [h]
  · rw [Array.getElem?_setIfInBounds_ne e, if_neg (fun h => e h.1.symm)]

/-- An object that is no vector, in its block. -/
theorem upd_obj (hH : RepH c) {k b : Nat} {o o' : AObj} {ob ob' : Obj} (hk : c.H[k]? = some o) (hl : o.live = true) (hb : c.ι k = some b) (hheap : c.w.heap[b]? = some ob) (hnc : ∀ x y z, ob ≠ .cells x y z)
    (hv : ∀ sz xs, o' ≠ .vec sz xs) (hm : ∀ es', o' = .map es' → ∃ es, o = .map es) (hi : ∀ s p, o' = .iter s p → ∃ s p, o = .iter s p)
    (hrep : Fr c (c.upd k o' (c.ι k) { c.w with heap := c.w.heap.setIfInBounds b ob' }) → RepO (c.upd k o' (c.ι k) { c.w with heap := c.w.heap.setIfInBounds b ob' }) k o') :
    (setObj b ob').run P c.w = .ok () { c.w with heap := c.w.heap.setIfInBounds b ob' } ∧ RepH (c.upd k o' (c.ι k) { c.w with heap := c.w.heap.setIfInBounds b ob' }) ∧ Fr c (c.upd k o' (c.ι k) { c.w with heap := c.w.heap.setIfInBounds b ob' }) := by
  have u : Upd c k o o' (c.ι k) { c.w with heap := c.w.heap.setIfInBounds b ob' } := ⟨hk, hl, rfl, rfl, rfl, by simp, fun x _ hne => by
    have : b ≠ x := fun e => hne (by rw [hb, e])
    exact Array.getElem?_setIfInBounds_ne this, .inl rfl, fun sz xs e => absurd e (hv sz xs), fun es e => ⟨hm es e, rfl⟩, fun s p e => ⟨hi s p e, rfl⟩⟩
  have hf := u.fr hH
  refine ⟨?_, u.rep hH (hrep hf), hf⟩
  cases ob with
  | cells x y z => exact absurd rfl (hnc x y z)
  | _ => simp only [setObj, Sem.run, hheap]

theorem keyThatStays_int (k : IntKind) (n : Int) (w : World) : (Instr.keyThatStays (.int k n) (.int k n)).run P w = .ok (.int k n) w := by
  simp only [Instr.keyThatStays]
  rw [if_pos (by unfold Instr.sameBits; simp), Sem.run_pure]

theorem s_mapSet (hH : RepH c) (hρ : ∀ x, RepV c (ev t (lowX x)) (ρ x)) {o : Oper} {ty kt et : TypeId} {m k x : Operand} {kd : IntKind} (ho : o.op = .mapUpdate ty m k x ∨ o.op = .insert ty m k x) (ht : P.underlying ty = some (.map kt et)) (hk : P.underlying kt = some (.int kd)) {v : AV} {H' : List AObj}
    (h : stepL (.mapSet (lowX m) (lowX k) (lowX x)) ⟨t, c.H⟩ = some (v, H')) : Does P ρ o c v H' := by
  simp only [stepL] at h
  split at h
  · rename_i q hm
    split at h
    · rename_i es hes
      split at h
      · rename_i hint
        simp only [Option.map_eq_some_iff] at h
        obtain ⟨r, hr, h⟩ := h
        have hx := hρ m
        rw [hm] at hx
        obtain ⟨b, ents, clock, hv, hb, hheap, hsz, hents⟩ := map_spec hH hx hes
        obtain ⟨k', n, hkv⟩ := isInt_spec hint (hρ k)
        have hf := findNow_sound (kd := kd) (hρ k) es ents.toList 0 r (by simpa using hsz) (fun i p hp => by
          obtain ⟨e, he, h1, h2⟩ := hents i p hp
          exact ⟨e, by rw [Array.getElem?_toList]; exact he, h1, h2⟩) hr
        have hget : (getObj b).run P c.w = .ok (.map ents clock) c.w := by simp [getObj, Sem.run, hheap]
        have hck' : (Instr.checkKey false 10000 kt (ρ k)).run P c.w = .ok () c.w := by rw [hkv]; exact checkKey_int false hk k' n c.w
        have hlt : b < c.w.heap.size := (Array.getElem?_eq_some_iff.1 hheap).1
        have up := fun (es' : List (AV × AV)) (ob' : Obj) => upd_obj (P := P) (ob' := ob') (o' := .map es') hH hes rfl hb hheap (fun _ _ _ e => by cases e) (fun _ _ e => by cases e) (fun es' _ => ⟨es, rfl⟩) (fun s p e => by cases e)
        cases r with
        | none =>
          simp only [Prod.mk.injEq] at h
          obtain ⟨rfl, rfl⟩ := h
          obtain ⟨g1, g2, g3⟩ := up (es ++ [(ev t (lowX k), ev t (lowX x))]) (.map (ents.push { key := ρ k, val := ρ x, born := clock }) (clock + 1)) (fun hf' => by
            refine ⟨b, ents.push { key := ρ k, val := ρ x, born := clock }, clock + 1, by simp [Cx.upd, hb], by simp [Cx.upd, hlt], by simp [hsz], fun i p hp => ?_⟩
            by_cases hi : i < es.length
            · rw [List.getElem?_append_left hi] at hp
              obtain ⟨e, he, h1, h2⟩ := hents i p hp
              exact ⟨e, by rw [Array.getElem?_push_lt (by omega)]; rw [Array.getElem?_eq_getElem (by omega)] at he; exact he, h1.mono hf', h2.mono hf'⟩
            · rw [List.getElem?_append_right (by omega)] at hp
              have : i - es.length = 0 := by
                have := (List.getElem?_eq_some_iff.1 hp).1
                simp at this
                omega
              rw [this] at hp
              simp only [List.getElem?_cons_zero, Option.some.injEq] at hp
              subst hp
              have : i = ents.size := by omega
              subst this
              exact ⟨{ key := ρ k, val := ρ x, born := clock }, by simp, (hρ k).mono hf', (hρ x).mono hf'⟩)
          refine ⟨_, _, .skip, undef, ?_, .inr ⟨rfl, rfl⟩, g2, g3, .dead _⟩
          rcases ho with ho | ho <;> simp only [execOp, ho, Instr.mapUpdate, Sem.run_bind, Sem.run_pure, Result.andThen_ok, run_underlying ht, hv, hget, hck', Instr.findKey, run_underlying hk, hf, g1]
        | some r =>
          obtain ⟨j, av⟩ := r
          simp only [Prod.mk.injEq] at h
          obtain ⟨rfl, rfl⟩ := h
          obtain ⟨u, f1, f2, _, ⟨e0, f4, f5⟩, p0, f6⟩ := hf
          simp only [Nat.sub_zero] at f4 f6
          rw [Array.getElem?_toList] at f4
          obtain ⟨g1, g2, g3⟩ := up (es.set j (ev t (lowX k), ev t (lowX x))) (.map (ents.modify j fun e => { e with key := ρ k, val := ρ x }) clock) (fun hf' => by
            refine ⟨b, ents.modify j fun e => { e with key := ρ k, val := ρ x }, clock, by simp [Cx.upd, hb], by simp [Cx.upd, hlt], by simp [hsz], fun i p hp => ?_⟩
            by_cases hi : j = i
            · subst hi
              rw [List.getElem?_set_self ((List.getElem?_eq_some_iff.1 f6).1)] at hp
              simp only [Option.some.injEq] at hp
              subst hp
              exact ⟨_, by rw [Array.getElem?_modify, if_pos rfl, f4]; rfl, (hρ k).mono hf', (hρ x).mono hf'⟩
            · rw [List.getElem?_set_ne hi] at hp
              obtain ⟨e, he, h1, h2⟩ := hents i p hp
              exact ⟨e, by rw [Array.getElem?_modify, if_neg hi]; exact he, h1.mono hf', h2.mono hf'⟩)
          refine ⟨_, _, .skip, undef, ?_, .inr ⟨rfl, rfl⟩, g2, g3, .dead _⟩
          have hold : ((ents[j]?).map (·.key)).getD (ρ k) = ρ k := by rw [f4]; exact f5
          have hks : (Instr.keyThatStays (ρ k) (ρ k)).run P c.w = .ok (ρ k) c.w := by rw [hkv]; exact keyThatStays_int k' n c.w
          rcases ho with ho | ho <;> simp only [execOp, ho, Instr.mapUpdate, Sem.run_bind, Sem.run_pure, Result.andThen_ok, run_underlying ht, hv, hget, hck', Instr.findKey, run_underlying hk, f1, hold, hks, g1]
      · simp at h
    · simp at h
  · simp at h

theorem s_lenM (hH : RepH c) (hρ : ∀ x, RepV c (ev t (lowX x)) (ρ x)) {o : Oper} {cl : Call} {x : Operand} {kt et : TypeId} (ho : o.op = .call cl) (hc : cl.callee = .builtin .len) (ha : cl.args = #[x]) (ht : (cl.argTypes[0]?).bind P.underlying = some (.map kt et)) {v : AV} {H' : List AObj}
    (h : stepL (.len .map (lowX x)) ⟨t, c.H⟩ = some (v, H')) : H' = c.H ∧ ∃ u, RepV c v u ∧ (execOp ρ o).run P c.w = .ok (.value u) c.w := by
  obtain ⟨ty, ht1, ht2⟩ := Option.bind_eq_some_iff.1 ht
  simp only [stepL] at h
  split at h
  · rename_i q hm
    split at h
    · rename_i es hes
      simp only [Option.some.injEq, Prod.mk.injEq] at h
      obtain ⟨rfl, rfl⟩ := h
      have hx := hρ x
      rw [hm] at hx
      obtain ⟨b, ents, clock, hv, hb, hheap, hsz, hents⟩ := map_spec hH hx hes
      have hget : (getObj b).run P c.w = .ok (.map ents clock) c.w := by simp [getObj, Sem.run, hheap]
      refine ⟨rfl, .int .i64 es.length, .int _ _, ?_⟩
      simp [execOp, ho, resolve, hc, ha, invoke, builtin, Builtin.len_, ht1, run_underlying ht2, hv, hget, goInt, hsz]
    · simp at h
  · simp at h

theorem s_range (hH : RepH c) (hρ : ∀ x, RepV c (ev t (lowX x)) (ρ x)) {o : Oper} {ty : TypeId} {x : Operand} (ho : o.op = .range ty x) (ht : P.underlying ty = some .string) {v : AV} {H' : List AObj}
    (h : stepL (.range (lowX x)) ⟨t, c.H⟩ = some (v, H')) : Does P ρ o c v H' := by
  simp only [stepL] at h
  split at h
  · rename_i s hs
    simp only [Option.some.injEq, Prod.mk.injEq] at h
    obtain ⟨rfl, rfl⟩ := h
    have hx := hρ x
    rw [hs] at hx
    have hb : ∀ b, b < c.w.heap.size → (c.w.alloc (.stringIter s 0)).heap[b]? = c.w.heap[b]? := fun b hb => Below.heap_alloc c.w _ b hb
    have hnew : (c.w.alloc (.stringIter s 0)).heap[c.w.heap.size]? = some (.stringIter s 0) := by
      show (c.w.heap.push (.stringIter s 0))[c.w.heap.size]? = _
      simp
    have hf : Fr c (c.push (.iter s 0) (some c.w.heap.size) (c.w.alloc (.stringIter s 0))) := Fr.push rfl rfl rfl (by simp) hb (fun b e => by cases e; exact Nat.le_refl _) hH.lt
    have hR : RepH (c.push (.iter s 0) (some c.w.heap.size) (c.w.alloc (.stringIter s 0))) := hH.push rfl rfl rfl (by simp) hb (fun b e => by cases e; simp) ⟨_, push_ι _ _ _, hnew⟩
    refine ⟨_, _, .value (.pointer (some ⟨c.w.heap.size, 0, none⟩)), _, ?_, .inl rfl, hR, hf, .iter _ _ (push_len _ _ _) (fun s' p hx => ⟨_, push_ι _ _ _, rfl⟩)⟩
    simp only [execOp, ho, Instr.range, Sem.run_bind, Sem.run_pure, Result.andThen_ok, run_underlying ht, hx.str_inv, run_newObj]
    rfl
  · simp at h

theorem tup3 {a b d : AV} {x y z : Value} (h1 : RepV c a x) (h2 : RepV c b y) (h3 : RepV c d z) : RepV c (.tup [a, b, d]) (.tuple #[x, y, z]) := by
  refine .tup _ _ rfl fun i q hq => ?_
  match i with
  | 0 => simp at hq; subst hq; exact h1
  | 1 => simp at hq; subst hq; exact h2
  | 2 => simp at hq; subst hq; exact h3
  | i + 3 => simp at hq

theorem s_next (hH : RepH c) (hρ : ∀ x, RepV c (ev t (lowX x)) (ρ x)) {o : Oper} {it : Operand} (ho : o.op = .next it true) {v : AV} {H' : List AObj}
    (h : stepL (.next (lowX it)) ⟨t, c.H⟩ = some (v, H')) : Does P ρ o c v H' := by
  simp only [stepL] at h
  split at h
  · rename_i k hk
    split at h
    · rename_i s p hsp
      have hx := hρ it
      rw [hk] at hx
      obtain ⟨b, hb, hheap⟩ := hH.obj k _ hsp
      generalize hva : ρ it = va at hx
      cases hx with
      | iter _ A hkl hvv =>
        obtain ⟨b', hb', rfl⟩ := hvv s p hsp
        rw [hb] at hb'
        simp only [Option.some.injEq] at hb'
        subst hb'
        have hget : (getObj b).run P c.w = .ok (.stringIter s p) c.w := by simp [getObj, Sem.run, hheap]
        have hlt : b < c.w.heap.size := (Array.getElem?_eq_some_iff.1 hheap).1
        split at h
        · rename_i hps
          simp only [Option.some.injEq, Prod.mk.injEq] at h
          obtain ⟨rfl, rfl⟩ := h
          obtain ⟨g1, g2, g3⟩ := upd_obj (P := P) (ob' := .stringIter s (p + (Utf8.decode s p).2)) (o' := .iter s (p + (Utf8.decode s p).2)) hH hsp rfl hb hheap (fun _ _ _ e => by cases e) (fun _ _ e => by cases e) (fun _ e => by cases e) (fun _ _ _ => ⟨s, p, rfl⟩) (fun _ => ⟨b, by simp [Cx.upd, hb], by simp [Cx.upd, hlt]⟩)
          refine ⟨_, _, .value (.tuple #[.bool true, goInt p, .int .i32 (Utf8.decode s p).1]), _, ?_, .inl rfl, g2, g3, tup3 (.bool _) (.int _ _) (.int _ _)⟩
          simp only [execOp, ho, Instr.next, Sem.run_bind, Sem.run_pure, Result.andThen_ok, hva, hget, hps, if_true, g1]
        · rename_i hps
          simp only [Option.some.injEq, Prod.mk.injEq] at h
          obtain ⟨rfl, rfl⟩ := h
          refine ⟨c.ι, c.w, .value (.tuple #[.bool false]), _, ?_, .inl rfl, hH, Fr.refl c, .tup _ _ rfl fun i q hq => ?_⟩
          · simp only [execOp, ho, Instr.next, Sem.run_bind, Sem.run_pure, Result.andThen_ok, hva, hget, hps, if_false]
          · cases i with
            | zero => simp at hq; subst hq; exact .bool _
            | succ i => simp at hq
    · simp at h
  · simp at h

end
end Go.Proofs.YtoiceinjademgaaDoor
