/-
  The abstract layer, part 13: slices that are read, appended, copied, made; texts out of bytes.
-/
import Derived.Test.YtoiceinjademgaaDoorB3
namespace Go.Proofs.YtoiceinjademgaaDoor
open Go.RowKit

section
variable {P : Program} {c : Cx} {ρ : Operand → Value} {t : Tm}

theorem rowsOk_spec {sz : Nat} {ys : List (List AV)} (h : rowsOk sz ys = true) : (∀ r ∈ ys, r.length = sz) ∧ ∀ r ∈ ys, allCells r = true := by
  simp only [rowsOk, List.all_eq_true, Bool.and_eq_true, beq_iff_eq] at h
  exact ⟨fun r hr => (h r hr).1, fun r hr => (h r hr).2⟩

theorem cells_news {sz : Nat} {ys : List (List AV)} (h0 : 0 < sz) (hrows : ∀ r ∈ ys, r.length = sz) (b o : Nat) (w : World) (cs : Nat → Nat → Value)
    (hc : ∀ (i j : Nat) (a : AV), cellAt ys i j = some a → w.cell? ⟨b, o + (i * sz + j), none⟩ = some (cs i j)) (hr : ∀ (i j : Nat) (a : AV), cellAt ys i j = some a → RepV c a (cs i j)) :
    ∃ news, RepR c sz ys news ∧ ∀ m u, news[m]? = some u → w.cell? ⟨b, o + m, none⟩ = some u := by
  refine ⟨(List.range (ys.length * sz)).map fun m => cs (m / sz) (m % sz), ⟨hrows, by simp, fun i j a ha => ?_⟩, fun m u hm => ?_⟩
  · obtain ⟨h1, h2, h3⟩ := cellAt_lt hrows ha
    have e1 : (i * sz + j) / sz = i := by rw [Nat.mul_comm, Nat.mul_add_div h0, Nat.div_eq_of_lt h2]; omega
    have e2 : (i * sz + j) % sz = j := by rw [Nat.mul_comm, Nat.mul_add_mod]; exact Nat.mod_eq_of_lt h2
    simp only [List.getD_eq_getElem?_getD, List.getElem?_map, List.getElem?_range h3, Option.map_some, Option.getD_some, e1, e2]
    exact hr i j a ha
  · simp only [List.getElem?_map, Option.map_eq_some_iff] at hm
    obtain ⟨q, hq, rfl⟩ := hm
    have hlt : m < ys.length * sz := by have := (List.getElem?_eq_some_iff.1 hq).1; simpa using this
    rw [List.getElem?_range hlt] at hq
    simp only [Option.some.injEq] at hq
    subst hq
    have h1 : m / sz < ys.length := Nat.div_lt_of_lt_mul (by rw [Nat.mul_comm]; exact hlt)
    have h2 : m % sz < sz := Nat.mod_lt _ h0
    have hl : (ys[m / sz]).length = sz := hrows _ (List.getElem_mem _)
    have := hc (m / sz) (m % sz) ((ys[m / sz])[m % sz]'(by omega)) (by simp only [cellAt, List.getElem?_eq_getElem h1, Option.bind_some]; exact List.getElem?_eq_getElem (by omega))
    rw [← this]
    congr 2
    have := Nat.div_add_mod m sz
    rw [Nat.mul_comm] at this
    omega

/-- What a slice holds, in a world. -/
theorem elems_spec (hH : RepH c) {a : AV} {v : Value} (hv : RepV c a v) {ys : List (List AV)} (h : elems c.H a = some ys) : ∃ A cap, v = .slice A ys.length cap ∧ ((ys = [] ∧ ∀ sz, RepR c sz ys []) ∨
    ∃ sz b o news, 0 < sz ∧ A = some ⟨b, o, none⟩ ∧ RepR c sz ys news ∧ ∀ m u, news[m]? = some u → c.w.cell? ⟨b, o + m, none⟩ = some u) := by
  have nil : ∀ sz, RepR c sz [] [] := fun sz => ⟨by simp, by simp, by simp [cellAt]⟩
  unfold elems at h
  split at h
  · simp only [Option.some.injEq] at h
    subst h
    cases hv with
    | lnil A cap => exact ⟨A, cap, rfl, .inl ⟨rfl, nil⟩⟩
    | list sz xs b o cap cs h0 hn hsz hlen hcap hw hst hc hr =>
      obtain ⟨news, h1, h2⟩ := cells_news h0 hsz b o c.w cs hc hr
      exact ⟨_, _, rfl, .inr ⟨sz, b, o, news, h0, rfl, h1, h2⟩⟩
  · rename_i sz k n off len
    split at h
    · rename_i sz' xs hk
      split at h
      · rename_i hcond
        obtain ⟨hn, rfl⟩ := hcond
        simp only [Option.some.injEq] at h
        subst h
        obtain ⟨h0, hrows, hlen, hobj⟩ := hH.obj k _ hk
        cases hv with
        | sl _ _ _ _ _ A cap hk' hcl hA hn' hval =>
          obtain ⟨hle, hdis⟩ := hval xs hk hn
          have hlen' : ((xs.drop off).take len).length = len := by simp; omega
          refine ⟨A, cap, by rw [hlen'], ?_⟩
          rcases hdis with ⟨b, hb, hAb, _⟩ | ⟨hz, _⟩
          · rw [hb] at hobj
            obtain ⟨cs, el, fr, g1, g2, g3, g4⟩ := hobj
            have hcell : ∀ (i j : Nat) (a : AV), cellAt ((xs.drop off).take len) i j = some a → cellAt xs (off + i) j = some a := fun i j a ha => by
              simp only [cellAt, List.getElem?_take] at ha ⊢
              split at ha
              · rwa [List.getElem?_drop] at ha
              · simp at ha
            obtain ⟨news, h1, h2⟩ := cells_news (c := c) (ys := (xs.drop off).take len) h0 (fun r hr => hrows r (List.mem_of_mem_drop (List.mem_of_mem_take hr))) b (off * sz) c.w (fun i j => cs.getD ((off + i) * sz + j) undef)
              (fun i j a ha => by
                obtain ⟨_, _, h3⟩ := cellAt_lt hrows (hcell i j a ha)
                rw [Nat.add_mul] at h3
                have hlt : off * sz + (i * sz + j) < cs.size := by omega
                rw [Nat.add_mul]
                rw [Nat.add_assoc]
                simp [World.cell?, g1, hlt]) (fun i j a ha => g4 _ _ a (hcell i j a ha))
            exact .inr ⟨sz, b, off * sz, news, h0, hAb, h1, h2⟩
          · subst hz
            left
            rw [List.take_zero]
            exact ⟨rfl, nil⟩
      · simp at h
    · simp at h
  · simp at h

theorem RepR_one {sz : Nat} {ys : List (List AV)} {news : List Value} (h0 : 0 < sz) (h : RepR c sz ys news) (hcells : ∀ r ∈ ys, allCells r = true) : ∀ u ∈ news, u.oneCell' = true := by
  intro u hu
  obtain ⟨m, hm, rfl⟩ := List.getElem_of_mem hu
  have hlt : m < ys.length * sz := by rw [← h.len]; exact hm
  have h1 : m / sz < ys.length := Nat.div_lt_of_lt_mul (by rw [Nat.mul_comm]; exact hlt)
  have h2 : m % sz < sz := Nat.mod_lt _ h0
  have hl : (ys[m / sz]).length = sz := h.rows _ (List.getElem_mem _)
  have hval := h.val (m / sz) (m % sz) ((ys[m / sz])[m % sz]'(by omega)) (by simp only [cellAt, List.getElem?_eq_getElem h1, Option.bind_some]; exact List.getElem?_eq_getElem (by omega))
  have e : m / sz * sz + m % sz = m := by have := Nat.div_add_mod m sz; rw [Nat.mul_comm] at this; exact this
  rw [e] at hval
  have h3 : news.getD m undef = news[m] := by simp [hm]
  rw [h3] at hval
  have h4 := List.all_eq_true.1 (hcells (ys[m / sz]) (List.getElem_mem _)) ((ys[m / sz])[m % sz]'(by omega)) (List.getElem_mem _)
  exact hval.one h4

theorem src_of {sz : Nat} {a : AV} {v : Value} (hH : RepH c) (hv : RepV c a v) {ys : List (List AV)} (h : elems c.H a = some ys) (hok : rowsOk sz ys = true) {tx e' : TypeId} (hk : P.underlying tx = some (.slice e')) :
    ∃ news, RepR c sz ys news ∧ Src P sz tx v ys.length news c.w := by
  obtain ⟨hrows, hcells⟩ := rowsOk_spec hok
  obtain ⟨A, cap, rfl, hd⟩ := elems_spec hH hv h
  rcases hd with ⟨rfl, hn⟩ | ⟨sz', b, o, news, h0, rfl, h1, h2⟩
  · refine ⟨[], hn sz, ?_⟩
    cases A with
    | none => exact Src.ofNil c.w hk cap
    | some ad => exact Src.ofSlice c.w hk ad 0 cap [] (by simp) (by simp) (by simp)
  · cases ys with
    | nil =>
      have : news = [] := List.eq_nil_of_length_eq_zero (by rw [h1.len]; simp)
      subst this
      exact ⟨[], ⟨by simp, by simp, by simp [cellAt]⟩, Src.ofSlice c.w hk _ 0 cap [] (by simp) (by simp) (by simp)⟩
    | cons y ys =>
      have e : sz' = sz := by rw [← h1.rows y (by simp), hrows y (by simp)]
      subst e
      exact ⟨news, h1, Src.ofSlice c.w hk _ _ cap news h1.len (fun j u hu => by rw [add_zero']; exact h2 j u hu) (RepR_one h0 h1 hcells)⟩

theorem s_append (hH : RepH c) (hρ : ∀ x, RepV c (ev t (lowX x)) (ρ x)) {o : Oper} {cl : Call} {s x : Operand} {e e' : TypeId} (ho : o.op = .call cl) (hc : cl.callee = .builtin .append) (ha : cl.args = #[s, x])
    (h0 : (cl.argTypes[0]?).bind P.underlying = some (.slice e)) (h1 : (cl.argTypes[1]?).bind P.underlying = some (.slice e')) (hs : 0 < szOf P e) (hz : (zeroOf P e).map (·.length) = some (szOf P e)) {v : AV} {H' : List AObj}
    (h : stepL (.append (szOf P e) (bytesOf' P e) (lowX s) (lowX x)) ⟨t, c.H⟩ = some (v, H')) : Does P ρ o c v H' := by
  obtain ⟨ta, ht0, ht1⟩ := Option.bind_eq_some_iff.1 h0
  obtain ⟨tx, hx0, hx1⟩ := Option.bind_eq_some_iff.1 h1
  obtain ⟨i, hi⟩ := Option.isSome_iff_exists.1 (info_of_sz hs)
  have hsz : i.size = szOf P e := by simp [szOf, hi]
  have hby : bytesOf' P e = i.bytes := by simp [bytesOf', hi]
  obtain ⟨z, hzz⟩ : ∃ z, i.zero = some z := by
    simp only [zeroOf, hi, Option.bind_some] at hz
    cases hq : i.zero with
    | none => simp [hq] at hz
    | some z => exact ⟨z, rfl⟩
  have hzs := zero_size hi hzz hz
  have main : ∀ ys news, RepR c (szOf P e) ys news → Src P (szOf P e) tx (ρ x) ys.length news c.w → appendL c.H (szOf P e) (bytesOf' P e) (ev t (lowX s)) ys = some (v, H') → Does P ρ o c v H' := fun ys news hR hsrc hL => by
    rw [hby] at hL
    have hrun := fun ty => appendL_sound (P := P) hH ht1 hi hzz (ty := ty) hs hsz hzs (hρ s) hR hsrc hL
    obtain ⟨ι', w', u, r1, r2, r3, r4⟩ := hrun o.type
    refine ⟨ι', w', .value u, u, ?_, .inl rfl, r2, r3, r4⟩
    have e1 : (Builtin.append_ cl.argTypes o.type #[ρ s, ρ x]) = Builtin.append_ #[ta, tx] o.type #[ρ s, ρ x] := by
      simp [Builtin.append_, ht0, hx0]
    simp only [execOp, ho, resolve, hc, ha]
    simp only [Sem.run_bind, Sem.run_pure, Result.andThen_ok, invoke, builtin]
    rw [show (#[s, x] : Array Operand).map ρ = #[ρ s, ρ x] from by simp, e1, r1]
    rfl
  simp only [stepL] at h
  split at h
  · rename_i hx
    have hxv := hρ x
    rw [hx] at hxv
    have := hxv.imm_inv
    refine main [] [] ⟨by simp, by simp, by simp [cellAt]⟩ ?_ h
    rw [this]
    exact Src.ofNil c.w hx1 0
  · simp only [Option.bind_eq_some_iff] at h
    obtain ⟨ys, hys, h⟩ := h
    split at h
    · rename_i hok
      obtain ⟨news, hR, hsrc⟩ := src_of (P := P) hH (hρ x) hys hok hx1
      exact main ys news hR hsrc h
    · simp at h

theorem byteRows_rep (s : ByteArray) : RepR c 1 (byteRows s) (byteCells s) := by
  refine ⟨fun r hr => ?_, by rw [byteCells_length]; simp [byteRows], fun i j a ha => ?_⟩
  · simp only [byteRows, List.mem_map] at hr
    obtain ⟨b, _, rfl⟩ := hr
    rfl
  · simp only [cellAt, byteRows, List.getElem?_map, Option.bind_eq_some_iff, Option.map_eq_some_iff] at ha
    obtain ⟨r, ⟨b, hb, rfl⟩, hj⟩ := ha
    cases j with
    | zero =>
      simp only [List.getElem?_cons_zero, Option.some.injEq] at hj
      subst hj
      have : (byteCells s).getD (i * 1 + 0) undef = .int .u8 b.toNat := by
        simp only [byteCells, Nat.mul_one, Nat.add_zero, List.getD_eq_getElem?_getD, List.getElem?_map, hb, Option.map_some, Option.getD_some]
      rw [this]
      exact .int _ _
    | succ j => simp at hj

theorem s_appendS (hH : RepH c) (hρ : ∀ x, RepV c (ev t (lowX x)) (ρ x)) {o : Oper} {cl : Call} {s x : Operand} {e : TypeId} (ho : o.op = .call cl) (hc : cl.callee = .builtin .append) (ha : cl.args = #[s, x])
    (h0 : (cl.argTypes[0]?).bind P.underlying = some (.slice e)) (h1 : (cl.argTypes[1]?).bind P.underlying = some .string) (hs : szOf P e = 1) (hb : bytesOf' P e = 1) (hz : (zeroOf P e).map (·.length) = some 1) {v : AV} {H' : List AObj}
    (h : stepL (.appendS (lowX s) (lowX x)) ⟨t, c.H⟩ = some (v, H')) : Does P ρ o c v H' := by
  obtain ⟨ta, ht0, ht1⟩ := Option.bind_eq_some_iff.1 h0
  obtain ⟨tx, hx0, hx1⟩ := Option.bind_eq_some_iff.1 h1
  obtain ⟨i, hi⟩ := Option.isSome_iff_exists.1 (info_of_sz (P := P) (t := e) (by omega))
  have hsz : i.size = 1 := by have : i.size = szOf P e := by simp [szOf, hi]
                              omega
  have hby : i.bytes = 1 := by have : bytesOf' P e = i.bytes := by simp [bytesOf', hi]
                               omega
  obtain ⟨z, hzz⟩ : ∃ z, i.zero = some z := by
    simp only [zeroOf, hi, Option.bind_some] at hz
    cases hq : i.zero with
    | none => simp [hq] at hz
    | some z => exact ⟨z, rfl⟩
  have hzs := zero_size hi hzz hz
  simp only [stepL] at h
  split at h
  · rename_i b hx
    have hxv := hρ x
    rw [hx] at hxv
    have hxs := hxv.str_inv
    have hsrc := Src.ofString (P := P) c.w hx1 b
    rw [show b.size = (byteRows b).length from by simp [byteRows]] at hsrc
    obtain ⟨ι', w', u, r1, r2, r3, r4⟩ := appendL_sound (P := P) hH ht1 hi hzz (ty := o.type) (sz := 1) (by omega) hsz hzs (hρ s) (byteRows_rep b) hsrc (by rw [hby]; exact h)
    refine ⟨ι', w', .value u, u, ?_, .inl rfl, r2, r3, r4⟩
    have e1 : (Builtin.append_ cl.argTypes o.type #[ρ s, ρ x]) = Builtin.append_ #[ta, tx] o.type #[ρ s, ρ x] := by
      simp [Builtin.append_, ht0, hx0]
    simp only [execOp, ho, resolve, hc, ha]
    simp only [Sem.run_bind, Sem.run_pure, Result.andThen_ok, invoke, builtin]
    rw [show (#[s, x] : Array Operand).map ρ = #[ρ s, ρ x] from by simp, e1, hxs, r1]
    rfl
  · simp at h

end
end Go.Proofs.YtoiceinjademgaaDoor
