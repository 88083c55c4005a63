/-
  The abstract layer, part 12: append.
-/
import Derived.Test.YtoiceinjademgaaDoorB2
import Derived.Deep.AppendSrc
import Derived.Laws.MakeOwn
namespace Go.Proofs.YtoiceinjademgaaDoor
open Go.RowKit

section
variable {P : Program} {c : Cx} {ρ : Operand → Value} {t : Tm}

/-- Cells that are rows, one behind the other. -/
structure RepR (c : Cx) (sz : Nat) (ys : List (List AV)) (news : List Value) : Prop where
  rows : ∀ r ∈ ys, r.length = sz
  len : news.length = ys.length * sz
  val : ∀ (i j : Nat) (a : AV), cellAt ys i j = some a → RepV c a (news.getD (i * sz + j) undef)

theorem RepR.mono {c c' : Cx} (hf : Fr c c') {sz : Nat} {ys : List (List AV)} {news : List Value} (h : RepR c sz ys news) : RepR c' sz ys news := ⟨h.rows, h.len, fun i j a ha => (h.val i j a ha).mono hf⟩

theorem cellAt_lt {sz : Nat} {ys : List (List AV)} (hr : ∀ r ∈ ys, r.length = sz) {i j : Nat} {a : AV} (h : cellAt ys i j = some a) : i < ys.length ∧ j < sz ∧ i * sz + j < ys.length * sz := by
  simp only [cellAt, Option.bind_eq_some_iff] at h
  obtain ⟨r, h1, h2⟩ := h
  have hi := (List.getElem?_eq_some_iff.1 h1).1
  have hj : j < sz := by rw [← hr r (List.mem_of_getElem? h1)]; exact (List.getElem?_eq_some_iff.1 h2).1
  have : (i + 1) * sz ≤ ys.length * sz := Nat.mul_le_mul_right sz hi
  rw [Nat.add_mul, Nat.one_mul] at this
  exact ⟨hi, hj, by omega⟩

theorem cellAt_append {xs ys : List (List AV)} {i j : Nat} {a : AV} (h : cellAt (xs ++ ys) i j = some a) : (i < xs.length ∧ cellAt xs i j = some a) ∨ (xs.length ≤ i ∧ cellAt ys (i - xs.length) j = some a) := by
  simp only [cellAt] at h ⊢
  by_cases hi : i < xs.length
  · rw [List.getElem?_append_left hi] at h
    exact .inl ⟨hi, h⟩
  · rw [List.getElem?_append_right (by omega)] at h
    exact .inr ⟨by omega, h⟩

theorem getD_toArray (l : List Value) (i : Nat) : l.toArray.getD i undef = l.getD i undef := by simp

/-- Old cells, new cells, and others behind them. -/
theorem RepV_cat {sz : Nat} {xs ys : List (List AV)} {olds news : List Value} {more : Array Value} (ho : RepR c sz xs olds) (hn : RepR c sz ys news) {i j : Nat} {a : AV} (h : cellAt (xs ++ ys) i j = some a) :
    RepV c a (((olds ++ news).toArray ++ more).getD (i * sz + j) undef) := by
  have e : ∀ k, k < (olds ++ news).length → ((olds ++ news).toArray ++ more).getD k undef = (olds ++ news).getD k undef := fun k hk => by
    simp only [Array.getD_eq_getD_getElem?]
    rw [Array.getElem?_append_left (by simpa using hk)]
    simp
  rcases cellAt_append h with ⟨h1, h2⟩ | ⟨h1, h2⟩
  · obtain ⟨_, _, h3⟩ := cellAt_lt ho.rows h2
    rw [e _ (by rw [List.length_append, ho.len]; omega), List.getD_eq_getElem?_getD, List.getElem?_append_left (by rw [ho.len]; exact h3), ← List.getD_eq_getElem?_getD]
    exact ho.val i j a h2
  · obtain ⟨_, _, h3⟩ := cellAt_lt hn.rows h2
    obtain ⟨q, rfl⟩ : ∃ q, i = xs.length + q := ⟨i - xs.length, by omega⟩
    rw [show xs.length + q - xs.length = q by omega] at h2 h3
    have hm : (xs.length + q) * sz + j = xs.length * sz + (q * sz + j) := by rw [Nat.add_mul]; omega
    rw [hm, e _ (by rw [List.length_append, ho.len, hn.len]; omega), List.getD_eq_getElem?_getD, List.getElem?_append_right (by rw [ho.len]; omega), ho.len, show xs.length * sz + (q * sz + j) - xs.length * sz = q * sz + j by omega, ← List.getD_eq_getElem?_getD]
    exact hn.val q j a h2

theorem zero_size {e : TypeId} {i : TypeInfo} {z : Value} (hi : P.info? e = some i) (hz : i.zero = some z) {sz : Nat} (h : (zeroOf P e).map (·.length) = some sz) : z.cells.size = sz := by
  simp only [zeroOf, hi, Option.bind_some, hz, Option.map_some, Option.some.injEq] at h
  simpa using h

/-- The cells of an object's elements, in its block. -/
theorem RepR_obj {sz : Nat} {xs : List (List AV)} {cs : Array Value} (hrows : ∀ r ∈ xs, r.length = sz) (hsz : xs.length * sz ≤ cs.size) (hr : ∀ (i j : Nat) (a : AV), cellAt xs i j = some a → RepV c a (cs.getD (i * sz + j) undef)) : RepR c sz xs (cs.toList.take (xs.length * sz)) := by
  refine ⟨hrows, by simp; omega, fun i j a ha => ?_⟩
  obtain ⟨_, _, h3⟩ := cellAt_lt hrows ha
  have := hr i j a ha
  have e : (cs.toList.take (xs.length * sz)).getD (i * sz + j) undef = cs.getD (i * sz + j) undef := by
    simp only [List.getD_eq_getElem?_getD, List.getElem?_take, if_pos h3, Array.getD_eq_getD_getElem?, Array.getElem?_toList]
  rw [e]
  exact this

theorem new_vec_drew (hH : RepH c) {sz : Nat} {xs : List (List AV)} (cells : Array Value) (ty : TypeId) (h0 : 0 < sz) (hrows : ∀ r ∈ xs, r.length = sz) (hlen : xs.length ≤ maxLen) (hsz : xs.length * sz ≤ cells.size)
    (hr : ∀ (i j : Nat) (a : AV), cellAt xs i j = some a → RepV c a (cells.getD (i * sz + j) undef)) :
    Fr c (c.drew.push (.vec sz xs) (some c.w.heap.size) (c.w.drew.alloc (.cells cells ty (0, 0)))) ∧ RepH (c.drew.push (.vec sz xs) (some c.w.heap.size) (c.w.drew.alloc (.cells cells ty (0, 0)))) := by
  obtain ⟨h1, h2⟩ := new_vec hH.drew cells ty (0, 0) h0 hrows hlen hsz (by simp) (fun i j a ha => (hr i j a ha).mono (Fr.drew c))
  exact ⟨(Fr.drew c).trans h1, h2⟩

theorem cellsIn_alloc (w : World) (cells : Array Value) (ty : TypeId) (fr : Nat × Nat) : cellsIn (w.alloc (.cells cells ty fr)) w.heap.size = cells.size := by
  show (match (w.heap.push (.cells cells ty fr))[w.heap.size]? with | some (.cells c _ _) => c.size | _ => 0) = cells.size
  simp

theorem appendL_sound (hH : RepH c) {e : TypeId} {i : TypeInfo} {z : Value} {ta tx ty : TypeId} (ht : P.underlying ta = some (.slice e)) (hi : P.info? e = some i) (hz : i.zero = some z) {sz : Nat} (hs0 : 0 < sz) (hsz : i.size = sz) (hzs : z.cells.size = sz)
    {as : AV} {sv : Value} (has : RepV c as sv) {ys : List (List AV)} {news : List Value} (hy : RepR c sz ys news) {x : Value} (hsrc : Src P sz tx x ys.length news c.w) {v : AV} {H' : List AObj} (h : appendL c.H sz i.bytes as ys = some (v, H')) :
    ∃ ι' w' u, (Builtin.append_ #[ta, tx] ty #[sv, x]).run P c.w = .ok u w' ∧ RepH ⟨ι', H', w'⟩ ∧ Fr c ⟨ι', H', w'⟩ ∧ RepV ⟨ι', H', w'⟩ v u := by
  subst hsz
  unfold appendL at h
  split at h
  · -- nil
    obtain rfl := has.imm_inv
    split at h
    · rename_i hc
      simp only [Option.some.injEq, Prod.mk.injEq] at h
      obtain ⟨rfl, rfl⟩ := h
      cases ys with
      | nil =>
        have hn : news = [] := List.eq_nil_of_length_eq_zero (by rw [hy.len]; simp)
        subst hn
        have hf : Fr c (c.push (.vec i.size []) none c.w) := Fr.push rfl rfl rfl (Nat.le_refl _) (fun _ _ => rfl) (fun b e => by cases e) hH.lt
        refine ⟨_, c.w, .slice none 0 0, ?_, hH.push rfl rfl rfl (Nat.le_refl _) (fun _ _ => rfl) (fun b e => by cases e) ⟨hs0, by simp, by simp, ?_⟩, hf, ?_⟩
        · have hcells := hsrc.cells
          have hlen := hsrc.len c.w
          simp only [List.length_nil] at hcells hlen
          rcases hsrc.kind with ⟨e', hk⟩ | hk <;> simp [Builtin.append_, run_underlying ht, run_underlying hk, sizeOf, typeInfo, hi, hlen, hcells]
        · rw [push_ι]
        · refine .sl _ _ _ _ _ _ _ (push_len _ _ _) (Nat.le_refl _) (fun h => by simp at h) (fun sz' ys hx => ?_) (fun ys hx hn => ⟨by simp, .inr ⟨rfl, rfl⟩⟩)
          have := push_get (c := c) (.vec i.size []) none c.w
          rw [show (c.push (.vec i.size []) none c.w).H = c.H ++ [.vec i.size []] from rfl] at this
          replace hx : (c.H ++ [.vec i.size []])[c.H.length]? = some (.vec sz' ys) := hx
          rw [this] at hx
          simp only [Option.some.injEq, AObj.vec.injEq] at hx
          exact ⟨hx.1.symm, by simp⟩
      | cons y ys =>
        have hlt : 0 < (y :: ys).length := by simp
        generalize (y :: ys) = zs at *
        have hrun := run_append_grow_src (P := P) c.w ta tx ty e i z ht hi hz none 0 0 [] (by simp [Builtin.firstCells]) x zs.length news hsrc (by omega) (by have := hc.2; simp [maxLen] at this; omega)
          (by rw [Nat.zero_add]; exact growslice_fits (by omega) hc.1)
        rw [Nat.zero_add] at hrun
        have hcap := grownCap_ge c.w zs.length 0 e
        obtain ⟨h1, h2⟩ := new_vec_drew (ty := e) hH (sz := i.size) (xs := zs) (([] ++ news).toArray ++ Builtin.zeroCells z.cells (grownCap c.w zs.length 0 e - zs.length)) hs0 hy.rows hc.2
          (by simp [hy.len]) (fun i j a ha => RepV_cat (c := c) (xs := []) ⟨by simp, by simp, by simp [cellAt]⟩ hy (by simpa using ha))
        refine ⟨_, _, _, hrun, h2, h1, new_sl (c := c.drew) _ _ _ _ _ hcap ?_⟩
        rw [show c.w.heap.size = c.w.drew.heap.size from rfl, cellsIn_alloc]
        simp only [List.nil_append, Array.size_append, List.size_toArray, hy.len, size_zeroCells, hzs]
        rw [← Nat.add_mul, Nat.mul_div_cancel _ hs0]
        omega
    · simp at h
  · rename_i sz' k n off len
    split at h
    · rename_i zz xs hk
      split at h
      · rename_i hc
        obtain ⟨hn, h1, h2, h3, h4, h5, h6⟩ := hc
        subst h1; subst h2; subst h3; subst h4
        simp only [Option.some.injEq, Prod.mk.injEq] at h
        obtain ⟨rfl, rfl⟩ := h
        have hkl : k < c.H.length := (List.getElem?_eq_some_iff.1 hk).1
        obtain ⟨_, hrows, hlen, hobj⟩ := hH.obj k _ hk
        have hget : ∀ (ι' : Nat → Option Nat) (w' : World) sz' zs, (c.H.set k (.vec i.size (xs ++ ys)))[k]? = some (.vec sz' zs) → sz' = i.size ∧ zs = xs ++ ys := fun ι' w' sz' zs hx => by
          rw [List.getElem?_set_self hkl] at hx
          simp only [Option.some.injEq, AObj.vec.injEq] at hx
          exact ⟨hx.1.symm, hx.2.symm⟩
        cases has with
        | sl _ _ _ _ _ A cap hk' hcl hA hn' hval =>
          obtain ⟨_, hdis⟩ := hval xs hk hn
          by_cases hroom : len + ys.length ≤ cap
          · -- there is room
            rcases hdis with ⟨b, hb, hAb, hcapb⟩ | ⟨hz1, hz2⟩
            · subst hAb
              rw [hb] at hobj
              obtain ⟨cs, el, fr, g1, g2, g3, g4⟩ := hobj
              have hcs : cellsIn c.w b = cs.size := by simp [cellsIn, g1]
              rw [hcs] at hcapb
              have hfit : (len + ys.length) * i.size ≤ cs.size := by
                have : (len + ys.length) * i.size ≤ (cs.size / i.size) * i.size := Nat.mul_le_mul_right _ (by rw [Nat.sub_zero] at hcapb; rw [← hcapb]; exact hroom)
                have := Nat.div_mul_le_self cs.size i.size
                omega
              rw [Nat.add_mul] at hfit
              have hcell : ∀ j, j < news.length → c.w.cell? ⟨b, 0 * i.size + len * i.size + j, none⟩ = some (cs.getD (len * i.size + j) undef) := fun j hj => by
                rw [hy.len] at hj
                have : len * i.size + j < cs.size := by omega
                simp [World.cell?, g1, this]
              have hrun := run_append_room_src (P := P) c.w ta tx ty e i ht hi b (0 * i.size) len cap x ys.length news hsrc hroom (fun j hj => by rw [hcell j hj]; rfl) (fun j hj => by
                rw [hy.len] at hj
                have hlt : len * i.size + j < cs.size := by omega
                have := g3 _ hlt
                simp only [World.frozen?, g1]
                simpa using this)
              let w' := c.w.setCells b (0 * i.size + len * i.size) news
              have hw' : w'.heap[b]? = some (.cells (putAll cs (0 * i.size + len * i.size) news) el fr) := heap_setCells _ _ _ _ _ _ _ g1
              have u : Upd c k (.vec i.size xs) (.vec i.size (xs ++ ys)) (c.ι k) w' := ⟨hk, rfl, os_setCells _ _ _ _, tape_setCells _ _ _ _, output_setCells _ _ _ _, by rw [size_setCells]; exact Nat.le_refl _,
                fun b' _ hne => heap_setCells_ne _ _ _ _ _ (fun e => hne (by rw [hb, e])), .inl rfl, fun sz zs he => by
                  simp only [AObj.vec.injEq] at he
                  obtain ⟨rfl, rfl⟩ := he
                  refine ⟨xs, rfl, by simp, fun _ => ⟨rfl, fun b' hb' => ?_⟩⟩
                  rw [hb] at hb'
                  simp only [Option.some.injEq] at hb'
                  subst hb'
                  simp [cellsIn, hw', g1, putAll_size], fun es he => by simp at he, fun s p he => by simp at he⟩
              have hf := u.fr hH
              have hι : (c.upd k (.vec i.size (xs ++ ys)) (c.ι k) w').ι k = some b := by simp [Cx.upd, hb]
              refine ⟨_, w', _, hrun, u.rep hH ⟨hs0, fun r hr => ?_, by simp; omega, ?_⟩, hf, ?_⟩
              · rcases List.mem_append.1 hr with h | h
                · exact hrows r h
                · exact hy.rows r h
              · rw [hι]
                refine ⟨_, el, fr, hw', by rw [putAll_size]; simp only [List.length_append]; rw [← hn, Nat.add_mul]; omega, fun j hj => g3 j (by rwa [putAll_size] at hj), fun q j a ha => ?_⟩
                rcases cellAt_append ha with ⟨q1, q2⟩ | ⟨q1, q2⟩
                · obtain ⟨_, _, q3⟩ := cellAt_lt hrows q2
                  rw [putAll_out _ _ _ _ (.inl (by rw [hn]; omega))]
                  exact (g4 q j a q2).mono hf
                · obtain ⟨_, _, q3⟩ := cellAt_lt hy.rows q2
                  obtain ⟨p, rfl⟩ : ∃ p, q = xs.length + p := ⟨q - xs.length, by omega⟩
                  rw [show xs.length + p - xs.length = p by omega] at q2 q3
                  have hm : (xs.length + p) * i.size + j = (0 * i.size + len * i.size) + (p * i.size + j) := by rw [hn, Nat.add_mul]; omega
                  rw [hm, putAll_in _ _ _ _ (by rw [hy.len]; exact q3) (by rw [hy.len]; omega)]
                  exact (hy.val p j a q2).mono hf
              · refine .sl _ _ _ _ _ _ _ (by simpa using hkl) hroom (fun _ => ⟨_, _, rfl⟩) (fun sz' zs hx => ?_) (fun zs hx he => ⟨by omega, .inl ⟨b, hι, rfl, ?_⟩⟩)
                · obtain ⟨rfl, rfl⟩ := hget (c.ι) w' sz' zs hx
                  exact ⟨rfl, by simp; omega⟩
                · have : cellsIn w' b = cs.size := by simp [cellsIn, hw', putAll_size]
                  show cap = cellsIn w' b / i.size - 0
                  rw [this]
                  exact hcapb
            · -- nothing there, and nothing new
              subst hz1; subst hz2
              have hy0 : ys = [] := List.eq_nil_of_length_eq_zero (by omega)
              subst hy0
              have hx0 : xs = [] := List.eq_nil_of_length_eq_zero hn.symm
              subst hx0
              have hn0 : news = [] := List.eq_nil_of_length_eq_zero (by rw [hy.len]; simp)
              subst hn0
              have hset : c.H.set k (.vec i.size ([] ++ [])) = c.H := by
                have : c.H[k] = .vec i.size [] := by
                  have := List.getElem?_eq_some_iff.1 hk
                  exact this.2
                rw [List.append_nil, ← this, List.set_getElem_self]
              rw [hset]
              refine ⟨c.ι, c.w, .slice A 0 0, ?_, hH, Fr.refl c, ?_⟩
              · have hcells := hsrc.cells
                have hlen := hsrc.len c.w
                simp only [List.length_nil] at hcells hlen
                rcases hsrc.kind with ⟨e', hk2⟩ | hk2 <;> cases A <;> simp [Builtin.append_, run_underlying ht, run_underlying hk2, sizeOf, typeInfo, hi, hlen, hcells, storeCells]
              · exact .sl _ _ _ _ _ _ _ hk' hcl hA hn' hval
          · -- there is none
            have hm : 0 < ys.length := by omega
            have holds : ∃ olds, RepR c i.size xs olds ∧ (Builtin.firstCells i.size len (.slice A len cap)).run P c.w.drew = .ok olds.toArray c.w.drew := by
              rcases hdis with ⟨b, hb, hAb, hcapb⟩ | ⟨hz1, hz2⟩
              · subst hAb
                rw [hb] at hobj
                obtain ⟨cs, el, fr, g1, g2, g3, g4⟩ := hobj
                have hR := RepR_obj hrows g2 g4
                refine ⟨_, hR, run_firstCells_some _ i.size len _ len cap _ (by rw [hR.len, hn]) (fun j v hv => ?_)⟩
                rw [List.getElem?_take] at hv
                split at hv
                · rw [Array.getElem?_toList] at hv
                  have hcv : c.w.cell? ⟨b, j, none⟩ = some v := by simp [World.cell?, g1, hv]
                  simpa [add_zero'] using hcv
                · simp at hv
              · subst hz1
                have hx0 : xs = [] := List.eq_nil_of_length_eq_zero hn.symm
                subst hx0
                refine ⟨[], ⟨by simp, by simp, by simp [cellAt]⟩, ?_⟩
                cases A with
                | none => simp [Builtin.firstCells]
                | some a => simp [Builtin.firstCells, loadCells, loadCellsFrom]
            obtain ⟨olds, hR, hold⟩ := holds
            have hrun := run_append_grow_src (P := P) c.w ta tx ty e i z ht hi hz A len cap olds hold x ys.length news hsrc (by omega) (by simp [maxLen] at h6; omega) (growslice_fits (by omega) h5)
            have hcap := grownCap_ge c.w (len + ys.length) cap e
            let cells := (olds ++ news).toArray ++ Builtin.zeroCells z.cells (grownCap c.w (len + ys.length) cap e - (len + ys.length))
            have hcs : cells.size = grownCap c.w (len + ys.length) cap e * i.size := by
              simp only [cells, Array.size_append, List.size_toArray, List.length_append, hR.len, hy.len, size_zeroCells, hzs]
              rw [← hn, ← Nat.add_mul, ← Nat.add_mul]
              congr 1
              omega
            let w' := c.w.drew.alloc (.cells cells e (0, 0))
            have hw' : w'.heap[c.w.heap.size]? = some (.cells cells e (0, 0)) := by
              show (c.w.heap.push (.cells cells e (0, 0)))[c.w.heap.size]? = _
              simp
            have u : Upd c k (.vec i.size xs) (.vec i.size (xs ++ ys)) (some c.w.heap.size) w' := ⟨hk, rfl, rfl, rfl, rfl, by simp [w'],
              fun b' hb' _ => Below.heap_alloc c.w.drew _ b' hb', .inr ⟨_, rfl, Nat.le_refl _, by simp [w']⟩, fun sz zs he => by
                simp only [AObj.vec.injEq] at he
                obtain ⟨rfl, rfl⟩ := he
                exact ⟨xs, rfl, by simp, fun hl => by rw [List.length_append] at hl; omega⟩, fun es he => by simp at he, fun s p he => by simp at he⟩
            have hf := u.fr hH
            have hι : (c.upd k (.vec i.size (xs ++ ys)) (some c.w.heap.size) w').ι k = some c.w.heap.size := by simp [Cx.upd]
            refine ⟨_, w', _, hrun, u.rep hH ⟨hs0, fun r hr => ?_, by simp; omega, ?_⟩, hf, ?_⟩
            · rcases List.mem_append.1 hr with h | h
              · exact hrows r h
              · exact hy.rows r h
            · rw [hι]
              refine ⟨cells, e, (0, 0), hw', ?_, by simp, fun q j a ha => RepV_cat (hR.mono hf) (hy.mono hf) ha⟩
              rw [hcs]
              exact Nat.mul_le_mul_right _ (by simp; omega)
            · refine .sl _ _ _ _ _ _ _ (by simpa using hkl) hcap (fun _ => ⟨_, _, rfl⟩) (fun sz' zs hx => ?_) (fun zs hx he => ⟨by omega, .inl ⟨_, hι, by simp, ?_⟩⟩)
              · obtain ⟨rfl, rfl⟩ := hget (c.ι) w' sz' zs hx
                exact ⟨rfl, by simp; omega⟩
              · have : cellsIn w' c.w.heap.size = cells.size := by simp [cellsIn, hw']
                show _ = cellsIn w' c.w.heap.size / i.size - 0
                rw [this, hcs, Nat.mul_div_cancel _ hs0]
                omega
      · simp at h
    · simp at h
  · simp at h

end
end Go.Proofs.YtoiceinjademgaaDoor
