/-
  The abstract layer, part 17: copy; all operations (no calls) together.
-/
import Derived.Test.YtoiceinjademgaaDoorB7
namespace Go.Proofs.YtoiceinjademgaaDoor
open Go.RowKit

section
variable {P : Program} {c : Cx} {ρ : Operand → Value} {t : Tm}

theorem s_copy (hH : RepH c) (hρ : ∀ x, RepV c (ev t (lowX x)) (ρ x)) {o : Oper} {cl : Call} {d s : Operand} {e e' : TypeId} (ho : o.op = .call cl) (hc : cl.callee = .builtin .copy) (ha : cl.args = #[d, s])
    (h0 : (cl.argTypes[0]?).bind P.underlying = some (.slice e)) (h1 : (cl.argTypes[1]?).bind P.underlying = some (.slice e')) (hs : szOf P e = 1) {v : AV} {H' : List AObj}
    (h : stepL (.copy (szOf P e) (lowX d) (lowX s)) ⟨t, c.H⟩ = some (v, H')) : Does P ρ o c v H' := by
  obtain ⟨ta, ht0, ht1⟩ := Option.bind_eq_some_iff.1 h0
  obtain ⟨tx, hx0, hx1⟩ := Option.bind_eq_some_iff.1 h1
  have hi := info_of_sz (P := P) (t := e) (by omega)
  rw [hs] at h
  simp only [stepL] at h
  split at h
  · rename_i ad as sz' k n off len ys hd hys
    split at h
    · rename_i z xs hk
      split at h
      · rename_i hcond
        obtain ⟨hn, rfl, rfl, hle, hok⟩ := hcond
        simp only [Option.some.injEq, Prod.mk.injEq] at h
        obtain ⟨rfl, rfl⟩ := h
        obtain ⟨news, hR, hsrc⟩ := src_of (P := P) hH (hρ s) hys hok hx1
        have hdv := hρ d
        rw [hd] at hdv
        obtain ⟨_, hrows, hlen, hobj⟩ := hH.obj k _ hk
        have hkl : k < c.H.length := (List.getElem?_eq_some_iff.1 hk).1
        let m := min ys.length len
        have hm1 : m ≤ ys.length := Nat.min_le_left _ _
        have hm2 : m ≤ len := Nat.min_le_right _ _
        have hcells : (Builtin.firstCells 1 m (ρ s)).run P c.w = .ok (news.take m).toArray c.w := by
          obtain ⟨A, cap, hv, hd'⟩ := elems_spec hH (hρ s) hys
          rcases hd' with ⟨hy0, _⟩ | ⟨sz2, b, o', news2, h02, rfl, h12, h22⟩
          · have : m = 0 := by simp only [m, hy0]; simp
            rw [this, hv]
            cases A <;> simp [Builtin.firstCells, loadCells, loadCellsFrom]
          · by_cases hm0 : m = 0
            · rw [hm0, hv]
              simp [Builtin.firstCells, loadCells, loadCellsFrom]
            · have hsz2 : sz2 = 1 := by
                cases ys with
                | nil => simp [m] at hm0
                | cons y ys => rw [← h12.rows y (by simp), hR.rows y (by simp)]
              subst hsz2
              have hfull := hsrc.cells
              rw [hv] at hfull ⊢
              have hl := run_firstCells_some (P := P) c.w 1 m ⟨b, o', none⟩ ys.length cap (news2.take m) (by rw [List.length_take, h12.len]; omega) (fun j u hj => by
                rw [add_zero']
                rw [List.getElem?_take] at hj
                split at hj
                · exact h22 j u hj
                · simp at hj)
              have hfull2 := run_firstCells_some (P := P) c.w 1 ys.length ⟨b, o', none⟩ ys.length cap news2 h12.len (fun j u hj => by rw [add_zero']; exact h22 j u hj)
              rw [hfull] at hfull2
              simp only [Result.ok.injEq, and_true] at hfull2
              have : news = news2 := by simpa using hfull2
              rw [this]
              exact hl
        have hone : ∀ u ∈ news.take m, u.oneCell' = true := fun u hu => hsrc.one u (List.mem_of_mem_take hu)
        have htl : (news.take m).length = m := by rw [List.length_take, hR.len]; omega
        have hlenOf := hsrc.len c.w
        have run : ∀ (A : Option Addr) (cap : Nat) (w' : World), ρ d = .slice A len cap → (match A with | some a => (storeCells a (news.take m)).run P c.w = .ok () w' | none => w' = c.w) → (execOp ρ o).run P c.w = .ok (.value (.int .i64 m)) w' := fun A cap w' hv hst => by
          have e1 : (Builtin.copy_ cl.argTypes o.type #[ρ d, ρ s]).run P c.w = .ok (goInt m) w' := by
            have hmin : Nat.min ys.length len = m := rfl
            cases A with
            | none => simp [Builtin.copy_, ht0, run_underlying ht1, hv, hlenOf, run_sizeOf' hi, hs, hmin, hcells, hst]
            | some a => simp [Builtin.copy_, ht0, run_underlying ht1, hv, hlenOf, run_sizeOf' hi, hs, hmin, hcells, hst]
          simp only [execOp, ho, resolve, hc, ha]
          simp only [Sem.run_bind, Sem.run_pure, Result.andThen_ok, invoke, builtin]
          rw [show (#[d, s] : Array Operand).map ρ = #[ρ d, ρ s] from by simp, e1]
          rfl
        cases hva : ρ d with
        | slice A l cap =>
          rw [hva] at hdv
          cases hdv with
          | sl _ _ _ _ _ _ _ hk' hcl hA hn' hval =>
            obtain ⟨_, hdis⟩ := hval xs hk hn
            rcases hdis with ⟨b, hb, rfl, hcapb⟩ | ⟨hz1, hz2⟩
            · rw [hb] at hobj
              obtain ⟨cs, el, fr, g1, g2, g3, g4⟩ := hobj
              simp only [Nat.mul_one] at *
              have hcell : ∀ j, j < (news.take m).length → c.w.cell? ⟨b, off + 0 + j, none⟩ = some (cs.getD (off + j) undef) := fun j hj => by
                rw [htl] at hj
                have : off + j < cs.size := by omega
                simp [World.cell?, g1, this]
              have hst := run_storeCells_cells (P := P) b off (news.take m) 0 c.w (fun j hj => by rw [hcell j hj]; rfl) (fun j hj => by
                rw [htl] at hj
                have hlt : off + j < cs.size := by omega
                have := g3 _ hlt
                simp only [World.frozen?, g1]
                simpa using this) hone
              let w' := c.w.setCells b (off + 0) (news.take m)
              have hw' : w'.heap[b]? = some (.cells (putAll cs (off + 0) (news.take m)) el fr) := heap_setCells _ _ _ _ _ _ _ g1
              have hxl : (xs.take off ++ ys.take m ++ xs.drop (off + m)).length = xs.length := by simp; omega
              have u : Upd c k (.vec 1 xs) (.vec 1 (xs.take off ++ ys.take m ++ xs.drop (off + m))) (c.ι k) w' := ⟨hk, rfl, os_setCells _ _ _ _, tape_setCells _ _ _ _, output_setCells _ _ _ _, by rw [size_setCells]; exact Nat.le_refl _,
                fun b' _ hne => heap_setCells_ne _ _ _ _ _ (fun e => hne (by rw [hb, e])), .inl rfl, fun sz zs he => by
                  simp only [AObj.vec.injEq] at he
                  obtain ⟨rfl, rfl⟩ := he
                  refine ⟨xs, rfl, by rw [hxl]; exact Nat.le_refl _, fun _ => ⟨rfl, fun b' hb' => ?_⟩⟩
                  rw [hb] at hb'
                  simp only [Option.some.injEq] at hb'
                  subst hb'
                  simp [cellsIn, hw', g1, putAll_size], fun es he => by simp at he, fun s p he => by simp at he⟩
              have hf := u.fr hH
              have hι : (c.upd k (.vec 1 (xs.take off ++ ys.take m ++ xs.drop (off + m))) (c.ι k) w').ι k = some b := by simp [Cx.upd, hb]
              refine ⟨_, w', _, _, run _ _ w' hva hst, .inl rfl, u.rep hH ⟨by omega, fun r hr => ?_, by rw [hxl]; exact hlen, ?_⟩, hf, .int _ _⟩
              · rcases List.mem_append.1 hr with h | h
                · rcases List.mem_append.1 h with h | h
                  · exact hrows r (List.mem_of_mem_take h)
                  · exact hR.rows r (List.mem_of_mem_take h)
                · exact hrows r (List.mem_of_mem_drop h)
              · rw [hι]
                refine ⟨_, el, fr, hw', by rw [putAll_size, hxl]; simpa using g2, fun j hj => g3 j (by rwa [putAll_size] at hj), fun q j a ha => ?_⟩
                have hql : q < (xs.take off ++ ys.take m ++ xs.drop (off + m)).length := by
                  simp only [cellAt, Option.bind_eq_some_iff] at ha
                  obtain ⟨r, hr, _⟩ := ha
                  exact (List.getElem?_eq_some_iff.1 hr).1
                rw [hxl] at hql
                by_cases h1 : q < off
                · have ha' : cellAt xs q j = some a := by
                    simp only [cellAt, List.append_assoc] at ha ⊢
                    rw [List.getElem?_append_left (by simp; omega), List.getElem?_take, if_pos h1] at ha
                    exact ha
                  obtain ⟨_, hj, _⟩ := cellAt_lt hrows ha'
                  rw [putAll_out _ _ _ _ (.inl (by omega))]
                  rw [Nat.mul_one]
                  exact (g4 q j a ha').mono hf
                · by_cases h2 : q < off + m
                  · obtain ⟨p, rfl⟩ : ∃ p, q = off + p := ⟨q - off, by omega⟩
                    have ha' : cellAt ys p j = some a := by
                      simp only [cellAt, List.append_assoc] at ha ⊢
                      rw [List.getElem?_append_right (by simp; omega), List.getElem?_append_left (by simp; omega)] at ha
                      have : off + p - (xs.take off).length = p := by simp; omega
                      rw [this, List.getElem?_take, if_pos (by omega)] at ha
                      exact ha
                    obtain ⟨hp, hj, hpl⟩ := cellAt_lt hR.rows ha'
                    have hval := hR.val p j a ha'
                    rw [show (off + p) * 1 + j = off + 0 + (p * 1 + j) by omega, putAll_in _ _ _ _ (by omega) (by omega)]
                    have : (news.take m).getD (p * 1 + j) undef = news.getD (p * 1 + j) undef := by
                      simp only [List.getD_eq_getElem?_getD, List.getElem?_take]
                      rw [if_pos (by omega)]
                    rw [this]
                    exact hval.mono hf
                  · have ha' : cellAt xs q j = some a := by
                      simp only [cellAt] at ha ⊢
                      rw [List.getElem?_append_right (by simp; omega), List.getElem?_drop] at ha
                      have : off + m + (q - (xs.take off ++ ys.take m).length) = q := by simp; omega
                      rw [this] at ha
                      exact ha
                    obtain ⟨_, hj, _⟩ := cellAt_lt hrows ha'
                    rw [putAll_out _ _ _ _ (.inr (by omega)), Nat.mul_one]
                    exact (g4 q j a ha').mono hf
            · have hm0 : m = 0 := by omega
              have hset : c.H.set k (.vec 1 (xs.take off ++ ys.take (min ys.length len) ++ xs.drop (off + min ys.length len))) = c.H := by
                have e1 : min ys.length len = 0 := hm0
                have : c.H[k] = .vec 1 xs := (List.getElem?_eq_some_iff.1 hk).2
                rw [e1, List.take_zero, List.append_nil, Nat.add_zero, List.take_append_drop, ← this, List.set_getElem_self]
              rw [hset]
              refine ⟨c.ι, c.w, _, _, run _ _ c.w hva ?_, .inl rfl, hH, Fr.refl c, .int _ _⟩
              rw [hm0, List.take_zero]
              cases A <;> simp [storeCells]
        | _ => rw [hva] at hdv; obtain ⟨_, _, h'⟩ := hdv.sl_inv; cases h'
      · simp at h
    · simp at h
  · simp at h

end
end Go.Proofs.YtoiceinjademgaaDoor
