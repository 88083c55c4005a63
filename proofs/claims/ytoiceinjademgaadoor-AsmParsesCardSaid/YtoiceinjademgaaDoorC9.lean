/-
  The abstract layer, part 27: what the operations come to, one law each; the laws in bundles.
-/
import Derived.Test.YtoiceinjademgaaDoorC8
namespace Go.Proofs.YtoiceinjademgaaDoor
open Go.RowKit
set_option linter.unusedVariables false
set_option linter.unusedSimpArgs false
set_option linter.unusedSectionVars false

section
variable {σ : AS} {x y z : Opd} {n m i : Nat} {a : Bool}

theorem om_some {v : AV} {H : List AObj} : (Option.map (fun v => (v, H)) (some v)) = some (v, H) := rfl
theorem st_nilc : stepL (.nilc x) σ = (match ev σ.t x with | .ptr .. | .lptr .. | .fn (.func _) .. => some (ev σ.t x) | _ => none : Option AV).map fun v => (v, σ.H) := rfl
theorem st_bin {o : BinOp} {k : EqK} : stepL (.bin o k x y) σ = (binA o k (ev σ.t x) (ev σ.t y)).map fun v => (v, σ.H) := rfl
theorem st_not : stepL (.not x) σ = (match ev σ.t x with | .bool b => some (.bool (!b)) | _ => none : Option AV).map fun v => (v, σ.H) := rfl
theorem st_neg : stepL (.neg x) σ = (match ev σ.t x with | .int k n => some (.int k (k.wrap (0 - n))) | _ => none : Option AV).map fun v => (v, σ.H) := rfl
theorem st_toInt {k : IntKind} : stepL (.toInt k x) σ = (match ev σ.t x with | .int _ n => some (.int k (k.wrap n)) | _ => none : Option AV).map fun v => (v, σ.H) := rfl
theorem st_mkIface {k : TypeId} : stepL (.mkIface k x) σ = some (.iface k (ev σ.t x), σ.H) := rfl
theorem st_mkFn {f : Fn} {as bs : List Opd} : stepL (.mkFn f as bs) σ = some (.fn f (as.map (ev σ.t)) (bs.map (ev σ.t)), σ.H) := rfl
theorem st_sliceS {b c : Option Opd} : stepL (.sliceS x b c) σ = (match ev σ.t x with
    | .str s => (bdA s.size s.size (c.map (ev σ.t))).bind fun h => (bdA h 0 (b.map (ev σ.t))).map fun l => .str (s.extract l h)
    | _ => none : Option AV).map fun v => (v, σ.H) := rfl
theorem st_slice {b c : Option Opd} : stepL (.slice n x b c none) σ = (match ev σ.t x with
    | .list xs => (bdA xs.length xs.length (c.map (ev σ.t))).bind fun h => (bdA h 0 (b.map (ev σ.t))).bind fun l => if xs = [] ∨ (xs.headD []).length = n then some (.list ((xs.drop l).take (h - l))) else none
    | .sl sz' k m off len => if n = sz' then (bdA len len (c.map (ev σ.t))).bind fun h => (bdA h 0 (b.map (ev σ.t))).map fun l => .sl n k m (off + l) (h - l) else none
    | _ => none : Option AV).map fun v => (v, σ.H) := rfl
theorem st_faddr : stepL (.faddr n x) σ = (match ev σ.t x with
    | .ptr k m i o => some (.ptr k m i (o + n))
    | .lptr row o => some (.lptr row (o + n))
    | _ => none : Option AV).map fun v => (v, σ.H) := rfl
theorem st_field : stepL (.field a n m x) σ = (match ev σ.t x with | .agg cs => partA a n m cs | _ => none : Option AV).map fun v => (v, σ.H) := rfl
theorem st_iaddrS : stepL (.iaddrS n x y) σ = (match ev σ.t x with
    | .list xs => (ixA xs.length (ev σ.t y)).bind fun j => if (xs.getD j []).length = n then some (.lptr (xs.getD j []) 0) else none
    | .sl sz' k m off len => if n = sz' then (ixA len (ev σ.t y)).map fun j => .ptr k m (off + j) 0 else none
    | _ => none : Option AV).map fun v => (v, σ.H) := rfl
theorem st_iaddrA : stepL (.iaddrA m n x y) σ = (match ev σ.t x with
    | .ptr k w j o => (ixA m (ev σ.t y)).map fun i => .ptr k w j (o + i * n)
    | .lptr row o => (ixA m (ev σ.t y)).map fun i => .lptr row (o + i * n)
    | _ => none : Option AV).map fun v => (v, σ.H) := rfl
theorem st_idxA : stepL (.idxA m a n x y) σ = (match ev σ.t x with
    | .agg cs => (ixA m (ev σ.t y)).bind fun i => partA a n (i * n) cs
    | _ => none : Option AV).map fun v => (v, σ.H) := rfl
theorem st_idxS : stepL (.idxS x y) σ = (match ev σ.t x with
    | .str s => (ixA s.size (ev σ.t y)).map fun j => .int .u8 ((s.get! j).toNat : Int)
    | _ => none : Option AV).map fun v => (v, σ.H) := rfl
theorem st_extract : stepL (.extract x n) σ = (match ev σ.t x with | .tup vs => vs[n]? | _ => none : Option AV).map fun v => (v, σ.H) := rfl
theorem st_lenL : stepL (.len .slice x) σ = (match ev σ.t x with
    | .list xs => some (.int .i64 (xs.length : Int))
    | .sl _ _ _ _ len => some (.int .i64 (len : Int))
    | .imm (.slice none 0 0) => some (.int .i64 0)
    | _ => none : Option AV).map fun v => (v, σ.H) := rfl
theorem st_lenS : stepL (.len .str x) σ = (match ev σ.t x with | .str s => some (.int .i64 (s.size : Int)) | _ => none : Option AV).map fun v => (v, σ.H) := rfl
theorem st_lenM : stepL (.len .map x) σ = match ev σ.t x with
    | .map m => match σ.H[m]? with
      | some (.map es) => some (.int .i64 (es.length : Int), σ.H)
      | _ => none
    | _ => none := rfl
theorem st_min {l : List Opd} : stepL (.min l) σ = (foldI min2 (l.map (ev σ.t))).map fun v => (v, σ.H) := rfl
theorem st_max {l : List Opd} : stepL (.max l) σ = (foldI max2 (l.map (ev σ.t))).map fun v => (v, σ.H) := rfl
theorem st_build {w : List AV} {ps : List (Nat × Nat × Opd)} : stepL (.build w ps) σ = ((fillA (ev σ.t) w ps).map AV.agg).map fun v => (v, σ.H) := rfl
theorem st_load : stepL (.load a n x) σ = (rowOf σ.H (ev σ.t x)).bind fun p => (partA a n p.2 p.1).map fun v => (v, σ.H) := rfl
theorem st_box : stepL (.box x) σ = (cellsOf (ev σ.t x)).bind fun cs => if 0 < cs.length then some (.ptr σ.H.length 1 0 0, σ.H ++ [.vec cs.length [cs]]) else none := rfl
theorem st_store : stepL (.store n x y) σ = match ev σ.t x with
    | .ptr k m i off => match σ.H[k]? with
      | some (.vec z xs) => if m = xs.length then (xs[i]?).bind fun row => (cellsOf (ev σ.t y)).bind fun cs =>
          if cs.length = n ∧ off + n ≤ z ∧ allCells cs = true then some (.dead, σ.H.set k (.vec z (xs.set i (putRow row off cs)))) else none
        else none
      | _ => none
    | _ => none := rfl
theorem st_bslice {z : List AV} {ps : List (Nat × Opd)} : stepL (.bslice n z m ps) σ = (fillRows (ev σ.t) n (List.replicate m z) ps).map fun xs => (.sl n σ.H.length m 0 m, σ.H ++ [.vec n xs]) := rfl
theorem st_mkSlice {w : List AV} : stepL (.mkSlice n m w x y) σ = match ev σ.t x, ev σ.t y with
    | .int _ l, .int _ c => if 0 ≤ l ∧ l ≤ c ∧ (m : Int) * c ≤ 140737488355328 ∧ c ≤ 9223372036854775807 then some (.sl n σ.H.length l.toNat 0 l.toNat, σ.H ++ [.vec n (List.replicate l.toNat w)]) else none
    | _, _ => none := rfl
def appE (n m : Nat) (s : AV) (H : List AObj) (y : AV) : Option (AV × List AObj) := match y with
    | .imm (.slice none 0 0) => appendL H n m s []
    | v => (elems H v).bind fun ys => if rowsOk n ys = true then appendL H n m s ys else none
theorem st_appE : stepL (.append n m x y) σ = appE n m (ev σ.t x) σ.H (ev σ.t y) := rfl
theorem appE_sl {s : AV} {H : List AObj} {z k w o l : Nat} : appE n m s H (.sl z k w o l) = (elems H (.sl z k w o l)).bind fun ys => if rowsOk n ys = true then appendL H n m s ys else none := rfl
theorem appE_list {s : AV} {H : List AObj} {xs : List (List AV)} : appE n m s H (.list xs) = if rowsOk n xs = true then appendL H n m s xs else none := rfl
theorem appE_nil {s : AV} {H : List AObj} : appE n m s H (.imm (.slice none 0 0)) = appendL H n m s [] := rfl
def strE (H : List AObj) (x : AV) : Option (AV × List AObj) := match x with
    | .imm (.slice none 0 0) => some (.str .empty, H)
    | x => (elems H x).bind fun xs => (bytesOf xs).map fun l => (.str ⟨l.toArray⟩, H)
theorem st_strE : stepL (.toStr x) σ = strE σ.H (ev σ.t x) := rfl
theorem strE_nil {H : List AObj} : strE H (.imm (.slice none 0 0)) = some (.str .empty, H) := rfl
theorem strE_sl {H : List AObj} {z k w o l : Nat} : strE H (.sl z k w o l) = (elems H (.sl z k w o l)).bind fun xs => (bytesOf xs).map fun l => (.str ⟨l.toArray⟩, H) := rfl
theorem strE_list {H : List AObj} {xs : List (List AV)} : strE H (.list xs) = (bytesOf xs).map fun l => (.str ⟨l.toArray⟩, H) := rfl
theorem st_appendS : stepL (.appendS x y) σ = match ev σ.t y with
    | .str b => appendL σ.H 1 1 (ev σ.t x) (byteRows b)
    | _ => none := rfl
theorem st_copy : stepL (.copy n x y) σ = match ev σ.t x, elems σ.H (ev σ.t y) with
    | .sl sz' k m off len, some ys => match σ.H[k]? with
      | some (.vec z xs) => if m = xs.length ∧ n = sz' ∧ z = n ∧ off + len ≤ m ∧ rowsOk n ys = true then
          some (.int .i64 ((min ys.length len : Nat) : Int), σ.H.set k (.vec n (xs.take off ++ ys.take (min ys.length len) ++ xs.drop (off + min ys.length len)))) else none
      | _ => none
    | _, _ => none := rfl
theorem st_mkMap : stepL .mkMap σ = some (.map σ.H.length, σ.H ++ [.map []]) := rfl
theorem st_lookup {w : AV} : stepL (.lookup w x y a) σ = match ev σ.t x with
    | .map m => match σ.H[m]? with
      | some (.map es) => if isInt (ev σ.t y) = true then (findKeyA (ev σ.t y) es 0).map fun r => match r with
          | some (_, v) => (if a then .tup [v, .bool true] else v, σ.H)
          | none => (if a then .tup [w, .bool false] else w, σ.H)
        else none
      | _ => none
    | _ => none := rfl
theorem st_mapSet : stepL (.mapSet z x y) σ = match ev σ.t z with
    | .map m => match σ.H[m]? with
      | some (.map es) => if isInt (ev σ.t x) = true then (findKeyA (ev σ.t x) es 0).map fun r => match r with
          | some (i, _) => (.dead, σ.H.set m (.map (es.set i (ev σ.t x, ev σ.t y))))
          | none => (.dead, σ.H.set m (.map (es ++ [(ev σ.t x, ev σ.t y)])))
        else none
      | _ => none
    | _ => none := rfl
theorem st_range : stepL (.range x) σ = match ev σ.t x with
    | .str s => some (.iter σ.H.length, σ.H ++ [.iter s 0])
    | _ => none := rfl
theorem st_next : stepL (.next x) σ = match ev σ.t x with
    | .iter k => match σ.H[k]? with
      | some (.iter s p) => if p < s.size then some (.tup [.bool true, .int .i64 (p : Int), .int .i32 ((Utf8.decode s p).1 : Int)], σ.H.set k (.iter s (p + (Utf8.decode s p).2))) else some (.tup [.bool false], σ.H)
      | _ => none
    | _ => none := rfl

/-! ### Parts -/
theorem ro_lptr {H : List AObj} {row : List AV} : rowOf H (.lptr row n) = some (row, n) := rfl
theorem ro_ptr {H : List AObj} {k o : Nat} : rowOf H (.ptr k n i o) = match H[k]? with
    | some (.vec _ xs) => if n = xs.length then (xs[i]?).map fun r => (r, o) else none
    | _ => none := rfl
theorem pa_one {o : Nat} {row : List AV} : partA false n o row = row[o]? := rfl
theorem pa_agg {o : Nat} {row : List AV} : partA true n o row = if o + n ≤ row.length then some (.agg ((row.drop o).take n)) else none := rfl
theorem co_agg {cs : List AV} : cellsOf (.agg cs) = some cs := rfl
theorem co_int {k : IntKind} {v : Int} : cellsOf (.int k v) = some [.int k v] := rfl
theorem co_bool {b : Bool} : cellsOf (.bool b) = some [.bool b] := rfl
theorem co_str {s : ByteArray} : cellsOf (.str s) = some [.str s] := rfl
theorem co_list {xs : List (List AV)} : cellsOf (.list xs) = some [.list xs] := rfl
theorem co_sl {a b c d e : Nat} : cellsOf (.sl a b c d e) = some [.sl a b c d e] := rfl
theorem co_ptr {a b c d : Nat} : cellsOf (.ptr a b c d) = some [.ptr a b c d] := rfl
theorem co_map {a : Nat} : cellsOf (.map a) = some [.map a] := rfl
theorem co_fn {f : Fn} {as bs : List AV} : cellsOf (.fn f as bs) = some [.fn f as bs] := rfl
theorem co_iface {t : TypeId} {v : AV} : cellsOf (.iface t v) = some [.iface t v] := rfl
theorem co_nil : cellsOf (.imm (.slice none 0 0)) = some [.imm (.slice none 0 0)] := rfl
theorem ac_nil : allCells [] = true := rfl
theorem ac_cons {v : AV} {l : List AV} : allCells (v :: l) = (v.cell && allCells l) := rfl
theorem ce_int {k : IntKind} {v : Int} : (AV.int k v).cell = true := rfl
theorem ce_bool {b : Bool} : (AV.bool b).cell = true := rfl
theorem ce_str {s : ByteArray} : (AV.str s).cell = true := rfl
theorem ce_list {xs : List (List AV)} : (AV.list xs).cell = true := rfl
theorem ce_sl {a b c d e : Nat} : (AV.sl a b c d e).cell = true := rfl
theorem ce_ptr {a b c d : Nat} : (AV.ptr a b c d).cell = true := rfl
theorem ce_map {a : Nat} : (AV.map a).cell = true := rfl
theorem ce_fn {f : Fn} {as bs : List AV} : (AV.fn f as bs).cell = true := rfl
theorem ce_iface {t : TypeId} {v : AV} : (AV.iface t v).cell = true := rfl
theorem ce_nil : (AV.imm (.slice none 0 0)).cell = true := rfl
theorem pr_def {row cs : List AV} {o : Nat} : putRow row o cs = row.take o ++ cs ++ row.drop (o + cs.length) := rfl
theorem fr_nil {e : Opd → AV} {xs : List (List AV)} : fillRows e n xs [] = some xs := rfl
theorem fr_cons {e : Opd → AV} {xs : List (List AV)} {r : List (Nat × Opd)} : fillRows e n xs ((i, x) :: r) = (cellsOf (e x)).bind fun cs => if cs.length = n ∧ i < xs.length then fillRows e n (xs.set i cs) r else none := rfl
theorem ap_nil {H : List AObj} {ys : List (List AV)} : appendL H n m (.imm (.slice none 0 0)) ys = if ys.length * m ≤ 140737488355328 ∧ ys.length ≤ maxLen then some (.sl n H.length ys.length 0 ys.length, H ++ [.vec n ys]) else none := rfl
theorem ap_sl {H : List AObj} {ys : List (List AV)} {z k w o l : Nat} : appendL H n m (.sl z k w o l) ys = match H[k]? with
    | some (.vec z' xs) => if w = xs.length ∧ n = z ∧ z' = n ∧ o = 0 ∧ l = w ∧ (w + ys.length) * m ≤ 140737488355328 ∧ w + ys.length ≤ maxLen then
        some (.sl n k (w + ys.length) 0 (w + ys.length), H.set k (.vec n (xs ++ ys))) else none
    | _ => none := rfl
theorem el_list {H : List AObj} {xs : List (List AV)} : elems H (.list xs) = some xs := rfl
theorem el_sl {H : List AObj} {z k w o l : Nat} : elems H (.sl z k w o l) = match H[k]? with
    | some (.vec sz' xs) => if w = xs.length ∧ z = sz' then some ((xs.drop o).take l) else none
    | _ => none := rfl
theorem rk_nil : rowsOk n [] = true := rfl
theorem rk_cons {r : List AV} {l : List (List AV)} : rowsOk n (r :: l) = (decide (r.length = n) && allCells r && rowsOk n l) := by simp [rowsOk, BEq.beq]
theorem rk_map {α : Type} {f : α → List AV} {l : List α} (h : ∀ x ∈ l, (f x).length = n ∧ allCells (f x) = true) : rowsOk n (l.map f) = true := by
  simp only [rowsOk, List.all_eq_true, List.mem_map, Bool.and_eq_true, beq_iff_eq]
  rintro r ⟨x, hx, rfl⟩
  exact h x hx
theorem fk_nil {q : AV} {j : Nat} : findKeyA q [] j = some none := rfl
theorem fk_cons {k : IntKind} {q p : Int} {v : AV} {r : List (AV × AV)} {j : Nat} : findKeyA (.int k q) ((.int k p, v) :: r) j = if q = p then some (some (j, v)) else findKeyA (.int k q) r (j + 1) := by
  simp only [findKeyA, keyIs, if_true]
  by_cases h : q = p
  · simp [h]
  · simp [h, beq_eq_false_iff_ne.2 h]
theorem ii_int {k : IntKind} {v : Int} : isInt (.int k v) = true := rfl
theorem tk_map {α β : Type} {f : α → β} {l : List α} : (l.map f).take l.length = l.map f := by rw [List.take_of_length_le]; simp
theorem tk_snoc {α : Type} {l : List α} {a : α} : (l ++ [a]).take (l.length + 1) = l ++ [a] := by rw [List.take_of_length_le]; simp
theorem tk_msnoc {α β : Type} {f : α → β} {l : List α} {a : β} : (l.map f ++ [a]).take (l.length + 1) = l.map f ++ [a] := by rw [List.take_of_length_le]; simp
theorem tk_len {α : Type} {l : List α} : l.take l.length = l := by rw [List.take_of_length_le]; simp
def partE (v : AV) (n : Nat) : Option (List AV) := match v with
  | .agg cs => if cs.length = n then some cs else none
  | a => if n = 1 ∧ a.cell = true then some [a] else none
theorem fa_cons {e : Opd → AV} {w : List AV} {o : Nat} {r : List (Nat × Nat × Opd)} : fillA e w ((o, n, x) :: r) = (partE (e x) n).bind fun cs => if o + n ≤ w.length then fillA e (w.take o ++ cs ++ w.drop (o + n)) r else none := by
  rw [fillA]
  unfold partE
  cases h : e x with
  | agg cs =>
    simp only
    by_cases h1 : cs.length = n
    · simp [h1]
    · simp [h1]
  | _ =>
    simp only
    by_cases h1 : n = 1
    · subst h1
      by_cases h2 : o + 1 ≤ w.length <;> simp [h2, AV.cell] <;> split <;> simp
    · simp [h1]
theorem pe_agg {cs : List AV} : partE (.agg cs) n = if cs.length = n then some cs else none := rfl
theorem pe_int {k : IntKind} {v : Int} : partE (.int k v) n = if n = 1 then some [.int k v] else none := by simp [partE, AV.cell]
theorem pe_bool {b : Bool} : partE (.bool b) n = if n = 1 then some [.bool b] else none := by simp [partE, AV.cell]
theorem pe_str {s : ByteArray} : partE (.str s) n = if n = 1 then some [.str s] else none := by simp [partE, AV.cell]
theorem pe_list {xs : List (List AV)} : partE (.list xs) n = if n = 1 then some [.list xs] else none := by simp [partE, AV.cell]
theorem pe_sl {a b c d f : Nat} : partE (.sl a b c d f) n = if n = 1 then some [.sl a b c d f] else none := by simp [partE, AV.cell]
theorem pe_nil : partE (.imm (.slice none 0 0)) n = if n = 1 then some [.imm (.slice none 0 0)] else none := by simp [partE, AV.cell, Value.oneCell']
theorem pe_iface {t : TypeId} {v : AV} : partE (.iface t v) n = if n = 1 then some [.iface t v] else none := by simp [partE, AV.cell]
theorem fa_nil {e : Opd → AV} {w : List AV} : fillA e w [] = some w := by simp [fillA]
end

theorem ev1 : type_of% (And.intro @wpL_nil (And.intro @wpL_cons (And.intro @wg_none (And.intro @wpG_hit (And.intro @wpG_miss (And.intro @wpG_skip (And.intro @wo_call (And.intro @wo_mv (And.intro @wo_pick (And.intro @wo_alloc (And.intro @wo_box (And.intro @wo_build (And.intro @wo_bslice (And.intro @wo_load (And.intro @wo_store (And.intro @wo_nilc (And.intro @wo_bin (And.intro @wo_not (And.intro @wo_neg (And.intro @wo_toInt (And.intro @wo_toStr (And.intro @wo_mkIface (And.intro @wo_mkFn (And.intro @wo_mkMap (And.intro @wo_mkSlice (And.intro @wo_sliceS (And.intro @wo_slice (And.intro @wo_faddr (And.intro @wo_field (And.intro @wo_iaddrS (And.intro @wo_iaddrA (And.intro @wo_idxA (And.intro @wo_idxS (And.intro @wo_lookup (And.intro @wo_mapSet (And.intro @wo_range (And.intro @wo_next (And.intro @wo_extract (And.intro @wo_len (And.intro @wo_min (And.intro @wo_max (And.intro @wo_append (And.intro @wo_appendS (And.intro @wo_copy (And.intro @ev_tmp (And.intro @ev_cst (And.intro @Tm.put_some (And.intro @Tm.put_none (And.intro @mkT_nil (And.intro @mkT_cons (And.intro @argsT_zero (And.intro @argsT_succ (And.intro @Later_def (And.intro @thenS_some (And.intro @SeqQ_normal (And.intro @SeqQ_exit (And.intro @SeqQ_ret (And.intro @BlkQ_normal (And.intro @BlkQ_exit (And.intro @BlkQ_ret (And.intro @LoopQ_exit (And.intro @LoopQ_ret (And.intro @JoinQ_exit (And.intro @JoinQ_ret (And.intro @CutQ_normal (And.intro @CutQ_exit (And.intro @CutQ_ret (And.intro @RetQ_normal (And.intro @RetQ_ret (@CallA_fn)))))))))))))))))))))))))))))))))))))))))))))))))))))))))))))))))))))) :=
  And.intro @wpL_nil (And.intro @wpL_cons (And.intro @wg_none (And.intro @wpG_hit (And.intro @wpG_miss (And.intro @wpG_skip (And.intro @wo_call (And.intro @wo_mv (And.intro @wo_pick (And.intro @wo_alloc (And.intro @wo_box (And.intro @wo_build (And.intro @wo_bslice (And.intro @wo_load (And.intro @wo_store (And.intro @wo_nilc (And.intro @wo_bin (And.intro @wo_not (And.intro @wo_neg (And.intro @wo_toInt (And.intro @wo_toStr (And.intro @wo_mkIface (And.intro @wo_mkFn (And.intro @wo_mkMap (And.intro @wo_mkSlice (And.intro @wo_sliceS (And.intro @wo_slice (And.intro @wo_faddr (And.intro @wo_field (And.intro @wo_iaddrS (And.intro @wo_iaddrA (And.intro @wo_idxA (And.intro @wo_idxS (And.intro @wo_lookup (And.intro @wo_mapSet (And.intro @wo_range (And.intro @wo_next (And.intro @wo_extract (And.intro @wo_len (And.intro @wo_min (And.intro @wo_max (And.intro @wo_append (And.intro @wo_appendS (And.intro @wo_copy (And.intro @ev_tmp (And.intro @ev_cst (And.intro @Tm.put_some (And.intro @Tm.put_none (And.intro @mkT_nil (And.intro @mkT_cons (And.intro @argsT_zero (And.intro @argsT_succ (And.intro @Later_def (And.intro @thenS_some (And.intro @SeqQ_normal (And.intro @SeqQ_exit (And.intro @SeqQ_ret (And.intro @BlkQ_normal (And.intro @BlkQ_exit (And.intro @BlkQ_ret (And.intro @LoopQ_exit (And.intro @LoopQ_ret (And.intro @JoinQ_exit (And.intro @JoinQ_ret (And.intro @CutQ_normal (And.intro @CutQ_exit (And.intro @CutQ_ret (And.intro @RetQ_normal (And.intro @RetQ_ret (@CallA_fn)))))))))))))))))))))))))))))))))))))))))))))))))))))))))))))))))))))
theorem ev2 : type_of% (And.intro @om_some (And.intro @st_nilc (And.intro @st_bin (And.intro @st_not (And.intro @st_neg (And.intro @st_toInt (And.intro @st_mkIface (And.intro @st_mkFn (And.intro @st_sliceS (And.intro @st_slice (And.intro @st_faddr (And.intro @st_field (And.intro @st_iaddrS (And.intro @st_iaddrA (And.intro @st_idxA (And.intro @st_idxS (And.intro @st_extract (And.intro @st_lenL (And.intro @st_lenS (And.intro @st_lenM (And.intro @st_min (And.intro @st_max (And.intro @st_build (And.intro @st_load (And.intro @st_box (And.intro @st_store (And.intro @st_bslice (And.intro @st_mkSlice (And.intro @st_appE (And.intro @appE_sl (And.intro @appE_list (And.intro @appE_nil (And.intro @st_strE (And.intro @strE_nil (And.intro @strE_sl (And.intro @strE_list (And.intro @st_appendS (And.intro @st_copy (And.intro @st_mkMap (And.intro @st_lookup (And.intro @st_mapSet (And.intro @st_range (And.intro @st_next (And.intro @bin_add (And.intro @bin_sub (And.intro @bin_mul (And.intro @bin_quo (And.intro @bin_rem (And.intro @bin_and (And.intro @bin_or (And.intro @bin_xor (And.intro @bin_eql (And.intro @bin_neq (And.intro @bin_lss (And.intro @bin_leq (And.intro @bin_gtr (And.intro @bin_geq (And.intro @bin_shl (And.intro @bin_shr (And.intro @bin_sadd (And.intro @bin_seql (And.intro @bin_sneq (And.intro @bin_beql (And.intro @bin_bneq (And.intro @bin_aeql (And.intro @bin_aneq (And.intro @bin_feql (And.intro @bin_fneq (And.intro @bin_neql (And.intro @bin_nneq (And.intro @eqc_nil (And.intro @eqc_cons (And.intro @eqc_i (And.intro @eqc_b (And.intro @eqc_s (And.intro @ro_lptr (And.intro @ro_ptr (And.intro @pa_one (And.intro @pa_agg (And.intro @co_agg (And.intro @co_int (And.intro @co_bool (And.intro @co_str (And.intro @co_list (And.intro @co_sl (And.intro @co_ptr (And.intro @co_map (And.intro @co_fn (And.intro @co_iface (And.intro @co_nil (And.intro @ac_nil (And.intro @ac_cons (And.intro @ce_int (And.intro @ce_bool (And.intro @ce_str (And.intro @ce_list (And.intro @ce_sl (And.intro @ce_ptr (And.intro @ce_map (And.intro @ce_fn (And.intro @ce_iface (And.intro @ce_nil (And.intro @pr_def (And.intro @fr_nil (And.intro @fr_cons (And.intro @ap_nil (And.intro @ap_sl (And.intro @el_list (And.intro @el_sl (And.intro @rk_nil (And.intro @rk_cons (And.intro @rk_map (And.intro @fk_nil (And.intro @fk_cons (And.intro @ii_int (And.intro @fa_nil (And.intro @fa_cons (And.intro @pe_agg (And.intro @pe_int (And.intro @pe_bool (And.intro @pe_str (And.intro @pe_list (And.intro @pe_sl (And.intro @pe_nil (And.intro @pe_iface (And.intro @bdA_no (And.intro @bdA_int (And.intro @ixA_int (@foldI_two))))))))))))))))))))))))))))))))))))))))))))))))))))))))))))))))))))))))))))))))))))))))))))))))))))))))))))))))))))))))))))))))) :=
  And.intro @om_some (And.intro @st_nilc (And.intro @st_bin (And.intro @st_not (And.intro @st_neg (And.intro @st_toInt (And.intro @st_mkIface (And.intro @st_mkFn (And.intro @st_sliceS (And.intro @st_slice (And.intro @st_faddr (And.intro @st_field (And.intro @st_iaddrS (And.intro @st_iaddrA (And.intro @st_idxA (And.intro @st_idxS (And.intro @st_extract (And.intro @st_lenL (And.intro @st_lenS (And.intro @st_lenM (And.intro @st_min (And.intro @st_max (And.intro @st_build (And.intro @st_load (And.intro @st_box (And.intro @st_store (And.intro @st_bslice (And.intro @st_mkSlice (And.intro @st_appE (And.intro @appE_sl (And.intro @appE_list (And.intro @appE_nil (And.intro @st_strE (And.intro @strE_nil (And.intro @strE_sl (And.intro @strE_list (And.intro @st_appendS (And.intro @st_copy (And.intro @st_mkMap (And.intro @st_lookup (And.intro @st_mapSet (And.intro @st_range (And.intro @st_next (And.intro @bin_add (And.intro @bin_sub (And.intro @bin_mul (And.intro @bin_quo (And.intro @bin_rem (And.intro @bin_and (And.intro @bin_or (And.intro @bin_xor (And.intro @bin_eql (And.intro @bin_neq (And.intro @bin_lss (And.intro @bin_leq (And.intro @bin_gtr (And.intro @bin_geq (And.intro @bin_shl (And.intro @bin_shr (And.intro @bin_sadd (And.intro @bin_seql (And.intro @bin_sneq (And.intro @bin_beql (And.intro @bin_bneq (And.intro @bin_aeql (And.intro @bin_aneq (And.intro @bin_feql (And.intro @bin_fneq (And.intro @bin_neql (And.intro @bin_nneq (And.intro @eqc_nil (And.intro @eqc_cons (And.intro @eqc_i (And.intro @eqc_b (And.intro @eqc_s (And.intro @ro_lptr (And.intro @ro_ptr (And.intro @pa_one (And.intro @pa_agg (And.intro @co_agg (And.intro @co_int (And.intro @co_bool (And.intro @co_str (And.intro @co_list (And.intro @co_sl (And.intro @co_ptr (And.intro @co_map (And.intro @co_fn (And.intro @co_iface (And.intro @co_nil (And.intro @ac_nil (And.intro @ac_cons (And.intro @ce_int (And.intro @ce_bool (And.intro @ce_str (And.intro @ce_list (And.intro @ce_sl (And.intro @ce_ptr (And.intro @ce_map (And.intro @ce_fn (And.intro @ce_iface (And.intro @ce_nil (And.intro @pr_def (And.intro @fr_nil (And.intro @fr_cons (And.intro @ap_nil (And.intro @ap_sl (And.intro @el_list (And.intro @el_sl (And.intro @rk_nil (And.intro @rk_cons (And.intro @rk_map (And.intro @fk_nil (And.intro @fk_cons (And.intro @ii_int (And.intro @fa_nil (And.intro @fa_cons (And.intro @pe_agg (And.intro @pe_int (And.intro @pe_bool (And.intro @pe_str (And.intro @pe_list (And.intro @pe_sl (And.intro @pe_nil (And.intro @pe_iface (And.intro @bdA_no (And.intro @bdA_int (And.intro @ixA_int (@foldI_two))))))))))))))))))))))))))))))))))))))))))))))))))))))))))))))))))))))))))))))))))))))))))))))))))))))))))))))))))))))))))))))))
theorem ev3 : type_of% (And.intro @hp_get (And.intro @hp_get0 (And.intro @hp_set (And.intro @hp_set0 (And.intro @hp_len (And.intro @hp_app (And.intro @hp_take (And.intro @i_nn (And.intro @maxLen_def (And.intro @List.getElem?_map.{0,0} (And.intro @tk_map (And.intro @tk_len (And.intro @tk_snoc (And.intro @tk_msnoc (And.intro @hl_lt (And.intro @hl_lt0 (And.intro @hl_le (And.intro @hl_le0 (And.intro @hl_ler (And.intro @List.map_cons.{0,0} (And.intro @List.map_nil.{0,0} (And.intro @List.length_cons.{0} (And.intro @List.length_nil.{0} (And.intro @List.length_map.{0,0} (And.intro @List.nil_append.{0} (And.intro @List.cons_append.{0} (And.intro @List.getElem?_cons_zero.{0} (And.intro @List.getElem?_cons_succ.{0} (And.intro @List.getElem?_nil.{0} (And.intro @List.set_cons_zero.{0} (And.intro @List.set_cons_succ.{0} (And.intro @List.take_succ_cons.{0} (And.intro @List.take_zero.{0} (And.intro @List.take_nil.{0} (And.intro @List.drop_zero.{0} (And.intro @List.drop_succ_cons.{0} (And.intro @List.drop_nil.{0} (And.intro @List.replicate_succ.{0} (And.intro @List.replicate_zero.{0} (And.intro @Option.map_some.{0,0} (And.intro @Option.map_none.{0,0} (And.intro @Option.bind_some.{0,0} (And.intro @Option.bind_none.{0,0} (And.intro @Bool.not_true (And.intro @Bool.not_false (And.intro @Bool.and_true (And.intro @Bool.true_and (And.intro @Bool.and_false (And.intro @Bool.false_and (And.intro @Bool.or_true (And.intro @Bool.true_or (And.intro @Bool.or_false (And.intro @Bool.false_or (And.intro @Bool.and_self (And.intro @Bool.true_eq_false (And.intro @Bool.false_eq_true (And.intro @Int.toNat_natCast (And.intro @Nat.zero_add (And.intro @Nat.add_zero (And.intro @Nat.add_assoc (And.intro @true_and (And.intro @and_true (And.intro @false_and (And.intro @and_false (And.intro @true_or (And.intro @or_true (And.intro @false_or (And.intro @or_false (And.intro @and_self (And.intro @or_self (And.intro @not_true_eq_false (And.intro @not_false_eq_true (And.intro @ne_eq.{1} (And.intro @true_implies (And.intro @false_implies (And.intro @implies_true.{1} (And.intro @implies_true.{0} (And.intro @decide_true (And.intro @decide_false (And.intro @List.length_append.{0} (And.intro @List.map_append.{0,0} (And.intro @List.length_reverse.{0} (And.intro @List.reverse_cons.{0} (And.intro @Nat.mul_one (And.intro @Nat.one_mul (And.intro @Int.one_mul (And.intro @Int.mul_one (And.intro @Int.zero_mul (And.intro @Int.mul_zero (And.intro @Nat.zero_mul (@Nat.mul_zero))))))))))))))))))))))))))))))))))))))))))))))))))))))))))))))))))))))))))))))))))))))))))) :=
  And.intro @hp_get (And.intro @hp_get0 (And.intro @hp_set (And.intro @hp_set0 (And.intro @hp_len (And.intro @hp_app (And.intro @hp_take (And.intro @i_nn (And.intro @maxLen_def (And.intro @List.getElem?_map.{0,0} (And.intro @tk_map (And.intro @tk_len (And.intro @tk_snoc (And.intro @tk_msnoc (And.intro @hl_lt (And.intro @hl_lt0 (And.intro @hl_le (And.intro @hl_le0 (And.intro @hl_ler (And.intro @List.map_cons.{0,0} (And.intro @List.map_nil.{0,0} (And.intro @List.length_cons.{0} (And.intro @List.length_nil.{0} (And.intro @List.length_map.{0,0} (And.intro @List.nil_append.{0} (And.intro @List.cons_append.{0} (And.intro @List.getElem?_cons_zero.{0} (And.intro @List.getElem?_cons_succ.{0} (And.intro @List.getElem?_nil.{0} (And.intro @List.set_cons_zero.{0} (And.intro @List.set_cons_succ.{0} (And.intro @List.take_succ_cons.{0} (And.intro @List.take_zero.{0} (And.intro @List.take_nil.{0} (And.intro @List.drop_zero.{0} (And.intro @List.drop_succ_cons.{0} (And.intro @List.drop_nil.{0} (And.intro @List.replicate_succ.{0} (And.intro @List.replicate_zero.{0} (And.intro @Option.map_some.{0,0} (And.intro @Option.map_none.{0,0} (And.intro @Option.bind_some.{0,0} (And.intro @Option.bind_none.{0,0} (And.intro @Bool.not_true (And.intro @Bool.not_false (And.intro @Bool.and_true (And.intro @Bool.true_and (And.intro @Bool.and_false (And.intro @Bool.false_and (And.intro @Bool.or_true (And.intro @Bool.true_or (And.intro @Bool.or_false (And.intro @Bool.false_or (And.intro @Bool.and_self (And.intro @Bool.true_eq_false (And.intro @Bool.false_eq_true (And.intro @Int.toNat_natCast (And.intro @Nat.zero_add (And.intro @Nat.add_zero (And.intro @Nat.add_assoc (And.intro @true_and (And.intro @and_true (And.intro @false_and (And.intro @and_false (And.intro @true_or (And.intro @or_true (And.intro @false_or (And.intro @or_false (And.intro @and_self (And.intro @or_self (And.intro @not_true_eq_false (And.intro @not_false_eq_true (And.intro @ne_eq.{1} (And.intro @true_implies (And.intro @false_implies (And.intro @implies_true.{1} (And.intro @implies_true.{0} (And.intro @decide_true (And.intro @decide_false (And.intro @List.length_append.{0} (And.intro @List.map_append.{0,0} (And.intro @List.length_reverse.{0} (And.intro @List.reverse_cons.{0} (And.intro @Nat.mul_one (And.intro @Nat.one_mul (And.intro @Int.one_mul (And.intro @Int.mul_one (And.intro @Int.zero_mul (And.intro @Int.mul_zero (And.intro @Nat.zero_mul (@Nat.mul_zero))))))))))))))))))))))))))))))))))))))))))))))))))))))))))))))))))))))))))))))))))))))))))
theorem wk : type_of% (And.intro @vw_dead (And.intro @vw_int (And.intro @vw_bool (And.intro @vw_str (And.intro @vw_imm (And.intro @vw_list (And.intro @vw_nil (And.intro @vw_lptr (And.intro @vw_ptr (And.intro @vw_iter (And.intro @vw_map (And.intro @vw_sl (And.intro @vw_fn (And.intro @vw_iface (And.intro @vw_slist (And.intro @vw_agg (And.intro @vw_tup (And.intro @vws_nil (And.intro @vws_cons (And.intro @vws_same (And.intro @cl_ptr (And.intro @cl_nil (And.intro @cl_cons (And.intro @cls_nil (And.intro @cls_cons (And.intro @clo_vec (And.intro @clo_iter (And.intro @clo_gone (And.intro @clo_map (And.intro @rc_def (And.intro @re_nil (And.intro @re_tmp (And.intro @re_cell (And.intro @rv_one (And.intro @rv_two (And.intro @cl_int (And.intro @cl_bool (And.intro @cl_str (And.intro @cl_imm (And.intro @cl_list (And.intro @cl_lptr (And.intro @cl_dead (And.intro @cl_sl (And.intro @cl_iter (And.intro @cl_map (And.intro @cl_agg (And.intro @cl_tup (And.intro @cl_iface (@cl_fn))))))))))))))))))))))))))))))))))))))))))))))))) :=
  And.intro @vw_dead (And.intro @vw_int (And.intro @vw_bool (And.intro @vw_str (And.intro @vw_imm (And.intro @vw_list (And.intro @vw_nil (And.intro @vw_lptr (And.intro @vw_ptr (And.intro @vw_iter (And.intro @vw_map (And.intro @vw_sl (And.intro @vw_fn (And.intro @vw_iface (And.intro @vw_slist (And.intro @vw_agg (And.intro @vw_tup (And.intro @vws_nil (And.intro @vws_cons (And.intro @vws_same (And.intro @cl_ptr (And.intro @cl_nil (And.intro @cl_cons (And.intro @cls_nil (And.intro @cls_cons (And.intro @clo_vec (And.intro @clo_iter (And.intro @clo_gone (And.intro @clo_map (And.intro @rc_def (And.intro @re_nil (And.intro @re_tmp (And.intro @re_cell (And.intro @rv_one (And.intro @rv_two (And.intro @cl_int (And.intro @cl_bool (And.intro @cl_str (And.intro @cl_imm (And.intro @cl_list (And.intro @cl_lptr (And.intro @cl_dead (And.intro @cl_sl (And.intro @cl_iter (And.intro @cl_map (And.intro @cl_agg (And.intro @cl_tup (And.intro @cl_iface (@cl_fn))))))))))))))))))))))))))))))))))))))))))))))))
end Go.Proofs.YtoiceinjademgaaDoor
