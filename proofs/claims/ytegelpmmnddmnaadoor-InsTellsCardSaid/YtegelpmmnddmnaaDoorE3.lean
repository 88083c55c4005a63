/-
  The last step, part 3: the table that the program's text lays.
-/
import Derived.Test.YtegelpmmnddmnaaDoorRows
import Derived.Test.YtegelpmmnddmnaaDoorTie
import Derived.Test.YtegelpmmnddmnaaDoorE1
import Derived.Test.YtegelpmmnddmnaaDoorK1
import Derived.LaidMore
import Derived.Stop.Joined
namespace Go.Proofs.YtegelpmmnddmnaaDoor
open Go.ChangeShapes Go.WideShapes Go.ChangeAt Go.RowKit
set_option linter.unusedVariables false
set_option linter.unusedSimpArgs false
set_option maxRecDepth 100000

theorem own_ok : ownKnob Tryd.prog.godebug = none := by kernel_rfl
theorem laid_ok : laidOutB Tryd.prog = true := by kernel_rfl

def laidL {H : Type} : List (String × DataW H) := [("joinery/ins.shapes", Rows.laid_joinery_ins_shapes)]

theorem door_met (os : Os) (args : Array Value) : laidMetH Tryd.prog laidL ((World.doorLaid Tryd.prog 400 os).forCall (fun _ _ => 0) ⟨#[], args, []⟩).memory :=
  laidMetH_of_parts3 (fuel := 8) (laidMet_of_run' 8 (by kernel_rfl) (by kernel_rfl)) (by kernel_rfl) (by kernel_rfl)

theorem gShapes : Tryd.prog.globalNamed "joinery/ins.shapes" = some 0 := by kernel_rfl

noncomputable def tblT : TypeId := ((Tryd.prog.globals[0]?).map (·.type)).getD 0
theorem tShapes : (Tryd.prog.globals[0]?).map (·.type) = some tblT := by kernel_rfl
noncomputable def elT : TypeId := match Tryd.prog.underlying tblT with | some (.array _ e) => e | _ => 0
theorem uTbl : Tryd.prog.underlying tblT = some (.array 18 elT) := by kernel_rfl
noncomputable def elF : Array Field := match Tryd.prog.underlying elT with | some (.struct fs) => fs | _ => #[]
theorem uEl : Tryd.prog.underlying elT = some (.struct #[elF.getD 0 default, elF.getD 1 default]) := by kernel_rfl
theorem uF0 : Tryd.prog.underlying (elF.getD 0 default).type = some .string := by kernel_rfl
theorem uF1 : Tryd.prog.underlying (elF.getD 1 default).type = some .string := by kernel_rfl
theorem oF0 : (elF.getD 0 default).offset = 0 := by kernel_rfl
theorem oF1 : (elF.getD 1 default).offset = 1 := by kernel_rfl
theorem cF0 : Tryd.prog.cellsOf (elF.getD 0 default).type = 1 := by kernel_rfl
theorem cF1 : Tryd.prog.cellsOf (elF.getD 1 default).type = 1 := by kernel_rfl
theorem cEl : Tryd.prog.cellsOf elT = 2 := by kernel_rfl

theorem laid_eq {H : Type} : (Rows.laid_joinery_ins_shapes : DataW H) = .agg (shapeTbl.map fun p => .agg [.lit (.string p.1.data.toList), .lit (.string p.2.data.toList)]) := rfl

theorem glob_of_laid {W : World} (h : laidMetH Tryd.prog laidL W) : GlobOk ⟨fun _ => none, [], W⟩ := by
  unfold laidL at h
  rw [MakeChecks.laidMetH_plain _ _ _ (by kernel_rfl)] at h
  obtain ⟨ps, ⟨g0, t0, cs0, f0, p0, q0, hg0, ht0, hv0, hd0, _⟩, _⟩ := h
  obtain rfl := Option.some.inj (gShapes.symm.trans hg0)
  obtain rfl := Option.some.inj (tShapes.symm.trans ht0)
  obtain ⟨xs, m, rfl, hx, hlen, hn, hel⟩ := DataW.trod_array uTbl hd0
  rw [laid_eq] at hx
  simp only [Prod.mk.injEq, DataW.agg.injEq] at hx
  have hx1 := hx.1
  clear hx hd0
  have hcell : ∀ j, W.cell? ⟨0, j, none⟩ = cs0.toList[j]? := fun j => by
    have := World.var?_cell gShapes hv0 j
    simpa using this
  have key : ∀ i : Nat, i < 18 → cs0.toList[i * 2]? = some (.string (bs (wordL ((i + 1 : Nat) : Int)))) ∧ cs0.toList[i * 2 + 1]? = some (.string (bs (fieldL ((i + 1 : Nat) : Int)))) := fun i hi => by
    have h1 := hel i hi
    rw [List.getElem?_eq_getElem (by omega)] at h1
    obtain ⟨y0, y1, n, e1, _, h2, h3⟩ := trod_struct2 uEl h1
    rw [cEl, oF0, cF0] at h2
    rw [cEl, oF1, cF1] at h3
    obtain ⟨s0, g1, g2, _⟩ := DataW.trod_string uF0 h2
    obtain ⟨s1, g3, g4, _⟩ := DataW.trod_string uF1 h3
    have e2 : (xs.map (·.1))[i]? = some xs[i].1 := by rw [List.getElem?_map, List.getElem?_eq_getElem (by omega)]; rfl
    rw [← hx1, e1, List.getElem?_map, List.getElem?_eq_getElem (by exact hi)] at e2
    simp only [Option.map_some, Option.some.injEq, DataW.agg.injEq, List.cons.injEq, and_true, g2, g4, DataW.lit.injEq, Lit.string.injEq] at e2
    have hw : wordL ((i + 1 : Nat) : Int) = (shapeTbl[i]'hi).1.data.toList := by
      unfold wordL shapeOf
      rw [show (((i + 1 : Nat) : Int) - 1).toNat = i by omega, List.getD_eq_getElem?_getD, List.getElem?_eq_getElem (by exact hi)]
      rfl
    have hf : fieldL ((i + 1 : Nat) : Int) = (shapeTbl[i]'hi).2.data.toList := by
      unfold fieldL shapeOf
      rw [show (((i + 1 : Nat) : Int) - 1).toNat = i by omega, List.getD_eq_getElem?_getD, List.getElem?_eq_getElem (by exact hi)]
      rfl
    have k0 : s0 = bs (wordL ((i + 1 : Nat) : Int)) := by rw [hw, e2.1]; exact bs_of s0
    have k1 : s1 = bs (fieldL ((i + 1 : Nat) : Int)) := by rw [hf, e2.2]; exact bs_of s1
    rw [← k0, ← k1]
    have f0 := congrArg (fun l => l[0]?) g1
    have f1 := congrArg (fun l => l[0]?) g3
    simp at f0 f1
    exact ⟨by simpa using f0, by simpa using f1⟩
  obtain ⟨row, hr, hl, -, hcr, hd⟩ := shape_tbl
  intro g row' hg
  have hrow : row' = row := by
    unfold GT at hg
    split at hg
    · simp only [Option.some.injEq] at hg
      rw [← hg, hr]
    · simp at hg
  have hg0' : g = 0 := by
    unfold GT at hg
    split at hg
    · assumption
    · simp at hg
  subst hrow hg0'
  refine ⟨fun h => by rw [h] at hl; simp at hl, fun ⟨_, _, h1, _⟩ => by simp at h1, fun j a ha => ?_⟩
  have hj : j < 36 := by rw [← hl]; exact (List.getElem?_eq_some_iff.1 ha).1
  obtain ⟨i, hi⟩ : ∃ i, j = i * 2 ∨ j = i * 2 + 1 := ⟨j / 2, by omega⟩
  have hd := hd i (by omega)
  have hk := key i (by omega)
  rcases hi with rfl | rfl
  · have e1 : row'[i * 2]? = some (.str (bs (wordL ((i + 1 : Nat) : Int)))) := by
      have := congrArg (fun l => l[0]?) hd
      simpa [List.getElem?_take] using this
    rw [e1] at ha
    simp only [Option.some.injEq] at ha
    subst ha
    exact ⟨rfl, _, (hcell _).trans hk.1, .str _⟩
  · have e1 : row'[i * 2 + 1]? = some (.str (bs (fieldL ((i + 1 : Nat) : Int)))) := by
      have := congrArg (fun l => l[1]?) hd
      simpa [List.getElem?_take] using this
    rw [e1] at ha
    simp only [Option.some.injEq] at ha
    subst ha
    exact ⟨rfl, _, (hcell _).trans hk.2, .str _⟩
end Go.Proofs.YtegelpmmnddmnaaDoor
