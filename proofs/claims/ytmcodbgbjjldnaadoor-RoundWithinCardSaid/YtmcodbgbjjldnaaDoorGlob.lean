/- What the listed variables' data give the walks. -/
import Derived.Test.YtmcodbgbjjldnaaDoorGivA
import Derived.Test.YtmcodbgbjjldnaaDoorRows
import Derived.ProofKit
import Derived.LaidMore
import Derived.OpenShut
import Derived.Stop.Joined
import Derived.MakeChecks
set_option linter.unusedVariables false
set_option linter.unusedSimpArgs false
namespace Go.Proofs.YtmcodbgbjjldnaaDoor.Pr
open Go.RowKit Go.ChangeShapes

theorem gForms : Tryd.prog.globalNamed "caliper/forms.forms" = some 0 := by kernel_rfl
theorem gTab : Tryd.prog.globalNamed "math/bits.deBruijn64tab" = some 1 := by kernel_rfl
theorem tForms : (Tryd.prog.globals[0]?).map (·.type) = some 87 := by kernel_rfl
theorem tTab : (Tryd.prog.globals[1]?).map (·.type) = some 145 := by kernel_rfl
def laidL : List (String × DataW Unit) := [("math/bits.deBruijn64tab", Rows.laid_math_bits_deBruijn64tab), ("caliper/forms.forms", Rows.laid_caliper_forms_forms)]

/-- A number's cell, from what it reads as. -/
theorem int_of_trod {H : Type} {enc : TypeId × Value → H} {P : Program} {w : World} {base : Nat} {spare : Nat → Bool} {held : Bool} {fuel : Nat} {t : TypeId} {cs : List Value} {x : DataW H × List MemPlace} {k : IntKind}
    (ht : P.underlying t = some (.int k)) (h : DataW.trod enc P w base spare held fuel t cs = some x) : ∃ z : Int, cs = [.int k z] ∧ x.1 = .lit (.int k z) := by
  cases fuel with
  | zero => simp [DataW.trod] at h
  | succ m =>
    unfold DataW.trod at h
    rw [ht] at h
    split at h <;> simp_all
    rw [← h.2]

theorem tab_map : (Rows.laid_math_bits_deBruijn64tab : DataW Unit) = .agg (Lib.deBruijn64tab.map fun z => .lit (.int .u8 (z : Nat))) := by rfl
theorem tab_len : Lib.deBruijn64tab.length = 64 := by rfl
theorem forms_map : (Rows.laid_caliper_forms_forms : DataW Unit) = .agg ((List.range 15).map fun i => .agg [.lit (.int .i64 (ft i 0)), .lit (.int .i64 (ft i 1)), .lit (.int .i64 (ft i 2)), .lit (.int .i64 (ft i 3)), .lit (.int .u64 (ft i 4)), .lit (.int .u64 (ft i 5)), .lit (.int .u64 (ft i 6))]) := by rfl
theorem one_cell {cs : List Value} {o : Nat} {v : Value} (h : (cs.drop o).take 1 = [v]) : cs[o]? = some v := by
  have := congrArg (fun l : List Value => l[0]?) h
  simpa [List.getElem?_take, List.getElem?_drop] using this
theorem in_row {cs : List Value} {i j : Nat} {v : Value} (hj : j < 7) (h : ((cs.drop (i * 7)).take 7)[j]? = some v) : cs[i * 7 + j]? = some v := by
  rw [List.getElem?_take, if_pos hj, List.getElem?_drop] at h
  exact h
theorem glob_of_laid {W : World} (h : laidMetH Tryd.prog laidL W) : Glob W := by
  rw [MakeChecks.laidMetH_plain _ _ _ (by kernel_rfl)] at h
  obtain ⟨ps, ⟨g0, t0, cs0, f0, p0, q0, hg0, ht0, hv0, hd0, ⟨g1, t1, cs1, f1, p1, q1, hg1, ht1, hv1, hd1, _, _⟩, _⟩, _, _⟩ := h
  obtain rfl := Option.some.inj (gTab.symm.trans hg0)
  obtain rfl := Option.some.inj (gForms.symm.trans hg1)
  obtain rfl := Option.some.inj (tTab.symm.trans ht0)
  obtain rfl := Option.some.inj (tForms.symm.trans ht1)
  have c5 : Tryd.prog.cellsOf 5 = 1 := by kernel_rfl
  have ci : Tryd.prog.cellsOf 3 = 1 := by kernel_rfl
  have cu : Tryd.prog.cellsOf 28 = 1 := by kernel_rfl
  have cF : Tryd.prog.cellsOf 51 = 7 := by kernel_rfl
  have tab : ∀ j, j < 64 → W.cell? ⟨1, j, none⟩ = some (.int .u8 (Lib.deBruijn64tab.getD j 0)) := by
    rw [tab_map] at hd0
    obtain ⟨xs, m1, rfl, hx1, hlen, hn, hel⟩ := DataW.trod_array Tryd.underlying145 hd0
    intro j hj
    have h1 := hel j hj
    rw [c5, Nat.mul_one] at h1
    have hxj : xs[j]? = some xs[j] := List.getElem?_eq_getElem (by omega)
    rw [hxj] at h1
    obtain ⟨z, e1, e2⟩ := int_of_trod Tryd.underlying5 h1
    rw [World.var?_cell hg0 hv0 j]
    have e3 := one_cell e1
    have e4 : Lib.deBruijn64tab.map (fun z => (DataW.lit (.int .u8 ((z : Nat) : Int)) : DataW Unit)) = xs.map (·.1) := by
      have := congrArg Prod.fst hx1
      exact DataW.agg.inj this
    have e5 := congrArg (fun l : List (DataW Unit) => l[j]?) e4
    simp only [List.getElem?_map, hxj, Option.map_some, e2] at e5
    have hj' : j < Lib.deBruijn64tab.length := by rw [tab_len]; exact hj
    rw [List.getElem?_eq_getElem hj', Option.map_some] at e5
    simp only [Option.some.injEq, DataW.lit.injEq, Lit.int.injEq, true_and] at e5
    rw [List.getD_eq_getElem?_getD, List.getElem?_eq_getElem hj', Option.getD_some, e5]
    rw [← Array.getElem?_toList]
    exact e3
  rw [forms_map] at hd1
  obtain ⟨xs, m1, rfl, hx1, hlen, hn, hel⟩ := DataW.trod_array Tryd.underlying87 hd1
  have e4 := DataW.agg.inj (congrArg Prod.fst hx1)
  have row : ∀ i, i < 15 → ∃ fld : Nat → Value, fld 0 = .int .i64 (ft i 0) ∧ fld 1 = .int .i64 (ft i 1) ∧ fld 2 = .int .i64 (ft i 2) ∧ fld 3 = .int .i64 (ft i 3) ∧ fld 4 = .int .u64 (ft i 4) ∧ fld 5 = .int .u64 (ft i 5) ∧ fld 6 = .int .u64 (ft i 6) ∧ ∀ j, j < 7 → W.cell? ⟨0, i * 7 + j, none⟩ = some (fld j) := by
    intro i hi
    have h1 := hel i hi
    rw [cF] at h1
    have hxi : xs[i]? = some xs[i] := List.getElem?_eq_getElem (by omega)
    rw [hxi] at h1
    have e5 := congrArg (fun l : List (DataW Unit) => l[i]?) e4
    have hr : (List.range 15)[i]? = some i := List.getElem?_range hi
    simp only [List.getElem?_map, hxi, hr, Option.map_some, Option.some.injEq] at e5
    obtain ⟨ys, m2, rfl, hy1, hylen, hyn, hyel⟩ := DataW.trod_struct Tryd.underlying51 h1
    rw [hy1] at e5
    have e6 := DataW.agg.inj e5
    have l7 : ys.length = 7 := hyn
    match ys, l7, e6, hyel with
    | [y0, y1, y2, y3, y4, y5, y6], _, e6, hyel =>
      simp only [List.map_cons, List.map_nil, List.cons.injEq, and_true] at e6
      obtain ⟨a0, a1, a2, a3, a4, a5, a6⟩ := e6
      have b0 : DataW.trod (fun _ => ()) Tryd.prog W 0 (fun _ => true) false m2 3 ((((cs1.toList.drop (i * 7)).take 7).drop 0).take (Tryd.prog.cellsOf 3)) = some y0 := hyel 0 _ rfl
      have b1 : DataW.trod (fun _ => ()) Tryd.prog W 0 (fun _ => true) false m2 3 ((((cs1.toList.drop (i * 7)).take 7).drop 1).take (Tryd.prog.cellsOf 3)) = some y1 := hyel 1 _ rfl
      have b2 : DataW.trod (fun _ => ()) Tryd.prog W 0 (fun _ => true) false m2 3 ((((cs1.toList.drop (i * 7)).take 7).drop 2).take (Tryd.prog.cellsOf 3)) = some y2 := hyel 2 _ rfl
      have b3 : DataW.trod (fun _ => ()) Tryd.prog W 0 (fun _ => true) false m2 3 ((((cs1.toList.drop (i * 7)).take 7).drop 3).take (Tryd.prog.cellsOf 3)) = some y3 := hyel 3 _ rfl
      have b4 : DataW.trod (fun _ => ()) Tryd.prog W 0 (fun _ => true) false m2 28 ((((cs1.toList.drop (i * 7)).take 7).drop 4).take (Tryd.prog.cellsOf 28)) = some y4 := hyel 4 _ rfl
      have b5 : DataW.trod (fun _ => ()) Tryd.prog W 0 (fun _ => true) false m2 28 ((((cs1.toList.drop (i * 7)).take 7).drop 5).take (Tryd.prog.cellsOf 28)) = some y5 := hyel 5 _ rfl
      have b6 : DataW.trod (fun _ => ()) Tryd.prog W 0 (fun _ => true) false m2 28 ((((cs1.toList.drop (i * 7)).take 7).drop 6).take (Tryd.prog.cellsOf 28)) = some y6 := hyel 6 _ rfl
      rw [ci] at b0 b1 b2 b3
      rw [cu] at b4 b5 b6
      obtain ⟨z0, c0, d0⟩ := int_of_trod Tryd.underlying3 b0
      obtain ⟨z1, c1, d1⟩ := int_of_trod Tryd.underlying3 b1
      obtain ⟨z2, c2, d2⟩ := int_of_trod Tryd.underlying3 b2
      obtain ⟨z3, c3, d3⟩ := int_of_trod Tryd.underlying3 b3
      obtain ⟨z4, c4, d4⟩ := int_of_trod Tryd.underlying28 b4
      obtain ⟨z5, c5', d5⟩ := int_of_trod Tryd.underlying28 b5
      obtain ⟨z6, c6, d6⟩ := int_of_trod Tryd.underlying28 b6
      rw [d0] at a0
      rw [d1] at a1
      rw [d2] at a2
      rw [d3] at a3
      rw [d4] at a4
      rw [d5] at a5
      rw [d6] at a6
      simp only [DataW.lit.injEq, Lit.int.injEq, true_and] at a0 a1 a2 a3 a4 a5 a6
      refine ⟨fun j => match j with | 0 => .int .i64 (ft i 0) | 1 => .int .i64 (ft i 1) | 2 => .int .i64 (ft i 2) | 3 => .int .i64 (ft i 3) | 4 => .int .u64 (ft i 4) | 5 => .int .u64 (ft i 5) | _ => .int .u64 (ft i 6), rfl, rfl, rfl, rfl, rfl, rfl, rfl, fun j hj => ?_⟩
      rw [World.var?_cell hg1 hv1, ← Array.getElem?_toList]
      refine in_row hj ?_
      rw [a0, a1, a2, a3, a4, a5, a6]
      obtain rfl | rfl | rfl | rfl | rfl | rfl | rfl : j = 0 ∨ j = 1 ∨ j = 2 ∨ j = 3 ∨ j = 4 ∨ j = 5 ∨ j = 6 := by omega
      · show ((cs1.toList.drop (i * 7)).take 7)[0]? = some (Value.int .i64 z0)
        exact one_cell (o := 0) c0
      · show ((cs1.toList.drop (i * 7)).take 7)[1]? = some (Value.int .i64 z1)
        exact one_cell (o := 1) c1
      · show ((cs1.toList.drop (i * 7)).take 7)[2]? = some (Value.int .i64 z2)
        exact one_cell (o := 2) c2
      · show ((cs1.toList.drop (i * 7)).take 7)[3]? = some (Value.int .i64 z3)
        exact one_cell (o := 3) c3
      · show ((cs1.toList.drop (i * 7)).take 7)[4]? = some (Value.int .u64 z4)
        exact one_cell (o := 4) c4
      · show ((cs1.toList.drop (i * 7)).take 7)[5]? = some (Value.int .u64 z5)
        exact one_cell (o := 5) c5'
      · show ((cs1.toList.drop (i * 7)).take 7)[6]? = some (Value.int .u64 z6)
        exact one_cell (o := 6) c6
  exact ⟨tab, fun i hi => by obtain ⟨f, q0, q1, q2, q3, q4, q5, q6, q⟩ := row i hi; exact (q 0 (by decide)).trans (congrArg some q0), fun i hi => by obtain ⟨f, q0, q1, q2, q3, q4, q5, q6, q⟩ := row i hi; exact (q 1 (by decide)).trans (congrArg some q1), fun i hi => by obtain ⟨f, q0, q1, q2, q3, q4, q5, q6, q⟩ := row i hi; exact (q 2 (by decide)).trans (congrArg some q2), fun i hi => by obtain ⟨f, q0, q1, q2, q3, q4, q5, q6, q⟩ := row i hi; exact (q 3 (by decide)).trans (congrArg some q3), fun i hi => by obtain ⟨f, q0, q1, q2, q3, q4, q5, q6, q⟩ := row i hi; exact (q 4 (by decide)).trans (congrArg some q4), fun i hi => by obtain ⟨f, q0, q1, q2, q3, q4, q5, q6, q⟩ := row i hi; exact (q 5 (by decide)).trans (congrArg some q5), fun i hi => by obtain ⟨f, q0, q1, q2, q3, q4, q5, q6, q⟩ := row i hi; exact (q 6 (by decide)).trans (congrArg some q6)⟩

/-- The door's own heap meets the condition: three closed facts. -/
theorem door_met (os : Os) (args : Array Value) : laidMetH Tryd.prog laidL ((World.doorLaid Tryd.prog 400 os).forCall (fun _ _ => 0) ⟨#[], args, []⟩).memory :=
  laidMetH_of_parts3 (fuel := 8) (laidMet_of_run' 8 (by kernel_rfl) (by kernel_rfl)) (by kernel_rfl) (by kernel_rfl)
theorem own : ownKnob Tryd.prog.godebug = none := by kernel_rfl
theorem laidOut : laidOutB Tryd.prog = true := by kernel_rfl
end Go.Proofs.YtmcodbgbjjldnaaDoor.Pr
