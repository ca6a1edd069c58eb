/- An exact number that a call is handed, laid open. -/
import Derived.Test.YtmcodbgbjjldnaaDoorGlob
import Derived.WalkKit
import Derived.OpenShut
import Derived.ShutString
import Derived.ChangeOld
import Derived.Below
import Derived.SizedLaws
import Derived.SevenTiedAt
set_option linter.unusedVariables false
set_option linter.unusedSimpArgs false
namespace Go.Proofs.YtmcodbgbjjldnaaDoor.Pr
open Go.RowKit Go.ChangeShapes Go.WideShapes Go.ChangeAt Go.Proofs.YtmcodbgbjjldnaaDoorW.PrintWords Go.Proofs.YtmcodbgbjjldnaaDoorW.PrintLast Go.Proofs.YtmcodbgbjjldnaaDoorW.PrintMore

set_option maxRecDepth 100000 in
theorem open_exact {H : Type} {enc : TypeId × Value → H} {W : World} {r : Reach} {b0 : Nat} {v : Value} {d : DataW H} {ps : List MemPlace}
    (hval : Value.okWide Tryd.prog W r b0 25 v) (h : DataW.Trod enc Tryd.prog W 0 (fun _ => true) true 25 v d ps) :
    ∃ (n : Bool) (A : Option Addr) (c : Nat) (l : List Int) (t f : Int), v = .agg #[.bool n, .slice A l.length c, .int .i64 t, .int .i64 f] ∧ Kd.C (Kd.int .u64) W A l.length l ∧ l.length ≤ maxLen ∧ (∀ x ∈ l, (Lit.int .u64 x).wf = true) ∧ l.length ≤ c ∧ (Lit.int .i64 t).wf = true ∧ (Lit.int .i64 f).wf = true := by
  obtain ⟨cs, rfl, hcs⟩ := okWide_struct Tryd.underlying25 hval
  obtain ⟨fuel, hf⟩ := h
  obtain ⟨xs, m, rfl, hx, hlen, hn, hel⟩ := DataW.trod_struct Tryd.underlying25 hf
  have cE : Tryd.prog.cellsOf 25 = 4 := by kernel_rfl
  have cb : Tryd.prog.cellsOf 4 = 1 := by kernel_rfl
  have cn : Tryd.prog.cellsOf 23 = 1 := by kernel_rfl
  have ci : Tryd.prog.cellsOf 3 = 1 := by kernel_rfl
  have cl : (Value.agg cs).cells.toList = cs.toList := by rfl
  rw [cl] at hel
  have l4 : cs.toList.length = 4 := by rw [Array.length_toList, hcs, cE]
  have x4 : xs.length = 4 := hn
  obtain ⟨cl0⟩ := cs
  simp only at l4 hel
  match cl0, l4, xs, x4, hel with
  | [c0, c1, c2, c3], _, [x0, x1, x2, x3], _, hel =>
    have b0 : DataW.trod enc Tryd.prog W 0 (fun _ => true) true m 4 ((([c0, c1, c2, c3] : List Value).drop 0).take (Tryd.prog.cellsOf 4)) = some x0 := hel 0 _ rfl
    have b1 : DataW.trod enc Tryd.prog W 0 (fun _ => true) true m 23 ((([c0, c1, c2, c3] : List Value).drop 1).take (Tryd.prog.cellsOf 23)) = some x1 := hel 1 _ rfl
    have b2 : DataW.trod enc Tryd.prog W 0 (fun _ => true) true m 3 ((([c0, c1, c2, c3] : List Value).drop 2).take (Tryd.prog.cellsOf 3)) = some x2 := hel 2 _ rfl
    have b3 : DataW.trod enc Tryd.prog W 0 (fun _ => true) true m 3 ((([c0, c1, c2, c3] : List Value).drop 3).take (Tryd.prog.cellsOf 3)) = some x3 := hel 3 _ rfl
    rw [cb] at b0
    rw [cn] at b1
    rw [ci] at b2 b3
    obtain ⟨n, e0, _⟩ := DataW.trod_bool Tryd.underlying4 b0
    obtain ⟨t, e2, _, wt⟩ := DataW.trod_int Tryd.underlying3 b2
    obtain ⟨f, e3, _, wf⟩ := DataW.trod_int Tryd.underlying3 b3
    have f0 : c0 = .bool n := by simpa using e0
    have f2 : c2 = .int .i64 t := by simpa using e2
    have f3 : c3 = .int .i64 f := by simpa using e3
    subst f0 f2 f3
    have key : ∃ (A : Option Addr) (len c : Nat) (zs : List Int), c1 = .slice A len c ∧ ((A = none ∧ len = 0 ∧ c = 0 ∧ zs = []) ∨ ∃ x, A = some x ∧ len ≤ c ∧ c ≤ maxLen ∧ zs.length = c ∧ (∀ i, i < zs.length → W.cell? (x.add i) = some (.int .u64 (zs.getD i 0))) ∧ ∀ n ∈ zs, (Lit.int .u64 n).wf = true) := by
      rcases open_ints Tryd.underlying23 Tryd.underlying28 (by kernel_rfl) b1 with ⟨e1, _⟩ | ⟨x, len, c, zs, e1, _, hl, hm, hz, _, hcell, hwz⟩
      · exact ⟨none, 0, 0, [], by simpa using e1, .inl ⟨rfl, rfl, rfl, rfl⟩⟩
      · exact ⟨some x, len, c, zs, by simpa using e1, .inr ⟨x, rfl, hl, hm, by simpa using hz, hcell, hwz⟩⟩
    obtain ⟨A, len, c, zs, rfl, hrow⟩ := key
    obtain ⟨l, rfl, hr, hm, hw, hc⟩ := ReadsInt.ofRowC hrow
    exact ⟨n, A, c, l, t, f, rfl, Kd.C_of_reads (d := (0 : Int)) (h1 := fun _ => rfl) hr, hm, hw, hc, wt, wf⟩
end Go.Proofs.YtmcodbgbjjldnaaDoor.Pr
