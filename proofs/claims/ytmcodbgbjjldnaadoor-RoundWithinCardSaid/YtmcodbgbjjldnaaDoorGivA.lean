/- What the walks of this claim share: the tables that stand in the world (Glob), the step over a call that the model stands in for, and the contract of forms.Of. -/
import Derived.Test.YtmcodbgbjjldnaaDoorProg
import Derived.WalkKit
import Derived.Lib.TrailingZeros
import Derived.Laws.Externs
import Derived.Laws.Bits64b
import Derived.Test.YtmcodbgbjjldnaaDoorWWords
import Derived.Test.YtmcodbgbjjldnaaDoorWLast
import Derived.Test.YtmcodbgbjjldnaaDoorWMore
set_option linter.unusedVariables false
set_option linter.unusedSimpArgs false
namespace Go.Proofs.YtmcodbgbjjldnaaDoor.Pr
open Go.RowKit Go.Proofs.YtmcodbgbjjldnaaDoorW.PrintWords Go.Proofs.YtmcodbgbjjldnaaDoorW.PrintLast Go.Proofs.YtmcodbgbjjldnaaDoorW.PrintMore

/-- The rows of the table of forms: kind, width, mantissa, bias, greatest, infinity, no number. -/
def FT : List Int := [0, 0, 0, 0, 0, 0, 0,
  1, 8, 0, 0, 127, 0, 128,
  1, 16, 0, 0, 32767, 0, 32768,
  1, 32, 0, 0, 2147483647, 0, 2147483648,
  1, 64, 0, 0, 9223372036854775807, 0, 9223372036854775808,
  2, 8, 3, 7, 126, 0, 127,
  2, 8, 2, 15, 123, 124, 126,
  2, 6, 2, 3, 31, 0, 0,
  2, 6, 3, 1, 31, 0, 0,
  2, 4, 1, 1, 7, 0, 0,
  3, 8, 6, 0, 127, 0, 0,
  4, 8, 0, 127, 254, 0, 255,
  2, 16, 10, 15, 31743, 31744, 32256,
  2, 32, 23, 127, 2139095039, 2139095040, 2143289344,
  2, 64, 52, 1023, 9218868437227405311, 9218868437227405312, 9221120237041090560]
/-- Entry j of row i. -/
def ft (i j : Nat) : Int := FT.getD (i * 7 + j) 0

/-- The two listed variables hold their tables. -/
structure Glob (w : World) : Prop where
  tz : ∀ j, j < 64 → w.cell? ⟨1, j, none⟩ = some (.int .u8 (Lib.deBruijn64tab.getD j 0))
  k0 : ∀ i, i < 15 → w.cell? ⟨0, i * 7, none⟩ = some (.int .i64 (ft i 0))
  k1 : ∀ i, i < 15 → w.cell? ⟨0, i * 7 + 1, none⟩ = some (.int .i64 (ft i 1))
  k2 : ∀ i, i < 15 → w.cell? ⟨0, i * 7 + 2, none⟩ = some (.int .i64 (ft i 2))
  k3 : ∀ i, i < 15 → w.cell? ⟨0, i * 7 + 3, none⟩ = some (.int .i64 (ft i 3))
  k4 : ∀ i, i < 15 → w.cell? ⟨0, i * 7 + 4, none⟩ = some (.int .u64 (ft i 4))
  k5 : ∀ i, i < 15 → w.cell? ⟨0, i * 7 + 5, none⟩ = some (.int .u64 (ft i 5))
  k6 : ∀ i, i < 15 → w.cell? ⟨0, i * 7 + 6, none⟩ = some (.int .u64 (ft i 6))

theorem Glob.below {w w' : World} (h : Glob w) (hb : Below w.heap.size w w') : Glob w' where
  tz j hj := pw_cell_below hb (h.tz j hj)
  k0 i hi := pw_cell_below hb (h.k0 i hi)
  k1 i hi := pw_cell_below hb (h.k1 i hi)
  k2 i hi := pw_cell_below hb (h.k2 i hi)
  k3 i hi := pw_cell_below hb (h.k3 i hi)
  k4 i hi := pw_cell_below hb (h.k4 i hi)
  k5 i hi := pw_cell_below hb (h.k5 i hi)
  k6 i hi := pw_cell_below hb (h.k6 i hi)

section
variable {P : Program} {ops : Array Oper} {Q : Exit → Act → World → Prop}
theorem extL_ {rest : List Oper} {oi : Oper} {a : Act} {w : World} (N : Option Tmp) (hd : oi.dst = N) (hg : oi.guard = none) {f : FuncId} {xs : Array Operand} {ts : Array TypeId} (args : Array Value) (v : Value)
    (hop : oi.op = .call { callee := .value (.func f), args := xs, argTypes := ts }) (hargs : xs.map a.eval = args)
    (hrun : (callFunc f args).run P w = .ok (.value v) w)
    (h : wpList P ops Q rest (a.put N v) w) : wpList P ops Q (oi :: rest) a w := by
  refine wpList_plain hg fun K hK => ?_
  have hrun : (execOp a.eval oi).run P w = .ok (.value v) w := by
    unfold execOp
    simp [hop, resolve, Deferred.ofValue, invoke, Act.eval, hargs, hrun]
  unfold Oper.wp
  rw [hrun]
  subst hd
  exact hK _ _ h
end

def forms_Of.f (a0 : Int) : Option (Int × Int × Int × Int × Int × Int × Int × Int) :=
  if a0 < 1 then some (0, 0, 0, 0, 0, 0, 0, 3) else if 15 ≤ a0 then some (0, 0, 0, 0, 0, 0, 0, 3)
  else some (ft a0.toNat 0, ft a0.toNat 1, ft a0.toNat 2, ft a0.toNat 3, ft a0.toNat 4, ft a0.toNat 5, ft a0.toNat 6, 0)

set_option maxHeartbeats 1000000 in
set_option maxRecDepth 100000 in
theorem forms_Of.calls (a0 : Int) (r1 r2 r3 r4 r5 r6 r7 r8 : Int) (w : World) (hG : Glob w) (h : forms_Of.f a0 = some (r1, r2, r3, r4, r5, r6, r7, r8)) :
    Calls Tryd.prog 23 #[.int .i64 a0] w fun e w' => e = .returned (.tuple #[.agg #[.int .i64 r1, .int .i64 r2, .int .i64 r3, .int .i64 r4, .int .u64 r5, .int .u64 r6, .int .u64 r7], .int .i64 r8]) ∧ Below w.heap.size w w' := by
  unfold forms_Of.f at h
  by_cases c1 : a0 < 1
  · rw [if_pos c1] at h
    simp only [Option.some.injEq, Prod.mk.injEq] at h
    obtain ⟨rfl, rfl, rfl, rfl, rfl, rfl, rfl, rfl⟩ := h
    have b1 : decide (a0 < 1) = true := decide_eq_true c1
    go_enter Tryd.func23, Tryd.ntmps23
    go_wp2
    exact bodyPost_ret (v := .tuple #[.agg #[.int .i64 0, .int .i64 0, .int .i64 0, .int .i64 0, .int .u64 0, .int .u64 0, .int .u64 0], .int .i64 3]) (by simp [results, Tryd.results23, go_sem]) rfl ⟨rfl, below_alloc (Below.refl _ _) _⟩
  · rw [if_neg c1] at h
    have b1 : decide (a0 < 1) = false := decide_eq_false c1
    by_cases c2 : 15 ≤ a0
    · rw [if_pos c2] at h
      simp only [Option.some.injEq, Prod.mk.injEq] at h
      obtain ⟨rfl, rfl, rfl, rfl, rfl, rfl, rfl, rfl⟩ := h
      have b2 : decide (15 ≤ a0) = true := decide_eq_true c2
      go_enter Tryd.func23, Tryd.ntmps23
      go_wp2
      exact bodyPost_ret (v := .tuple #[.agg #[.int .i64 0, .int .i64 0, .int .i64 0, .int .i64 0, .int .u64 0, .int .u64 0, .int .u64 0], .int .i64 3]) (by simp [results, Tryd.results23, go_sem]) rfl ⟨rfl, below_alloc (Below.refl _ _) _⟩
    · rw [if_neg c2] at h
      have b2 : decide (15 ≤ a0) = false := decide_eq_false c2
      simp only [Option.some.injEq, Prod.mk.injEq] at h
      obtain ⟨rfl, rfl, rfl, rfl, rfl, rfl, rfl, rfl⟩ := h
      obtain ⟨i, rfl⟩ := Int.eq_ofNat_of_zero_le (show 0 ≤ a0 by omega)
      have hi : i < 15 := by omega
      have hz : 0 < w.heap.size := World.block_lt_of_cell? w _ (hG.k0 i hi)
      have q0 := fun o => (World.cell?_alloc_lt w o ⟨0, i * 7, none⟩ hz).trans (hG.k0 i hi)
      have q1 := fun o => (World.cell?_alloc_lt w o ⟨0, i * 7 + 1, none⟩ hz).trans (hG.k1 i hi)
      have q2 := fun o => (World.cell?_alloc_lt w o ⟨0, i * 7 + 2, none⟩ hz).trans (hG.k2 i hi)
      have q3 := fun o => (World.cell?_alloc_lt w o ⟨0, i * 7 + 3, none⟩ hz).trans (hG.k3 i hi)
      have q4 := fun o => (World.cell?_alloc_lt w o ⟨0, i * 7 + 4, none⟩ hz).trans (hG.k4 i hi)
      have q5 := fun o => (World.cell?_alloc_lt w o ⟨0, i * 7 + 5, none⟩ hz).trans (hG.k5 i hi)
      have q6 := fun o => (World.cell?_alloc_lt w o ⟨0, i * 7 + 6, none⟩ hz).trans (hG.k6 i hi)
      clear hG
      go_enter Tryd.func23, Tryd.ntmps23
      go_wp2
      exact bodyPost_ret (v := .tuple #[.agg #[.int .i64 (ft i 0), .int .i64 (ft i 1), .int .i64 (ft i 2), .int .i64 (ft i 3), .int .u64 (ft i 4), .int .u64 (ft i 5), .int .u64 (ft i 6)], .int .i64 0]) (by simp [results, Tryd.results23, go_sem]) rfl ⟨rfl, below_alloc (Below.refl _ _) _⟩

end Go.Proofs.YtmcodbgbjjldnaaDoor.Pr
