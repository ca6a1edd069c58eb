/- What becomes of a value in a form: the plain part of layer 14. -/
import Derived.Test.YtnbkjlebphmpnaaDoorVal
set_option linter.unusedVariables false
set_option linter.unusedSimpArgs false
namespace Go.Proofs.YtnbkjlebphmpnaaDoor.Pr
open Go.RowKit Go.Proofs.YtnbkjlebphmpnaaDoorW.PrintWords Go.Proofs.YtnbkjlebphmpnaaDoorW.PrintLast Go.Proofs.YtnbkjlebphmpnaaDoorW.PrintMore

theorem rt_huge : Rt [1] 4000 0 := ⟨Ws.mk_cons (by decide) (by decide) Ws.nil, fun x h => by simp at h; omega, by decide, by decide, by decide⟩
theorem huge_within {id : Int} (h1 : 1 ≤ id) (h2 : id ≤ 14) {neg : Bool} (hn : ¬ (neg = true ∧ id = 11)) : round_within.f 200 id false [1] 4000 0 (mostK id neg : Int) = some false := by
  obtain rfl | rfl | rfl | rfl | rfl | rfl | rfl | rfl | rfl | rfl | rfl | rfl | rfl | rfl : id = 1 ∨ id = 2 ∨ id = 3 ∨ id = 4 ∨ id = 5 ∨ id = 6 ∨ id = 7 ∨ id = 8 ∨ id = 9 ∨ id = 10 ∨ id = 11 ∨ id = 12 ∨ id = 13 ∨ id = 14 := by omega
  all_goals cases neg
  all_goals first
    | exact absurd ⟨rfl, rfl⟩ hn
    | decide +kernel
theorem huge_wt {id : Int} (h1 : 1 ≤ id) (h2 : id ≤ 14) {neg : Bool} (hn : ¬ (neg = true ∧ id = 11)) : wt id (mag [1] 4000 0) (mostK id neg) = false := by
  obtain ⟨_, m2, _⟩ := most_spec h1 h2 neg hn
  obtain ⟨K, hK⟩ := wt_spec h1 h2 m2 (n := false) rt_huge
  obtain ⟨K', hK'⟩ := Ev.mono (fun k => round_within.mono _ _ _ _ _ _ k) (huge_within h1 h2 hn)
  have a := hK (max K K') (by omega)
  have b := hK' (max K K') (by omega)
  simp only at a b
  rw [a] at b
  exact Option.some.inj b

/-- What a value becomes in a form. -/
def VTo (to_ mode c : Int) (b : Bool) (m e q : Int) : Prop :=
  (c = 4 ∧ q = ft to_.toNat 6) ∨ (c = 3 ∧ (((ft to_.toNat 0 = 1 ∨ (ft to_.toNat 0 = 4 ∧ b = true)) ∧ q = ft to_.toNat 6) ∨ (¬ (ft to_.toNat 0 = 1 ∨ (ft to_.toNat 0 = 4 ∧ b = true)) ∧ q = largeN to_ mode b))) ∨
  ((c = 1 ∨ c = 2) ∧ ∃ l t, exact_Of.f c b m e = some (b, l, t, 0, true) ∧ Rt l t 0 ∧ RoundTo to_ mode b l (mag l t 0) q)
end Go.Proofs.YtnbkjlebphmpnaaDoor.Pr
