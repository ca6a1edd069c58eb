/- Patterns as whole numbers: value.Pattern, and the parts of a pattern. -/
import Derived.Test.YtmcodbgbjjldnaaDoorNear
import Derived.Test.YtmcodbgbjjldnaaDoorGivG0
import Derived.Laws.BitsAllLaws
set_option linter.unusedVariables false
set_option linter.unusedSimpArgs false
namespace Go.Proofs.YtmcodbgbjjldnaaDoor.Pr
open Go.RowKit Go.Proofs.YtmcodbgbjjldnaaDoorW.PrintWords Go.Proofs.YtmcodbgbjjldnaaDoorW.PrintLast Go.Proofs.YtmcodbgbjjldnaaDoorW.PrintMore

theorem form_facts {id : Int} (h1 : 1 ≤ id) (h2 : id ≤ 14) :
    forms_Form_Mask.f (ft id.toNat 0) (ft id.toNat 1) (ft id.toNat 2) (ft id.toNat 3) (ft id.toNat 4) (ft id.toNat 5) (ft id.toNat 6) = some ((2 ^ wid id - 1 : Nat) : Int) ∧
    forms_Form_Sign.f (ft id.toNat 0) (ft id.toNat 1) (ft id.toNat 2) (ft id.toNat 3) (ft id.toNat 4) (ft id.toNat 5) (ft id.toNat 6) = some (if ft id.toNat 0 = 4 then 0 else ((2 ^ (wid id - 1) : Nat) : Int)) ∧
    (ft id.toNat 0 = 2 → mostK id true < 2 ^ (wid id - 1) ∧ mostK id false < 2 ^ (wid id - 1)) ∧
    (ft id.toNat 0 = 1 → mostK id true + 1 = 2 ^ (wid id - 1) ∧ mostK id false + 1 = 2 ^ (wid id - 1) ∧ ft id.toNat 6 = ((2 ^ (wid id - 1) : Nat) : Int) ∧ ft id.toNat 5 = 0) ∧
    (ft id.toNat 0 = 3 → mostK id true = 2 ^ (wid id - 1) ∧ mostK id false + 1 = 2 ^ (wid id - 1) ∧ ft id.toNat 6 = 0 ∧ ft id.toNat 5 = 0 ∧ id = 10) ∧
    (ft id.toNat 0 = 4 → mostK id false = 254 ∧ ft id.toNat 6 = 255 ∧ ft id.toNat 5 = 0 ∧ id = 11 ∧ wid id = 8) ∧ (id = 11 → ft id.toNat 0 = 4) ∧ (id = 10 → ft id.toNat 0 = 3) ∧
    (1 ≤ ft id.toNat 0 ∧ ft id.toNat 0 ≤ 4) ∧ 4 ≤ wid id ∧ (1 ≤ mostK id false ∧ 1 ≤ mostK id true) ∧
    (ft id.toNat 0 = 2 → ft id.toNat 4 = (mostK id false : Int) ∧ mostK id true = mostK id false ∧ (ft id.toNat 5 = 0 ∨ ft id.toNat 5 = (mostK id false : Int) + 1) ∧ (ft id.toNat 6 = 0 ∨ ((mostK id false : Int) < ft id.toNat 6 ∧ ft id.toNat 6 < ((2 ^ (wid id - 1) : Nat) : Int))) ∧ (ft id.toNat 6 = 0 → ft id.toNat 5 = 0) ∧ (ft id.toNat 5 ≠ 0 → ft id.toNat 5 ≠ ft id.toNat 6)) := by
  obtain rfl | rfl | rfl | rfl | rfl | rfl | rfl | rfl | rfl | rfl | rfl | rfl | rfl | rfl : id = 1 ∨ id = 2 ∨ id = 3 ∨ id = 4 ∨ id = 5 ∨ id = 6 ∨ id = 7 ∨ id = 8 ∨ id = 9 ∨ id = 10 ∨ id = 11 ∨ id = 12 ∨ id = 13 ∨ id = 14 := by omega
  all_goals exact ⟨by decide +kernel, by decide +kernel, by decide +kernel, by decide +kernel, by decide +kernel, by decide +kernel, by decide +kernel, by decide +kernel, by decide +kernel, by decide +kernel, by decide +kernel, by decide +kernel⟩

end Go.Proofs.YtmcodbgbjjldnaaDoor.Pr
