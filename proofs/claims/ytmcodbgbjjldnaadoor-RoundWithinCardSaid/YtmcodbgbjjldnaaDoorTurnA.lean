/- What becomes of a value in a form: the plain part of layer 14. -/
import Derived.Test.YtmcodbgbjjldnaaDoorVal
set_option linter.unusedVariables false
set_option linter.unusedSimpArgs false
namespace Go.Proofs.YtmcodbgbjjldnaaDoor.Pr
open Go.RowKit Go.Proofs.YtmcodbgbjjldnaaDoorW.PrintWords Go.Proofs.YtmcodbgbjjldnaaDoorW.PrintLast Go.Proofs.YtmcodbgbjjldnaaDoorW.PrintMore

def okLarge (id mode : Int) (neg : Bool) : Bool := match value_Decode.f id (largeN id mode neg) with
  | some (c, b, _, _, e) => e == 0 && ((c == 4 && b == false) || ((c == 2 || c == 3) && b == neg))
  | none => false
theorem large_decode {id mode : Int} (h1 : 1 ≤ id) (h2 : id ≤ 14) (hm : mode = 1 ∨ mode = 2) {neg : Bool} (hn : ¬ (neg = true ∧ id = 11)) :
    ∃ c b m e, value_Decode.f id (largeN id mode neg) = some (c, b, m, e, 0) ∧ ((c = 4 ∧ b = false) ∨ ((c = 2 ∨ c = 3) ∧ b = neg)) := by
  have h : okLarge id mode neg = true := by
    obtain rfl | rfl | rfl | rfl | rfl | rfl | rfl | rfl | rfl | rfl | rfl | rfl | rfl | rfl : id = 1 ∨ id = 2 ∨ id = 3 ∨ id = 4 ∨ id = 5 ∨ id = 6 ∨ id = 7 ∨ id = 8 ∨ id = 9 ∨ id = 10 ∨ id = 11 ∨ id = 12 ∨ id = 13 ∨ id = 14 := by omega
    all_goals rcases hm with rfl | rfl
    all_goals cases neg
    all_goals first
      | exact absurd ⟨rfl, rfl⟩ hn
      | decide +kernel
  unfold okLarge at h
  split at h
  · rename_i c b m e er heq
    simp only [Bool.and_eq_true, Bool.or_eq_true, beq_iff_eq] at h
    rw [h.1] at heq
    exact ⟨c, b, m, e, heq, h.2⟩
  · cases h
theorem nan_nat {id : Int} (h1 : 1 ≤ id) (h2 : id ≤ 14) : 0 ≤ ft id.toNat 6 ∧ ft id.toNat 6 < 18446744073709551616 := by
  obtain rfl | rfl | rfl | rfl | rfl | rfl | rfl | rfl | rfl | rfl | rfl | rfl | rfl | rfl : id = 1 ∨ id = 2 ∨ id = 3 ∨ id = 4 ∨ id = 5 ∨ id = 6 ∨ id = 7 ∨ id = 8 ∨ id = 9 ∨ id = 10 ∨ id = 11 ∨ id = 12 ∨ id = 13 ∨ id = 14 := by omega
  all_goals decide +kernel
end Go.Proofs.YtmcodbgbjjldnaaDoor.Pr
