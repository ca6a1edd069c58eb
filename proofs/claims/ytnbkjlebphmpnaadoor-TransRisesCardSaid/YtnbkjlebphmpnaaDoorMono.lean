/- A greater number is told no lesser key (round.Nearest). -/
import Derived.Test.YtnbkjlebphmpnaaDoorRound
set_option linter.unusedVariables false
set_option linter.unusedSimpArgs false
namespace Go.Proofs.YtnbkjlebphmpnaaDoor.Pr
open Go.RowKit Go.Proofs.YtnbkjlebphmpnaaDoorW.PrintWords Go.Proofs.YtnbkjlebphmpnaaDoorW.PrintLast Go.Proofs.YtnbkjlebphmpnaaDoorW.PrintMore

def NearOut (id : Int) (neg : Bool) (l : List Int) (X : Int) (key : Nat) (over : Bool) : Prop :=
  (over = true ∧ key = mostK id neg ∧ wt id X (mostK id neg) = false) ∨ (over = false ∧ ∃ a, Least id X (mostK id neg) a ∧ key = told (ft id.toNat 0) l a)
theorem wt_less {id X Y : Int} {k : Nat} (h : X ≤ Y) (hw : wt id Y k = true) : wt id X k = true := by
  rw [wt_true] at *
  omega
theorem mag_pos_of {l : List Int} {two five : Int} (hx : Rt l two five) (h : l ≠ []) : 0 < mag l two five := mag_pos (hx.2.1.pos hx.1 h) two five
theorem near_mono {id : Int} (h1 : 1 ≤ id) (h2 : id ≤ 14) {neg : Bool} (hn : ¬ (neg = true ∧ id = 11)) {l l' : List Int} {t f t' f' : Int} (hx : Rt l t f) (hy : Rt l' t' f') {k k' : Nat} {o o' : Bool}
    (hX : NearOut id neg l (mag l t f) k o) (hY : NearOut id neg l' (mag l' t' f') k' o') (h : mag l t f ≤ mag l' t' f') : k ≤ k' ∧ (o = true → o' = true) := by
  obtain ⟨_, m2, _⟩ := most_spec h1 h2 neg hn
  rcases hX with ⟨rfl, rfl, hX⟩ | ⟨rfl, a, hX, rfl⟩ <;> rcases hY with ⟨rfl, rfl, hY⟩ | ⟨rfl, b, hY, rfl⟩
  · exact ⟨Nat.le_refl _, fun h => h⟩
  · rw [wt_less h (wt_mono h1 h2 hY.le m2 hY.yes)] at hX
    cases hX
  · exact ⟨told_le h1 h2 hX.le, fun h => by cases h⟩
  · have hab : a ≤ b := by
      rcases Nat.lt_or_ge b a with hlt | hge
      · have := hX.no b hlt
        rw [wt_less h hY.yes] at this
        cases this
      · exact hge
    refine ⟨?_, fun h => by cases h⟩
    unfold told
    by_cases c1 : ft id.toNat 0 = 1 ∧ a = 0 ∧ l ≠ []
    · rw [if_pos c1]
      have hp := mag_pos_of hx c1.2.2
      have hl' : l' ≠ [] := by
        rintro rfl
        have : mag [] t' f' = 0 := by unfold mag; simp [val]
        omega
      by_cases c2 : b = 0
      · rw [if_pos ⟨c1.1, c2, hl'⟩]
        exact Nat.le_refl _
      · rw [if_neg (fun h => c2 h.2.1)]
        omega
    · rw [if_neg c1]
      split
      · rename_i c2
        omega
      · exact hab
end Go.Proofs.YtnbkjlebphmpnaaDoor.Pr
