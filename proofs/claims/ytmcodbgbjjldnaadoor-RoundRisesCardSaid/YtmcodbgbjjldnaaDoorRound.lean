/- The plain law of round.Round. -/
import Derived.Test.YtmcodbgbjjldnaaDoorPat
import Derived.Test.YtmcodbgbjjldnaaDoorPrx14
set_option linter.unusedVariables false
set_option linter.unusedSimpArgs false
namespace Go.Proofs.YtmcodbgbjjldnaaDoor.Pr
open Go.RowKit Go.Proofs.YtmcodbgbjjldnaaDoorW.PrintWords Go.Proofs.YtmcodbgbjjldnaaDoorW.PrintLast Go.Proofs.YtmcodbgbjjldnaaDoorW.PrintMore

theorem Ev.mono {α : Type} {F : Nat → Option α} {r : α} (hm : ∀ k, LeO (F k) (F (k + 1))) {k0 : Nat} (h : F k0 = some r) : Ev F r := by
  refine ⟨k0, fun k hk => ?_⟩
  obtain ⟨d, rfl⟩ : ∃ d, k = k0 + d := ⟨k - k0, by omega⟩
  clear hk
  induction d with
  | zero => exact h
  | succ d ih => exact hm (k0 + d) r ih

theorem told_le {id : Int} (h1 : 1 ≤ id) (h2 : id ≤ 14) {neg : Bool} {kd : Int} {l : List Int} {a : Nat} (h : a ≤ mostK id neg) : told kd l a ≤ mostK id neg := by
  have := (form_facts h1 h2).2.2.2.2.2.2.2.2.2.2.1
  unfold told
  split
  · cases neg <;> omega
  · exact h

theorem Least.uniq {id X : Int} {M a b : Nat} (ha : Least id X M a) (hb : Least id X M b) : a = b := by
  rcases Nat.lt_trichotomy a b with h | h | h
  · have := hb.no a h; rw [ha.yes] at this; cases this
  · exact h
  · have := ha.no b h; rw [hb.yes] at this; cases this

end Go.Proofs.YtmcodbgbjjldnaaDoor.Pr
