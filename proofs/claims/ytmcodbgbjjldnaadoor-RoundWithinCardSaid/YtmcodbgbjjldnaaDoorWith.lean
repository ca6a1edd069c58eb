/- The plain law of round.within. -/
import Derived.Test.YtmcodbgbjjldnaaDoorRise
set_option linter.unusedVariables false
set_option linter.unusedSimpArgs false
namespace Go.Proofs.YtmcodbgbjjldnaaDoor.Pr
open Go.RowKit Go.Proofs.YtmcodbgbjjldnaaDoorW.PrintWords Go.Proofs.YtmcodbgbjjldnaaDoorW.PrintLast Go.Proofs.YtmcodbgbjjldnaaDoorW.PrintMore

/-- A right number. -/
def Rt (l : List Int) (two five : Int) : Prop := Ws l ∧ Tr l ∧ l.length ≤ 128 ∧ (-5000 ≤ two ∧ two ≤ 5000) ∧ (-5000 ≤ five ∧ five ≤ 5000)
/-- A boundary's size, as mag tells it. -/
def bmag (m : Nat) (e : Int) : Int := (bval m e : Int) * 5 ^ 5000
theorem round_within_spec {id k : Int} {m : Nat} {e : Int} (hb : BetOk id k m e) {n : Bool} {l : List Int} {two five : Int} (hx : Rt l two five) :
    Ev (fun f => round_within.f f id n l two five k) (decide (sg (mag l two five) (bmag m e) < 0) || (decide (sg (mag l two five) (bmag m e) = 0) && (Go.bits .and .u64 k 1 == 0))) := by
  obtain ⟨b1, b2, b3, b4, b5⟩ := hb
  obtain ⟨x1, x2, x3, x4, x5⟩ := hx
  obtain ⟨r, r1, r2, r3, r4, r5⟩ := round_size_spec b2 b3 ⟨b4, b5⟩
  have hm : mag r e 0 = bmag m e := by
    unfold mag bmag bval
    rw [r5, Int.natCast_mul, ← cast_pow]
    rfl
  have hc := exact_Cmp_spec (n := n) (m := false) x1 x2 x3 r2 r3 (by omega) x4 x5 ⟨b4, b5⟩ (f2 := 0) (by omega)
  rw [hm] at hc
  have hbeh : round_behind.f id k = some (false, r, e, 0) := by
    unfold round_behind.f
    rw [b1, Option.bind_some, r1]
    rfl
  refine (Ev.bind (g := fun _ t => if t < 0 then some true else if t = 0 then some (Go.bits .and .u64 k 1 == 0) else some false) hc (Ev.of fun _ => ?_)).congr fun f => ?_
  · by_cases h1 : sg (mag l two five) (bmag m e) < 0
    · simp [h1]
    · by_cases h2 : sg (mag l two five) (bmag m e) = 0
      · simp [h2]
      · simp [h1, h2]
  · unfold round_within.f
    rw [hbeh]
    rfl

end Go.Proofs.YtmcodbgbjjldnaaDoor.Pr
