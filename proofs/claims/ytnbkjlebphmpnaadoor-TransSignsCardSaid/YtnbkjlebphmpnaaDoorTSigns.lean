/- The plain law of TransSigns: the sign stays. -/
import Derived.Test.YtnbkjlebphmpnaaDoorTurnB
import Derived.Test.YtnbkjlebphmpnaaDoorPrx9
set_option linter.unusedVariables false
set_option linter.unusedSimpArgs false
namespace Go.Proofs.YtnbkjlebphmpnaaDoor.Pr
open Go.RowKit Go.Proofs.YtnbkjlebphmpnaaDoorW.PrintWords Go.Proofs.YtnbkjlebphmpnaaDoorW.PrintLast Go.Proofs.YtnbkjlebphmpnaaDoorW.PrintMore

theorem TSigns_pure (a0 a1 : Int) (a2 : Bool) (a3 : Int) (b00 : -9223372036854775808 ≤ a0) (b01 : a0 ≤ 9223372036854775807) (b10 : -9223372036854775808 ≤ a1) (b11 : a1 ≤ 9223372036854775807) (b0 : 0 ≤ a3) (b1 : a3 ≤ 18446744073709551615) : ∃ k, caliperlaw14_TransSigns.f k a0 a1 a2 a3 = some true := by
  obtain ⟨p, rfl⟩ := Int.eq_ofNat_of_zero_le b0
  obtain ⟨K0, hK0⟩ := shown14
  have hm : (if a2 = true then (2 : Int) else 1) = 1 ∨ (if a2 = true then (2 : Int) else 1) = 2 := by cases a2 <;> simp
  have e0 : ∀ k, K0 ≤ k → caliperlaw14_TransSigns.f k a0 a1 a2 (p : Int) = caliperlaw14_TransSigns.j0 k a0 a1 (p : Int) true (if a2 = true then 2 else 1) := fun k hk => by
    have := hK0 k hk
    simp only at this
    unfold caliperlaw14_TransSigns.f
    rw [this, Option.bind_some]
    cases a2 <;> rfl
  generalize (if a2 = true then (2 : Int) else 1) = mode at *
  rcases decode_cases a0 (p := p) (by omega) with ⟨er, he, hd⟩ | ⟨h1, h2, hw, c, b, m, e, hd, hv, hcl⟩
  · refine ⟨K0 + 1, ?_⟩
    rw [e0 _ (by omega)]
    simp only [caliperlaw14_TransSigns.j0, turn_err he hd, Option.bind_some]
    rw [if_neg he]
    rfl
  · by_cases ht : 1 ≤ a1 ∧ a1 ≤ 14
    · obtain ⟨t1, t2⟩ := ht
      obtain ⟨q, ⟨K1, hK1⟩, hV⟩ := turn_spec hd hv t1 t2 hm
      obtain ⟨c', b', m', e', hd', s1, s2, s3, s4⟩ := vto_sign t1 t2 hm hV
      refine ⟨K0 + K1 + 1 + 1, ?_⟩
      rw [e0 _ (by omega)]
      have r1 := hK1 (K0 + K1 + 1) (by omega)
      simp only at r1
      have e00 : ((0 : Int) != 0) = false := rfl
      simp only [caliperlaw14_TransSigns.j0, r1, hd, hd', forms_ok t1 t2, Option.bind_some, if_true, caliperlaw14_TransSigns.j1, e00, Bool.false_eq_true, if_false]
      by_cases k1 : c' = 4
      · rw [if_pos k1, s1 k1]
        rfl
      · rw [if_neg k1]
        by_cases k2 : c = 4
        · rw [if_pos k2, s2 k2]
          rfl
        · rw [if_neg k2]
          by_cases k3 : c' = 1
          · rw [if_pos k3]
            by_cases k4 : ft a1.toNat 0 = 2
            · rw [if_pos k4, s4 k1 k2 (fun h => h.2 k4), beq_self_eq_true]
            · rw [if_neg k4, s3 k3 k4]
              rfl
          · rw [if_neg k3, s4 k1 k2 (fun h => k3 h.1), beq_self_eq_true]
    · refine ⟨K0 + 1, ?_⟩
      rw [e0 _ (by omega)]
      simp only [caliperlaw14_TransSigns.j0, turn_bad hd ht, Option.bind_some]
      rfl
end Go.Proofs.YtnbkjlebphmpnaaDoor.Pr
