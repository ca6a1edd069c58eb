/- The plain law of TransOnce: by the way of a form that holds it just. -/
import Derived.Test.YtnbkjlebphmpnaaDoorTurnB
import Derived.Test.YtnbkjlebphmpnaaDoorPrx9
set_option linter.unusedVariables false
set_option linter.unusedSimpArgs false
namespace Go.Proofs.YtnbkjlebphmpnaaDoor.Pr
open Go.RowKit Go.Proofs.YtnbkjlebphmpnaaDoorW.PrintWords Go.Proofs.YtnbkjlebphmpnaaDoorW.PrintLast Go.Proofs.YtnbkjlebphmpnaaDoorW.PrintMore

theorem TOnce_pure (a0 a1 a2 : Int) (a3 : Bool) (a4 : Int) (b00 : -9223372036854775808 ≤ a0) (b01 : a0 ≤ 9223372036854775807) (b10 : -9223372036854775808 ≤ a1) (b11 : a1 ≤ 9223372036854775807) (b20 : -9223372036854775808 ≤ a2) (b21 : a2 ≤ 9223372036854775807) (b0 : 0 ≤ a4) (b1 : a4 ≤ 18446744073709551615) : ∃ k, caliperlaw14_TransOnce.f k a0 a1 a2 a3 a4 = some true := by
  obtain ⟨p, rfl⟩ := Int.eq_ofNat_of_zero_le b0
  obtain ⟨K0, hK0⟩ := shown14
  have hm : (if a3 = true then (2 : Int) else 1) = 1 ∨ (if a3 = true then (2 : Int) else 1) = 2 := by cases a3 <;> simp
  have e0 : ∀ k, K0 ≤ k → caliperlaw14_TransOnce.f k a0 a1 a2 a3 (p : Int) = caliperlaw14_TransOnce.j0 k a0 a1 a2 (p : Int) true (if a3 = true then 2 else 1) := fun k hk => by
    have := hK0 k hk
    simp only at this
    unfold caliperlaw14_TransOnce.f
    rw [this, Option.bind_some]
    cases a3 <;> rfl
  generalize (if a3 = true then (2 : Int) else 1) = mode at *
  obtain ⟨is, er, ⟨K1, hK1⟩, hj⟩ := just_spec a0 (p := p) (by omega) a1
  by_cases hj0 : er = 0 ∧ is = true
  · obtain ⟨h1, h2, hp, t1, t2, hc, q, b, m, e, hqn, ⟨K2, hK2⟩, hd, hd'⟩ := hj hj0.1 hj0.2
    have key : ∃ r : Int × Int, Ev (fun k => trans_Turn.f k a1 a2 mode (q : Int)) r ∧ Ev (fun k => trans_Turn.f k a0 a2 mode (p : Int)) r := by
      by_cases ht : 1 ≤ a2 ∧ a2 ≤ 14
      · obtain ⟨b', m', e', l, t, d1, d2, hr, _, _⟩ := num_pat h1 h2 hm hp hc
        rw [hd] at d1
        simp only [Option.some.injEq, Prod.mk.injEq, true_and, and_true] at d1
        obtain ⟨rfl, rfl, rfl⟩ := d1
        obtain ⟨r, hr', _⟩ := round_Round_spec ht.1 ht.2 hm b hr
        exact ⟨_, turn_num hd' hc d2 ht.1 ht.2 hm hr', turn_num hd hc d2 ht.1 ht.2 hm hr'⟩
      · exact ⟨(0, 3), Ev.of fun k => turn_bad hd' ht mode k, Ev.of fun k => turn_bad hd ht mode k⟩
    obtain ⟨r, ⟨K3, hK3⟩, ⟨K4, hK4⟩⟩ := key
    refine ⟨K0 + K1 + K2 + K3 + K4 + 1 + 1, ?_⟩
    rw [e0 _ (by omega)]
    have r1 := hK1 (K0 + K1 + K2 + K3 + K4 + 1) (by omega)
    have r2 := hK2 (K0 + K1 + K2 + K3 + K4) (by omega)
    have r3 := hK3 (K0 + K1 + K2 + K3 + K4) (by omega)
    have r4 := hK4 (K0 + K1 + K2 + K3 + K4) (by omega)
    simp only at r1 r2 r3 r4
    simp only [caliperlaw14_TransOnce.j0, r1, Option.bind_some, hj0.1, hj0.2, Bool.not_true, caliperlaw14_TransOnce.j1, r2, r3, r4, if_true, Bool.false_eq_true, if_false, beq_self_eq_true]
  · refine ⟨K0 + K1 + 1 + 1, ?_⟩
    rw [e0 _ (by omega)]
    have r1 := hK1 (K0 + K1 + 1) (by omega)
    simp only at r1
    simp only [caliperlaw14_TransOnce.j0, r1, Option.bind_some]
    by_cases he : er = 0
    · have hi : is = false := by
        cases is with
        | false => rfl
        | true => exact absurd ⟨he, rfl⟩ hj0
      rw [if_pos he, hi]
      simp only [caliperlaw14_TransOnce.j1, Bool.not_false, if_true]
    · rw [if_neg he]
      simp only [caliperlaw14_TransOnce.j1, if_true]
end Go.Proofs.YtnbkjlebphmpnaaDoor.Pr
