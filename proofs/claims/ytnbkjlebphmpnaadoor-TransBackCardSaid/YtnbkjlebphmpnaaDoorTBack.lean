/- The plain law of TransBack: what is turned justly comes back. -/
import Derived.Test.YtnbkjlebphmpnaaDoorTurnB
import Derived.Test.YtnbkjlebphmpnaaDoorPrx8
set_option linter.unusedVariables false
set_option linter.unusedSimpArgs false
namespace Go.Proofs.YtnbkjlebphmpnaaDoor.Pr
open Go.RowKit Go.Proofs.YtnbkjlebphmpnaaDoorW.PrintWords Go.Proofs.YtnbkjlebphmpnaaDoorW.PrintLast Go.Proofs.YtnbkjlebphmpnaaDoorW.PrintMore

theorem TBack_pure (a0 a1 a2 : Int) (a3 a4 : Bool) (b00 : -9223372036854775808 ≤ a0) (b01 : a0 ≤ 9223372036854775807) (b10 : -9223372036854775808 ≤ a1) (b11 : a1 ≤ 9223372036854775807) (b0 : 0 ≤ a2) (b1 : a2 ≤ 18446744073709551615) : ∃ k, caliperlaw14_TransBack.f k a0 a1 a2 a3 a4 = some true := by
  obtain ⟨p, rfl⟩ := Int.eq_ofNat_of_zero_le b0
  obtain ⟨K0, hK0⟩ := shown14
  have hm : ∀ b : Bool, (if b = true then (2 : Int) else 1) = 1 ∨ (if b = true then (2 : Int) else 1) = 2 := fun b => by cases b <;> simp
  have e0 : ∀ k, K0 ≤ k + 1 → caliperlaw14_TransBack.f (k + 1) a0 a1 (p : Int) a3 a4 = caliperlaw14_TransBack.j1 k a0 a1 (p : Int) true (if a3 = true then 2 else 1) (if a4 = true then 2 else 1) := fun k hk => by
    have := hK0 (k + 1) hk
    simp only at this
    unfold caliperlaw14_TransBack.f
    rw [this, Option.bind_some]
    cases a3 <;> cases a4 <;> rfl
  generalize hx12 : (if a3 = true then (2 : Int) else 1) = x12 at e0
  generalize hx13 : (if a4 = true then (2 : Int) else 1) = x13 at e0
  have m12 : x12 = 1 ∨ x12 = 2 := hx12 ▸ hm a3
  have m13 : x13 = 1 ∨ x13 = 2 := hx13 ▸ hm a4
  obtain ⟨is, er, ⟨K1, hK1⟩, hj⟩ := just_spec a0 (p := p) (by omega) a1
  by_cases hj0 : er = 0 ∧ is = true
  · obtain ⟨h1, h2, hp, t1, t2, hc, q, b, m, e, hqn, _, hd, hd'⟩ := hj hj0.1 hj0.2
    obtain ⟨b', m', e', l, t, d1, d2, hr, hR, _⟩ := num_pat h1 h2 m13 hp hc
    rw [hd] at d1
    simp only [Option.some.injEq, Prod.mk.injEq, true_and, and_true] at d1
    obtain ⟨rfl, rfl, rfl⟩ := d1
    have hq : q < 2 ^ wid a1 ∧ clsN a1 q = clsN a0 p := by
      rcases decode_cases a1 hqn with ⟨er', he', hd2⟩ | ⟨_, _, hw, c2, b2, m2, e2, hd2, _, hc2⟩
      · rw [hd2] at hd'
        simp only [Option.some.injEq, Prod.mk.injEq] at hd'
        exact absurd hd'.2.2.2.2 he'
      · rw [hd2] at hd'
        simp only [Option.some.injEq, Prod.mk.injEq] at hd'
        exact ⟨hw, by rw [← hc2, hd'.1]⟩
    obtain ⟨hqw, hqc⟩ := hq
    obtain ⟨b2, m2, e2, l2, t2', g1, g2, gr, gR, _⟩ := num_pat t1 t2 m12 hqw (hqc ▸ hc)
    rw [hd', hqc] at g1
    simp only [Option.some.injEq, Prod.mk.injEq, true_and, and_true] at g1
    obtain ⟨rfl, rfl, rfl⟩ := g1
    rw [hqc, d2] at g2
    simp only [Option.some.injEq, Prod.mk.injEq, true_and, and_true] at g2
    obtain ⟨rfl, rfl⟩ := g2
    obtain ⟨K2, hK2⟩ := turn_num hd hc d2 t1 t2 m12 gR
    obtain ⟨K3, hK3⟩ := turn_num hd' hc d2 h1 h2 m13 hR
    refine ⟨K0 + K1 + K2 + K3 + 1 + 1 + 1, ?_⟩
    rw [e0 _ (by omega)]
    have r1 := hK1 (K0 + K1 + K2 + K3 + 1) (by omega)
    have r2 := hK2 (K0 + K1 + K2 + K3) (by omega)
    have r3 := hK3 (K0 + K1 + K2 + K3) (by omega)
    simp only at r1 r2 r3
    simp only [caliperlaw14_TransBack.j1, r1, Option.bind_some, hj0.1, hj0.2, Bool.not_true, caliperlaw14_TransBack.j2, r2, r3, if_true]
    simp
  · refine ⟨K0 + K1 + 1 + 1 + 1, ?_⟩
    rw [e0 _ (by omega)]
    have r1 := hK1 (K0 + K1 + 1) (by omega)
    simp only at r1
    simp only [caliperlaw14_TransBack.j1, r1, Option.bind_some]
    by_cases he : er = 0
    · have hi : is = false := by
        cases is with
        | false => rfl
        | true => exact absurd ⟨he, rfl⟩ hj0
      rw [if_pos he, hi]
      simp only [caliperlaw14_TransBack.j2, Bool.not_false, if_true]
    · rw [if_neg he]
      simp only [caliperlaw14_TransBack.j2, if_true]
end Go.Proofs.YtnbkjlebphmpnaaDoor.Pr
