/- The plain law of TransWide: a small form is just in a wide one. -/
import Derived.Test.YtnbkjlebphmpnaaDoorWide
import Derived.Test.YtnbkjlebphmpnaaDoorPrx8
set_option linter.unusedVariables false
set_option linter.unusedSimpArgs false
namespace Go.Proofs.YtnbkjlebphmpnaaDoor.Pr
open Go.RowKit Go.Proofs.YtnbkjlebphmpnaaDoorW.PrintWords Go.Proofs.YtnbkjlebphmpnaaDoorW.PrintLast Go.Proofs.YtnbkjlebphmpnaaDoorW.PrintMore

/-- A number that the other form has, too, is just in it. -/
theorem just_of {id to_ : Int} (h1 : 1 ≤ id) (h2 : id ≤ 14) (t1 : 1 ≤ to_) (t2 : to_ ≤ 14) {p : Nat} (hp : p < 2 ^ wid id) (hc : clsN id p = 2) {m : Nat} {e : Int}
    (hm : numF (ft id.toNat 0) (ft id.toNat 1) (ft id.toNat 2) (ft id.toNat 3) 0 ((partsN id p).2 : Int) = some ((m : Int), e)) {k' : Nat} (hk0 : 0 < k') (hk' : k' ≤ mostK to_ (partsN id p).1) (hn : ¬ ((partsN id p).1 = true ∧ to_ = 11))
    (hm' : numF (ft to_.toNat 0) (ft to_.toNat 1) (ft to_.toNat 2) (ft to_.toNat 3) 0 (k' : Int) = some ((m : Int), e)) : Ev (fun k => trans_Just.f k id to_ (p : Int)) (true, 0) := by
  have hd := decode_spec h1 h2 hp
  rw [hc, if_pos rfl, hm] at hd
  generalize (partsN id p).1 = b at *
  have hw := patN_lt t1 t2 hk' hn
  obtain ⟨c1, c2⟩ := cls_pat t1 t2 hk' hn
  rw [if_neg (fun h => by omega)] at c1
  have hpp := parts_pat t1 t2 hk' hn
  rw [if_neg (fun h => by omega)] at hpp
  have hd' := decode_spec t1 t2 hw
  rw [c1, if_pos rfl, hpp] at hd'
  simp only [hm', Option.bind_some] at hd hd'
  obtain ⟨b2, m2, e2, l, t, g1, g2, gr, gR, _⟩ := num_pat t1 t2 (mode := 2) (.inr rfl) hw (.inr c1)
  rw [c1, hd'] at g1
  simp only [Option.some.injEq, Prod.mk.injEq, true_and, and_true] at g1
  obtain ⟨rfl, rfl, rfl⟩ := g1
  rw [c1] at g2
  have hT := turn_num hd (.inr rfl) g2 t1 t2 (.inr rfl) gR
  refine Ev.congr (Ev.bind (g := fun k r => (if r.2 = 0 then ((value_Decode.f id (p : Int)).bind fun bt360 => ((value_Decode.f to_ r.1).bind fun bt366 => (if (bt360.1 == bt366.1 && (bt360.2.1 == bt366.2.1 && (bt360.2.2.1 == bt366.2.2.1 && (bt360.2.2.2.1 == bt366.2.2.2.1)))) = true then (if bt360.1 = 3 then (some (false, 0)) else (some ((bt360.1 != 4), 0))) else (some (false, 0))))) else (some (false, r.2)))) hT (Ev.of fun k => ?_)) fun k => rfl
  simp only [hd, hd', Option.bind_some, if_true, beq_self_eq_true, Bool.and_self]
  rfl
theorem TWide_pure (a0 a1 : Int) (b00 : -9223372036854775808 ≤ a0) (b01 : a0 ≤ 9223372036854775807) (b0 : 0 ≤ a1) (b1 : a1 ≤ 18446744073709551615) : ∃ k, caliperlaw14_TransWide.f k a0 a1 = some true := by
  obtain ⟨p, rfl⟩ := Int.eq_ofNat_of_zero_le b0
  obtain ⟨K0, hK0⟩ := shown14
  have j : ∀ k y, y = true → caliperlaw14_TransWide.j0 (k + 1) a0 (p : Int) true y = some true := by
    rintro k _ rfl
    simp only [caliperlaw14_TransWide.j0, if_true]
  have r0 := hK0 (K0 + 1) (by omega)
  simp only at r0
  rcases decode_cases a0 (p := p) (by omega) with ⟨er, he, hd⟩ | ⟨h1, h2, hw, c, b, m, e, hd, hv, hcl⟩
  · refine ⟨K0 + 1, ?_⟩
    simp only [caliperlaw14_TransWide.f, r0, hd, Option.bind_some]
    rw [if_neg he]
    exact j _ _ rfl
  · by_cases hc : c = 2
    · by_cases h4 : a0 = 4
      · refine ⟨K0 + 1, ?_⟩
        simp only [caliperlaw14_TransWide.f, r0, hd, Option.bind_some, if_true]
        rw [if_pos hc]
        exact j _ _ (by rw [h4]; rfl)
      · have hc2 : clsN a0 p = 2 := by omega
        obtain ⟨c1, c2, c3, c4⟩ := cls_num h1 h2 hw (.inr hc2)
        obtain ⟨_, m2, _⟩ := most_spec h1 h2 _ c2
        have hk0 : 0 < (partsN a0 p).2 ∨ a0 = 11 := by
          by_cases hk : (partsN a0 p).2 = 0
          · exact .inr (Classical.byContradiction fun h => by have := c4.2 ⟨hk, h⟩; omega)
          · exact .inl (by omega)
        have most14 : ∀ b, mostK 14 b = 9218868437227405311 := fun b => by cases b <;> rfl
        have j64 : Ev (fun k => trans_Just.f k a0 14 (p : Int)) (true, 0) := by
          by_cases h14 : a0 = 14
          · subst h14
            obtain ⟨m', e', a, _⟩ := at_bnd h1 h2 (k := (partsN 14 p).2) (by omega) hk0
            exact just_of h1 h2 (by decide) (by decide) hw hc2 a.1 (hk0.resolve_right (by decide)) c1 c2 a.1
          · obtain ⟨m', e', s1, s2, s3, s4, s5⟩ := small_all h1 (by omega) h4 (k := (partsN a0 p).2) (by omega) hk0
            obtain ⟨k', k1, k2, k3⟩ := key64 s2 s3 s4 s5
            exact just_of h1 h2 (by decide) (by decide) hw hc2 s1 k1 (by rw [most14]; exact k2) (fun h => absurd h.2 (by decide)) k3
        obtain ⟨K1, hK1⟩ := j64
        by_cases hlt : a0 < 4
        · have jn : Ev (fun k => trans_Just.f k a0 (a0 + 1) (p : Int)) (true, 0) := by
            obtain ⟨m', e', s1, s2, s3, s4, s5⟩ := small_all h1 (by omega) h4 (k := (partsN a0 p).2) (by omega) hk0
            have hk1 := hk0.resolve_right (by omega)
            obtain rfl | rfl | rfl : a0 = 1 ∨ a0 = 2 ∨ a0 = 3 := by omega
            · have hb : (partsN 1 p).2 < 2 ^ 7 := Nat.lt_of_le_of_lt (Nat.le_trans c1 m2) (by decide)
              obtain ⟨w1, w2⟩ := posit_wide (n := 7) (n' := 15) (d := 8) (by decide) (by decide) (by decide) hk1 hb s1
              have hmost : ∀ b, mostK 2 b = 32767 := fun b => by cases b <;> rfl
              exact just_of h1 h2 (by decide) (by decide) hw hc2 s1 (Nat.mul_pos hk1 (by decide)) (by rw [show ((1 : Int) + 1) = 2 from rfl, hmost]; omega) (fun h => absurd h.2 (by decide)) w2
            · have hb : (partsN 2 p).2 < 2 ^ 15 := Nat.lt_of_le_of_lt (Nat.le_trans c1 m2) (by decide)
              obtain ⟨w1, w2⟩ := posit_wide (n := 15) (n' := 31) (d := 16) (by decide) (by decide) (by decide) hk1 hb s1
              have hmost : ∀ b, mostK 3 b = 2147483647 := fun b => by cases b <;> rfl
              exact just_of h1 h2 (by decide) (by decide) hw hc2 s1 (Nat.mul_pos hk1 (by decide)) (by rw [show ((2 : Int) + 1) = 3 from rfl, hmost]; omega) (fun h => absurd h.2 (by decide)) w2
            · have hb : (partsN 3 p).2 < 2 ^ 31 := Nat.lt_of_le_of_lt (Nat.le_trans c1 m2) (by decide)
              obtain ⟨w1, w2⟩ := posit_wide (n := 31) (n' := 63) (d := 32) (by decide) (by decide) (by decide) hk1 hb s1
              have hmost : ∀ b, mostK 4 b = 9223372036854775807 := fun b => by cases b <;> rfl
              exact just_of h1 h2 (by decide) (by decide) hw hc2 s1 (Nat.mul_pos hk1 (by decide)) (by rw [show ((3 : Int) + 1) = 4 from rfl, hmost]; omega) (fun h => absurd h.2 (by decide)) w2
          obtain ⟨K2, hK2⟩ := jn
          refine ⟨K0 + K1 + K2 + 1, ?_⟩
          have r0 := hK0 (K0 + K1 + K2 + 1) (by omega)
          have r1 := hK1 (K0 + K1 + K2) (by omega)
          have r2 := hK2 (K0 + K1 + K2) (by omega)
          have ew := Aside0.mk (show wrap64 (a0 + 1) = a0 + 1 from w64 (by omega) (by omega))
          simp only at r0 r1 r2
          have e4 : (a0 == 4) = false := beq_eq_false_iff_ne.2 h4
          simp only [caliperlaw14_TransWide.f, r0, hd, Option.bind_some, if_true]
          rw [if_pos hc, e4]
          simp only [caliperlaw14_TransWide.j0, ew.out, r1, r2, Option.bind_some, if_true, Bool.false_eq_true, if_false]
          rw [if_pos hlt]
          rfl
        · refine ⟨K0 + K1 + 1, ?_⟩
          have r0 := hK0 (K0 + K1 + 1) (by omega)
          have r1 := hK1 (K0 + K1) (by omega)
          simp only at r0 r1
          have e4 : (a0 == 4) = false := beq_eq_false_iff_ne.2 h4
          simp only [caliperlaw14_TransWide.f, r0, hd, Option.bind_some, if_true]
          rw [if_pos hc, e4]
          simp only [caliperlaw14_TransWide.j0, r1, Option.bind_some, if_true, Bool.false_eq_true, if_false]
          rw [if_neg hlt]
          rfl
    · refine ⟨K0 + 1, ?_⟩
      simp only [caliperlaw14_TransWide.f, r0, hd, Option.bind_some, if_true]
      rw [if_neg hc]
      exact j _ _ rfl
end Go.Proofs.YtnbkjlebphmpnaaDoor.Pr
